/- The statement over numbers and lists that is left of the law FnExactDecodeId: the program's function and the reference's tell the same for all arguments. Conditions: none beyond the kinds' own bounds. -/
import Derived.Test.YtimokakcdmcnnaaPFnExactDecodeIdx1
set_option linter.unusedVariables false
set_option linter.unusedSimpArgs false
namespace Go.Proofs.Ytimokakcdmcnnaa.Pure
open Go.RowKit Go.Proofs.Ytimokakcdmcnnaa.PFnExactDecodeId Go.Proofs.YtimokakcdmcnnaaV.PrintWords Go.Proofs.YtimokakcdmcnnaaV.PrintLast

theorem FnExactDecodeId : laws_FnExactDecodeId.Pure := by
  intro a b c k t id _ _ _ hk _
  have e : impl_DecodeId.f a b c k t id = spec_DecodeId.f a b c k t id := rfl
  obtain ⟨r, hr⟩ : ∃ r, spec_DecodeId.f a b c k t id = some r := ⟨_, rfl⟩
  obtain ⟨z, hz⟩ : ∃ z, laws_szIdConfig.f a b c k t 1048576 = some z := by
    unfold laws_szIdConfig.f
    split
    · exact ⟨_, rfl⟩
    · exact ⟨_, rfl⟩
  unfold laws_FnExactDecodeId.f laws_toIdConfig.f
  rw [hz]
  simp only [Option.bind_some]
  rw [e, hr]
  simp only [Option.bind_some]
  have e : (r.2.2 != r.2.2) = false := by simp
  simp only [if_true, e, Bool.false_eq_true, if_false, ite_self]

end Go.Proofs.Ytimokakcdmcnnaa.Pure
