/- The statement over numbers and lists that is left of the law FnExactSealText: the program's function and the reference's tell the same for all arguments. Conditions: none beyond the kinds' own bounds. -/
import Derived.Test.YtimokakcdmcnnaaPFnExactSealTextx1
set_option linter.unusedVariables false
set_option linter.unusedSimpArgs false
namespace Go.Proofs.Ytimokakcdmcnnaa.Pure
open Go.RowKit Go.Proofs.Ytimokakcdmcnnaa.PFnExactSealText Go.Proofs.YtimokakcdmcnnaaV.PrintWords Go.Proofs.YtimokakcdmcnnaaV.PrintLast

theorem FnExactSealText : laws_FnExactSealText.Pure := by
  intro a b c d _ _ _ _
  have e : impl_SealText.f a b c d = spec_SealText.f a b c d := rfl
  obtain ⟨r, hr⟩ : ∃ r, spec_SealText.f a b c d = some r := ⟨_, rfl⟩
  unfold laws_FnExactSealText.f
  rw [e, hr, Option.bind_some, Option.bind_some, if_pos rfl]
  have e : (r.2 != r.2) = false := by simp
  rw [e]
  split
  · rfl
  · split
    · rfl
    · split
      · rfl
      · split <;> rfl

end Go.Proofs.Ytimokakcdmcnnaa.Pure
