/- The statement over numbers and lists that is left of the law FnExactRoundKeys: the program's function and the reference's tell the same for all arguments. Conditions: none beyond the kinds' own bounds. -/
import Derived.Test.YtimokakcdmcnnaaPFnExactRoundKeysx1
set_option linter.unusedVariables false
set_option linter.unusedSimpArgs false
namespace Go.Proofs.Ytimokakcdmcnnaa.Pure
open Go.RowKit Go.Proofs.Ytimokakcdmcnnaa.PFnExactRoundKeys Go.Proofs.YtimokakcdmcnnaaV.PrintWords Go.Proofs.YtimokakcdmcnnaaV.PrintLast

theorem FnExactRoundKeys : laws_FnExactRoundKeys.Pure := by
  intro a _
  have e : impl_RoundKeys.f a = spec_RoundKeys.f a := rfl
  obtain ⟨r, hr⟩ : ∃ r, spec_RoundKeys.f a = some r := ⟨_, rfl⟩
  unfold laws_FnExactRoundKeys.f
  rw [e, hr, Option.bind_some, Option.bind_some, if_pos rfl]
  have e : (r.2 != r.2) = false := by simp
  rw [e]
  split <;> rfl

end Go.Proofs.Ytimokakcdmcnnaa.Pure
