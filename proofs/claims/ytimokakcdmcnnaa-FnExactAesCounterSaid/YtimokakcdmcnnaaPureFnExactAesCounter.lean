/- The statement over numbers and lists that is left of the law FnExactAesCounter: the program's function and the reference's tell the same for all arguments. Conditions: none beyond the kinds' own bounds. -/
import Derived.Test.YtimokakcdmcnnaaPFnExactAesCounterx1
set_option linter.unusedVariables false
set_option linter.unusedSimpArgs false
namespace Go.Proofs.Ytimokakcdmcnnaa.Pure
open Go.RowKit Go.Proofs.Ytimokakcdmcnnaa.PFnExactAesCounter Go.Proofs.YtimokakcdmcnnaaV.PrintWords Go.Proofs.YtimokakcdmcnnaaV.PrintLast

theorem FnExactAesCounter : laws_FnExactAesCounter.Pure := by
  intro a b c _ _ _
  have e : impl_AesCounter.f a b c = spec_AesCounter.f a b c := rfl
  obtain ⟨r, hr⟩ : ∃ r, spec_AesCounter.f a b c = some r := ⟨_, rfl⟩
  unfold laws_FnExactAesCounter.f
  rw [e, hr, Option.bind_some, Option.bind_some, if_pos rfl]
  have e : (r.2 != r.2) = false := by simp
  rw [e]
  split
  · rfl
  · split
    · rfl
    · split <;> rfl

end Go.Proofs.Ytimokakcdmcnnaa.Pure
