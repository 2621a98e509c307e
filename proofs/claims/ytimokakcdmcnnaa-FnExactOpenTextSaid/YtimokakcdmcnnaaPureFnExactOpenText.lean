/- The statement over numbers and lists that is left of the law FnExactOpenText: the program's function and the reference's tell the same for all arguments. Conditions: none beyond the kinds' own bounds. -/
import Derived.Test.YtimokakcdmcnnaaPFnExactOpenTextx1
set_option linter.unusedVariables false
set_option linter.unusedSimpArgs false
namespace Go.Proofs.Ytimokakcdmcnnaa.Pure
open Go.RowKit Go.Proofs.Ytimokakcdmcnnaa.PFnExactOpenText Go.Proofs.YtimokakcdmcnnaaV.PrintWords Go.Proofs.YtimokakcdmcnnaaV.PrintLast

theorem FnExactOpenText : laws_FnExactOpenText.Pure := by
  intro a b c d _ _ _ hd
  have e : impl_OpenText.f a b c d = spec_OpenText.f a b c d := rfl
  obtain ⟨r, hr⟩ : ∃ r, spec_OpenText.f a b c d = some r := ⟨_, if_pos (by omega)⟩
  unfold laws_FnExactOpenText.f
  rw [e, hr, Option.bind_some, Option.bind_some, if_pos rfl]
  have e : (r.2 != r.2) = false := by simp
  rw [e]
  split
  · rfl
  · split
    · rfl
    · split
      · rfl
      · split <;> rfl

end Go.Proofs.Ytimokakcdmcnnaa.Pure
