/- The statement over numbers and lists that is left of the law FnExactFourBack: the program's function and the reference's tell the same for all arguments. Conditions: none beyond the kinds' own bounds. -/
import Derived.Test.YtimokakcdmcnnaaPFnExactFourBackx1
set_option linter.unusedVariables false
set_option linter.unusedSimpArgs false
namespace Go.Proofs.Ytimokakcdmcnnaa.Pure
open Go.RowKit Go.Proofs.Ytimokakcdmcnnaa.PFnExactFourBack Go.Proofs.YtimokakcdmcnnaaV.PrintWords Go.Proofs.YtimokakcdmcnnaaV.PrintLast

theorem FnExactFourBack : laws_FnExactFourBack.Pure := by
  intro a b _ _
  have e : impl_FourBack.f a b = spec_FourBack.f a b := rfl
  obtain ⟨r, hr⟩ : ∃ r, spec_FourBack.f a b = some r := ⟨_, rfl⟩
  unfold laws_FnExactFourBack.f
  rw [e, hr, Option.bind_some, Option.bind_some, if_pos rfl]
  have e : (r.2 != r.2) = false := by simp
  rw [e]
  split
  · rfl
  · split <;> rfl

end Go.Proofs.Ytimokakcdmcnnaa.Pure
