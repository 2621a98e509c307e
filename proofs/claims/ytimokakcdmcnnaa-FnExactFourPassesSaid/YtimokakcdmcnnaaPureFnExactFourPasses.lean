/- The statement over numbers and lists that is left of the law FnExactFourPasses: the program's function and the reference's tell the same for all arguments. Conditions: none beyond the kinds' own bounds. -/
import Derived.Test.YtimokakcdmcnnaaPFnExactFourPassesx1
set_option linter.unusedVariables false
set_option linter.unusedSimpArgs false
namespace Go.Proofs.Ytimokakcdmcnnaa.Pure
open Go.RowKit Go.Proofs.Ytimokakcdmcnnaa.PFnExactFourPasses Go.Proofs.YtimokakcdmcnnaaV.PrintWords Go.Proofs.YtimokakcdmcnnaaV.PrintLast

theorem FnExactFourPasses : laws_FnExactFourPasses.Pure := by
  intro a b _ _
  have e : impl_FourPasses.f a b = spec_FourPasses.f a b := rfl
  obtain ⟨r, hr⟩ : ∃ r, spec_FourPasses.f a b = some r := ⟨_, rfl⟩
  unfold laws_FnExactFourPasses.f
  rw [e, hr, Option.bind_some, Option.bind_some, if_pos rfl]
  have e : (r.2 != r.2) = false := by simp
  rw [e]
  split
  · rfl
  · split <;> rfl

end Go.Proofs.Ytimokakcdmcnnaa.Pure
