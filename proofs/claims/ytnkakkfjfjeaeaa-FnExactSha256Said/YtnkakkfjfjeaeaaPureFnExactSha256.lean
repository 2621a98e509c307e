/- The statement over numbers and lists that is left of the law FnExactSha256: the program's function and the reference's tell the same for all arguments. Conditions: none beyond the kinds' own bounds. -/
import Derived.Test.YtnkakkfjfjeaeaaPFnExactSha256x1
set_option linter.unusedVariables false
set_option linter.unusedSimpArgs false
namespace Go.Proofs.Ytnkakkfjfjeaeaa.Pure
open Go.RowKit Go.Proofs.Ytnkakkfjfjeaeaa.PFnExactSha256 Go.Proofs.YtnkakkfjfjeaeaaV.PrintWords Go.Proofs.YtnkakkfjfjeaeaaV.PrintLast

theorem FnExactSha256 : laws_FnExactSha256.Pure := by
  intro a _
  have e : impl_Sha256.f a = spec_Sha256.f a := rfl
  obtain ⟨r, hr⟩ : ∃ r, spec_Sha256.f a = some r := ⟨_, rfl⟩
  unfold laws_FnExactSha256.f
  rw [e, hr]
  simp only [Option.bind_some]
  have e : (r.2 != r.2) = false := by simp
  simp only [if_true, e, Bool.false_eq_true, if_false, ite_self]

end Go.Proofs.Ytnkakkfjfjeaeaa.Pure
