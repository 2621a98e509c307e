/- The statement over numbers and lists that is left of the law FnExactNextSecret: the program's function and the reference's tell the same for all arguments. Conditions: none beyond the kinds' own bounds. -/
import Derived.Test.YtnkakkfjfjeaeaaPFnExactNextSecretx1
set_option linter.unusedVariables false
set_option linter.unusedSimpArgs false
namespace Go.Proofs.Ytnkakkfjfjeaeaa.Pure
open Go.RowKit Go.Proofs.Ytnkakkfjfjeaeaa.PFnExactNextSecret Go.Proofs.YtnkakkfjfjeaeaaV.PrintWords Go.Proofs.YtnkakkfjfjeaeaaV.PrintLast

theorem FnExactNextSecret : laws_FnExactNextSecret.Pure := by
  intro a _
  have e : impl_NextSecret.f a = spec_NextSecret.f a := rfl
  obtain ⟨r, hr⟩ : ∃ r, spec_NextSecret.f a = some r := ⟨_, rfl⟩
  unfold laws_FnExactNextSecret.f
  rw [e, hr]
  simp only [Option.bind_some]
  have e : (r.2 != r.2) = false := by simp
  simp only [if_true, e, Bool.false_eq_true, if_false, ite_self]

end Go.Proofs.Ytnkakkfjfjeaeaa.Pure
