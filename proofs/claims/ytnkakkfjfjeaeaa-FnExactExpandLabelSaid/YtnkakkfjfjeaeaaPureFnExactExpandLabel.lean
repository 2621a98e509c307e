/- The statement over numbers and lists that is left of the law FnExactExpandLabel: the program's function and the reference's tell the same for all arguments. Conditions: none beyond the kinds' own bounds. -/
import Derived.Test.YtnkakkfjfjeaeaaPFnExactExpandLabelx1
set_option linter.unusedVariables false
set_option linter.unusedSimpArgs false
namespace Go.Proofs.Ytnkakkfjfjeaeaa.Pure
open Go.RowKit Go.Proofs.Ytnkakkfjfjeaeaa.PFnExactExpandLabel Go.Proofs.YtnkakkfjfjeaeaaV.PrintWords Go.Proofs.YtnkakkfjfjeaeaaV.PrintLast

theorem FnExactExpandLabel : laws_FnExactExpandLabel.Pure := by
  intro a b c _ _ _
  have e : impl_ExpandLabel.f a b c = spec_ExpandLabel.f a b c := rfl
  obtain ⟨r, hr⟩ : ∃ r, spec_ExpandLabel.f a b c = some r := ⟨_, rfl⟩
  unfold laws_FnExactExpandLabel.f
  rw [e, hr]
  simp only [Option.bind_some]
  have e : (r.2 != r.2) = false := by simp
  simp only [if_true, e, Bool.false_eq_true, if_false, ite_self]

end Go.Proofs.Ytnkakkfjfjeaeaa.Pure
