/- The statement over numbers and lists that is left of the law FnExactHkdfExtract: the program's function and the reference's tell the same for all arguments. Conditions: none beyond the kinds' own bounds. -/
import Derived.Test.YtnkakkfjfjeaeaaPFnExactHkdfExtractx1
set_option linter.unusedVariables false
set_option linter.unusedSimpArgs false
namespace Go.Proofs.Ytnkakkfjfjeaeaa.Pure
open Go.RowKit Go.Proofs.Ytnkakkfjfjeaeaa.PFnExactHkdfExtract Go.Proofs.YtnkakkfjfjeaeaaV.PrintWords Go.Proofs.YtnkakkfjfjeaeaaV.PrintLast

theorem FnExactHkdfExtract : laws_FnExactHkdfExtract.Pure := by
  intro a b _ _
  have e : impl_HkdfExtract.f a b = spec_HkdfExtract.f a b := rfl
  obtain ⟨r, hr⟩ : ∃ r, spec_HkdfExtract.f a b = some r := ⟨_, rfl⟩
  unfold laws_FnExactHkdfExtract.f
  rw [e, hr]
  simp only [Option.bind_some]
  have e : (r.2 != r.2) = false := by simp
  simp only [if_true, e, Bool.false_eq_true, if_false, ite_self]

end Go.Proofs.Ytnkakkfjfjeaeaa.Pure
