/- The statement over numbers and lists that is left of the law FnExactHmacSha: the program's function and the reference's tell the same for all arguments. Conditions: none beyond the kinds' own bounds. -/
import Derived.Test.YtnkakkfjfjeaeaaPFnExactHmacShax1
set_option linter.unusedVariables false
set_option linter.unusedSimpArgs false
namespace Go.Proofs.Ytnkakkfjfjeaeaa.Pure
open Go.RowKit Go.Proofs.Ytnkakkfjfjeaeaa.PFnExactHmacSha Go.Proofs.YtnkakkfjfjeaeaaV.PrintWords Go.Proofs.YtnkakkfjfjeaeaaV.PrintLast

theorem FnExactHmacSha : laws_FnExactHmacSha.Pure := by
  intro a b _ _
  have e : impl_HmacSha.f a b = spec_HmacSha.f a b := rfl
  obtain ⟨r, hr⟩ : ∃ r, spec_HmacSha.f a b = some r := ⟨_, rfl⟩
  unfold laws_FnExactHmacSha.f
  rw [e, hr]
  simp only [Option.bind_some]
  have e : (r.2 != r.2) = false := by simp
  simp only [if_true, e, Bool.false_eq_true, if_false, ite_self]

end Go.Proofs.Ytnkakkfjfjeaeaa.Pure
