/- The statement over numbers and lists that is left of the law FnExactScoreOf: the program's function and the reference's tell the same for all arguments. Conditions: none beyond the kinds' own bounds. -/
import Derived.Test.YtnghcnkffbjddaaDoorPFnExactScoreOfx1
set_option linter.unusedVariables false
set_option linter.unusedSimpArgs false
namespace Go.Proofs.YtnghcnkffbjddaaDoor.Pure
open Go.RowKit Go.Proofs.YtnghcnkffbjddaaDoor.PFnExactScoreOf Go.Proofs.YtnghcnkffbjddaaDoorV.PrintWords Go.Proofs.YtnghcnkffbjddaaDoorV.PrintLast

theorem FnExactScoreOf : laws_FnExactScoreOf.Pure := by
  intro a b _ _
  unfold laws_FnExactScoreOf.f
  by_cases h0 : (a.size : Int) > 1048576
  · rw [if_pos h0]
  rw [if_neg h0]
  by_cases h1 : (b.size : Int) > 1048576
  · rw [if_pos h1]
  rw [if_neg h1]
  obtain ⟨⟨r1, r2⟩, hr⟩ := Go.Proofs.YtnghcnkffbjddaaDoorV.Aes.scoreA_some a b (by omega)
  unfold spec_ScoreOf.f impl_ScoreOf.f
  rw [hr]
  simp only [Option.bind_some]
  rw [if_pos trivial, bne_self_eq_false, if_neg (show ¬ (false = true) by decide)]

end Go.Proofs.YtnghcnkffbjddaaDoor.Pure
