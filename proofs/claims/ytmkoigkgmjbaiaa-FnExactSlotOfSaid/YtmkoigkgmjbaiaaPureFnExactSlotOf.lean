/- The statement over numbers and lists that is left of the law FnExactSlotOf: the program's function and the reference's tell the same for all arguments. Conditions: none beyond the kinds' own bounds. -/
import Derived.Test.YtmkoigkgmjbaiaaPFnExactSlotOfx1
set_option linter.unusedVariables false
set_option linter.unusedSimpArgs false
namespace Go.Proofs.Ytmkoigkgmjbaiaa.Pure
open Go.RowKit Go.Proofs.Ytmkoigkgmjbaiaa.PFnExactSlotOf Go.Proofs.YtmkoigkgmjbaiaaW.PrintWords Go.Proofs.YtmkoigkgmjbaiaaW.PrintLast

theorem FnExactSlotOf : laws_FnExactSlotOf.Pure := by
  intro s hs
  have hb := bt_range s 0
  have hw : wrap64 (bt s 0) = bt s 0 := by unfold wrap64; omega
  have hd : Int.tdiv (bt s 0) 32 = bt s 0 / 32 := Int.tdiv_eq_ediv_of_nonneg hb.1
  have hw2 : wrap64 (bt s 0 / 32) = bt s 0 / 32 := by unfold wrap64; omega
  unfold laws_FnExactSlotOf.f spec_SlotOf.f impl_SlotOf.f
  rw [hw, hd, hw2]
  by_cases h1 : (s.size : Int) > 1048576
  · rw [if_pos h1]
  · rw [if_neg h1]
    by_cases h2 : s.toList = ([] : List UInt8)
    · rw [if_pos h2, if_pos h2]; rfl
    · rw [if_neg h2, if_neg h2]
      have h3 : 0 < (s.size : Int) := by
        rcases Nat.eq_zero_or_pos s.size with h | h
        · exact absurd (by rw [ByteArray.toList_eq]; exact List.eq_nil_of_length_eq_zero (by simpa using h)) h2
        · omega
      rw [if_pos h3, if_pos h3]
      by_cases h4 : bt s 0 ≥ 224
      · rw [if_pos h4, if_pos (by omega)]; rfl
      · rw [if_neg h4, if_neg (by omega)]; simp

end Go.Proofs.Ytmkoigkgmjbaiaa.Pure
