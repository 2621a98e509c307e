/- The statement over numbers and lists that is left of the law FnExactMulGf: the program's function and the reference's tell the same for all arguments. Conditions: none beyond the kinds' own bounds. -/
import Derived.Test.YtmkoigkgmjbaiaaPFnExactMulGfx1
set_option linter.unusedVariables false
set_option linter.unusedSimpArgs false
namespace Go.Proofs.Ytmkoigkgmjbaiaa.Pure
open Go.RowKit Go.Proofs.Ytmkoigkgmjbaiaa.PFnExactMulGf Go.Proofs.YtmkoigkgmjbaiaaW.PrintWords Go.Proofs.YtmkoigkgmjbaiaaW.PrintLast

theorem mul_same : ∀ (k : Nat) (x0 x1 x5 : Int), 0 ≤ x1 → spec_l3Mul.l0 k x0 x1 x5 = impl_mulGf.l0 k x0 x1 x5
  | 0, _, _, _, _ => rfl
  | k + 1, x0, x1, x5, h => by
    simp only [spec_l3Mul.l0, impl_mulGf.l0]
    have h2 : 0 ≤ x1 / 2 := by omega
    by_cases e : x1 = 0
    · rw [if_pos e, if_neg (by omega)]
    · rw [if_neg e, if_pos (by omega)]
      simp only [mul_same k _ _ _ h2]

theorem mul_total (d : Nat) : ∀ (k : Nat) (x0 x1 x5 : Int), 0 ≤ x1 → x1 < 2 ^ d → d < k → ∃ r, impl_mulGf.l0 k x0 x1 x5 = some r := by
  induction d with
  | zero =>
    intro k x0 x1 x5 h0 h1 hk
    obtain ⟨k, rfl⟩ : ∃ m, k = m + 1 := ⟨k - 1, by omega⟩
    refine ⟨x5, ?_⟩
    simp only [impl_mulGf.l0]
    rw [if_pos (by simp at h1; omega)]
  | succ d ih =>
    intro k x0 x1 x5 h0 h1 hk
    obtain ⟨k, rfl⟩ : ∃ m, k = m + 1 := ⟨k - 1, by omega⟩
    have h2 : x1 / 2 < 2 ^ d := by rw [Int.pow_succ] at h1; omega
    simp only [impl_mulGf.l0]
    by_cases e : x1 = 0
    · rw [if_pos e]; exact ⟨_, rfl⟩
    · rw [if_neg e]
      repeat' split
      all_goals exact ih k _ _ _ (by omega) h2 (by omega)

theorem FnExactMulGf : laws_FnExactMulGf.Pure := by
  intro a b _ _
  refine ⟨9, ?_⟩
  unfold laws_FnExactMulGf.f spec_MulGf.f impl_MulGf.f spec_l3Mul.f impl_mulGf.f
  obtain ⟨r, hr⟩ := mul_total 8 9 (a % 256) (b % 256) 0 (by omega) (by omega) (by omega)
  rw [mul_same 9 (a % 256) (b % 256) 0 (by omega), hr]
  simp

end Go.Proofs.Ytmkoigkgmjbaiaa.Pure
