/- The statement over numbers and lists that is left of the law FnExactNumberOf: the program's function and the reference's tell the same for all arguments. Conditions: none beyond the kinds' own bounds. -/
import Derived.Test.YtmkoigkgmjbaiaaPFnExactNumberOfx1
set_option linter.unusedVariables false
set_option linter.unusedSimpArgs false
namespace Go.Proofs.Ytmkoigkgmjbaiaa.Pure
open Go.RowKit Go.Proofs.Ytmkoigkgmjbaiaa.PFnExactNumberOf Go.Proofs.YtmkoigkgmjbaiaaW.PrintWords Go.Proofs.YtmkoigkgmjbaiaaW.PrintLast

theorem andNot_mask (x : Int) (j : Nat) (h0 : 0 ≤ x) (h1 : x < 2 ^ 63) : Go.bits .andNot .i64 x (2 ^ j - 1) = x - x % 2 ^ j := by
  obtain ⟨a, rfl⟩ := Int.eq_ofNat_of_zero_le h0
  have ha : a < 2 ^ 63 := by omega
  have hp : 0 < 2 ^ j := Nat.two_pow_pos j
  have hc : ((2 : Int) ^ j - 1) = ((2 ^ j - 1 : Nat) : Int) := by rw [Int.natCast_sub hp]; simp
  have key : (BitVec.ofNat 64 a &&& ~~~ (BitVec.ofNat 64 (2 ^ j - 1))).toNat = a - a % 2 ^ j := by
    have e : a - a % 2 ^ j = (a >>> j) <<< j := by
      rw [Nat.shiftRight_eq_div_pow, Nat.shiftLeft_eq]
      have := Nat.div_add_mod a (2 ^ j)
      rw [Nat.mul_comm]; omega
    rw [e]
    apply Nat.eq_of_testBit_eq
    intro i
    rw [BitVec.testBit_toNat]
    simp only [BitVec.getLsbD_and, BitVec.getLsbD_not, BitVec.getLsbD_ofNat, Nat.testBit_two_pow_sub_one, Nat.testBit_shiftLeft, Nat.testBit_shiftRight]
    by_cases hi : i < 64
    · by_cases hji : j ≤ i
      · simp [hi, hji, show ¬ i < j by omega, show j + (i - j) = i by omega]
      · simp [hi, hji, show i < j by omega]
    · have : a.testBit i = false := Nat.testBit_lt_two_pow (Nat.lt_of_lt_of_le ha (Nat.pow_le_pow_right (by decide) (by omega)))
      by_cases hji : j ≤ i
      · simp [hi, hji, show j + (i - j) = i by omega, this]
      · simp [hi, hji]
  show IntKind.wrap .i64 _ = _
  rw [hc]
  simp only [BitVec.ofInt_natCast]
  show IntKind.wrap .i64 (((BitVec.ofNat 64 a &&& ~~~ (BitVec.ofNat 64 (2 ^ j - 1))).toNat : Nat) : Int) = _
  rw [key, IntKind.wrap_i64]
  have hm : a % 2 ^ j ≤ a := Nat.mod_le _ _
  have e3 : ((a % 2 ^ j : Nat) : Int) = (a : Int) % 2 ^ j := by simp
  rw [← e3]
  omega
theorem wraps_i64' (n : Int) (h₀ : 0 ≤ n) (h₁ : n < 2 ^ 62) : IntKind.i64.wrap n = n := by rw [IntKind.wrap_i64]; omega

theorem join (x W low : Int) (j : Nat) (hj : j ≤ 62) (hW : W = 2 ^ j) (h0 : 0 ≤ x) (h1 : x < 2 ^ 62) (l0 : 0 ≤ low) (l1 : low < W) :
    Go.bits .or .i64 (Go.bits .andNot .i64 x (W - 1)) low = x - x % W + low := by
  subst hW
  have hp : (0 : Int) < 2 ^ j := Int.pow_pos (by decide)
  have m0 := Int.emod_nonneg x (Int.ne_of_gt hp)
  have m1 := Int.emod_lt_of_pos x hp
  rw [andNot_mask x j h0 (by omega)]
  have hle : x % 2 ^ j ≤ x := by
    have := Int.mul_ediv_add_emod x (2 ^ j)
    have : 0 ≤ 2 ^ j * (x / 2 ^ j) := Int.mul_nonneg (Int.le_of_lt hp) (Int.ediv_nonneg h0 (Int.le_of_lt hp))
    omega
  have hd : (x - x % 2 ^ j) % 2 ^ j = 0 := by rw [Int.sub_emod, Int.emod_emod, Int.sub_self, Int.zero_emod]
  have hpow : (2 : Int) ^ j ≤ 2 ^ 62 := by
    have : (2 : Nat) ^ j ≤ 2 ^ 62 := Nat.pow_le_pow_right (by decide) hj
    exact_mod_cast this
  exact bits_join .i64 62 (by decide) wraps_i64' j _ low (by omega) hd (by omega) l0 (by omega) (by omega)

/-- One size: what both do. -/
theorem size_case (a0 a1 W : Int) (j : Nat) (hj : j ≤ 32) (hW : W = 2 ^ j) (h0 : -1 ≤ a0) (h1 : a0 ≤ 4611686018427387902) (l0 : 0 ≤ a1) (l1 : a1 ≤ W - 1) (hW1 : 256 ≤ W) (hW2 : W ≤ 4294967296)
    (n : Int) (hn : n = a0 + 1 - (a0 + 1) % W + a1) :
    0 ≤ n ∧ n ≤ a0 + 1 + W ∧
    wrap64 (wrap64 (wrap64 (a0 + 1) - Int.tmod (wrap64 (a0 + 1)) W) + a1) = n ∧ Go.bits .or .i64 (Go.bits .andNot .i64 (wrap64 (a0 + 1)) (wrap64 (W - 1))) a1 = n ∧ wrap64 (a0 + 1) = a0 + 1 ∧ wrap64 (W - 1) = W - 1 := by
  have m0 := Int.emod_nonneg (a0 + 1) (show W ≠ 0 by omega)
  have m1 := Int.emod_lt_of_pos (a0 + 1) (show 0 < W by omega)
  have hle : (a0 + 1) % W ≤ a0 + 1 := by
    have := Int.mul_ediv_add_emod (a0 + 1) W
    have : 0 ≤ W * ((a0 + 1) / W) := Int.mul_nonneg (by omega) (Int.ediv_nonneg (by omega) (by omega))
    omega
  have e1 : wrap64 (a0 + 1) = a0 + 1 := by unfold wrap64; omega
  have e2 : wrap64 (W - 1) = W - 1 := by unfold wrap64; omega
  rw [e1, e2]
  rw [Int.tmod_eq_emod_of_nonneg (by omega)]
  refine ⟨by omega, by omega, ?_, ?_, rfl, rfl⟩
  · have e3 : wrap64 (a0 + 1 - (a0 + 1) % W) = a0 + 1 - (a0 + 1) % W := by unfold wrap64; omega
    rw [e3, hn]; unfold wrap64; omega
  · rw [hn]
    by_cases hb : a0 + 1 < 2 ^ 62
    · exact join (a0 + 1) W a1 j (by omega) hW (by omega) hb l0 (by omega)
    · omega

theorem in_some (a b c : Int) : impl_in.f a b c = some (decide (b ≤ a) && decide (a ≤ c)) := by
  unfold impl_in.f
  by_cases h : a ≥ b
  · rw [if_pos h]; simp [show b ≤ a from h]
  · rw [if_neg h]; simp [show ¬ b ≤ a from h]

theorem j_same (k : Nat) (x W n : Int) (b : Bool) : impl_NumberOf.j1 (k + 1) x W n b = (spec_l6Number.j0 (k + 1) x W n b).map fun r => (r, true) := by
  simp only [impl_NumberOf.j1, spec_l6Number.j0]
  repeat' split
  all_goals rfl

theorem j_total (k : Nat) (x W n : Int) (b : Bool) : ∃ r, spec_l6Number.j0 (k + 1) x W n b = some r := by
  simp only [spec_l6Number.j0]
  repeat' split
  all_goals exact ⟨_, rfl⟩

theorem one_size (a0 a1 s W : Int) (j : Nat) (hj : j ≤ 32) (hW : W = 2 ^ j) (hW1 : 256 ≤ W) (hW2 : W ≤ 4294967296) (h0 : -1 ≤ a0) (h1 : a0 ≤ 4611686018427387902) (s0 : 1 ≤ s) (s1 : s ≤ 4)
    (es : wrap64 (8 * s) = 8 * s) (eu : IntKind.u64.wrap (8 * s) = 8 * s) (ew : shl .i64 1 (8 * s) = W) :
    laws_FnExactNumberOf.f 3 a0 a1 s = some true := by
  unfold laws_FnExactNumberOf.f spec_NumberOf.f impl_NumberOf.f
  rw [show spec_l1In.f = impl_in.f from rfl]
  simp only [in_some, es, eu, ew, Option.bind_some]
  have c1 : (decide (-1 ≤ a0) && decide (a0 ≤ 4611686018427387902)) = true := by simp [h0, h1]
  have c2 : (decide (1 ≤ s) && decide (s ≤ 4)) = true := by simp [s0, s1]
  simp only [c1, c2, if_true]
  rw [if_pos (show 0 ≤ 8 * s by omega), if_pos (show 0 ≤ 8 * s by omega)]
  have e2 : wrap64 (W - 1) = W - 1 := by unfold wrap64; omega
  rw [e2]
  by_cases hl : 0 ≤ a1 ∧ a1 ≤ W - 1
  · obtain ⟨l0, l1⟩ := hl
    have c3 : (decide (0 ≤ a1) && decide (a1 ≤ W - 1)) = true := by simp [l0, l1]
    obtain ⟨n0, n1, i1, i2, i3, _⟩ := size_case a0 a1 W j hj hW h0 h1 l0 l1 hW1 hW2 _ rfl
    rw [c3]
    simp only [if_true, Option.bind_some]
    unfold spec_l6Number.f
    simp only [es, eu, ew, e2]
    rw [if_pos (show 0 ≤ 8 * s by omega)]
    simp only [impl_NumberOf.j0, es, ew]
    rw [if_neg (show ¬ ((!true) = true) by decide), if_pos (show 0 ≤ 8 * s by omega), if_neg (show ¬ W = 0 by omega)]
    rw [e2] at i2
    rw [i3] at i1 i2
    simp only [i3, i1, i2]
    generalize (a0 + 1 - (a0 + 1) % W + a1) = n
    by_cases hc : n ≤ wrap64 (a0 + 1 - wrap64 (Int.tdiv W 2))
    · rw [if_pos hc, if_pos hc, j_same]
      obtain ⟨r, hr⟩ := j_total 2 (a0 + 1) W n (decide (n < wrap64 (4611686018427387904 - W)))
      have hr2 := hr
      rw [show spec_l6Number.j0 (2 + 1) = spec_l6Number.j0 3 from rfl] at hr
      rw [hr]
      obtain ⟨r', hr'⟩ := j_total 1 (a0 + 1) W n (decide (n < wrap64 (4611686018427387904 - W)))
      have : r' = r := by
        have e : spec_l6Number.j0 (1 + 1) (a0 + 1) W n (decide (n < wrap64 (4611686018427387904 - W))) = spec_l6Number.j0 3 (a0 + 1) W n (decide (n < wrap64 (4611686018427387904 - W))) := by simp only [spec_l6Number.j0]
        rw [hr', hr] at e
        exact Option.some.inj e
      rw [hr', this]; simp
    · rw [if_neg hc, if_neg hc, j_same]
      obtain ⟨r, hr⟩ := j_total 2 (a0 + 1) W n false
      rw [show spec_l6Number.j0 (2 + 1) = spec_l6Number.j0 3 from rfl] at hr
      rw [hr]
      obtain ⟨r', hr'⟩ := j_total 1 (a0 + 1) W n false
      have : r' = r := by
        have e : spec_l6Number.j0 (1 + 1) (a0 + 1) W n false = spec_l6Number.j0 3 (a0 + 1) W n false := by simp only [spec_l6Number.j0]
        rw [hr', hr] at e
        exact Option.some.inj e
      rw [hr', this]; simp
  · have c3 : (decide (0 ≤ a1) && decide (a1 ≤ W - 1)) = false := by
      simp only [Bool.and_eq_false_iff, decide_eq_false_iff_not]; omega
    rw [c3]
    simp only [impl_NumberOf.j0]
    simp

theorem FnExactNumberOf : laws_FnExactNumberOf.Pure := by
  intro a0 a1 s _ _ _
  refine ⟨3, ?_⟩
  by_cases g1 : -1 ≤ a0 ∧ a0 ≤ 4611686018427387902
  · by_cases g2 : 1 ≤ s ∧ s ≤ 4
    · have : s = 1 ∨ s = 2 ∨ s = 3 ∨ s = 4 := by omega
      rcases this with rfl | rfl | rfl | rfl
      · exact one_size a0 a1 1 256 8 (by decide) (by decide) (by decide) (by decide) g1.1 g1.2 (by decide) (by decide) (by decide +kernel) (by decide +kernel) (by decide +kernel)
      · exact one_size a0 a1 2 65536 16 (by decide) (by decide) (by decide) (by decide) g1.1 g1.2 (by decide) (by decide) (by decide +kernel) (by decide +kernel) (by decide +kernel)
      · exact one_size a0 a1 3 16777216 24 (by decide) (by decide) (by decide) (by decide) g1.1 g1.2 (by decide) (by decide) (by decide +kernel) (by decide +kernel) (by decide +kernel)
      · exact one_size a0 a1 4 4294967296 32 (by decide) (by decide) (by decide) (by decide) g1.1 g1.2 (by decide) (by decide) (by decide +kernel) (by decide +kernel) (by decide +kernel)
    · unfold laws_FnExactNumberOf.f spec_NumberOf.f impl_NumberOf.f
      rw [show spec_l1In.f = impl_in.f from rfl]
      have c1 : (decide (-1 ≤ a0) && decide (a0 ≤ 4611686018427387902)) = true := by simp [g1]
      have c2 : (decide (1 ≤ s) && decide (s ≤ 4)) = false := by
        simp only [Bool.and_eq_false_iff, decide_eq_false_iff_not]; omega
      simp only [in_some, c1, c2, Option.bind_some, if_true]
      simp [impl_NumberOf.j0]
  · unfold laws_FnExactNumberOf.f spec_NumberOf.f impl_NumberOf.f
    rw [show spec_l1In.f = impl_in.f from rfl]
    have c1 : (decide (-1 ≤ a0) && decide (a0 ≤ 4611686018427387902)) = false := by
      simp only [Bool.and_eq_false_iff, decide_eq_false_iff_not]; omega
    simp only [in_some, c1, Option.bind_some]
    simp [impl_NumberOf.j0]

end Go.Proofs.Ytmkoigkgmjbaiaa.Pure
