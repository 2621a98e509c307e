/- The statement over numbers and lists that is left of the law FnExactNumberBytes: the program's function and the reference's tell the same for all arguments. Conditions: none beyond the kinds' own bounds. -/
import Derived.Test.YtmkoigkgmjbaiaaPFnExactNumberBytesx1
set_option linter.unusedVariables false
set_option linter.unusedSimpArgs false
namespace Go.Proofs.Ytmkoigkgmjbaiaa.Pure
open Go.RowKit Go.Proofs.Ytmkoigkgmjbaiaa.PFnExactNumberBytes Go.Proofs.YtmkoigkgmjbaiaaW.PrintWords Go.Proofs.YtmkoigkgmjbaiaaW.PrintLast

/-- A number's last bytes, so many, the highest first. -/
def be : Nat → Int → List Int
  | 0, _ => []
  | m + 1, n => be m (n / 256) ++ [n % 256]
theorem be_length : ∀ (m : Nat) (n : Int), (be m n).length = m
  | 0, _ => rfl
  | m + 1, n => by simp [be, be_length m]
theorem be_head : ∀ (m : Nat) (n : Int), be (m + 1) n = (n / 256 ^ m % 256) :: be m n
  | 0, n => by simp [be]
  | m + 1, n => by
    have ih := be_head m (n / 256)
    show be (m + 1) (n / 256) ++ [n % 256] = _ :: (be m (n / 256) ++ [n % 256])
    rw [ih, Int.ediv_ediv_of_nonneg (by decide), ← Int.pow_succ']
    rfl
theorem wrap_u64_in (n : Int) (h0 : 0 ≤ n) (h1 : n < 18446744073709551616) : IntKind.u64.wrap n = n := by
  simp [IntKind.wrap, IntKind.bits, IntKind.signed]; omega

theorem bigEndian_loop : ∀ (j k : Nat) (x0 : Int) (tail : List Int), j < k → j ≤ 1000000 → impl_bigEndian.l0 k x0 (List.replicate j 0 ++ tail) ((j : Int) - 1) = some (strOfNums (be j x0 ++ tail))
  | 0, k, x0, tail, hk, _ => by
    obtain ⟨k, rfl⟩ : ∃ m, k = m + 1 := ⟨k - 1, by omega⟩
    simp only [impl_bigEndian.l0]
    rw [if_neg (by decide)]
    simp [be]
  | j + 1, k, x0, tail, hk, hj => by
    obtain ⟨k, rfl⟩ : ∃ m, k = m + 1 := ⟨k - 1, by omega⟩
    simp only [impl_bigEndian.l0]
    have e : ((j + 1 : Nat) : Int) - 1 = (j : Int) := by omega
    rw [e, if_pos (by omega), if_pos (by omega), if_pos (by simp; omega)]
    have e2 : wrap64 ((j : Int) - 1) = (j : Int) - 1 := by unfold wrap64; omega
    have e3 : (List.replicate (j + 1) (0 : Int) ++ tail).set ((j : Int)).toNat (x0 % 256) = List.replicate j 0 ++ ((x0 % 256) :: tail) := by
      rw [Int.toNat_natCast, List.replicate_succ', List.append_assoc, List.set_append_right _ _ (by simp)]
      simp
    rw [e2, e3, bigEndian_loop j k (x0 / 256) _ (by omega) (by omega)]
    simp [be]

theorem bigEndian_tells (k j : Nat) (x0 : Int) (hk : j < k) (hj : j ≤ 1000000) : impl_bigEndian.f k x0 (j : Int) = some (strOfNums (be j x0)) := by
  unfold impl_bigEndian.f
  have e2 : wrap64 ((j : Int) - 1) = (j : Int) - 1 := by unfold wrap64; omega
  rw [if_pos (by omega), if_pos (by omega), e2, Int.toNat_natCast]
  have := bigEndian_loop j k x0 [] hk hj
  simpa using this

theorem fixed_shift (x : Int) (j : Nat) (hj : j ≤ 8) : shr .i64 x (IntKind.u64.wrap (wrap64 (8 * (j : Int)))) = x / 256 ^ j := by
  have e : wrap64 (8 * (j : Int)) = 8 * (j : Int) := by unfold wrap64; omega
  rw [e, wrap_u64_in _ (by omega) (by omega)]
  unfold shr
  have e2 : min (8 * (j : Int)).toNat IntKind.i64.bits = 8 * j := by
    have : (8 * (j : Int)).toNat = 8 * j := by omega
    rw [this]; show min (8 * j) 64 = _; omega
  rw [e2, Int.pow_mul]; rfl

theorem fixed_loop : ∀ (j k : Nat) (x0 : Int) (xs : List Int), j < k → j ≤ 9 → xs.length + j ≤ 1000 → spec_l1Fixed.l0 k x0 xs ((j : Int) - 1) = some (strOfNums (xs ++ be j x0))
  | 0, k, x0, xs, hk, _, _ => by
    obtain ⟨k, rfl⟩ : ∃ m, k = m + 1 := ⟨k - 1, by omega⟩
    simp only [spec_l1Fixed.l0]
    rw [if_neg (by decide)]
    simp [be]
  | j + 1, k, x0, xs, hk, hj, hl => by
    obtain ⟨k, rfl⟩ : ∃ m, k = m + 1 := ⟨k - 1, by omega⟩
    simp only [spec_l1Fixed.l0]
    have e : ((j + 1 : Nat) : Int) - 1 = (j : Int) := by omega
    have e1 : wrap64 (8 * (j : Int)) = 8 * (j : Int) := by unfold wrap64; omega
    have e2 : wrap64 ((j : Int) - 1) = (j : Int) - 1 := by unfold wrap64; omega
    rw [e, if_pos (by omega), if_pos (by rw [e1, wrap_u64_in _ (by omega) (by omega)]; omega), if_pos (by omega), e2, fixed_shift x0 j (by omega)]
    rw [be_head, fixed_loop j k x0 _ (by omega) (by omega) (by simp; omega)]
    simp

theorem fixed_tells (k j : Nat) (x0 : Int) (hk : j < k) (hj : j ≤ 9) : spec_l1Fixed.f k x0 (j : Int) = some (strOfNums (be j x0)) := by
  unfold spec_l1Fixed.f
  have e2 : wrap64 ((j : Int) - 1) = (j : Int) - 1 := by unfold wrap64; omega
  rw [e2, fixed_loop j k x0 [] hk hj (by simp; omega)]
  simp

theorem in_some (a b c : Int) : impl_in.f a b c = some (decide (b ≤ a) && decide (a ≤ c)) := by
  unfold impl_in.f
  by_cases h : a ≥ b
  · rw [if_pos h]; simp [show b ≤ a from h]
  · rw [if_neg h]; simp [show ¬ b ≤ a from h]

theorem size_round (k : Nat) (x0 x1 x5 x6 s W : Int) (h5 : x5 < 5) (hs : IntKind.u64.wrap (wrap64 (wrap64 (8 * x5) - 1)) = s) (h0 : 0 ≤ s) (hW : wrap64 (shl .i64 1 s - 1) = W) (hn : wrap64 (x5 + 1) = x6) :
    spec_l6Size.l0 (k + 1) x0 x1 x5 = if wrap64 (x0 - x1) ≤ W then some x5 else spec_l6Size.l0 k x0 x1 x6 := by
  simp only [spec_l6Size.l0]
  rw [if_pos h5, hs, if_pos h0, hW, hn]

def sizeOf (d : Int) : Int := if d ≤ 127 then 1 else if d ≤ 32767 then 2 else if d ≤ 8388607 then 3 else if d ≤ 2147483647 then 4 else 0

theorem size_tells (k : Nat) (x0 x1 : Int) (hk : 5 ≤ k) : spec_l6Size.f k x0 x1 = some (sizeOf (wrap64 (x0 - x1))) := by
  obtain ⟨k, rfl⟩ : ∃ m, k = m + 5 := ⟨k - 5, by omega⟩
  unfold spec_l6Size.f
  rw [size_round (k + 4) x0 x1 1 2 7 127 (by decide) (by decide +kernel) (by decide) (by decide +kernel) (by decide +kernel)]
  rw [size_round (k + 3) x0 x1 2 3 15 32767 (by decide) (by decide +kernel) (by decide) (by decide +kernel) (by decide +kernel)]
  rw [size_round (k + 2) x0 x1 3 4 23 8388607 (by decide) (by decide +kernel) (by decide) (by decide +kernel) (by decide +kernel)]
  rw [size_round (k + 1) x0 x1 4 5 31 2147483647 (by decide) (by decide +kernel) (by decide) (by decide +kernel) (by decide +kernel)]
  have last : spec_l6Size.l0 (k + 1) x0 x1 5 = some 0 := by
    simp only [spec_l6Size.l0]; rw [if_neg (by decide)]
  rw [last]
  unfold sizeOf
  by_cases h1 : wrap64 (x0 - x1) ≤ 127
  · rw [if_pos h1, if_pos h1]
  rw [if_neg h1, if_neg h1]
  by_cases h2 : wrap64 (x0 - x1) ≤ 32767
  · rw [if_pos h2, if_pos h2]
  rw [if_neg h2, if_neg h2]
  by_cases h3 : wrap64 (x0 - x1) ≤ 8388607
  · rw [if_pos h3, if_pos h3]
  rw [if_neg h3, if_neg h3]
  by_cases h4 : wrap64 (x0 - x1) ≤ 2147483647
  · rw [if_pos h4, if_pos h4]
  rw [if_neg h4, if_neg h4]

theorem bytes_round (k : Nat) (x0 x6 x7 x8 s W : Int) (j : Nat) (hj : x7 = (j : Int)) (h5 : x7 ≤ 4) (hs : wrap64 (wrap64 (8 * x7) - 1) = s) (h0 : 0 ≤ s) (hW : wrap64 (shl .i64 1 s - 1) = W) (hn : wrap64 (x7 + 1) = x8) (hk : j < k) (b0 : 0 ≤ x0) (b1 : x0 ≤ 4611686018427387903) :
    impl_NumberBytes.l0 (k + 1) x0 x6 x7 = if x6 ≤ W then some (strOfNums (be j x0), true) else impl_NumberBytes.l0 k x0 x6 x8 := by
  simp only [impl_NumberBytes.l0]
  rw [if_pos h5, hs, if_pos h0, hW, hn, hj, wrap_u64_in x0 b0 (by omega), bigEndian_tells k j x0 hk (by omega)]
  simp

theorem FnExactNumberBytes : laws_FnExactNumberBytes.Pure := by
  intro n a _ _
  refine ⟨20, ?_⟩
  unfold laws_FnExactNumberBytes.f spec_NumberBytes.f impl_NumberBytes.f spec_l6Said.f
  rw [show spec_l1In.f = impl_in.f from rfl]
  simp only [in_some, Option.bind_some]
  by_cases g1 : 0 ≤ n ∧ n ≤ 4611686018427387903
  · have c1 : (decide (0 ≤ n) && decide (n ≤ 4611686018427387903)) = true := by simp [g1]
    simp only [c1, if_true, Option.bind_some]
    by_cases g2 : -1 ≤ a ∧ a ≤ wrap64 (n - 1)
    · have e1 : wrap64 (n - 1) = n - 1 := by unfold wrap64; omega
      have e2 : wrap64 (n - a) = n - a := by unfold wrap64; omega
      have c2 : (decide (-1 ≤ a) && decide (a ≤ wrap64 (n - 1))) = true := by simp [g2]
      simp only [c2, if_true, Option.bind_some]
      rw [size_tells 20 n a (by decide), e2]
      simp only [Option.bind_some, spec_NumberBytes.j0, impl_NumberBytes.j0, size_tells 19 n a (by decide), e2, Bool.not_true]
      rw [if_neg (show ¬ (false = true) by decide)]
      rw [bytes_round 18 n (n - a) 1 2 7 127 1 rfl (by decide) (by decide +kernel) (by decide) (by decide +kernel) (by decide +kernel) (by decide) g1.1 g1.2]
      rw [bytes_round 17 n (n - a) 2 3 15 32767 2 rfl (by decide) (by decide +kernel) (by decide) (by decide +kernel) (by decide +kernel) (by decide) g1.1 g1.2]
      rw [bytes_round 16 n (n - a) 3 4 23 8388607 3 rfl (by decide) (by decide +kernel) (by decide) (by decide +kernel) (by decide +kernel) (by decide) g1.1 g1.2]
      rw [bytes_round 15 n (n - a) 4 5 31 2147483647 4 rfl (by decide) (by decide +kernel) (by decide) (by decide +kernel) (by decide +kernel) (by decide) g1.1 g1.2]
      have last : impl_NumberBytes.l0 15 n (n - a) 5 = some ((⟨#[]⟩ : ByteArray), false) := by
        simp only [impl_NumberBytes.l0]; rw [if_neg (by decide)]
      rw [last]
      have f1 := fixed_tells 19 1 n (by decide) (by decide)
      have f2 := fixed_tells 19 2 n (by decide) (by decide)
      have f3 := fixed_tells 19 3 n (by decide) (by decide)
      have f4 := fixed_tells 19 4 n (by decide) (by decide)
      unfold sizeOf
      by_cases h1 : n - a ≤ 127
      · simp only [if_pos h1]
        rw [if_neg (by decide), show (1 : Int) = ((1 : Nat) : Int) from rfl, f1]; simp
      by_cases h2 : n - a ≤ 32767
      · simp only [if_neg h1, if_pos h2]
        rw [if_neg (by decide), show (2 : Int) = ((2 : Nat) : Int) from rfl, f2]; simp
      by_cases h3 : n - a ≤ 8388607
      · simp only [if_neg h1, if_neg h2, if_pos h3]
        rw [if_neg (by decide), show (3 : Int) = ((3 : Nat) : Int) from rfl, f3]; simp
      by_cases h4 : n - a ≤ 2147483647
      · simp only [if_neg h1, if_neg h2, if_neg h3, if_pos h4]
        rw [if_neg (by decide), show (4 : Int) = ((4 : Nat) : Int) from rfl, f4]; simp
      · simp only [if_neg h1, if_neg h2, if_neg h3, if_neg h4]
        rw [if_pos (by decide)]; simp
    · have c2 : (decide (-1 ≤ a) && decide (a ≤ wrap64 (n - 1))) = false := by
        simp only [Bool.and_eq_false_iff, decide_eq_false_iff_not]; omega
      simp only [c2, Bool.not_false, spec_NumberBytes.j0, impl_NumberBytes.j0]
      simp
  · have c1 : (decide (0 ≤ n) && decide (n ≤ 4611686018427387903)) = false := by
      simp only [Bool.and_eq_false_iff, decide_eq_false_iff_not]; omega
    simp only [c1, spec_NumberBytes.j0, impl_NumberBytes.j0]
    simp

end Go.Proofs.Ytmkoigkgmjbaiaa.Pure
