/- The statement over numbers and lists that is left of the law FnExactVarintBytes: the program's function and the reference's tell the same for all arguments. Conditions: none beyond the kinds' own bounds. -/
import Derived.Test.YtlohefjigggjiaaPFnExactVarintBytesx1
set_option linter.unusedVariables false
set_option linter.unusedSimpArgs false
namespace Go.Proofs.Ytlohefjigggjiaa.Pure
open Go.RowKit Go.Proofs.Ytlohefjigggjiaa.PFnExactVarintBytes Go.Proofs.YtlohefjigggjiaaV.PrintWords Go.Proofs.YtlohefjigggjiaaV.PrintLast

open Go.Proofs.YtlohefjigggjiaaV.Aes
theorem fixed_shift (x : Int) (j : Nat) (hj : j ≤ 8) : shr .i64 x (IntKind.u64.wrap (wrap64 (8 * (j : Int)))) = x / 256 ^ j := by
  have e : wrap64 (8 * (j : Int)) = 8 * (j : Int) := by unfold wrap64; omega
  rw [e, wrap_u64_in _ (by omega) (by omega)]
  unfold shr
  have e2 : min (8 * (j : Int)).toNat IntKind.i64.bits = 8 * j := by
    have : (8 * (j : Int)).toNat = 8 * j := by omega
    rw [this]; show min (8 * j) 64 = _; omega
  rw [e2, Int.pow_mul]; rfl

theorem fixed_loop : ∀ (j k : Nat) (x0 : Int) (xs : List Int), j < k → j ≤ 9 → xs.length + j ≤ 1000 → spec_l1Fixed.l0 k x0 xs ((j : Int) - 1) = some (strOfNums (xs ++ be j x0))
  | 0, k, x0, xs, hk, _, _ => by
    obtain ⟨k, rfl⟩ : ∃ m, k = m + 1 := ⟨k - 1, by omega⟩
    simp only [spec_l1Fixed.l0]
    rw [if_neg (by decide)]
    simp [be]
  | j + 1, k, x0, xs, hk, hj, hl => by
    obtain ⟨k, rfl⟩ : ∃ m, k = m + 1 := ⟨k - 1, by omega⟩
    simp only [spec_l1Fixed.l0]
    have e : ((j + 1 : Nat) : Int) - 1 = (j : Int) := by omega
    have e1 : wrap64 (8 * (j : Int)) = 8 * (j : Int) := by unfold wrap64; omega
    have e2 : wrap64 ((j : Int) - 1) = (j : Int) - 1 := by unfold wrap64; omega
    rw [e, if_pos (by omega), if_pos (by rw [e1, wrap_u64_in _ (by omega) (by omega)]; omega), if_pos (by omega), e2, fixed_shift x0 j (by omega)]
    rw [be_head, fixed_loop j k x0 _ (by omega) (by omega) (by simp; omega)]
    simp

theorem fixed_tells (k j : Nat) (x0 : Int) (hk : j < k) (hj : j ≤ 9) : spec_l1Fixed.f k x0 (j : Int) = some (strOfNums (be j x0)) := by
  unfold spec_l1Fixed.f
  have e2 : wrap64 ((j : Int) - 1) = (j : Int) - 1 := by unfold wrap64; omega
  rw [e2, fixed_loop j k x0 [] hk hj (by simp; omega)]
  simp

theorem be_add : ∀ (m : Nat) (x q : Int), be m (x + 256 ^ m * q) = be m x
  | 0, _, _ => rfl
  | m + 1, x, q => by
    have e : (256 : Int) ^ (m + 1) * q = (256 ^ m * q) * 256 := by rw [Int.pow_succ, Int.mul_right_comm]
    have e1 : (x + 256 ^ (m + 1) * q) / 256 = x / 256 + 256 ^ m * q := by rw [e, Int.add_mul_ediv_right _ _ (by decide)]
    have e2 : (x + 256 ^ (m + 1) * q) % 256 = x % 256 := by rw [e, Int.add_mul_emod_self_right]
    show be m ((x + 256 ^ (m + 1) * q) / 256) ++ [(x + 256 ^ (m + 1) * q) % 256] = be m (x / 256) ++ [x % 256]
    rw [e1, e2, be_add m]
theorem wrap_both (N : Nat) (h : N < 18446744073709551616) : ∃ q : Int, IntKind.u64.wrap (N : Int) = IntKind.i64.wrap (N : Int) + 18446744073709551616 * q := by
  have e0 : IntKind.u64.wrap (N : Int) = N := wrap_u64_in _ (by omega) (by omega)
  by_cases g : N < 9223372036854775808
  · refine ⟨0, ?_⟩
    have e1 : IntKind.i64.wrap (N : Int) = N := by
      simp [IntKind.wrap, IntKind.signed, IntKind.bits]; omega
    rw [e0, e1]; omega
  · refine ⟨1, ?_⟩
    have e1 : IntKind.i64.wrap (N : Int) = N - 18446744073709551616 := by
      simp [IntKind.wrap, IntKind.signed, IntKind.bits]; omega
    rw [e0, e1]; omega
theorem or_both (n c c' : Int) (h : BitVec.ofInt 64 c = BitVec.ofInt 64 c') : ∃ q : Int, bits .or .u64 n c = bits .or .i64 n c' + 18446744073709551616 * q := by
  have e1 : bits .or .u64 n c = IntKind.u64.wrap ((BitVec.ofInt 64 n ||| BitVec.ofInt 64 c).toNat : Int) := rfl
  have e2 : bits .or .i64 n c' = IntKind.i64.wrap ((BitVec.ofInt 64 n ||| BitVec.ofInt 64 c').toNat : Int) := rfl
  rw [e1, e2, h]
  exact wrap_both _ (BitVec.isLt _)
theorem or_zero (n : Int) (h0 : 0 ≤ n) (h1 : n < 18446744073709551616) : bits .or .u64 n 0 = n := by
  have e1 : bits .or .u64 n 0 = IntKind.u64.wrap ((BitVec.ofInt 64 n ||| BitVec.ofInt 64 0).toNat : Int) := rfl
  have e2 : (BitVec.ofInt 64 n ||| BitVec.ofInt 64 0) = BitVec.ofInt 64 n := by
    rw [show BitVec.ofInt 64 0 = 0#64 from rfl, BitVec.or_zero]
  rw [e1, e2, BitVec.toNat_ofInt]
  have e3 : ((n % (2 ^ 64 : Nat)).toNat : Int) = n := by omega
  rw [e3]
  exact wrap_u64_in n h0 h1
theorem be_or (m : Nat) (n c c' : Int) (h : BitVec.ofInt 64 c = BitVec.ofInt 64 c') (hm : m = 2 ∨ m = 4 ∨ m = 8) : be m (bits .or .u64 n c) = be m (bits .or .i64 n c') := by
  obtain ⟨q, hq⟩ := or_both n c c' h
  rw [hq]
  rcases hm with rfl | rfl | rfl
  · rw [show (18446744073709551616 : Int) * q = 256 ^ 2 * (281474976710656 * q) by omega]; exact be_add 2 _ _
  · rw [show (18446744073709551616 : Int) * q = 256 ^ 4 * (4294967296 * q) by omega]; exact be_add 4 _ _
  · rw [show (18446744073709551616 : Int) * q = 256 ^ 8 * q by omega]; exact be_add 8 _ _
theorem var_tells (n : Int) (h0 : 0 ≤ n) (h1 : n ≤ 4611686018427387903) : spec_l1Var.f 20 n = some (varS n) := by
  have hw := wrap_u64_in n h0 (by omega)
  unfold spec_l1Var.f spec_l1Size.f varS
  rw [hw]
  by_cases g1 : n < 64
  · rw [if_pos g1, if_pos g1, Option.bind_some, if_pos rfl, or_zero n h0 (by omega)]
    exact (congrArg (fun z => Option.bind z fun t => some t) (fixed_tells 20 1 n (by decide) (by decide)))
  rw [if_neg g1, if_neg g1]
  by_cases g2 : n < 16384
  · rw [if_pos g2, if_pos g2, Option.bind_some, if_neg (by decide), if_pos rfl, be_or 2 n 16384 16384 rfl (by decide)]
    exact (congrArg (fun z => Option.bind z fun t => some t) (fixed_tells 20 2 _ (by decide) (by decide)))
  rw [if_neg g2, if_neg g2]
  by_cases g3 : n < 1073741824
  · rw [if_pos g3, if_pos g3, Option.bind_some, if_neg (by decide), if_neg (by decide), if_pos rfl, be_or 4 n 2147483648 2147483648 rfl (by decide)]
    exact (congrArg (fun z => Option.bind z fun t => some t) (fixed_tells 20 4 _ (by decide) (by decide)))
  rw [if_neg g3, if_neg g3, Option.bind_some, if_neg (by decide), if_neg (by decide), if_neg (by decide), be_or 8 n 13835058055282163712 (-4611686018427387904) (by decide) (by decide)]
  exact (congrArg (fun z => Option.bind z fun t => some t) (fixed_tells 20 8 _ (by decide) (by decide)))
theorem in_both (a b c : Int) : impl_in.f a b c = some (decide (b ≤ a) && decide (a ≤ c)) ∧ spec_l1In.f a b c = some (decide (b ≤ a) && decide (a ≤ c)) := by
  unfold impl_in.f spec_l1In.f
  by_cases h : a ≥ b
  · rw [if_pos h]; simp [show b ≤ a from h]
  · rw [if_neg h]; simp [show ¬ b ≤ a from h]
theorem FnExactVarintBytes : laws_FnExactVarintBytes.Pure := by
  intro n _
  refine ⟨20, ?_⟩
  unfold laws_FnExactVarintBytes.f spec_VarintBytes.f impl_VarintBytes.f spec_l1Known.f impl_isVarint.f impl_varint.f
  rw [(in_both n 0 4611686018427387903).1, (in_both n 0 4611686018427387903).2]
  simp only [Option.bind_some]
  by_cases h : 0 ≤ n ∧ n ≤ 4611686018427387903
  · have e : (decide (0 ≤ n) && decide (n ≤ 4611686018427387903)) = true := by simp [h.1, h.2]
    rw [e, var_tells n h.1 h.2]
    simp
  · have e : (decide (0 ≤ n) && decide (n ≤ 4611686018427387903)) = false := by
      rw [Bool.and_eq_false_iff]
      by_cases g : 0 ≤ n
      · right; simp; omega
      · left; simp; omega
    rw [e]
    simp

end Go.Proofs.Ytlohefjigggjiaa.Pure
