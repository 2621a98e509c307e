/- The statement over numbers and lists that is left of the law FnExactHalfBlock: the program's function and the reference's tell the same for all arguments. Conditions: none beyond the kinds' own bounds. -/
import Derived.Test.YtlohefjigggjiaaPFnExactHalfBlockx4
set_option linter.unusedVariables false
set_option linter.unusedSimpArgs false
namespace Go.Proofs.Ytlohefjigggjiaa.Pure
open Go.RowKit Go.Proofs.Ytlohefjigggjiaa.PFnExactHalfBlock Go.Proofs.YtlohefjigggjiaaV.PrintWords Go.Proofs.YtlohefjigggjiaaV.PrintLast

/-- A number's last bytes, so many, the highest first. -/
def be : Nat → Int → List Int
  | 0, _ => []
  | m + 1, n => be m (n / 256) ++ [n % 256]
theorem be_length : ∀ (m : Nat) (n : Int), (be m n).length = m
  | 0, _ => rfl
  | m + 1, n => by simp [be, be_length m]
theorem be_head : ∀ (m : Nat) (n : Int), be (m + 1) n = (n / 256 ^ m % 256) :: be m n
  | 0, n => by simp [be]
  | m + 1, n => by
    have ih := be_head m (n / 256)
    show be (m + 1) (n / 256) ++ [n % 256] = _ :: (be m (n / 256) ++ [n % 256])
    rw [ih, Int.ediv_ediv_of_nonneg (by decide), ← Int.pow_succ']
    rfl
theorem wrap_u64_in (n : Int) (h0 : 0 ≤ n) (h1 : n < 18446744073709551616) : IntKind.u64.wrap n = n := by
  simp [IntKind.wrap, IntKind.bits, IntKind.signed]; omega

theorem fixed_shift (x : Int) (j : Nat) (hj : j ≤ 8) : shr .i64 x (IntKind.u64.wrap (wrap64 (8 * (j : Int)))) = x / 256 ^ j := by
  have e : wrap64 (8 * (j : Int)) = 8 * (j : Int) := by unfold wrap64; omega
  rw [e, wrap_u64_in _ (by omega) (by omega)]
  unfold shr
  have e2 : min (8 * (j : Int)).toNat IntKind.i64.bits = 8 * j := by
    have : (8 * (j : Int)).toNat = 8 * j := by omega
    rw [this]; show min (8 * j) 64 = _; omega
  rw [e2, Int.pow_mul]; rfl

theorem fixed_loop : ∀ (j k : Nat) (x0 : Int) (xs : List Int), j < k → j ≤ 9 → xs.length + j ≤ 1000 → spec_l1Fixed.l0 k x0 xs ((j : Int) - 1) = some (strOfNums (xs ++ be j x0))
  | 0, k, x0, xs, hk, _, _ => by
    obtain ⟨k, rfl⟩ : ∃ m, k = m + 1 := ⟨k - 1, by omega⟩
    simp only [spec_l1Fixed.l0]
    rw [if_neg (by decide)]
    simp [be]
  | j + 1, k, x0, xs, hk, hj, hl => by
    obtain ⟨k, rfl⟩ : ∃ m, k = m + 1 := ⟨k - 1, by omega⟩
    simp only [spec_l1Fixed.l0]
    have e : ((j + 1 : Nat) : Int) - 1 = (j : Int) := by omega
    have e1 : wrap64 (8 * (j : Int)) = 8 * (j : Int) := by unfold wrap64; omega
    have e2 : wrap64 ((j : Int) - 1) = (j : Int) - 1 := by unfold wrap64; omega
    rw [e, if_pos (by omega), if_pos (by rw [e1, wrap_u64_in _ (by omega) (by omega)]; omega), if_pos (by omega), e2, fixed_shift x0 j (by omega)]
    rw [be_head, fixed_loop j k x0 _ (by omega) (by omega) (by simp; omega)]
    simp

theorem fixed_tells (k j : Nat) (x0 : Int) (hk : j < k) (hj : j ≤ 9) : spec_l1Fixed.f k x0 (j : Int) = some (strOfNums (be j x0)) := by
  unfold spec_l1Fixed.f
  have e2 : wrap64 ((j : Int) - 1) = (j : Int) - 1 := by unfold wrap64; omega
  rw [e2, fixed_loop j k x0 [] hk hj (by simp; omega)]
  simp

theorem ext_data (s : ByteArray) (a b : Nat) : (s.extract a b).data.toList = (s.data.toList.take b).drop a := by
  rw [ByteArray.data_extract, List.drop_take]; simp [List.extract_eq_take_drop]
theorem bytes_ext (s : ByteArray) (a b : Nat) : bytesOf (s.extract a b) = ((bytesOf s).take b).drop a := by
  unfold bytesOf
  rw [ext_data, List.map_drop, List.map_take]
theorem size_ext (s : ByteArray) (a b : Nat) (h : b ≤ s.size) : (s.extract a b).size = b - a := by
  have h1 := bytesOf_length (s.extract a b)
  rw [bytes_ext, List.length_drop, List.length_take, bytesOf_length] at h1
  omega
theorem bytes_range (s : ByteArray) (x : Int) (h : x ∈ bytesOf s) : 0 ≤ x ∧ x < 256 := by
  unfold bytesOf at h
  simp only [List.mem_map] at h
  obtain ⟨b, _, rfl⟩ := h
  have := b.toNat_lt
  omega
theorem bytes_str (l : List Int) (h : ∀ x ∈ l, 0 ≤ x ∧ x < 256) : bytesOf (strOfNums l) = l := by
  unfold bytesOf strOfNums
  simp only [List.map_map]
  conv => rhs; rw [← List.map_id l]
  apply List.map_congr_left
  intro x hx
  obtain ⟨h0, h1⟩ := h x hx
  obtain ⟨n, rfl⟩ := Int.eq_ofNat_of_zero_le h0
  simp [UInt8.toNat_ofNat']
  omega
theorem strOf_size (l : List Int) : (strOfNums l).size = l.length := by
  show (List.map _ l).toArray.size = _
  simp
theorem repeat_zero (n : Nat) (h : n ≤ 1000000) : strings_Repeat.f (⟨#[0]⟩ : ByteArray) (n : Int) = some (strOfNums (List.replicate n 0)) := by
  unfold strings_Repeat.f
  have hz : (⟨#[0]⟩ : ByteArray).size = 1 := rfl
  rw [if_pos (by omega), if_pos (by omega), Int.toNat_natCast, if_pos (by rw [hz]; omega)]
  have e : (⟨#[0]⟩ : ByteArray).data.toList = List.replicate 1 0 := rfl
  rw [e, Go.Lib.repeatL_replicate, Nat.mul_one]
  congr 1
  unfold strOfNums
  congr 1
  rw [List.map_replicate]
  rfl
theorem half_both (k : Nat) (hk : 8 < k) (s : ByteArray) (a b : Int) (hs : s.size ≤ 10) (ha : 0 ≤ a) (ha2 : a < 256) (hb : 0 ≤ b) (hb2 : b < 256) : ∃ r, spec_l7Half.f k s a b = some r ∧ impl_halfBlock.f s a b = some r := by
  have f1 := fixed_tells k 1 a (by omega) (by decide)
  have f2 := fixed_tells k 1 b (by omega) (by decide)
  rw [show ((1 : Nat) : Int) = 1 from rfl] at f1 f2
  have e : wrap64 (14 - (s.size : Int)) = ((14 - s.size : Nat) : Int) := by unfold wrap64; omega
  have rz := repeat_zero (14 - s.size) (by omega)
  have b1 : be 1 a = [a % 256] := by simp [be]
  have b2 : be 1 b = [b % 256] := by simp [be]
  have hab : strOfNums [a % 256] ++ strOfNums [b % 256] = strOfNums [a % 256, b % 256] := rfl
  have z0 := strOf_size (List.replicate (14 - s.size) 0)
  have z1 : (strOfNums [a % 256]).size = 1 := rfl
  have z2 : (strOfNums [b % 256]).size = 1 := rfl
  have z3 : (strOfNums [a % 256, b % 256]).size = 2 := rfl
  rw [List.length_replicate] at z0
  unfold spec_l7Half.f impl_halfBlock.f
  rw [e, rz, f1, f2, b1, b2]
  simp only [Option.bind_some, Int.toNat_natCast]
  by_cases h : Int.tmod b 2 = 1
  · rw [if_pos h, if_pos h, if_pos (by omega), if_pos (by omega), if_pos (by omega), if_pos (by rw [ByteArray.size_append]; omega), if_pos (by rw [ByteArray.size_append, ByteArray.size_append]; omega), if_pos (by omega), if_pos (by rw [ByteArray.size_append]; omega)]
    refine ⟨_, rfl, ?_⟩
    rw [← hab]
    simp only [ByteArray.append_assoc]
  · rw [if_neg h, if_neg h, if_pos (by omega), if_pos (by omega), if_pos (by omega), if_pos (by rw [ByteArray.size_append]; omega), if_pos (by rw [ByteArray.size_append, ByteArray.size_append]; omega), if_pos (by omega), if_pos (by rw [ByteArray.size_append]; omega), hab]
    exact ⟨_, rfl, rfl⟩
theorem FnExactHalfBlock : laws_FnExactHalfBlock.Pure := by
  intro s a b _ _ _
  refine ⟨9, ?_⟩
  have main : ∃ r, spec_HalfBlock.f 9 s a b = some r ∧ impl_HalfBlock.f s a b = some r := by
    unfold spec_HalfBlock.f impl_HalfBlock.f spec_l1In.f impl_in.f
    by_cases hs : (s.size : Int) > 10
    · rw [if_pos hs, if_pos hs]; exact ⟨_, rfl, rfl⟩
    rw [if_neg hs, if_neg hs]
    by_cases h1 : a ≥ 5
    · rw [if_pos h1]
      dsimp only [Option.bind_some]
      by_cases h2 : a ≤ 19
      · rw [decide_eq_true h2, if_pos rfl, if_pos rfl]
        by_cases h3 : b ≥ 1
        · rw [if_pos h3]
          dsimp only [Option.bind_some]
          by_cases h4 : b ≤ 4
          · rw [decide_eq_true h4, if_pos rfl, if_pos rfl]
            obtain ⟨r, e1, e2⟩ := half_both 9 (by decide) s a b (by omega) (by omega) (by omega) (by omega) (by omega)
            rw [e1, e2]
            exact ⟨_, rfl, rfl⟩
          · rw [decide_eq_false h4]
            exact ⟨_, rfl, rfl⟩
        · rw [if_neg h3]
          exact ⟨_, rfl, rfl⟩
      · rw [decide_eq_false h2]
        exact ⟨_, rfl, rfl⟩
    · rw [if_neg h1]
      exact ⟨_, rfl, rfl⟩
  obtain ⟨r, e1, e2⟩ := main
  unfold laws_FnExactHalfBlock.f
  rw [e1, e2, Option.bind_some, Option.bind_some, if_pos rfl]
  have e : (r.2 != r.2) = false := by simp
  rw [e]
  split <;> rfl

end Go.Proofs.Ytlohefjigggjiaa.Pure
