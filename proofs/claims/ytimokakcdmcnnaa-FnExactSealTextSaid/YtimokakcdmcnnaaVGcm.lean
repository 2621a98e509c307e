/- Shared lemmas and walks of the AES laws of this seat. -/
import Derived.Test.YtimokakcdmcnnaaVAes3
import Derived.Test.YtimokakcdmcnnaaPImplBx1
import Derived.Test.YtimokakcdmcnnaaPImplBx2
import Derived.Test.YtimokakcdmcnnaaPSpecBx1
import Derived.Test.YtimokakcdmcnnaaPSpecBx2
import Derived.Laws.BitsLemmas
namespace Go.Proofs.YtimokakcdmcnnaaV.Aes
open Go.RowKit Go.Proofs.YtimokakcdmcnnaaV.PrintWords Go.Proofs.YtimokakcdmcnnaaV.PrintLast Go.Proofs.YtimokakcdmcnnaaV.PrintMore Go.Proofs.YtimokakcdmcnnaaV.Mem
set_option linter.unusedVariables false
set_option linter.unusedSimpArgs false

open Go.Proofs.Ytimokakcdmcnnaa.PImplB Go.Proofs.Ytimokakcdmcnnaa.PSpecB
namespace Gcm

def bigN : List Int → Int → Int
  | [], a => a
  | b :: l, a => bigN l (a * 256 + b)
theorem or_toNat (x y : Int) (hx : x % 256 = 0) (h0 : 0 ≤ y) (h1 : y < 256) : ((BitVec.ofInt 64 x ||| BitVec.ofInt 64 y).toNat : Int) = x % 18446744073709551616 + y := by
  obtain ⟨b, rfl⟩ := Int.eq_ofNat_of_zero_le h0
  have hb : b < 2 ^ 8 := by omega
  obtain ⟨X, hX⟩ := Int.eq_ofNat_of_zero_le (show 0 ≤ x % 18446744073709551616 by omega)
  have e1 : (BitVec.ofInt 64 x).toNat = X := by
    rw [BitVec.toNat_ofInt]
    have : (x % ((2 ^ 64 : Nat) : Int)).toNat = X := by
      have h2 : ((2 ^ 64 : Nat) : Int) = 18446744073709551616 := by decide
      rw [h2, hX]; rfl
    exact this
  have e2 : (BitVec.ofInt 64 (b : Int)).toNat = b := by
    rw [BitVec.ofInt_natCast, BitVec.toNat_ofNat]
    omega
  rw [BitVec.toNat_or, e1, e2]
  have hq : X = 2 ^ 8 * (X / 2 ^ 8) := by omega
  rw [hq, ← Nat.two_pow_add_eq_or_of_lt hb (X / 2 ^ 8), ← hq, hX]
  rfl
theorem or_i64 (x y : Int) (hx : x % 256 = 0) (h0 : 0 ≤ y) (h1 : y < 256) : Go.bits .or .i64 x y = wrap64 (x + y) := by
  show IntKind.i64.wrap ((BitVec.ofInt 64 x ||| BitVec.ofInt 64 y).toNat : Int) = _
  rw [or_toNat x y hx h0 h1, IntKind.wrap_i64]
  unfold wrap64
  omega
theorem u64_mod (n : Int) : IntKind.u64.wrap n = n % 18446744073709551616 := by simp [IntKind.wrap, IntKind.bits, IntKind.signed]
theorem or_u64 (x y : Int) (hx : x % 256 = 0) (h0 : 0 ≤ y) (h1 : y < 256) : Go.bits .or .u64 x y = (x + y) % 18446744073709551616 := by
  show IntKind.u64.wrap ((BitVec.ofInt 64 x ||| BitVec.ofInt 64 y).toNat : Int) = _
  rw [or_toNat x y hx h0 h1, u64_mod]
  omega
theorem bytes_drop (s : ByteArray) (i : Nat) (h : i < s.size) : (bytesOf s).drop i = bt s (i : Int) :: (bytesOf s).drop (i + 1) := by
  have hl : i < (bytesOf s).length := by rw [bytesOf_length]; exact h
  rw [List.drop_eq_getElem_cons hl, ← rd_bytesOf]
  simp [rd, List.getD_eq_getElem?_getD, List.getElem?_eq_getElem hl]
theorem bytes_end (s : ByteArray) (i : Nat) (h : s.size ≤ i) : (bytesOf s).drop i = [] := List.drop_eq_nil_of_le (by rw [bytesOf_length]; exact h)
theorem l1big_loop (s : ByteArray) (hn : s.size ≤ 4611686018427387904) : ∀ (d k i : Nat) (a : Int), s.size = i + d → d < k → spec_l1Big.l0 k s (wrap64 a) (i : Int) = some (wrap64 (bigN ((bytesOf s).drop i) a))
  | 0, k, i, a, hd, hk => by
    obtain ⟨k, rfl⟩ : ∃ m, k = m + 1 := ⟨k - 1, by omega⟩
    simp only [spec_l1Big.l0]
    rw [if_neg (by omega), bytes_end s i (by omega)]
    rfl
  | d + 1, k, i, a, hd, hk => by
    obtain ⟨k, rfl⟩ : ∃ m, k = m + 1 := ⟨k - 1, by omega⟩
    have hb := bt_range s (i : Int)
    simp only [spec_l1Big.l0]
    have e : wrap64 ((i : Int) + 1) = ((i + 1 : Nat) : Int) := by unfold wrap64; omega
    have eb : wrap64 (bt s (i : Int)) = bt s (i : Int) := by unfold wrap64; omega
    rw [if_pos (by omega), if_pos (by omega), e, eb, or_i64 _ _ (by unfold wrap64; omega) hb.1 (by omega)]
    rw [show wrap64 (wrap64 (wrap64 a * 256) + bt s (i : Int)) = wrap64 (a * 256 + bt s (i : Int)) by unfold wrap64; omega]
    rw [l1big_loop s hn d k (i + 1) _ (by omega) (by omega), bytes_drop s i (by omega)]
    rfl
theorem l1big_tells (k : Nat) (s : ByteArray) (hn : s.size ≤ 1048576) (hk : 1048576 < k) : spec_l1Big.f k s = some (wrap64 (bigN (bytesOf s) 0)) := by
  have := l1big_loop s (by omega) s.size k 0 0 (by omega) (by omega)
  simpa [spec_l1Big.f, show wrap64 0 = 0 from by decide +kernel] using this
theorem numof_loop (s : ByteArray) (hn : s.size ≤ 4611686018427387904) : ∀ (d k i : Nat) (a : Int), s.size = i + d → d < k → impl_numberOf.l0 k s (a % 18446744073709551616) (s.size : Int) (i : Int) = some ((bigN ((bytesOf s).drop i) a) % 18446744073709551616)
  | 0, k, i, a, hd, hk => by
    obtain ⟨k, rfl⟩ : ∃ m, k = m + 1 := ⟨k - 1, by omega⟩
    simp only [impl_numberOf.l0]
    rw [if_neg (by omega), bytes_end s i (by omega)]
    rfl
  | d + 1, k, i, a, hd, hk => by
    obtain ⟨k, rfl⟩ : ∃ m, k = m + 1 := ⟨k - 1, by omega⟩
    have hb := bt_range s (i : Int)
    simp only [impl_numberOf.l0]
    have e : wrap64 ((i : Int) + 1) = ((i + 1 : Nat) : Int) := by unfold wrap64; omega
    rw [if_pos (by omega), if_pos (by omega), if_pos (by omega), e, u64_mod, u64_mod (bt s (i : Int)), or_u64 _ _ (by omega) (by omega) (by omega)]
    rw [show (a % 18446744073709551616 * 256 % 18446744073709551616 + bt s (i : Int) % 18446744073709551616) % 18446744073709551616 = (a * 256 + bt s (i : Int)) % 18446744073709551616 by omega]
    rw [numof_loop s hn d k (i + 1) _ (by omega) (by omega), bytes_drop s i (by omega)]
    rfl
theorem numof_tells (k : Nat) (s : ByteArray) (hn : s.size ≤ 1048576) (hk : 1048576 < k) : impl_numberOf.f k s = some ((bigN (bytesOf s) 0) % 18446744073709551616) := by
  have := numof_loop s (by omega) s.size k 0 0 (by omega) (by omega)
  simpa [impl_numberOf.f] using this
theorem ext_data (s : ByteArray) (a b : Nat) : (s.extract a b).data.toList = (s.data.toList.take b).drop a := by
  rw [ByteArray.data_extract, List.drop_take]; simp [List.extract_eq_take_drop]
theorem bytes_ext (s : ByteArray) (a b : Nat) : bytesOf (s.extract a b) = ((bytesOf s).take b).drop a := by
  unfold bytesOf
  rw [ext_data, List.map_drop, List.map_take]
theorem size_ext (s : ByteArray) (a b : Nat) (h : b ≤ s.size) : (s.extract a b).size = b - a := by
  have h1 := bytesOf_length (s.extract a b)
  rw [bytes_ext, List.length_drop, List.length_take, bytesOf_length] at h1
  omega
theorem bytes_range (s : ByteArray) (x : Int) (h : x ∈ bytesOf s) : 0 ≤ x ∧ x < 256 := by
  unfold bytesOf at h
  simp only [List.mem_map] at h
  obtain ⟨b, _, rfl⟩ := h
  have := b.toNat_lt
  omega
theorem bytes_str (l : List Int) (h : ∀ x ∈ l, 0 ≤ x ∧ x < 256) : bytesOf (strOfNums l) = l := by
  unfold bytesOf strOfNums
  simp only [List.map_map]
  conv => rhs; rw [← List.map_id l]
  apply List.map_congr_left
  intro x hx
  obtain ⟨h0, h1⟩ := h x hx
  obtain ⟨n, rfl⟩ := Int.eq_ofNat_of_zero_le h0
  simp [UInt8.toNat_ofNat']
  omega
theorem strOf_size (l : List Int) : (strOfNums l).size = l.length := by
  show (List.map _ l).toArray.size = _
  simp
/-- A number's last bytes, so many, the highest first. -/
def be : Nat → Int → List Int
  | 0, _ => []
  | m + 1, n => be m (n / 256) ++ [n % 256]
theorem be_length : ∀ (m : Nat) (n : Int), (be m n).length = m
  | 0, _ => rfl
  | m + 1, n => by simp [be, be_length m]
theorem be_head : ∀ (m : Nat) (n : Int), be (m + 1) n = (n / 256 ^ m % 256) :: be m n
  | 0, n => by simp [be]
  | m + 1, n => by
    have ih := be_head m (n / 256)
    show be (m + 1) (n / 256) ++ [n % 256] = _ :: (be m (n / 256) ++ [n % 256])
    rw [ih, Int.ediv_ediv_of_nonneg (by decide), ← Int.pow_succ']
    rfl
theorem wrap_u64_in (n : Int) (h0 : 0 ≤ n) (h1 : n < 18446744073709551616) : IntKind.u64.wrap n = n := by
  simp [IntKind.wrap, IntKind.bits, IntKind.signed]; omega

theorem bigEndian_loop : ∀ (j k : Nat) (x0 : Int) (tail : List Int), j < k → j ≤ 1000000 → impl_bigEndian.l0 k x0 (List.replicate j 0 ++ tail) ((j : Int) - 1) = some (strOfNums (be j x0 ++ tail))
  | 0, k, x0, tail, hk, _ => by
    obtain ⟨k, rfl⟩ : ∃ m, k = m + 1 := ⟨k - 1, by omega⟩
    simp only [impl_bigEndian.l0]
    rw [if_neg (by decide)]
    simp [be]
  | j + 1, k, x0, tail, hk, hj => by
    obtain ⟨k, rfl⟩ : ∃ m, k = m + 1 := ⟨k - 1, by omega⟩
    simp only [impl_bigEndian.l0]
    have e : ((j + 1 : Nat) : Int) - 1 = (j : Int) := by omega
    rw [e, if_pos (by omega), if_pos (by omega), if_pos (by simp; omega)]
    have e2 : wrap64 ((j : Int) - 1) = (j : Int) - 1 := by unfold wrap64; omega
    have e3 : (List.replicate (j + 1) (0 : Int) ++ tail).set ((j : Int)).toNat (x0 % 256) = List.replicate j 0 ++ ((x0 % 256) :: tail) := by
      rw [Int.toNat_natCast, List.replicate_succ', List.append_assoc, List.set_append_right _ _ (by simp)]
      simp
    rw [e2, e3, bigEndian_loop j k (x0 / 256) _ (by omega) (by omega)]
    simp [be]

theorem bigEndian_tells (k j : Nat) (x0 : Int) (hk : j < k) (hj : j ≤ 1000000) : impl_bigEndian.f k x0 (j : Int) = some (strOfNums (be j x0)) := by
  unfold impl_bigEndian.f
  have e2 : wrap64 ((j : Int) - 1) = (j : Int) - 1 := by unfold wrap64; omega
  rw [if_pos (by omega), if_pos (by omega), e2, Int.toNat_natCast]
  have := bigEndian_loop j k x0 [] hk hj
  simpa using this

theorem fixed_shift (x : Int) (j : Nat) (hj : j ≤ 8) : shr .i64 x (IntKind.u64.wrap (wrap64 (8 * (j : Int)))) = x / 256 ^ j := by
  have e : wrap64 (8 * (j : Int)) = 8 * (j : Int) := by unfold wrap64; omega
  rw [e, wrap_u64_in _ (by omega) (by omega)]
  unfold shr
  have e2 : min (8 * (j : Int)).toNat IntKind.i64.bits = 8 * j := by
    have : (8 * (j : Int)).toNat = 8 * j := by omega
    rw [this]; show min (8 * j) 64 = _; omega
  rw [e2, Int.pow_mul]; rfl

theorem fixed_loop : ∀ (j k : Nat) (x0 : Int) (xs : List Int), j < k → j ≤ 9 → xs.length + j ≤ 1000 → spec_l1Fixed.l0 k x0 xs ((j : Int) - 1) = some (strOfNums (xs ++ be j x0))
  | 0, k, x0, xs, hk, _, _ => by
    obtain ⟨k, rfl⟩ : ∃ m, k = m + 1 := ⟨k - 1, by omega⟩
    simp only [spec_l1Fixed.l0]
    rw [if_neg (by decide)]
    simp [be]
  | j + 1, k, x0, xs, hk, hj, hl => by
    obtain ⟨k, rfl⟩ : ∃ m, k = m + 1 := ⟨k - 1, by omega⟩
    simp only [spec_l1Fixed.l0]
    have e : ((j + 1 : Nat) : Int) - 1 = (j : Int) := by omega
    have e1 : wrap64 (8 * (j : Int)) = 8 * (j : Int) := by unfold wrap64; omega
    have e2 : wrap64 ((j : Int) - 1) = (j : Int) - 1 := by unfold wrap64; omega
    rw [e, if_pos (by omega), if_pos (by rw [e1, wrap_u64_in _ (by omega) (by omega)]; omega), if_pos (by omega), e2, fixed_shift x0 j (by omega)]
    rw [be_head, fixed_loop j k x0 _ (by omega) (by omega) (by simp; omega)]
    simp

theorem fixed_tells (k j : Nat) (x0 : Int) (hk : j < k) (hj : j ≤ 9) : spec_l1Fixed.f k x0 (j : Int) = some (strOfNums (be j x0)) := by
  unfold spec_l1Fixed.f
  have e2 : wrap64 ((j : Int) - 1) = (j : Int) - 1 := by unfold wrap64; omega
  rw [e2, fixed_loop j k x0 [] hk hj (by simp; omega)]
  simp

namespace G128
def RR : Nat := 225 * 2 ^ 120
def X (v : Nat) : Nat := (v / 2) ^^^ (if v % 2 = 1 then RR else 0)
def Xn : Nat → Nat → Nat
  | 0, v => v
  | n + 1, v => Xn n (X v)
theorem RR_lt : RR < 2 ^ 128 := by decide +kernel
theorem X_lt (v : Nat) (h : v < 2 ^ 128) : X v < 2 ^ 128 := by
  unfold X
  apply Nat.xor_lt_two_pow (by omega)
  split
  · exact RR_lt
  · decide
theorem half_xor (a b : Nat) : (a ^^^ b) / 2 = (a / 2) ^^^ (b / 2) := by
  have := Nat.shiftRight_xor_distrib (a := a) (b := b) (i := 1)
  simpa [Nat.shiftRight_eq_div_pow] using this
theorem odd_xor (a b : Nat) : (a ^^^ b) % 2 = (a % 2 + b % 2) % 2 := by
  have h := Nat.testBit_xor a b 0
  simp only [Nat.testBit_zero] at h
  have h1 : a % 2 = 0 ∨ a % 2 = 1 := by omega
  have h2 : b % 2 = 0 ∨ b % 2 = 1 := by omega
  have h3 : (a ^^^ b) % 2 = 0 ∨ (a ^^^ b) % 2 = 1 := by omega
  rcases h1 with h1 | h1 <;> rcases h2 with h2 | h2 <;> rcases h3 with h3 | h3 <;> simp [h1, h2, h3] at h ⊢
theorem X_xor (a b : Nat) : X (a ^^^ b) = X a ^^^ X b := by
  unfold X
  rw [half_xor, odd_xor]
  have h1 : a % 2 = 0 ∨ a % 2 = 1 := by omega
  have h2 : b % 2 = 0 ∨ b % 2 = 1 := by omega
  rcases h1 with h1 | h1 <;> rcases h2 with h2 | h2 <;> simp only [h1, h2]
  · simp
  · simp [Nat.xor_assoc]
  · simp only [if_true, show ¬ (0 = 1) by decide, if_false, Nat.xor_zero]
    rw [Nat.xor_assoc, Nat.xor_assoc, Nat.xor_comm RR]
  · simp only [show ¬ ((1 + 1) % 2 = 1) by decide, if_true, if_false, Nat.xor_zero]
    rw [Nat.xor_assoc, ← Nat.xor_assoc RR, Nat.xor_comm RR, Nat.xor_assoc, Nat.xor_self, Nat.xor_zero]
theorem X_zero : X 0 = 0 := by decide
theorem Xn_xor : ∀ (n a b : Nat), Xn n (a ^^^ b) = Xn n a ^^^ Xn n b
  | 0, _, _ => rfl
  | n + 1, a, b => by
    show Xn n (X (a ^^^ b)) = _
    rw [X_xor, Xn_xor n]; rfl
theorem Xn_zero : ∀ n, Xn n 0 = 0
  | 0 => rfl
  | n + 1 => by show Xn n (X 0) = 0; rw [X_zero, Xn_zero n]
theorem Xn_add : ∀ (n m v : Nat), Xn n (Xn m v) = Xn (m + n) v
  | n, 0, v => by rw [Nat.zero_add]; rfl
  | n, m + 1, v => by
    show Xn n (Xn m (X v)) = _
    rw [Xn_add n m, show m + 1 + n = (m + n) + 1 by omega]; rfl
/-- Sums. -/
def sum : Nat → (Nat → Nat) → Nat
  | 0, _ => 0
  | n + 1, f => sum n f ^^^ f n
theorem sum_zero : ∀ n, sum n (fun _ => 0) = 0
  | 0 => rfl
  | n + 1 => by show sum n (fun _ => 0) ^^^ 0 = 0; rw [sum_zero n]; rfl
theorem xor4 (a b c d : Nat) : (a ^^^ b) ^^^ (c ^^^ d) = (a ^^^ c) ^^^ (b ^^^ d) := by
  rw [Nat.xor_assoc, ← Nat.xor_assoc b, Nat.xor_comm b c, Nat.xor_assoc c, ← Nat.xor_assoc]
theorem sum_xor : ∀ (n : Nat) (f g : Nat → Nat), sum n (fun i => f i ^^^ g i) = sum n f ^^^ sum n g
  | 0, _, _ => by simp [sum]
  | n + 1, f, g => by
    show sum n (fun i => f i ^^^ g i) ^^^ (f n ^^^ g n) = (sum n f ^^^ f n) ^^^ (sum n g ^^^ g n)
    rw [sum_xor n, xor4]
theorem sum_congr : ∀ (n : Nat) (f g : Nat → Nat), (∀ i, i < n → f i = g i) → sum n f = sum n g
  | 0, _, _, _ => rfl
  | n + 1, f, g, h => by
    show sum n f ^^^ f n = sum n g ^^^ g n
    rw [sum_congr n f g (fun i hi => h i (by omega)), h n (by omega)]
theorem sum_swap : ∀ (n m : Nat) (f : Nat → Nat → Nat), sum n (fun i => sum m (fun j => f i j)) = sum m (fun j => sum n (fun i => f i j))
  | 0, m, f => (sum_zero m).symm
  | n + 1, m, f => by
    show sum n (fun i => sum m (fun j => f i j)) ^^^ sum m (fun j => f n j) = sum m (fun j => sum n (fun i => f i j) ^^^ f n j)
    rw [sum_swap n m f, sum_xor]
theorem sum_lin (F : Nat → Nat) (h0 : F 0 = 0) (hx : ∀ a b, F (a ^^^ b) = F a ^^^ F b) : ∀ (n : Nat) (f : Nat → Nat), F (sum n f) = sum n (fun i => F (f i))
  | 0, _ => h0
  | n + 1, f => by
    show F (sum n f ^^^ f n) = sum n (fun i => F (f i)) ^^^ F (f n)
    rw [hx, sum_lin F h0 hx n]
/-- Bit i from the left. -/
def bit (v i : Nat) : Bool := v.testBit (127 - i)
theorem pow_X : ∀ i : Fin 128, Xn i.val (2 ^ 127) = 2 ^ (127 - i.val) := by decide +kernel
theorem testBit_parts (v : Nat) : ∀ (n : Nat), n ≤ 128 → ∀ k, (sum n (fun j => if bit v j then 2 ^ (127 - j) else 0)).testBit k = (decide (k ≤ 127 ∧ 127 - k < n) && v.testBit k)
  | 0, _, k => by simp [sum]
  | n + 1, hn, k => by
    show ((sum n _) ^^^ (if bit v n then 2 ^ (127 - n) else 0)).testBit k = _
    rw [Nat.testBit_xor, testBit_parts v n (by omega) k]
    have hb : (if bit v n = true then 2 ^ (127 - n) else 0).testBit k = (bit v n && decide (k = 127 - n)) := by
      by_cases h : bit v n = true
      · rw [if_pos h, h, Nat.testBit_two_pow]
        simp [eq_comm]
      · rw [if_neg h]
        simp [Bool.eq_false_iff.mpr h]
    rw [hb]
    by_cases e : k = 127 - n
    · subst e
      have h1 : ¬ (127 - (127 - n) < n) := by omega
      have h2 : 127 - (127 - n) < n + 1 := by omega
      have h3 : (127 - n) ≤ 127 := by omega
      simp [h1, h2, h3, bit]
    · have h1 : (k ≤ 127 ∧ 127 - k < n + 1) ↔ (k ≤ 127 ∧ 127 - k < n) := by omega
      simp [h1, e]
theorem parts (v : Nat) (h : v < 2 ^ 128) : sum 128 (fun j => if bit v j then 2 ^ (127 - j) else 0) = v := by
  apply Nat.eq_of_testBit_eq
  intro k
  rw [testBit_parts v 128 (Nat.le_refl _) k]
  by_cases hk : k ≤ 127
  · have : 127 - k < 128 := by omega
    simp [hk, this]
  · have : v.testBit k = false := Nat.testBit_lt_two_pow (Nat.lt_of_lt_of_le h (Nat.pow_le_pow_right (by decide) (by omega)))
    simp [hk, this]
/-- The product, as the loops reckon it: from bit i on, d bits. -/
def mulR : Nat → Nat → Nat → Nat → Nat → Nat
  | 0, _, _, _, o => o
  | d + 1, i, p, q, o => mulR d (i + 1) (X p) q (if bit q i then o ^^^ p else o)
theorem mulR_sum : ∀ (d i p q o : Nat), mulR d i p q o = o ^^^ sum d (fun j => if bit q (i + j) then Xn j p else 0)
  | 0, _, _, _, o => by simp [mulR, sum]
  | d + 1, i, p, q, o => by
    show mulR d (i + 1) (X p) q _ = _
    rw [mulR_sum d (i + 1) (X p) q]
    have hs : ∀ (n : Nat) (f : Nat → Nat), sum (n + 1) f = f 0 ^^^ sum n (fun j => f (j + 1)) := by
      intro n f
      induction n with
      | zero => simp [sum]
      | succ n ih =>
        show sum (n + 1) f ^^^ f (n + 1) = _
        rw [ih, Nat.xor_assoc]; rfl
    rw [hs d]
    have e1 : sum d (fun j => if bit q (i + 1 + j) then Xn j (X p) else 0) = sum d (fun j => if bit q (i + (j + 1)) then Xn (j + 1) p else 0) := by
      apply sum_congr
      intro j _
      rw [show i + 1 + j = i + (j + 1) by omega]; rfl
    rw [e1]
    show (if bit q i = true then o ^^^ p else o) ^^^ _ = o ^^^ ((if bit q (i + 0) = true then Xn 0 p else 0) ^^^ _)
    rw [Nat.add_zero]
    by_cases h : bit q i = true
    · rw [if_pos h, if_pos h, Nat.xor_assoc]; rfl
    · rw [if_neg h, if_neg h, Nat.zero_xor]
theorem mulR_double (p q : Nat) (hp : p < 2 ^ 128) : mulR 128 0 p q 0 = sum 128 (fun i => sum 128 (fun j => if bit q i ∧ bit p j then Xn (i + j) (2 ^ 127) else 0)) := by
  rw [mulR_sum, Nat.zero_xor]
  apply sum_congr
  intro i _
  rw [Nat.zero_add]
  by_cases h : bit q i = true
  · rw [if_pos h]
    conv => lhs; rw [← parts p hp]
    rw [sum_lin (Xn i) (Xn_zero i) (Xn_xor i)]
    apply sum_congr
    intro j hj
    by_cases h2 : bit p j = true
    · rw [if_pos h2, if_pos ⟨h, h2⟩, ← pow_X ⟨j, hj⟩, Xn_add]
      rw [Nat.add_comm]
    · rw [if_neg h2, if_neg (fun h3 => h2 h3.2), Xn_zero]
  · rw [if_neg h]
    refine (sum_zero 128).symm.trans (sum_congr 128 _ _ fun j _ => ?_)
    rw [if_neg (fun h3 => h h3.1)]
theorem mul_comm (p q : Nat) (hp : p < 2 ^ 128) (hq : q < 2 ^ 128) : mulR 128 0 p q 0 = mulR 128 0 q p 0 := by
  rw [mulR_double p q hp, mulR_double q p hq, sum_swap]
  apply sum_congr
  intro i _
  apply sum_congr
  intro j _
  rw [Nat.add_comm]
  by_cases h : bit q j = true ∧ bit p i = true
  · rw [if_pos h, if_pos ⟨h.2, h.1⟩]
  · rw [if_neg h, if_neg (fun h2 => h ⟨h2.2, h2.1⟩)]
end G128
theorem bits_xor_nat (k : IntKind) (j : Nat) (hj : j ≤ k.bits) (hk : ∀ n : Int, 0 ≤ n → n < 2 ^ j → k.wrap n = n) (a b : Nat) (ha : a < 2 ^ j) (hb : b < 2 ^ j) :
    Go.bits .xor k a b = ((a ^^^ b : Nat) : Int) := by
  have hp : 2 ^ j ≤ 2 ^ k.bits := Nat.pow_le_pow_right (by decide) hj
  have ha' : a % 2 ^ k.bits = a := Nat.mod_eq_of_lt (Nat.lt_of_lt_of_le ha hp)
  have hb' : b % 2 ^ k.bits = b := Nat.mod_eq_of_lt (Nat.lt_of_lt_of_le hb hp)
  have cast : ∀ n : Nat, n < 2 ^ j → ((n : Nat) : Int) < 2 ^ j := fun n h => by exact_mod_cast h
  simp only [Go.bits, BitVec.ofInt_natCast, BitVec.toNat_xor, BitVec.toNat_ofNat, ha', hb']
  exact hk _ (Int.natCast_nonneg _) (cast _ (Nat.xor_lt_two_pow ha hb))
theorem wraps_u64 (n : Int) (h0 : 0 ≤ n) (h1 : n < 2 ^ 64) : IntKind.u64.wrap n = n := by rw [u64_mod]; omega
theorem xor_u64 (a b : Nat) (ha : a < 2 ^ 64) (hb : b < 2 ^ 64) : Go.bits .xor .u64 a b = ((a ^^^ b : Nat) : Int) := bits_xor_nat .u64 64 (by decide) wraps_u64 a b ha hb
theorem and1_u64 (a : Nat) (ha : a < 2 ^ 64) : Go.bits .and .u64 a 1 = ((a % 2 : Nat) : Int) := by
  rw [show (1 : Int) = 2 ^ 1 - 1 from rfl, bits_mask .u64 64 (by decide) wraps_u64 1 (by decide) a (by omega) (by omega)]; omega
theorem or_half (h l : Nat) (hh : h < 2 ^ 64) (hl : l < 2 ^ 64) : Go.bits .or .u64 ((l : Int) / 2) (IntKind.u64.wrap ((h : Int) * 9223372036854775808)) = ((l / 2 + h % 2 * 2 ^ 63 : Nat) : Int) := by
  have e1 : (l : Int) / 2 = ((l / 2 : Nat) : Int) := by omega
  have e2 : IntKind.u64.wrap ((h : Int) * 9223372036854775808) = ((h % 2 * 2 ^ 63 : Nat) : Int) := by rw [u64_mod]; omega
  rw [e1, e2, (bits_nat .u64 64 (by decide) wraps_u64 (l / 2) (h % 2 * 2 ^ 63) (by omega) (by omega)).2]
  have h3 : l / 2 < 2 ^ 63 := by omega
  have := Nat.two_pow_add_eq_or_of_lt h3 (h % 2)
  rw [Nat.or_comm, Nat.mul_comm, ← this, Nat.add_comm]
/-- Two words as one number. -/
def J (h l : Nat) : Nat := h * 2 ^ 64 + l
theorem J_zero : J 0 0 = 0 := rfl
theorem J_lt (h l : Nat) (hh : h < 2 ^ 64) (hl : l < 2 ^ 64) : J h l < 2 ^ 128 := by unfold J; omega
theorem J_inj (h l h' l' : Nat) (hl : l < 2 ^ 64) (hl' : l' < 2 ^ 64) (e : J h l = J h' l') : h = h' ∧ l = l' := by unfold J at e; omega
theorem J_test (h l : Nat) (hl : l < 2 ^ 64) (j : Nat) : (J h l).testBit j = if j < 64 then l.testBit j else h.testBit (j - 64) := by
  unfold J
  rw [Nat.mul_comm]
  exact Nat.testBit_two_pow_mul_add h hl j
theorem J_xor (a b c d : Nat) (hb : b < 2 ^ 64) (hd : d < 2 ^ 64) : J a b ^^^ J c d = J (a ^^^ c) (b ^^^ d) := by
  apply Nat.eq_of_testBit_eq
  intro j
  rw [Nat.testBit_xor, J_test _ _ hb, J_test _ _ hd, J_test _ _ (Nat.xor_lt_two_pow hb hd)]
  by_cases h : j < 64
  · simp only [if_pos h, Nat.testBit_xor]
  · simp only [if_neg h, Nat.testBit_xor]
theorem J_X (h l : Nat) (hh : h < 2 ^ 64) (hl : l < 2 ^ 64) : G128.X (J h l) = J ((h / 2) ^^^ (if l % 2 = 1 then 16212958658533785600 else 0)) (l / 2 + h % 2 * 2 ^ 63) := by
  unfold G128.X
  have e1 : J h l / 2 = J (h / 2) (l / 2 + h % 2 * 2 ^ 63) := by unfold J; omega
  have e2 : J h l % 2 = l % 2 := by unfold J; omega
  have e3 : (if l % 2 = 1 then G128.RR else 0) = J (if l % 2 = 1 then 16212958658533785600 else 0) 0 := by
    split
    · unfold J G128.RR; decide
    · rfl
  rw [e1, e2, e3, J_xor _ _ _ _ (by omega) (by decide), Nat.xor_zero]
theorem bit_J (h l i : Nat) (hl : l < 2 ^ 64) (hi : i < 128) : G128.bit (J h l) i = if i ≤ 63 then h.testBit (63 - i) else l.testBit (127 - i) := by
  unfold G128.bit
  rw [J_test _ _ hl]
  by_cases h1 : i ≤ 63
  · rw [if_pos h1, if_neg (by omega)]
    congr 1; omega
  · rw [if_neg h1, if_pos (by omega)]
theorem shr_test (x : Nat) (n : Nat) (hn : n ≤ 64) (hx : x < 2 ^ 64) : (Go.bits .and .u64 (shr .u64 (x : Int) (n : Int)) 1 = 1) = (x.testBit n = true) := by
  have e : shr .u64 (x : Int) (n : Int) = ((x / 2 ^ n : Nat) : Int) := by
    unfold shr
    rw [Int.toNat_natCast, Nat.min_eq_left (by exact hn)]
    simp
  rw [e, and1_u64 _ (Nat.lt_of_le_of_lt (Nat.div_le_self _ _) hx), Nat.testBit_eq_decide_div_mod_eq]
  apply propext
  rw [decide_eq_true_iff]
  generalize x / 2 ^ n = y
  omega
theorem byX_tells (h l : Nat) (hh : h < 2 ^ 64) (hl : l < 2 ^ 64) : ∃ h' l' : Nat, h' < 2 ^ 64 ∧ l' < 2 ^ 64 ∧ impl_poly_byX.f (h : Int) (l : Int) = some ((h' : Int), (l' : Int)) ∧ J h' l' = G128.X (J h l) := by
  have hx := J_X h l hh hl
  have hd : (h : Int) / 2 = ((h / 2 : Nat) : Int) := by omega
  unfold impl_poly_byX.f
  rw [and1_u64 l hl, or_half h l hh hl, hd]
  by_cases hb : l % 2 = 1
  · rw [if_pos (by omega)]
    rw [if_pos hb] at hx
    refine ⟨_, _, ?_, ?_, ?_, hx.symm⟩
    · exact Nat.xor_lt_two_pow (by omega) (by decide)
    · omega
    · rw [show (16212958658533785600 : Int) = ((16212958658533785600 : Nat) : Int) from rfl, xor_u64 _ _ (by omega) (by decide)]
  · rw [if_neg (by omega)]
    rw [if_neg hb, Nat.xor_zero] at hx
    exact ⟨_, _, by omega, by omega, rfl, hx.symm⟩
theorem pxor_tells (a b c d : Nat) (ha : a < 2 ^ 64) (hb : b < 2 ^ 64) (hc : c < 2 ^ 64) (hd : d < 2 ^ 64) : ∃ h l : Nat, h < 2 ^ 64 ∧ l < 2 ^ 64 ∧ impl_poly_xor.f (a : Int) (b : Int) (c : Int) (d : Int) = some ((h : Int), (l : Int)) ∧ J h l = J a b ^^^ J c d := by
  refine ⟨a ^^^ c, b ^^^ d, Nat.xor_lt_two_pow ha hc, Nat.xor_lt_two_pow hb hd, ?_, (J_xor a b c d hb hd).symm⟩
  unfold impl_poly_xor.f
  rw [xor_u64 a c ha hc, xor_u64 b d hb hd]
theorem mulR_succ (d i p q o : Nat) : G128.mulR (d + 1) i p q o = G128.mulR d (i + 1) (G128.X p) q (if G128.bit q i then o ^^^ p else o) := rfl
theorem i_mod (i : Nat) : Int.tmod (i : Int) 64 = ((i % 64 : Nat) : Int) := by rw [Int.tmod_eq_emod_of_nonneg (by omega)]; omega
theorem i_sub (i : Nat) : wrap64 (63 - ((i % 64 : Nat) : Int)) = ((63 - i % 64 : Nat) : Int) := by unfold wrap64; omega
theorem i_next (i : Nat) (h : i ≤ 128) : wrap64 ((i : Int) + 1) = ((i + 1 : Nat) : Int) := by unfold wrap64; omega
theorem times_loop : ∀ (d k i ph pl qh ql oh ol : Nat), i + d = 128 → 2 * d < k → ph < 2 ^ 64 → pl < 2 ^ 64 → qh < 2 ^ 64 → ql < 2 ^ 64 → oh < 2 ^ 64 → ol < 2 ^ 64 →
    ∃ rh rl : Nat, rh < 2 ^ 64 ∧ rl < 2 ^ 64 ∧ impl_poly_times.l0 k (i : Int) (ph : Int) (pl : Int) (qh : Int) (ql : Int) (oh : Int) (ol : Int) = some ((rh : Int), (rl : Int)) ∧ J rh rl = G128.mulR d i (J ph pl) (J qh ql) (J oh ol)
  | 0, k, i, ph, pl, qh, ql, oh, ol, hi, hk, _, _, _, _, h5, h6 => by
    obtain ⟨k, rfl⟩ : ∃ m, k = m + 1 := ⟨k - 1, by omega⟩
    refine ⟨oh, ol, h5, h6, ?_, rfl⟩
    simp only [impl_poly_times.l0]
    rw [if_neg (by omega)]
  | d + 1, k, i, ph, pl, qh, ql, oh, ol, hi, hk, h1, h2, h3, h4, h5, h6 => by
    obtain ⟨k, rfl⟩ : ∃ m, k = m + 2 := ⟨k - 2, by omega⟩
    have s1 : i + 1 + d = 128 := by omega
    have s2 : 2 * d < k := by omega
    have e2 := i_next i (by omega)
    have hbit := bit_J qh ql i h4 (by omega)
    have step : ∀ (x : Int), (Go.bits .and .u64 x 1 = 1) = (G128.bit (J qh ql) i = true) →
        ∃ rh rl : Nat, rh < 2 ^ 64 ∧ rl < 2 ^ 64 ∧ impl_poly_times.j1 (k + 1) x (i : Int) (ph : Int) (pl : Int) (qh : Int) (ql : Int) (oh : Int) (ol : Int) = some ((rh : Int), (rl : Int)) ∧ J rh rl = G128.mulR (d + 1) i (J ph pl) (J qh ql) (J oh ol) := by
      intro x hx
      obtain ⟨xh, xl, x1, x2, x3, x4⟩ := byX_tells ph pl h1 h2
      obtain ⟨yh, yl, y1, y2, y3, y4⟩ := pxor_tells oh ol ph pl h5 h6 h1 h2
      simp only [impl_poly_times.j1]
      rw [x3, y3]
      dsimp only [Option.bind_some]
      rw [e2]
      rw [mulR_succ]
      by_cases hb : G128.bit (J qh ql) i = true
      · rw [if_pos (by rw [hx]; exact hb), if_pos hb, ← x4, ← y4]
        exact times_loop d k (i + 1) xh xl qh ql yh yl s1 s2 x1 x2 h3 h4 y1 y2
      · rw [if_neg (by rw [hx]; exact hb), if_neg hb, ← x4]
        exact times_loop d k (i + 1) xh xl qh ql oh ol s1 s2 x1 x2 h3 h4 h5 h6
    simp only [impl_poly_times.l0]
    rw [i_mod, i_sub, if_pos (by omega), if_pos (by omega)]
    by_cases hb : i ≤ 63
    · rw [if_neg (by omega)]
      refine step _ ?_
      rw [shr_test qh _ (by omega) h3, hbit, if_pos hb]
      congr 2; omega
    · rw [if_pos (by omega)]
      refine step _ ?_
      rw [shr_test ql _ (by omega) h4, hbit, if_neg hb]
      congr 2; omega
theorem times_tells (k ph pl qh ql : Nat) (hk : 256 < k) (h1 : ph < 2 ^ 64) (h2 : pl < 2 ^ 64) (h3 : qh < 2 ^ 64) (h4 : ql < 2 ^ 64) :
    ∃ rh rl : Nat, rh < 2 ^ 64 ∧ rl < 2 ^ 64 ∧ impl_poly_times.f k (ph : Int) (pl : Int) (qh : Int) (ql : Int) = some ((rh : Int), (rl : Int)) ∧ J rh rl = G128.mulR 128 0 (J ph pl) (J qh ql) 0 := by
  obtain ⟨rh, rl, r1, r2, r3, r4⟩ := times_loop 128 k 0 ph pl qh ql 0 0 (by decide) (by omega) h1 h2 h3 h4 (by decide) (by decide)
  rw [J_zero] at r4
  exact ⟨rh, rl, r1, r2, r3, r4⟩
theorem u64_nonneg (x : Int) : 0 ≤ IntKind.u64.wrap x := by rw [u64_mod]; omega
theorem i_63 (i : Nat) (h : i ≤ 63) : IntKind.u64.wrap (wrap64 (63 - (i : Int))) = ((63 - i : Nat) : Int) := by
  have e : wrap64 (63 - (i : Int)) = ((63 - i : Nat) : Int) := by unfold wrap64; omega
  rw [e, wraps_u64 _ (by omega) (by omega)]
theorem i_127 (i : Nat) (h : i < 128) : IntKind.u64.wrap (wrap64 (127 - (i : Int))) = ((127 - i : Nat) : Int) := by
  have e : wrap64 (127 - (i : Int)) = ((127 - i : Nat) : Int) := by unfold wrap64; omega
  rw [e, wraps_u64 _ (by omega) (by omega)]
theorem not_gt63 (i : Nat) (h : i ≤ 63) : ¬ ((i : Int) > 63) := by omega
theorem gt63 (i : Nat) (h : ¬ i ≤ 63) : (i : Int) > 63 := by omega
theorem sub127 (i : Nat) (h : ¬ i ≤ 63) : 127 - i ≤ 64 := by omega
theorem lt_of_cast (i : Nat) (h : (i : Int) < 128) : i < 128 := by omega
theorem odd_cast (n : Nat) : (((n % 2 : Nat) : Int) = 1) = (n % 2 = 1) := by apply propext; omega
theorem smul_loop : ∀ (d k i ph pl qh ql oh ol : Nat), i + d = 128 → 2 * d < k → ph < 2 ^ 64 → pl < 2 ^ 64 → qh < 2 ^ 64 → ql < 2 ^ 64 → oh < 2 ^ 64 → ol < 2 ^ 64 →
    ∃ rh rl : Nat, rh < 2 ^ 64 ∧ rl < 2 ^ 64 ∧ spec_l5Mul.l0 k (i : Int) (qh : Int) (ql : Int) (ph : Int) (pl : Int) (oh : Int) (ol : Int) = some ((rh : Int), (rl : Int)) ∧ J rh rl = G128.mulR d i (J ph pl) (J qh ql) (J oh ol)
  | 0, k, i, ph, pl, qh, ql, oh, ol, hi, hk, _, _, _, _, h5, h6 => by
    obtain ⟨k, rfl⟩ : ∃ m, k = m + 1 := ⟨k - 1, by omega⟩
    refine ⟨oh, ol, h5, h6, ?_, rfl⟩
    simp only [spec_l5Mul.l0]
    rw [if_neg (by omega)]
  | d + 1, k, i, ph, pl, qh, ql, oh, ol, hi, hk, h1, h2, h3, h4, h5, h6 => by
    obtain ⟨k, rfl⟩ : ∃ m, k = m + 2 := ⟨k - 2, by omega⟩
    have s1 : i + 1 + d = 128 := by omega
    have s2 : 2 * d < k := by omega
    have hd : (ph : Int) / 2 = ((ph / 2 : Nat) : Int) := by omega
    have hi128 : i < 128 := by omega
    have hlt : ((i : Nat) : Int) < 128 := by omega
    have hle128 : i ≤ 128 := by omega
    have p1 : ph / 2 < 2 ^ 64 := by omega
    have e2 := i_next i hle128
    have hbit := bit_J qh ql i h4 hi128
    have p1 : ph / 2 < 2 ^ 64 := by omega
    have p3 : pl / 2 + ph % 2 * 2 ^ 63 < 2 ^ 64 := by omega
    have step : ∀ (x : Int), (Go.bits .and .u64 x 1 = 1) = (G128.bit (J qh ql) i = true) →
        ∃ rh rl : Nat, rh < 2 ^ 64 ∧ rl < 2 ^ 64 ∧ spec_l5Mul.j1 (k + 1) (i : Int) x (qh : Int) (ql : Int) (ph : Int) (pl : Int) (oh : Int) (ol : Int) = some ((rh : Int), (rl : Int)) ∧ J rh rl = G128.mulR (d + 1) i (J ph pl) (J qh ql) (J oh ol) := by
      intro x hxx
      have o1 : oh ^^^ ph < 2 ^ 64 := Nat.xor_lt_two_pow h5 h1
      have o2 : ol ^^^ pl < 2 ^ 64 := Nat.xor_lt_two_pow h6 h2
      have p2 : (ph / 2) ^^^ 16212958658533785600 < 2 ^ 64 := Nat.xor_lt_two_pow p1 (by decide)
      have hxo : J (oh ^^^ ph) (ol ^^^ pl) = J oh ol ^^^ J ph pl := (J_xor _ _ _ _ h6 h2).symm
      simp only [spec_l5Mul.j1]
      rw [and1_u64 pl h2, or_half ph pl h1 h2, hd, e2, xor_u64 oh ph h5 h1, xor_u64 ol pl h6 h2, show (16212958658533785600 : Int) = ((16212958658533785600 : Nat) : Int) from rfl, xor_u64 (ph / 2) 16212958658533785600 p1 (by decide)]
      rw [mulR_succ, J_X ph pl h1 h2]
      by_cases hb : G128.bit (J qh ql) i = true
      · rw [if_pos (by rw [hxx]; exact hb), if_pos hb, ← hxo]
        by_cases hp : pl % 2 = 1
        · rw [if_pos (Eq.mpr (odd_cast pl) hp), if_pos hp]
          exact smul_loop d k (i + 1) _ _ qh ql _ _ s1 s2 p2 p3 h3 h4 o1 o2
        · rw [if_neg (fun h => hp (Eq.mp (odd_cast pl) h)), if_neg hp, Nat.xor_zero]
          exact smul_loop d k (i + 1) _ _ qh ql _ _ s1 s2 p1 p3 h3 h4 o1 o2
      · rw [if_neg (by rw [hxx]; exact hb), if_neg hb]
        by_cases hp : pl % 2 = 1
        · rw [if_pos (Eq.mpr (odd_cast pl) hp), if_pos hp]
          exact smul_loop d k (i + 1) _ _ qh ql _ _ s1 s2 p2 p3 h3 h4 h5 h6
        · rw [if_neg (fun h => hp (Eq.mp (odd_cast pl) h)), if_neg hp, Nat.xor_zero]
          exact smul_loop d k (i + 1) _ _ qh ql _ _ s1 s2 p1 p3 h3 h4 h5 h6
    clear hi hk hd p1 p3 s1 s2
    simp only [spec_l5Mul.l0]
    rw [if_pos hlt, if_pos (u64_nonneg _)]
    by_cases hb : i ≤ 63
    · rw [if_neg (not_gt63 i hb), i_63 i hb]
      refine step _ ?_
      rw [shr_test qh _ (Nat.le_trans (Nat.sub_le 63 i) (by decide)) h3, hbit, if_pos hb]
    · rw [if_pos (gt63 i hb), if_pos (u64_nonneg _), i_127 i (lt_of_cast i hlt)]
      refine step _ ?_
      rw [shr_test ql _ (sub127 i hb) h4, hbit, if_neg hb]
/-- Both products are one. -/
theorem mul_both (k ph pl qh ql : Nat) (hk : 256 < k) (h1 : ph < 2 ^ 64) (h2 : pl < 2 ^ 64) (h3 : qh < 2 ^ 64) (h4 : ql < 2 ^ 64) :
    ∃ rh rl : Nat, rh < 2 ^ 64 ∧ rl < 2 ^ 64 ∧ impl_poly_times.f k (ph : Int) (pl : Int) (qh : Int) (ql : Int) = some ((rh : Int), (rl : Int)) ∧ spec_l5Mul.f k (ph : Int) (pl : Int) (qh : Int) (ql : Int) = some ((rh : Int), (rl : Int)) := by
  have hk2 : 2 * 128 < k := by omega
  obtain ⟨rh, rl, r1, r2, r3, r4⟩ := times_tells k ph pl qh ql hk h1 h2 h3 h4
  obtain ⟨sh, sl, s1, s2, s3, s4⟩ := smul_loop 128 k 0 qh ql ph pl 0 0 (by decide) hk2 h3 h4 h1 h2 (by decide) (by decide)
  rw [J_zero] at s4
  have e : J rh rl = J sh sl := by rw [r4, s4]; exact G128.mul_comm _ _ (J_lt _ _ h1 h2) (J_lt _ _ h3 h4)
  obtain ⟨rfl, rfl⟩ := J_inj _ _ _ _ r2 s2 e
  exact ⟨rh, rl, r1, r2, r3, s3⟩
theorem bigN_acc : ∀ (l : List Int) (a : Int), bigN l a = a * 256 ^ l.length + bigN l 0
  | [], a => by simp [bigN]
  | b :: l, a => by
    show bigN l (a * 256 + b) = _ + bigN l (0 * 256 + b)
    rw [bigN_acc l (a * 256 + b), bigN_acc l (0 * 256 + b), List.length_cons, Int.pow_succ, Int.zero_mul, Int.zero_add]
    rw [show a * (256 ^ l.length * 256) = a * 256 * 256 ^ l.length by rw [Int.mul_comm (256 ^ l.length) 256, Int.mul_assoc], Int.add_mul]
    omega
theorem bigN_bound : ∀ (l : List Int), (∀ x ∈ l, 0 ≤ x ∧ x < 256) → 0 ≤ bigN l 0 ∧ bigN l 0 < 256 ^ l.length
  | [], _ => by simp [bigN]
  | b :: l, h => by
    have hb := h b (by simp)
    have ih := bigN_bound l (fun x hx => h x (by simp [hx]))
    have e : bigN (b :: l) 0 = b * 256 ^ l.length + bigN l 0 := by
      show bigN l (0 * 256 + b) = _
      rw [bigN_acc, Int.zero_mul, Int.zero_add]
    have hp : (0 : Int) < 256 ^ l.length := Int.pow_pos (by decide)
    have h1 : 0 ≤ b * 256 ^ l.length := Int.mul_nonneg hb.1 (Int.le_of_lt hp)
    have h2 : (b + 1) * 256 ^ l.length ≤ 256 * 256 ^ l.length := Int.mul_le_mul_of_nonneg_right (by omega) (Int.le_of_lt hp)
    rw [Int.add_mul] at h2
    rw [e, List.length_cons, Int.pow_succ, Int.mul_comm (256 ^ l.length) 256]
    omega
/-- A block's two words, as both read them. -/
theorem of_both (k : Nat) (hk : 1048576 < k) (s : ByteArray) (h : s.size = 16) : ∃ a b : Nat, a < 2 ^ 64 ∧ b < 2 ^ 64 ∧ impl_polyOf.f k s = some ((a : Int), (b : Int)) ∧ spec_l5Of.f k s = some ((a : Int), (b : Int)) := by
  have part : ∀ (x y : Nat), y = x + 8 → y ≤ 16 → ∃ a : Nat, a < 2 ^ 64 ∧ impl_numberOf.f k (s.extract x y) = some (a : Int) ∧ ∃ t, spec_l1Big.f k (s.extract x y) = some t ∧ IntKind.u64.wrap t = (a : Int) := by
    intro x y hxy hy
    have hz : (s.extract x y).size = 8 := by rw [size_ext s x y (by omega)]; omega
    have hb := bigN_bound _ (bytes_range (s.extract x y))
    rw [bytesOf_length, hz] at hb
    obtain ⟨a, ha⟩ := Int.eq_ofNat_of_zero_le hb.1
    rw [ha] at hb
    refine ⟨a, by omega, ?_, _, l1big_tells k _ (by omega) hk, ?_⟩
    · rw [numof_tells k _ (by omega) hk, ha]
      congr 1; omega
    · rw [ha, u64_mod]; unfold wrap64; omega
  obtain ⟨a, a1, a2, ta, a3, a4⟩ := part 0 8 (by decide) (by decide)
  obtain ⟨b, b1, b2, tb, b3, b4⟩ := part 8 16 (by decide) (by decide)
  refine ⟨a, b, a1, b1, ?_, ?_⟩
  · unfold impl_polyOf.f
    rw [if_pos (by decide), if_pos (by omega), h, a2, b2]; rfl
  · unfold spec_l5Of.f
    rw [if_pos (by decide), if_pos (by omega), h, a3, b3, Option.bind_some, Option.bind_some, a4, b4]
theorem be_shift : ∀ (m : Nat) (x c : Int), be m (x + 256 ^ m * c) = be m x
  | 0, _, _ => rfl
  | m + 1, x, c => by
    show be m ((x + 256 ^ (m + 1) * c) / 256) ++ [(x + 256 ^ (m + 1) * c) % 256] = be m (x / 256) ++ [x % 256]
    have e : (256 : Int) ^ (m + 1) * c = 256 * (256 ^ m * c) := by rw [Int.pow_succ', Int.mul_assoc]
    rw [e, Int.add_mul_ediv_left _ _ (by decide), Int.add_mul_emod_self_left, be_shift m]
theorem wrap_shift (n : Nat) (h : n < 2 ^ 64) : ∃ c : Int, wrap64 (n : Int) = n + 256 ^ 8 * c := by
  have e : (256 : Int) ^ 8 = 18446744073709551616 := by decide
  rw [e]
  by_cases g : n < 2 ^ 63
  · exact ⟨0, by unfold wrap64; omega⟩
  · exact ⟨-1, by unfold wrap64; omega⟩
theorem be_wrap (n : Nat) (h : n < 2 ^ 64) : be 8 (wrap64 (n : Int)) = be 8 (n : Int) := by
  obtain ⟨c, e⟩ := wrap_shift n h
  rw [e, be_shift]
theorem told_both (k : Nat) (hk : 9 < k) (a b : Nat) (ha : a < 2 ^ 64) (hb : b < 2 ^ 64) : ∃ t, impl_poly_text.f k (a : Int) (b : Int) = some t ∧ spec_l5Told.f k (a : Int) (b : Int) = some t := by
  have f1 := fixed_tells k 8 (wrap64 (a : Int)) (by omega) (by decide)
  have f2 := fixed_tells k 8 (wrap64 (b : Int)) (by omega) (by decide)
  have b1 := bigEndian_tells k 8 (a : Int) (by omega) (by decide)
  have b2 := bigEndian_tells k 8 (b : Int) (by omega) (by decide)
  rw [be_wrap a ha] at f1
  rw [be_wrap b hb] at f2
  rw [show ((8 : Nat) : Int) = 8 from rfl] at f1 f2 b1 b2
  have z1 : (strOfNums (be 8 (a : Int))).size = 8 := by rw [strOf_size, be_length]
  have z2 : (strOfNums (be 8 (b : Int))).size = 8 := by rw [strOf_size, be_length]
  unfold impl_poly_text.f spec_l5Told.f
  rw [f1, f2, b1, b2]
  simp only [Option.bind_some]
  rw [if_pos (by omega)]
  exact ⟨_, rfl, rfl⟩
theorem ghash_loop (s : ByteArray) (hn : s.size ≤ 3200) (hh hl : Nat) (h1 : hh < 2 ^ 64) (h2 : hl < 2 ^ 64) : ∀ (d k i yh yl : Nat), i + 16 * d = s.size → 1048576 + d < k → yh < 2 ^ 64 → yl < 2 ^ 64 →
    ∃ rh rl : Nat, rh < 2 ^ 64 ∧ rl < 2 ^ 64 ∧ impl_ghash.l0 k s (i : Int) (hh : Int) (hl : Int) (yh : Int) (yl : Int) = some ((rh : Int), (rl : Int)) ∧ spec_l5Ghash.l0 k s (i : Int) (yh : Int) (yl : Int) (hh : Int) (hl : Int) = some ((rh : Int), (rl : Int))
  | 0, k, i, yh, yl, hi, hk, y1, y2 => by
    obtain ⟨k, rfl⟩ : ∃ m, k = m + 1 := ⟨k - 1, by omega⟩
    refine ⟨yh, yl, y1, y2, ?_, ?_⟩
    · simp only [impl_ghash.l0]
      rw [if_neg (by omega)]
    · simp only [spec_l5Ghash.l0]
      rw [if_neg (by omega)]
  | d + 1, k, i, yh, yl, hi, hk, y1, y2 => by
    obtain ⟨k, rfl⟩ : ∃ m, k = m + 1 := ⟨k - 1, by omega⟩
    have e : wrap64 ((i : Int) + 16) = ((i + 16 : Nat) : Int) := by unfold wrap64; omega
    obtain ⟨a, b, a1, b1, i1, s1⟩ := of_both k (by omega) (s.extract i (i + 16)) (by rw [size_ext s i (i + 16) (by omega)]; omega)
    obtain ⟨x1, x2⟩ : yh ^^^ a < 2 ^ 64 ∧ yl ^^^ b < 2 ^ 64 := ⟨Nat.xor_lt_two_pow y1 a1, Nat.xor_lt_two_pow y2 b1⟩
    obtain ⟨zh, zl, z1, z2, i2, s2⟩ := mul_both k (yh ^^^ a) (yl ^^^ b) hh hl (by omega) x1 x2 h1 h2
    obtain ⟨rh, rl, r1, r2, r3, r4⟩ := ghash_loop s hn hh hl h1 h2 d k (i + 16) zh zl (by omega) (by omega) z1 z2
    have px : impl_poly_xor.f (yh : Int) (yl : Int) (a : Int) (b : Int) = some (((yh ^^^ a : Nat) : Int), ((yl ^^^ b : Nat) : Int)) := by
      unfold impl_poly_xor.f
      rw [xor_u64 yh a y1 a1, xor_u64 yl b y2 b1]
    refine ⟨rh, rl, r1, r2, ?_, ?_⟩
    · simp only [impl_ghash.l0]
      rw [e, if_pos (by omega), if_pos (by omega), if_pos (by omega), if_pos (by omega), Int.toNat_natCast, Int.toNat_natCast, i1]
      dsimp only [Option.bind_some]
      rw [px]
      dsimp only [Option.bind_some]
      rw [i2]
      dsimp only [Option.bind_some]
      exact r3
    · simp only [spec_l5Ghash.l0]
      rw [e, if_pos (by omega), if_pos (by omega), if_pos (by omega), if_pos (by omega), Int.toNat_natCast, Int.toNat_natCast, s1]
      dsimp only [Option.bind_some]
      rw [xor_u64 yh a y1 a1, xor_u64 yl b y2 b1, s2]
      dsimp only [Option.bind_some]
      exact r4

def KG : Nat := 1051777
/-- The sum of blocks, as a text: the program's and the reference's tell the same. -/
theorem gh_both (h s : ByteArray) (hh : h.size = 16) (hs : s.size % 16 = 0) (hb : s.size ≤ 3200) : ∃ (a b c d : Int) (r : ByteArray), impl_polyOf.f KG h = some (a, b) ∧ impl_ghash.f KG a b s = some (c, d) ∧ impl_poly_text.f KG c d = some r ∧
    spec_l5Ghash.f KG h s = some (c, d) ∧ spec_l5Told.f KG c d = some r := by
  obtain ⟨k, hkg, hk⟩ : ∃ k, KG = k ∧ k = 1048576 + 3200 + 1 := ⟨_, rfl, by unfold KG; omega⟩
  rw [hkg]
  obtain ⟨a, b, a1, b1, i1, s1⟩ := of_both k (by omega) h hh
  obtain ⟨rh, rl, r1, r2, i3, s3⟩ := ghash_loop s hb a b a1 b1 (s.size / 16) k 0 0 0 (by omega) (by omega) (by decide) (by decide)
  obtain ⟨u, i4, s4⟩ := told_both k (by omega) rh rl r1 r2
  refine ⟨(a : Int), (b : Int), (rh : Int), (rl : Int), u, i1, i3, i4, ?_, s4⟩
  unfold spec_l5Ghash.f
  rw [s1]
  dsimp only [Option.bind_some]
  exact s3
/-- The sum of blocks. -/
def ghS (h s : ByteArray) : ByteArray := ((impl_polyOf.f KG h).bind fun p => (impl_ghash.f KG p.1 p.2 s).bind fun q => impl_poly_text.f KG q.1 q.2).getD ⟨#[]⟩
theorem gh_told (h s : ByteArray) (hh : h.size = 16) (hs : s.size % 16 = 0) (hb : s.size ≤ 3200) : ∃ (a b c d : Int), impl_polyOf.f KG h = some (a, b) ∧ impl_ghash.f KG a b s = some (c, d) ∧ impl_poly_text.f KG c d = some (ghS h s) ∧
    spec_l5Ghash.f KG h s = some (c, d) ∧ spec_l5Told.f KG c d = some (ghS h s) := by
  obtain ⟨a, b, c, d, r, h1, h2, h3, h4, h5⟩ := gh_both h s hh hs hb
  have e : ghS h s = r := by
    unfold ghS
    rw [h1, Option.bind_some]
    dsimp only
    rw [h2, Option.bind_some]
    dsimp only
    rw [h3, Option.getD_some]
  rw [e]
  exact ⟨a, b, c, d, h1, h2, h3, h4, h5⟩
end Gcm
end Go.Proofs.YtimokakcdmcnnaaV.Aes
