/- Numbers and their bytes at this seat: what bigEndian, numberOf and the reference's l1Fixed, l1Big tell. -/
import Derived.Test.YtnghcnkffbjddaaDoorVHb
import Derived.Test.YtnghcnkffbjddaaDoorPSpecRx1
import Derived.Test.YtnghcnkffbjddaaDoorPSpecRx2
import Derived.Test.YtnghcnkffbjddaaDoorPSpecRx3
import Derived.Test.YtnghcnkffbjddaaDoorPSpecRx4
import Derived.Laws.BitsLemmas
namespace Go.Proofs.YtnghcnkffbjddaaDoorV.Aes
open Go.RowKit Go.Proofs.YtnghcnkffbjddaaDoorV.PrintWords Go.Proofs.YtnghcnkffbjddaaDoorV.PrintLast Go.Proofs.YtnghcnkffbjddaaDoorV.PrintMore Go.Proofs.YtnghcnkffbjddaaDoorV.Mem
set_option linter.unusedVariables false
set_option linter.unusedSimpArgs false

open Go.Proofs.YtnghcnkffbjddaaDoor.PImplR
def tab (n : Nat) (f : Nat → Int) : List Int := (List.range n).map f
theorem tab_length (n : Nat) (f : Nat → Int) : (tab n f).length = n := by simp [tab]
theorem rd_at (l : List Int) (i : Nat) (h : i < l.length) : rd l (i : Int) = l[i] := by
  simp [rd, List.getD_eq_getElem?_getD, List.getElem?_eq_getElem h]
theorem rd_tab (n : Nat) (f : Nat → Int) (i : Nat) (h : i < n) : rd (tab n f) (i : Int) = f i := by
  rw [rd_at _ _ (by rw [tab_length]; exact h)]
  simp [tab]
theorem tab_step (n : Nat) (f : Nat → Int) (b z : List Int) (hb : b.length = n) (i : Nat) (h : i < n) :
    ((tab n f).take i ++ b.drop i ++ z).set i (f i) = (tab n f).take (i + 1) ++ b.drop (i + 1) ++ z := by
  have hl : ((tab n f).take i).length = i := by rw [List.length_take, tab_length]; omega
  have hv : (tab n f)[i]'(by rw [tab_length]; exact h) = f i := by simp [tab]
  rw [List.take_succ_eq_append_getElem (by rw [tab_length]; exact h), hv, List.append_assoc, List.set_append_right _ _ (by omega), hl, Nat.sub_self,
    List.drop_eq_getElem_cons (by omega : i < b.length), List.cons_append, List.set_cons_zero]
  simp only [List.append_assoc, List.cons_append, List.nil_append]
theorem tab_rest (n : Nat) (f : Nat → Int) (b z : List Int) (hb : b.length = n) (i j : Nat) (h : i ≤ j) (hj : j < n) :
    rd ((tab n f).take i ++ b.drop i ++ z) (j : Int) = rd b (j : Int) := by
  have hl : ((tab n f).take i).length = i := by rw [List.length_take, tab_length]; omega
  rw [rd_at _ _ (by simp [tab_length]; omega), rd_at _ _ (by omega)]
  rw [List.getElem_append_left (by simp [tab_length]; omega), List.getElem_append_right (by omega), List.getElem_drop]
  congr 1
  omega
theorem tab_start (n : Nat) (f : Nat → Int) (b z : List Int) : (tab n f).take 0 ++ b.drop 0 ++ z = b ++ z := by simp
theorem tab_end (n : Nat) (f : Nat → Int) (b z : List Int) (hb : b.length = n) : (tab n f).take n ++ b.drop n ++ z = tab n f ++ z := by
  rw [List.take_of_length_le (by rw [tab_length]; exact Nat.le_refl _), List.drop_eq_nil_of_le (by omega), List.append_nil]
theorem tab_both (n : Nat) (f : Nat → Int) (b z : List Int) (hb : b.length = n) (i : Nat) (h : i ≤ n) : ((tab n f).take i ++ b.drop i ++ z).length = n + z.length := by
  simp [tab_length]; omega
/-- A number's last bytes, so many, the highest first. -/
def be : Nat → Int → List Int
  | 0, _ => []
  | m + 1, n => be m (n / 256) ++ [n % 256]
theorem be_length : ∀ (m : Nat) (n : Int), (be m n).length = m
  | 0, _ => rfl
  | m + 1, n => by simp [be, be_length m]
theorem be_head : ∀ (m : Nat) (n : Int), be (m + 1) n = (n / 256 ^ m % 256) :: be m n
  | 0, n => by simp [be]
  | m + 1, n => by
    have ih := be_head m (n / 256)
    show be (m + 1) (n / 256) ++ [n % 256] = _ :: (be m (n / 256) ++ [n % 256])
    rw [ih, Int.ediv_ediv_of_nonneg (by decide), ← Int.pow_succ']
    rfl
theorem wrap_u64_in (n : Int) (h0 : 0 ≤ n) (h1 : n < 18446744073709551616) : IntKind.u64.wrap n = n := by
  simp [IntKind.wrap, IntKind.bits, IntKind.signed]; omega

theorem bigEndian_loop : ∀ (j k : Nat) (x0 : Int) (tail : List Int), j < k → j ≤ 1000000 → impl_bigEndian.l0 k x0 (List.replicate j 0 ++ tail) ((j : Int) - 1) = some (strOfNums (be j x0 ++ tail))
  | 0, k, x0, tail, hk, _ => by
    obtain ⟨k, rfl⟩ : ∃ m, k = m + 1 := ⟨k - 1, by omega⟩
    simp only [impl_bigEndian.l0]
    rw [if_neg (by decide)]
    simp [be]
  | j + 1, k, x0, tail, hk, hj => by
    obtain ⟨k, rfl⟩ : ∃ m, k = m + 1 := ⟨k - 1, by omega⟩
    simp only [impl_bigEndian.l0]
    have e : ((j + 1 : Nat) : Int) - 1 = (j : Int) := by omega
    rw [e, if_pos (by omega), if_pos (by omega), if_pos (by simp; omega)]
    have e2 : wrap64 ((j : Int) - 1) = (j : Int) - 1 := by unfold wrap64; omega
    have e3 : (List.replicate (j + 1) (0 : Int) ++ tail).set ((j : Int)).toNat (x0 % 256) = List.replicate j 0 ++ ((x0 % 256) :: tail) := by
      rw [Int.toNat_natCast, List.replicate_succ', List.append_assoc, List.set_append_right _ _ (by simp)]
      simp
    rw [e2, e3, bigEndian_loop j k (x0 / 256) _ (by omega) (by omega)]
    simp [be]

theorem bigEndian_tells (k j : Nat) (x0 : Int) (hk : j < k) (hj : j ≤ 1000000) : impl_bigEndian.f k x0 (j : Int) = some (strOfNums (be j x0)) := by
  unfold impl_bigEndian.f
  have e2 : wrap64 ((j : Int) - 1) = (j : Int) - 1 := by unfold wrap64; omega
  rw [if_pos (by omega), if_pos (by omega), e2, Int.toNat_natCast]
  have := bigEndian_loop j k x0 [] hk hj
  simpa using this

/-- The number that bytes tell, the highest first. -/
def bigN : List Int → Int → Int
  | [], a => a
  | b :: l, a => bigN l (a * 256 + b)
theorem or_toNat (x y : Int) (hx : x % 256 = 0) (h0 : 0 ≤ y) (h1 : y < 256) : ((BitVec.ofInt 64 x ||| BitVec.ofInt 64 y).toNat : Int) = x % 18446744073709551616 + y := by
  obtain ⟨b, rfl⟩ := Int.eq_ofNat_of_zero_le h0
  have hb : b < 2 ^ 8 := by omega
  obtain ⟨X, hX⟩ := Int.eq_ofNat_of_zero_le (show 0 ≤ x % 18446744073709551616 by omega)
  have e1 : (BitVec.ofInt 64 x).toNat = X := by
    rw [BitVec.toNat_ofInt]
    have : (x % ((2 ^ 64 : Nat) : Int)).toNat = X := by
      have h2 : ((2 ^ 64 : Nat) : Int) = 18446744073709551616 := by decide
      rw [h2, hX]; rfl
    exact this
  have e2 : (BitVec.ofInt 64 (b : Int)).toNat = b := by
    rw [BitVec.ofInt_natCast, BitVec.toNat_ofNat]
    omega
  rw [BitVec.toNat_or, e1, e2]
  have hq : X = 2 ^ 8 * (X / 2 ^ 8) := by omega
  rw [hq, ← Nat.two_pow_add_eq_or_of_lt hb (X / 2 ^ 8), ← hq, hX]
  rfl
theorem u64_mod (n : Int) : IntKind.u64.wrap n = n % 18446744073709551616 := by simp [IntKind.wrap, IntKind.bits, IntKind.signed]
theorem or_u64 (x y : Int) (hx : x % 256 = 0) (h0 : 0 ≤ y) (h1 : y < 256) : Go.bits .or .u64 x y = (x + y) % 18446744073709551616 := by
  show IntKind.u64.wrap ((BitVec.ofInt 64 x ||| BitVec.ofInt 64 y).toNat : Int) = _
  rw [or_toNat x y hx h0 h1, u64_mod]
  omega
theorem bytes_drop (s : ByteArray) (i : Nat) (h : i < s.size) : (bytesOf s).drop i = bt s (i : Int) :: (bytesOf s).drop (i + 1) := by
  have hl : i < (bytesOf s).length := by rw [bytesOf_length]; exact h
  rw [List.drop_eq_getElem_cons hl, ← rd_bytesOf]
  simp [rd, List.getD_eq_getElem?_getD, List.getElem?_eq_getElem hl]
theorem bytes_end (s : ByteArray) (i : Nat) (h : s.size ≤ i) : (bytesOf s).drop i = [] := List.drop_eq_nil_of_le (by rw [bytesOf_length]; exact h)
theorem numof_loop (s : ByteArray) (hn : s.size ≤ 4611686018427387904) : ∀ (d k i : Nat) (a : Int), s.size = i + d → d < k → impl_numberOf.l0 k s (a % 18446744073709551616) (s.size : Int) (i : Int) = some ((bigN ((bytesOf s).drop i) a) % 18446744073709551616)
  | 0, k, i, a, hd, hk => by
    obtain ⟨k, rfl⟩ : ∃ m, k = m + 1 := ⟨k - 1, by omega⟩
    simp only [impl_numberOf.l0]
    rw [if_neg (by omega), bytes_end s i (by omega)]
    rfl
  | d + 1, k, i, a, hd, hk => by
    obtain ⟨k, rfl⟩ : ∃ m, k = m + 1 := ⟨k - 1, by omega⟩
    have hb := bt_range s (i : Int)
    simp only [impl_numberOf.l0]
    have e : wrap64 ((i : Int) + 1) = ((i + 1 : Nat) : Int) := by unfold wrap64; omega
    rw [if_pos (by omega), if_pos (by omega), if_pos (by omega), e, u64_mod, u64_mod (bt s (i : Int)), or_u64 _ _ (by omega) (by omega) (by omega)]
    rw [show (a % 18446744073709551616 * 256 % 18446744073709551616 + bt s (i : Int) % 18446744073709551616) % 18446744073709551616 = (a * 256 + bt s (i : Int)) % 18446744073709551616 by omega]
    rw [numof_loop s hn d k (i + 1) _ (by omega) (by omega), bytes_drop s i (by omega)]
    rfl

theorem numof_small (s : ByteArray) (hn : s.size ≤ 8) : impl_numberOf.f 9 s = some ((bigN (bytesOf s) 0) % 18446744073709551616) := by
  have := numof_loop s (by omega) s.size 9 0 0 (by omega) (by omega)
  simpa [impl_numberOf.f] using this
theorem be_walk (n : Int) (j : Nat) (hj : j ≤ 100) (w : World) : Calls Tryd.prog 151 #[.int .u64 n, .int .i64 (j : Int)] w fun e w' => e = .returned (.string (strOfNums (be j n))) ∧ Below w.heap.size w w' :=
  impl_bigEndian.calls 101 n (j : Int) _ w (bigEndian_tells 101 j n (by omega) (by omega))
theorem be4_walk (n : Int) (w : World) : Calls Tryd.prog 151 #[.int .u64 n, .int .i64 4] w fun e w' => e = .returned (.string (strOfNums (be 4 n))) ∧ Below w.heap.size w w' := be_walk n 4 (by decide) w
theorem num_walk (s : ByteArray) (hs : s.size ≤ 8) (w : World) : Calls Tryd.prog 111 #[.string s] w fun e w' => e = .returned (.int .u64 (bigN (bytesOf s) 0 % 18446744073709551616)) ∧ Drawn0 w w' :=
  impl_numberOf.calls 9 s _ w (numof_small s hs)
theorem str_size (l : List Int) : (strOfNums l).size = l.length := by simp [strOfNums, ByteArray.size]
open Go.Proofs.YtnghcnkffbjddaaDoor.PSpecR
theorem fixed_shift (x : Int) (j : Nat) (hj : j ≤ 8) : shr .i64 x (IntKind.u64.wrap (wrap64 (8 * (j : Int)))) = x / 256 ^ j := by
  have e : wrap64 (8 * (j : Int)) = 8 * (j : Int) := by unfold wrap64; omega
  rw [e, wrap_u64_in _ (by omega) (by omega)]
  unfold shr
  have e2 : min (8 * (j : Int)).toNat IntKind.i64.bits = 8 * j := by
    have : (8 * (j : Int)).toNat = 8 * j := by omega
    rw [this]; show min (8 * j) 64 = _; omega
  rw [e2, Int.pow_mul]; rfl

theorem fixed_loop : ∀ (j k : Nat) (x0 : Int) (xs : List Int), j < k → j ≤ 9 → xs.length + j ≤ 1000 → spec_l1Fixed.l0 k x0 xs ((j : Int) - 1) = some (strOfNums (xs ++ be j x0))
  | 0, k, x0, xs, hk, _, _ => by
    obtain ⟨k, rfl⟩ : ∃ m, k = m + 1 := ⟨k - 1, by omega⟩
    simp only [spec_l1Fixed.l0]
    rw [if_neg (by decide)]
    simp [be]
  | j + 1, k, x0, xs, hk, hj, hl => by
    obtain ⟨k, rfl⟩ : ∃ m, k = m + 1 := ⟨k - 1, by omega⟩
    simp only [spec_l1Fixed.l0]
    have e : ((j + 1 : Nat) : Int) - 1 = (j : Int) := by omega
    have e1 : wrap64 (8 * (j : Int)) = 8 * (j : Int) := by unfold wrap64; omega
    have e2 : wrap64 ((j : Int) - 1) = (j : Int) - 1 := by unfold wrap64; omega
    rw [e, if_pos (by omega), if_pos (by rw [e1, wrap_u64_in _ (by omega) (by omega)]; omega), if_pos (by omega), e2, fixed_shift x0 j (by omega)]
    rw [be_head, fixed_loop j k x0 _ (by omega) (by omega) (by simp; omega)]
    simp

theorem fixed_tells (k j : Nat) (x0 : Int) (hk : j < k) (hj : j ≤ 9) : spec_l1Fixed.f k x0 (j : Int) = some (strOfNums (be j x0)) := by
  unfold spec_l1Fixed.f
  have e2 : wrap64 ((j : Int) - 1) = (j : Int) - 1 := by unfold wrap64; omega
  rw [e2, fixed_loop j k x0 [] hk hj (by simp; omega)]
  simp

theorem ev_fixed (j : Nat) (x : Int) (hj : j ≤ 9) : Ev (fun k => spec_l1Fixed.f k x (j : Int)) (strOfNums (be j x)) := ⟨j + 1, fun k hk => fixed_tells k j x (by omega) hj⟩
theorem or_i64 (x y : Int) (hx : x % 256 = 0) (h0 : 0 ≤ y) (h1 : y < 256) : Go.bits .or .i64 x y = wrap64 (x + y) := by
  show IntKind.i64.wrap ((BitVec.ofInt 64 x ||| BitVec.ofInt 64 y).toNat : Int) = _
  rw [or_toNat x y hx h0 h1, IntKind.wrap_i64]
  unfold wrap64
  omega
theorem wrapS (a b : Int) (h : a = b) (h0 : -9223372036854775808 ≤ b) (h1 : b ≤ 9223372036854775807) : wrap64 a = b := by
  subst h; unfold wrap64; omega
theorem rd_append (a b : List Int) (i : Nat) (h : i < a.length) : rd (a ++ b) (i : Int) = rd a (i : Int) := by
  rw [rd_at _ _ (by rw [List.length_append]; omega), rd_at _ _ h, List.getElem_append_left h]
theorem l1big_loop (s : ByteArray) (hn : s.size ≤ 4611686018427387904) : ∀ (d k i : Nat) (a : Int), s.size = i + d → d < k → spec_l1Big.l0 k s (wrap64 a) (i : Int) = some (wrap64 (bigN ((bytesOf s).drop i) a))
  | 0, k, i, a, hd, hk => by
    obtain ⟨k, rfl⟩ : ∃ m, k = m + 1 := ⟨k - 1, by omega⟩
    simp only [spec_l1Big.l0]
    rw [if_neg (by omega), bytes_end s i (by omega)]
    rfl
  | d + 1, k, i, a, hd, hk => by
    obtain ⟨k, rfl⟩ : ∃ m, k = m + 1 := ⟨k - 1, by omega⟩
    have hb := bt_range s (i : Int)
    simp only [spec_l1Big.l0]
    have e : wrap64 ((i : Int) + 1) = ((i + 1 : Nat) : Int) := by unfold wrap64; omega
    have eb : wrap64 (bt s (i : Int)) = bt s (i : Int) := by unfold wrap64; omega
    rw [if_pos (by omega), if_pos (by omega), e, eb, or_i64 _ _ (by unfold wrap64; omega) hb.1 (by omega)]
    rw [show wrap64 (wrap64 (wrap64 a * 256) + bt s (i : Int)) = wrap64 (a * 256 + bt s (i : Int)) by unfold wrap64; omega]
    rw [l1big_loop s hn d k (i + 1) _ (by omega) (by omega), bytes_drop s i (by omega)]
    rfl

theorem ev_big (s : ByteArray) (hn : s.size ≤ 1048576) : Ev (fun k => spec_l1Big.f k s) (wrap64 (bigN (bytesOf s) 0)) := ⟨s.size + 1, fun k hk => by
  have := l1big_loop s (by omega) s.size k 0 0 (by omega) (by omega)
  simpa [spec_l1Big.f, show wrap64 0 = 0 from by decide +kernel] using this⟩
end Go.Proofs.YtnghcnkffbjddaaDoorV.Aes
