/- The statement over numbers and lists that is left of the law FnExactTakeVarint: the program's function and the reference's tell the same for all arguments. Conditions: none beyond the kinds' own bounds. -/
import Derived.Test.YtmkoigkgmjbaiaaPFnExactTakeVarintx1
set_option linter.unusedVariables false
set_option linter.unusedSimpArgs false
namespace Go.Proofs.Ytmkoigkgmjbaiaa.Pure
open Go.RowKit Go.Proofs.Ytmkoigkgmjbaiaa.PFnExactTakeVarint Go.Proofs.YtmkoigkgmjbaiaaV.PrintWords Go.Proofs.YtmkoigkgmjbaiaaV.PrintLast

/-- The number that bytes tell, the highest first. -/
def bigN : List Int → Int → Int
  | [], a => a
  | b :: l, a => bigN l (a * 256 + b)
theorem or_toNat (x y : Int) (hx : x % 256 = 0) (h0 : 0 ≤ y) (h1 : y < 256) : ((BitVec.ofInt 64 x ||| BitVec.ofInt 64 y).toNat : Int) = x % 18446744073709551616 + y := by
  obtain ⟨b, rfl⟩ := Int.eq_ofNat_of_zero_le h0
  have hb : b < 2 ^ 8 := by omega
  obtain ⟨X, hX⟩ := Int.eq_ofNat_of_zero_le (show 0 ≤ x % 18446744073709551616 by omega)
  have e1 : (BitVec.ofInt 64 x).toNat = X := by
    rw [BitVec.toNat_ofInt]
    have : (x % ((2 ^ 64 : Nat) : Int)).toNat = X := by
      have h2 : ((2 ^ 64 : Nat) : Int) = 18446744073709551616 := by decide
      rw [h2, hX]; rfl
    exact this
  have e2 : (BitVec.ofInt 64 (b : Int)).toNat = b := by
    rw [BitVec.ofInt_natCast, BitVec.toNat_ofNat]
    omega
  rw [BitVec.toNat_or, e1, e2]
  have hq : X = 2 ^ 8 * (X / 2 ^ 8) := by omega
  rw [hq, ← Nat.two_pow_add_eq_or_of_lt hb (X / 2 ^ 8), ← hq, hX]
  rfl
theorem or_i64 (x y : Int) (hx : x % 256 = 0) (h0 : 0 ≤ y) (h1 : y < 256) : Go.bits .or .i64 x y = wrap64 (x + y) := by
  show IntKind.i64.wrap ((BitVec.ofInt 64 x ||| BitVec.ofInt 64 y).toNat : Int) = _
  rw [or_toNat x y hx h0 h1, IntKind.wrap_i64]
  unfold wrap64
  omega
theorem u64_mod (n : Int) : IntKind.u64.wrap n = n % 18446744073709551616 := by simp [IntKind.wrap, IntKind.bits, IntKind.signed]
theorem or_u64 (x y : Int) (hx : x % 256 = 0) (h0 : 0 ≤ y) (h1 : y < 256) : Go.bits .or .u64 x y = (x + y) % 18446744073709551616 := by
  show IntKind.u64.wrap ((BitVec.ofInt 64 x ||| BitVec.ofInt 64 y).toNat : Int) = _
  rw [or_toNat x y hx h0 h1, u64_mod]
  omega
theorem bytes_drop (s : ByteArray) (i : Nat) (h : i < s.size) : (bytesOf s).drop i = bt s (i : Int) :: (bytesOf s).drop (i + 1) := by
  have hl : i < (bytesOf s).length := by rw [bytesOf_length]; exact h
  rw [List.drop_eq_getElem_cons hl, ← rd_bytesOf]
  simp [rd, List.getD_eq_getElem?_getD, List.getElem?_eq_getElem hl]
theorem bytes_end (s : ByteArray) (i : Nat) (h : s.size ≤ i) : (bytesOf s).drop i = [] := List.drop_eq_nil_of_le (by rw [bytesOf_length]; exact h)
theorem l1big_loop (s : ByteArray) (hn : s.size ≤ 4611686018427387904) : ∀ (d k i : Nat) (a : Int), s.size = i + d → d < k → spec_l1Big.l0 k s (wrap64 a) (i : Int) = some (wrap64 (bigN ((bytesOf s).drop i) a))
  | 0, k, i, a, hd, hk => by
    obtain ⟨k, rfl⟩ : ∃ m, k = m + 1 := ⟨k - 1, by omega⟩
    simp only [spec_l1Big.l0]
    rw [if_neg (by omega), bytes_end s i (by omega)]
    rfl
  | d + 1, k, i, a, hd, hk => by
    obtain ⟨k, rfl⟩ : ∃ m, k = m + 1 := ⟨k - 1, by omega⟩
    have hb := bt_range s (i : Int)
    simp only [spec_l1Big.l0]
    have e : wrap64 ((i : Int) + 1) = ((i + 1 : Nat) : Int) := by unfold wrap64; omega
    have eb : wrap64 (bt s (i : Int)) = bt s (i : Int) := by unfold wrap64; omega
    rw [if_pos (by omega), if_pos (by omega), e, eb, or_i64 _ _ (by unfold wrap64; omega) hb.1 (by omega)]
    rw [show wrap64 (wrap64 (wrap64 a * 256) + bt s (i : Int)) = wrap64 (a * 256 + bt s (i : Int)) by unfold wrap64; omega]
    rw [l1big_loop s hn d k (i + 1) _ (by omega) (by omega), bytes_drop s i (by omega)]
    rfl
theorem l1big_tells (k : Nat) (s : ByteArray) (hn : s.size ≤ 1048576) (hk : 1048576 < k) : spec_l1Big.f k s = some (wrap64 (bigN (bytesOf s) 0)) := by
  have := l1big_loop s (by omega) s.size k 0 0 (by omega) (by omega)
  simpa [spec_l1Big.f, show wrap64 0 = 0 from by decide +kernel] using this
theorem numof_loop (s : ByteArray) (hn : s.size ≤ 4611686018427387904) : ∀ (d k i : Nat) (a : Int), s.size = i + d → d < k → impl_numberOf.l0 k s (a % 18446744073709551616) (s.size : Int) (i : Int) = some ((bigN ((bytesOf s).drop i) a) % 18446744073709551616)
  | 0, k, i, a, hd, hk => by
    obtain ⟨k, rfl⟩ : ∃ m, k = m + 1 := ⟨k - 1, by omega⟩
    simp only [impl_numberOf.l0]
    rw [if_neg (by omega), bytes_end s i (by omega)]
    rfl
  | d + 1, k, i, a, hd, hk => by
    obtain ⟨k, rfl⟩ : ∃ m, k = m + 1 := ⟨k - 1, by omega⟩
    have hb := bt_range s (i : Int)
    simp only [impl_numberOf.l0]
    have e : wrap64 ((i : Int) + 1) = ((i + 1 : Nat) : Int) := by unfold wrap64; omega
    rw [if_pos (by omega), if_pos (by omega), if_pos (by omega), e, u64_mod, u64_mod (bt s (i : Int)), or_u64 _ _ (by omega) (by omega) (by omega)]
    rw [show (a % 18446744073709551616 * 256 % 18446744073709551616 + bt s (i : Int) % 18446744073709551616) % 18446744073709551616 = (a * 256 + bt s (i : Int)) % 18446744073709551616 by omega]
    rw [numof_loop s hn d k (i + 1) _ (by omega) (by omega), bytes_drop s i (by omega)]
    rfl
theorem numof_tells (k : Nat) (s : ByteArray) (hn : s.size ≤ 1048576) (hk : 1048576 < k) : impl_numberOf.f k s = some ((bigN (bytesOf s) 0) % 18446744073709551616) := by
  have := numof_loop s (by omega) s.size k 0 0 (by omega) (by omega)
  simpa [impl_numberOf.f] using this
theorem ext_data (s : ByteArray) (a b : Nat) : (s.extract a b).data.toList = (s.data.toList.take b).drop a := by
  rw [ByteArray.data_extract, List.drop_take]; simp [List.extract_eq_take_drop]
theorem bytes_ext (s : ByteArray) (a b : Nat) : bytesOf (s.extract a b) = ((bytesOf s).take b).drop a := by
  unfold bytesOf
  rw [ext_data, List.map_drop, List.map_take]
theorem size_ext (s : ByteArray) (a b : Nat) (h : b ≤ s.size) : (s.extract a b).size = b - a := by
  have h1 := bytesOf_length (s.extract a b)
  rw [bytes_ext, List.length_drop, List.length_take, bytesOf_length] at h1
  omega
theorem bytes_range (s : ByteArray) (x : Int) (h : x ∈ bytesOf s) : 0 ≤ x ∧ x < 256 := by
  unfold bytesOf at h
  simp only [List.mem_map] at h
  obtain ⟨b, _, rfl⟩ := h
  have := b.toNat_lt
  omega
theorem bytes_str (l : List Int) (h : ∀ x ∈ l, 0 ≤ x ∧ x < 256) : bytesOf (strOfNums l) = l := by
  unfold bytesOf strOfNums
  simp only [List.map_map]
  conv => rhs; rw [← List.map_id l]
  apply List.map_congr_left
  intro x hx
  obtain ⟨h0, h1⟩ := h x hx
  obtain ⟨n, rfl⟩ := Int.eq_ofNat_of_zero_le h0
  simp [UInt8.toNat_ofNat']
  omega
theorem strOf_size (l : List Int) : (strOfNums l).size = l.length := by
  show (List.map _ l).toArray.size = _
  simp
theorem bigN_acc : ∀ (l : List Int) (a : Int), bigN l a = a * 256 ^ l.length + bigN l 0
  | [], a => by simp [bigN]
  | b :: l, a => by
    show bigN l (a * 256 + b) = _ + bigN l (0 * 256 + b)
    rw [bigN_acc l (a * 256 + b), bigN_acc l (0 * 256 + b), List.length_cons, Int.pow_succ, Int.zero_mul, Int.zero_add]
    rw [show a * (256 ^ l.length * 256) = a * 256 * 256 ^ l.length by rw [Int.mul_comm (256 ^ l.length) 256, Int.mul_assoc], Int.add_mul]
    omega
theorem bigN_bound : ∀ (l : List Int), (∀ x ∈ l, 0 ≤ x ∧ x < 256) → 0 ≤ bigN l 0 ∧ bigN l 0 < 256 ^ l.length
  | [], _ => by simp [bigN]
  | b :: l, h => by
    have hb := h b (by simp)
    have ih := bigN_bound l (fun x hx => h x (by simp [hx]))
    have e : bigN (b :: l) 0 = b * 256 ^ l.length + bigN l 0 := by
      show bigN l (0 * 256 + b) = _
      rw [bigN_acc, Int.zero_mul, Int.zero_add]
    have hp : (0 : Int) < 256 ^ l.length := Int.pow_pos (by decide)
    have h1 : 0 ≤ b * 256 ^ l.length := Int.mul_nonneg hb.1 (Int.le_of_lt hp)
    have h2 : (b + 1) * 256 ^ l.length ≤ 256 * 256 ^ l.length := Int.mul_le_mul_of_nonneg_right (by omega) (Int.le_of_lt hp)
    rw [Int.add_mul] at h2
    rw [e, List.length_cons, Int.pow_succ, Int.mul_comm (256 ^ l.length) 256]
    omega
theorem u64_mask (x : Int) (j : Nat) (hj : j ≤ 63) (h0 : 0 ≤ x) (h1 : x < 18446744073709551616) : Go.bits .and .u64 x (2 ^ j - 1) = x % 2 ^ j :=
  bits_mask .u64 64 (by decide) (fun n h₀ h₁ => by rw [u64_mod]; omega) j (by omega) x h0 (by omega)

/-- One size: what both read. -/
theorem one_size (k : Nat) (hk : 1048576 < k) (s : ByteArray) (m j : Nat) (W : Int) (hm : 1 ≤ m) (hm8 : m ≤ 8) (hj : j = 8 * (m - 1) + 6) (hW : W = 2 ^ j) (hs : m ≤ s.size) :
    ∃ v, spec_l1Big.f k (strOfNums ((bytesOf (s.extract 0 m)).set 0 (Go.bits .and .u8 (rd (bytesOf (s.extract 0 m)) 0) 63))) = some v ∧
      ∃ u, impl_numberOf.f k (s.extract 0 m) = some u ∧ wrap64 (Go.bits .and .u64 u (W - 1)) = v := by
  have hsz : (s.extract 0 m).size = m := by rw [size_ext s 0 m hs]; omega
  obtain ⟨b, l, hl⟩ : ∃ b l, bytesOf (s.extract 0 m) = b :: l := by
    cases h : bytesOf (s.extract 0 m) with
    | nil => have := congrArg List.length h; rw [bytesOf_length, hsz] at this; simp at this; omega
    | cons b l => exact ⟨b, l, rfl⟩
  have hall : ∀ x ∈ b :: l, 0 ≤ x ∧ x < 256 := by rw [← hl]; exact bytes_range _
  have hb := hall b (by simp)
  have hl' : ∀ x ∈ l, 0 ≤ x ∧ x < 256 := fun x hx => hall x (by simp [hx])
  have hlen : l.length = m - 1 := by
    have := congrArg List.length hl
    rw [bytesOf_length, hsz] at this
    simp at this
    omega
  have hbd := bigN_bound l hl'
  rw [hlen] at hbd
  have hand : Go.bits .and .u8 b 63 = b % 64 := u8_and63 b hb.1 hb.2
  have hset : (b :: l).set 0 (Go.bits .and .u8 (rd (b :: l) 0) 63) = (b % 64) :: l := by
    rw [show rd (b :: l) 0 = b from rfl, hand]; rfl
  have hall2 : ∀ x ∈ (b % 64) :: l, 0 ≤ x ∧ x < 256 := by
    intro x hx
    rcases List.mem_cons.1 hx with rfl | hx
    · omega
    · exact hl' x hx
  have e1 : bigN (b :: l) 0 = b * 256 ^ (m - 1) + bigN l 0 := by
    show bigN l (0 * 256 + b) = _
    rw [bigN_acc, hlen, Int.zero_mul, Int.zero_add]
  have e2 : bigN ((b % 64) :: l) 0 = b % 64 * 256 ^ (m - 1) + bigN l 0 := by
    show bigN l (0 * 256 + b % 64) = _
    rw [bigN_acc, hlen, Int.zero_mul, Int.zero_add]
  rw [hl, hset, l1big_tells k _ (by rw [strOf_size]; simp [hlen]; omega) hk, bytes_str _ hall2, numof_tells k _ (by omega) hk, hl]
  refine ⟨_, rfl, _, rfl, ?_⟩
  have hc : m = 1 ∨ m = 2 ∨ m = 3 ∨ m = 4 ∨ m = 5 ∨ m = 6 ∨ m = 7 ∨ m = 8 := by omega
  rw [hW, u64_mask _ j (by omega) (by omega) (by omega), e1, e2]
  generalize bigN l 0 = R at hbd ⊢
  clear e1 e2 hset hand hall hall2 hl hl' hlen hsz
  rcases hc with rfl | rfl | rfl | rfl | rfl | rfl | rfl | rfl <;> subst hj <;> simp only [show (1 : Nat) - 1 = 0 from rfl, show (2 : Nat) - 1 = 1 from rfl, show (3 : Nat) - 1 = 2 from rfl, show (4 : Nat) - 1 = 3 from rfl, show (5 : Nat) - 1 = 4 from rfl, show (6 : Nat) - 1 = 5 from rfl, show (7 : Nat) - 1 = 6 from rfl, show (8 : Nat) - 1 = 7 from rfl, Int.reducePow, Nat.reduceMul, Nat.reduceAdd] at hbd ⊢ <;> unfold wrap64 <;> omega

theorem take_q (k : Nat) (hk : 1048576 < k) (s : ByteArray) (q : Int) (m j : Nat) (W : Int) (hq : bt s 0 / 64 = q) (hm : 1 ≤ m) (hm8 : m ≤ 8) (hj : j = 8 * (m - 1) + 6) (hW : W = 2 ^ j) (e1 : IntKind.u64.wrap q = q) (e2 : 0 ≤ q) (e3 : shl .i64 1 q = (m : Int))
    (e4 : wrap64 (wrap64 (8 * (m : Int)) - 2) = (j : Int)) (e5 : shl .u64 1 (j : Int) = W) (e6 : IntKind.u64.wrap (W - 1) = W - 1) (h1 : ¬ (s.size : Int) > 1048576) (h2 : ¬ s.toList = ([] : List UInt8)) (h3 : 0 < (s.size : Int)) : laws_FnExactTakeVarint.f k s = some true := by
  unfold laws_FnExactTakeVarint.f spec_TakeVarint.f impl_TakeVarint.f spec_l1Take.f
  rw [if_neg h1, if_neg h2, if_neg h2, if_pos h3, if_pos h3]
  simp only [hq, e1, e3, e4, e5, e6, Int.toNat_natCast]
  rw [if_pos e2, if_pos e2]
  by_cases h4 : (s.size : Int) < (m : Int)
  · rw [if_pos h4, if_pos h4]; simp
  have hsz : (s.extract 0 m).size = m := by rw [size_ext s 0 m (by omega)]; omega
  rw [if_neg h4, if_neg h4, if_pos (by omega), if_pos (by omega), if_pos (by omega), if_pos (by omega), if_pos (by omega)]
  simp only [Option.bind_some]
  rw [if_pos (by rw [bytesOf_length, hsz]; omega)]
  obtain ⟨v, hv, u, hu, hvu⟩ := one_size k hk s m j W hm hm8 hj hW (by omega)
  rw [show (0 : Int).toNat = 0 from rfl]
  generalize spec_l1Big.f k _ = X at hv ⊢
  generalize impl_numberOf.f k _ = Y at hu ⊢
  subst hv
  subst hu
  rw [Option.bind_some, Option.bind_some, Option.bind_some, Option.bind_some]
  rw [if_pos (show (0 : Int) ≤ (j : Int) by omega), Option.bind_some, hvu, if_pos rfl, if_pos rfl]

theorem take_main (k : Nat) (hk : 1048576 < k) (s : ByteArray) : laws_FnExactTakeVarint.f k s = some true := by
  by_cases h1 : (s.size : Int) > 1048576
  · unfold laws_FnExactTakeVarint.f; rw [if_pos h1]
  by_cases h2 : s.toList = ([] : List UInt8)
  · unfold laws_FnExactTakeVarint.f spec_TakeVarint.f impl_TakeVarint.f spec_l1Take.f
    rw [if_neg h1, if_pos h2, if_pos h2]; simp
  have h3 : 0 < (s.size : Int) := by
    rcases Nat.eq_zero_or_pos s.size with h | h
    · exact absurd (by rw [ByteArray.toList_eq]; exact List.eq_nil_of_length_eq_zero (by simpa using h)) h2
    · omega
  have hb := bt_range s 0
  have hqc : (bt s 0 / 64 = 0 ∨ bt s 0 / 64 = 1) ∨ bt s 0 / 64 = 2 ∨ bt s 0 / 64 = 3 := by omega
  rcases hqc with (hq | hq) | hq | hq
  · exact take_q k hk s 0 1 6 64 hq (by decide) (by decide) (by decide) (by decide) (by decide +kernel) (by decide) (by decide +kernel) (by decide +kernel) (by decide +kernel) (by decide +kernel) h1 h2 h3
  · exact take_q k hk s 1 2 14 16384 hq (by decide) (by decide) (by decide) (by decide) (by decide +kernel) (by decide) (by decide +kernel) (by decide +kernel) (by decide +kernel) (by decide +kernel) h1 h2 h3
  · exact take_q k hk s 2 4 30 1073741824 hq (by decide) (by decide) (by decide) (by decide) (by decide +kernel) (by decide) (by decide +kernel) (by decide +kernel) (by decide +kernel) (by decide +kernel) h1 h2 h3
  · exact take_q k hk s 3 8 62 4611686018427387904 hq (by decide) (by decide) (by decide) (by decide +kernel) (by decide +kernel) (by decide) (by decide +kernel) (by decide +kernel) (by decide +kernel) (by decide +kernel) h1 h2 h3

theorem FnExactTakeVarint : laws_FnExactTakeVarint.Pure := by
  intro s _
  exact ⟨1048577, take_main _ (by decide) s⟩

end Go.Proofs.Ytmkoigkgmjbaiaa.Pure
