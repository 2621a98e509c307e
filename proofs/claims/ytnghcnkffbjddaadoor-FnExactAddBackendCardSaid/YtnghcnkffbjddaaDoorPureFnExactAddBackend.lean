/- The statement over numbers and lists that is left of the law FnExactAddBackend: the program's function and the reference's tell the same for all arguments. Conditions: none beyond the kinds' own bounds. -/
import Derived.Test.YtnghcnkffbjddaaDoorPFnExactAddBackendx3
set_option linter.unusedVariables false
set_option linter.unusedSimpArgs false
namespace Go.Proofs.YtnghcnkffbjddaaDoor.Pure
open Go.RowKit Go.Proofs.YtnghcnkffbjddaaDoor.PFnExactAddBackend Go.Proofs.YtnghcnkffbjddaaDoorV.PrintWords Go.Proofs.YtnghcnkffbjddaaDoorV.PrintLast

open Go.Proofs.YtnghcnkffbjddaaDoor.PImplD Go.Proofs.YtnghcnkffbjddaaDoorV.Aes
def okB (b : UInt8) : Bool := (decide (97 ≤ b.toNat) && decide (b.toNat ≤ 122)) || (decide (48 ≤ b.toNat) && decide (b.toNat ≤ 57))
def goodS (s : ByteArray) : Bool := (decide (1 ≤ s.size) && decide (s.size ≤ 12)) && s.data.toList.all okB
def cutL : List UInt8 := [97, 98, 99, 100, 101, 102, 103, 104, 105, 106, 107, 108, 109, 110, 111, 112, 113, 114, 115, 116, 117, 118, 119, 120, 121, 122, 48, 49, 50, 51, 52, 53, 54, 55, 56, 57]
theorem cut_ok (b : UInt8) : cutL.contains b = okB b := by
  have h : ∀ n : Fin 256, cutL.contains (UInt8.ofNat n) = okB (UInt8.ofNat n) := by decide +kernel
  have hb : b = UInt8.ofNat b.toNat := by simp
  rw [hb]
  exact h ⟨b.toNat, b.toNat_lt⟩
theorem drop_all (p : UInt8 → Bool) : ∀ l : List UInt8, (l.dropWhile p = []) ↔ l.all p = true
  | [] => by simp
  | x :: l => by
    rw [List.dropWhile_cons, List.all_cons]
    cases hx : p x with
    | true => rw [if_pos rfl, drop_all p l]; simp
    | false => rw [if_neg (by decide)]; simp
theorem trim_empty (l : List UInt8) : (Lib.trimS l cutL == ([] : List UInt8)) = l.all okB := by
  have e : (fun b => cutL.contains b) = okB := funext cut_ok
  unfold Lib.trimS Lib.trimLeftS Lib.trimRightS
  rw [e]
  rw [Bool.eq_iff_iff, beq_iff_eq, drop_all]
  constructor
  · intro h
    rw [List.all_reverse] at h
    by_cases hn : l.reverse.dropWhile okB = []
    · rw [drop_all, List.all_reverse] at hn; exact hn
    · exfalso
      have h1 := List.head_dropWhile_not okB (w := hn)
      rw [List.all_eq_true] at h
      have h2 := h _ (List.head_mem hn)
      rw [h1] at h2
      cases h2
  · intro h
    have : l.reverse.dropWhile okB = [] := by rw [drop_all, List.all_reverse]; exact h
    rw [this]; rfl
theorem bt_byte (s : ByteArray) (i : Nat) (h : i < s.size) : bt s (i : Int) = ((s.data.toList[i]'(by simpa using h)).toNat : Int) := by
  simp [bt, h]
  rfl
theorem in_both (x lo hi : Int) : impl_in.f x lo hi = some (decide (lo ≤ x) && decide (x ≤ hi)) := by
  unfold impl_in.f
  by_cases h : x ≥ lo
  · rw [if_pos h]
    have h' : lo ≤ x := h
    simp [h']
  · rw [if_neg h]
    have h' : ¬ lo ≤ x := h
    simp [h']
theorem l1In_tells (x lo hi : Int) : spec_l1In.f x lo hi = some (decide (lo ≤ x) && decide (x ≤ hi)) := in_both x lo hi
theorem size_dec (n : Nat) : (decide ((1 : Int) ≤ (n : Int)) && decide ((n : Int) ≤ 12)) = (decide (1 ≤ n) && decide (n ≤ 12)) := by
  congr 1
  · exact decide_eq_decide.mpr (by omega)
  · exact decide_eq_decide.mpr (by omega)
theorem impl_good (s : ByteArray) (hs : s.size ≤ 9223372036854775807) : impl_GoodBackend.f s = some (goodS s) := by
  unfold impl_GoodBackend.f goodS
  rw [in_both, size_dec]
  simp only [Option.bind_some]
  cases hb : (decide (1 ≤ s.size) && decide (s.size ≤ 12)) with
  | false => rw [if_neg (by decide), Bool.false_and]
  | true =>
    rw [if_pos rfl, Bool.true_and]
    unfold impl_over.f strings_Trim.f
    rw [if_pos hs, if_pos (by decide), if_pos (by decide +kernel)]
    simp only [Option.bind_some]
    rw [Lib.toList_data]
    exact congrArg some (trim_empty s.data.toList)
theorem spec_loop (s : ByteArray) (hs : s.size ≤ 1048576) : ∀ (m k i : Nat), s.size = i + m → m < k → spec_l8Backend.l0 k s (i : Int) = some ((s.data.toList.drop i).all okB && (decide (1 ≤ s.size) && decide (s.size ≤ 12)))
  | 0, k, i, hd, hk => by
    obtain ⟨k, rfl⟩ : ∃ m, k = m + 1 := ⟨k - 1, by omega⟩
    rw [spec_l8Backend.l0, if_neg (by omega), List.drop_eq_nil_of_le (by simp; omega), l1In_tells, size_dec]
    simp
  | m + 1, k, i, hd, hk => by
    obtain ⟨k, rfl⟩ : ∃ m, k = m + 1 := ⟨k - 1, by omega⟩
    have hi : i < s.size := by omega
    have hl : i < s.data.toList.length := by simpa using hi
    have e : wrap64 ((i : Int) + 1) = ((i + 1 : Nat) : Int) := by unfold wrap64; omega
    rw [spec_l8Backend.l0, if_pos (by omega), if_pos (by omega), bt_byte s i hi, e, List.drop_eq_getElem_cons hl, List.all_cons]
    have ih := spec_loop s hs m k (i + 1) (by omega) (by omega)
    rw [ih]
    generalize (s.data.toList[i]'hl) = b
    unfold okB
    by_cases h1 : 97 ≤ b.toNat
    · rw [if_pos (by omega)]
      by_cases h2 : b.toNat ≤ 122
      · rw [if_pos (by omega)]; simp [h1, h2]
      · have h3 : ¬ b.toNat ≤ 57 := by omega
        rw [if_neg (by omega), if_pos (by omega), if_neg (by omega)]
        simp [h2, h3]
    · rw [if_neg (by omega)]
      by_cases h2 : 48 ≤ b.toNat
      · rw [if_pos (by omega)]
        by_cases h3 : b.toNat ≤ 57
        · rw [if_pos (by omega)]; simp [h2, h3]
        · rw [if_neg (by omega)]; simp [h1, h3]
      · rw [if_neg (by omega)]; simp [h1, h2]
theorem spec_good (k : Nat) (s : ByteArray) (hs : s.size ≤ 1048576) (hk : s.size < k) : spec_l8Backend.f k s = some (goodS s) := by
  have := spec_loop s hs s.size k 0 (by omega) hk
  unfold spec_l8Backend.f goodS
  rw [Bool.and_comm]
  simpa using this
theorem rdS (l : List ByteArray) (i : Nat) (h : i < l.length) : rdOf ByteArray.empty l (i : Int) = l[i]'h := by simp [rdOf, List.getD_eq_getElem?_getD, List.getElem?_eq_getElem h]
theorem szS_loop (l : List ByteArray) (hl : l.length ≤ 1048576) (hw : ∀ s, s ∈ l → s.size ≤ 9223372036854775807) : ∀ (m k i : Nat) (x : Int), l.length = i + m → m < k → 0 ≤ x → x ≤ 1048576 → (∀ j (h : j < l.length), j < i → (l[j]'h).size ≤ 1048576) →
    ∃ r, laws_szStringS.l0 k l x (i : Int) = some r ∧ (¬ r < 0 → ∀ j (h : j < l.length), (l[j]'h).size ≤ 1048576)
  | 0, k, i, x, hd, hk, h0, h1, hp => by
    obtain ⟨k, rfl⟩ : ∃ m, k = m + 1 := ⟨k - 1, by omega⟩
    rw [laws_szStringS.l0, if_neg (by omega)]
    exact ⟨_, rfl, fun _ j h => hp j h (by omega)⟩
  | m + 1, k, i, x, hd, hk, h0, h1, hp => by
    obtain ⟨k, rfl⟩ : ∃ m, k = m + 1 := ⟨k - 1, by omega⟩
    have hi : i < l.length := by omega
    have hsz := hw (l[i]'hi) (List.getElem_mem hi)
    have e : wrap64 ((i : Int) + 1) = ((i + 1 : Nat) : Int) := by unfold wrap64; omega
    have e2 : wrap64 (x - ((l[i]'hi).size : Int)) = x - ((l[i]'hi).size : Int) := by unfold wrap64; omega
    rw [laws_szStringS.l0, if_pos (by omega), if_pos (by omega), rdS l i hi, e, e2]
    by_cases h : x - ((l[i]'hi).size : Int) < 0
    · rw [if_pos h]; exact ⟨_, rfl, fun q => absurd (by decide) q⟩
    · rw [if_neg h]
      exact szS_loop l hl hw m k (i + 1) _ (by omega) (by omega) (by omega) (by omega) (fun j hj hji => by
        by_cases q : j = i
        · subst q; omega
        · exact hp j hj (by omega))
theorem szS_tells (k : Nat) (l : List ByteArray) (x : Int) (h0 : 0 ≤ x) (h1 : x ≤ 1048576) (hl : l.length ≤ 9223372036854775807) (hw : ∀ s, s ∈ l → s.size ≤ 9223372036854775807) (hk : 1048577 < k) :
    ∃ r, laws_szStringS.f k l x = some r ∧ (¬ r < 0 → l.length ≤ 1048576 ∧ ∀ s, s ∈ l → s.size ≤ 1048576) := by
  unfold laws_szStringS.f
  have e : wrap64 (x - (l.length : Int)) = x - (l.length : Int) := by unfold wrap64; omega
  rw [e]
  by_cases h : x - (l.length : Int) < 0
  · rw [if_pos h]; exact ⟨_, rfl, fun q => absurd (by decide) q⟩
  · rw [if_neg h]
    obtain ⟨r, h2, h3⟩ := szS_loop l (by omega) hw l.length k 0 (x - (l.length : Int)) (by omega) (by omega) (by omega) (by omega) (fun j _ hj => absurd hj (Nat.not_lt_zero _))
    refine ⟨r, h2, fun q => ⟨by omega, fun s hs => ?_⟩⟩
    obtain ⟨j, hj, rfl⟩ := List.getElem_of_mem hs
    exact h3 q j hj
theorem toS_loop (l : List ByteArray) (hl : l.length ≤ 1048576) : ∀ (m k i : Nat) (x : List ByteArray), l.length = i + m → x.length = l.length → x.take i = l.take i → m < k → laws_toStringS.l0 k l x (i : Int) = some l
  | 0, k, i, x, hd, hx, he, hk => by
    obtain ⟨k, rfl⟩ : ∃ m, k = m + 1 := ⟨k - 1, by omega⟩
    rw [laws_toStringS.l0, if_neg (by omega)]
    rw [List.take_of_length_le (by omega), List.take_of_length_le (by omega)] at he
    rw [he]
  | m + 1, k, i, x, hd, hx, he, hk => by
    obtain ⟨k, rfl⟩ : ∃ m, k = m + 1 := ⟨k - 1, by omega⟩
    have e : wrap64 ((i : Int) + 1) = ((i + 1 : Nat) : Int) := by unfold wrap64; omega
    rw [laws_toStringS.l0, if_pos (by omega), if_pos (by omega), if_pos (by omega), e, Int.toNat_natCast, rdS l i (by omega)]
    refine toS_loop l hl m k (i + 1) _ (by omega) (by rw [List.length_set]; exact hx) ?_ (by omega)
    rw [List.take_succ_eq_append_getElem (by rw [List.length_set]; omega), List.take_succ_eq_append_getElem (by omega), List.take_set, List.set_eq_of_length_le (by rw [List.length_take]; omega), he, List.getElem_set_self]
theorem toS_tells (k : Nat) (l : List ByteArray) (hl : l.length ≤ 1048576) (hk : l.length < k) : laws_toStringS.f k l = some l := by
  unfold laws_toStringS.f
  rw [if_pos (by omega), if_pos (by omega), Int.toNat_natCast]
  exact toS_loop l hl l.length k 0 _ (by omega) (by simp) (by simp) hk
theorem eqS_loop (l : List ByteArray) (hl : l.length ≤ 1048576) : ∀ (m k i : Nat), l.length = i + m → m < k → laws_eqStringS.l0 k l l (i : Int) = some true
  | 0, k, i, hd, hk => by
    obtain ⟨k, rfl⟩ : ∃ m, k = m + 1 := ⟨k - 1, by omega⟩
    rw [laws_eqStringS.l0, if_neg (by omega)]
  | m + 1, k, i, hd, hk => by
    obtain ⟨k, rfl⟩ : ∃ m, k = m + 1 := ⟨k - 1, by omega⟩
    have e : wrap64 ((i : Int) + 1) = ((i + 1 : Nat) : Int) := by unfold wrap64; omega
    rw [laws_eqStringS.l0, if_pos (by omega), if_pos (by omega), if_pos (by omega), if_pos rfl, e]
    exact eqS_loop l hl m k (i + 1) (by omega) (by omega)
theorem eqS_tells (k : Nat) (l : List ByteArray) (hl : l.length ≤ 1048576) (hk : l.length < k) : laws_eqStringS.f k l l = some true := by
  unfold laws_eqStringS.f
  rw [if_pos rfl]
  exact eqS_loop l hl l.length k 0 (by omega) hk
def liveAt (l : List ByteArray) (i : Nat) : Bool := goodS (rdOf ByteArray.empty l (i : Int)) && (decide (i = 0) || Op.bytesLess (rdOf ByteArray.empty l ((i - 1 : Nat) : Int)).toList (rdOf ByteArray.empty l (i : Int)).toList)
def liveS (l : List ByteArray) : Bool := (List.range l.length).all (liveAt l) && decide (l.length ≤ 12)
theorem range_drop (n i : Nat) (h : i < n) : (List.range n).drop i = i :: (List.range n).drop (i + 1) := by
  rw [List.drop_eq_getElem_cons (by simpa using h)]; simp
theorem live_both (l : List ByteArray) (hl : l.length ≤ 1048576) (hs : ∀ s, s ∈ l → s.size ≤ 1048576) : ∀ (m k i : Nat), l.length = i + m → m + 1048577 < k →
    spec_GoodLive.l0 k l l (l.length : Int) (i : Int) = some (((List.range l.length).drop i).all (liveAt l) && decide (l.length ≤ 12)) ∧
    impl_GoodLive.l0 k l l (l.length : Int) (i : Int) = some (((List.range l.length).drop i).all (liveAt l) && decide (l.length ≤ 12))
  | 0, k, i, hd, hk => by
    obtain ⟨k, rfl⟩ : ∃ m, k = m + 1 := ⟨k - 1, by omega⟩
    have hz : decide ((l.length : Int) ≤ 12) = decide (l.length ≤ 12) := decide_eq_decide.mpr (by omega)
    rw [spec_GoodLive.l0, impl_GoodLive.l0, if_neg (by omega), if_neg (by omega), List.drop_eq_nil_of_le (by simp; omega), hz]
    simp
  | m + 1, k, i, hd, hk => by
    obtain ⟨k, rfl⟩ : ∃ m, k = m + 1 := ⟨k - 1, by omega⟩
    have hi : i < l.length := by omega
    have hsz := hs (l[i]'hi) (List.getElem_mem hi)
    have e : wrap64 ((i : Int) + 1) = ((i + 1 : Nat) : Int) := by unfold wrap64; omega
    obtain ⟨ih1, ih2⟩ := live_both l hl hs m k (i + 1) (by omega) (by omega)
    have hg : spec_l8Backend.f k (rdOf ByteArray.empty l (i : Int)) = some (goodS (rdOf ByteArray.empty l (i : Int))) := by
      rw [rdS l i hi]; exact spec_good k _ hsz (by omega)
    have hg' : impl_GoodBackend.f (rdOf ByteArray.empty l (i : Int)) = some (goodS (rdOf ByteArray.empty l (i : Int))) := by
      rw [rdS l i hi]; exact impl_good _ (by omega)
    have e1 : ¬ i = 0 → wrap64 ((i : Int) - 1) = ((i - 1 : Nat) : Int) := fun _ => by unfold wrap64; omega
    constructor
    · rw [spec_GoodLive.l0, if_pos (by omega), if_pos (by omega), if_pos (by omega), hg]
      simp only [Option.bind_some]
      rw [e, ih1, range_drop _ i hi, List.all_cons]
      unfold liveAt
      cases goodS (rdOf ByteArray.empty l (i : Int)) with
      | false => rw [if_neg (show ¬ (false = true) by decide)]; simp
      | true =>
        rw [if_pos rfl]
        by_cases h0 : i = 0
        · rw [if_neg (show ¬ (i : Int) > 0 by omega)]; simp [h0]
        · rw [if_pos (show (i : Int) > 0 by omega), e1 h0, if_pos (by omega), if_pos (by omega)]
          cases Op.bytesLess (rdOf ByteArray.empty l ((i - 1 : Nat) : Int)).toList (rdOf ByteArray.empty l (i : Int)).toList with
          | false => rw [if_neg (show ¬ (false = true) by decide)]; simp [h0]
          | true => rw [if_pos rfl]; simp
    · rw [impl_GoodLive.l0, if_pos (by omega), if_pos (by omega), if_pos (by omega), hg']
      simp only [Option.bind_some]
      rw [e, ih2, range_drop _ i hi, List.all_cons]
      unfold liveAt
      cases goodS (rdOf ByteArray.empty l (i : Int)) with
      | false => rw [if_neg (show ¬ (false = true) by decide)]; simp
      | true =>
        rw [if_pos rfl]
        by_cases h0 : i = 0
        · rw [if_neg (show ¬ (i : Int) > 0 by omega)]; simp [h0]
        · rw [if_pos (show (i : Int) > 0 by omega), e1 h0, if_pos (by omega), if_pos (by omega)]
          cases Op.bytesLess (rdOf ByteArray.empty l ((i - 1 : Nat) : Int)).toList (rdOf ByteArray.empty l (i : Int)).toList with
          | false => rw [if_neg (show ¬ (false = true) by decide)]; simp [h0]
          | true => rw [if_pos rfl]; simp
theorem live_spec (k : Nat) (l : List ByteArray) (hl : l.length ≤ 1048576) (hs : ∀ s, s ∈ l → s.size ≤ 1048576) (hk : 2 * 1048577 < k) : spec_GoodLive.f k l = some (liveS l) := by
  have := (live_both l hl hs l.length k 0 (by omega) (by omega)).1
  simpa [spec_GoodLive.f, liveS] using this
theorem live_impl (k : Nat) (l : List ByteArray) (hl : l.length ≤ 1048576) (hs : ∀ s, s ∈ l → s.size ≤ 1048576) (hk : 2 * 1048577 < k) : impl_GoodLive.f k l = some (liveS l) := by
  have := (live_both l hl hs l.length k 0 (by omega) (by omega)).2
  simpa [impl_GoodLive.f, liveS] using this
theorem less_lt (x y : List UInt8) : Op.bytesLess x y = decide (x < y) := bytesLess_eq x y
theorem less_trans {x y z : List UInt8} (h1 : Op.bytesLess x y = true) (h2 : Op.bytesLess y z = true) : Op.bytesLess x z = true := by
  rw [less_lt, decide_eq_true_iff] at *
  exact List.lt_trans h1 h2
/-- A live list rises. -/
theorem live_rises (l : List ByteArray) (h : liveS l = true) : ∀ (d i : Nat), i + d + 1 < l.length → Op.bytesLess (rdOf ByteArray.empty l (i : Int)).toList (rdOf ByteArray.empty l ((i + d + 1 : Nat) : Int)).toList = true := by
  have hall : ∀ j, j < l.length → liveAt l j = true := by
    unfold liveS at h
    rw [Bool.and_eq_true, List.all_eq_true] at h
    exact fun j hj => h.1 j (List.mem_range.mpr hj)
  have step : ∀ i, i + 1 < l.length → Op.bytesLess (rdOf ByteArray.empty l (i : Int)).toList (rdOf ByteArray.empty l ((i + 1 : Nat) : Int)).toList = true := by
    intro i hi
    have := hall (i + 1) hi
    unfold liveAt at this
    rw [Bool.and_eq_true] at this
    simpa using this.2
  intro d
  induction d with
  | zero => intro i hi; exact step i (by omega)
  | succ d ih =>
    intro i hi
    have h1 := ih i (by omega)
    have h2 := step (i + d + 1) (by omega)
    exact less_trans h1 h2
theorem live_down (l : List ByteArray) (h : liveS l = true) (s : List UInt8) (a b : Nat) (hab : a ≤ b) (hb : b < l.length) (hs : Op.bytesLess (rdOf ByteArray.empty l (b : Int)).toList s = true) : Op.bytesLess (rdOf ByteArray.empty l (a : Int)).toList s = true := by
  by_cases e : a = b
  · rw [e]; exact hs
  · obtain ⟨d, rfl⟩ : ∃ d, b = a + d + 1 := ⟨b - a - 1, by omega⟩
    exact less_trans (live_rises l h d a hb) hs
def lessS (l : List ByteArray) (s : ByteArray) (i : Nat) : Bool := Op.bytesLess (rdOf ByteArray.empty l (i : Int)).toList s.toList
/-- Where a text stands, or would. -/
def isAt (l : List ByteArray) (s : ByteArray) (p : Nat) : Bool := decide (p < l.length) && ((rdOf ByteArray.empty l (p : Int)).toList == s.toList)
theorem cmp_tells (x y : ByteArray) : cmp_Less_string.f x y = some (Op.bytesLess x.toList y.toList) := by
  unfold cmp_Less_string.f cmp_isNaN_string.f
  simp
theorem half_at (i j : Nat) (hj : i + j < 1000000000) : wrap64 ((IntKind.u64.wrap (wrap64 ((i : Int) + (j : Int)))) / 2) = (((i + j) / 2 : Nat) : Int) := by
  have e1 : wrap64 ((i : Int) + (j : Int)) = ((i + j : Nat) : Int) := by unfold wrap64; omega
  have e2 : IntKind.u64.wrap ((i + j : Nat) : Int) = ((i + j : Nat) : Int) := by simp [IntKind.wrap, IntKind.bits, IntKind.signed]; omega
  rw [e1, e2]
  unfold wrap64
  omega
theorem bin_loop (l : List ByteArray) (s : ByteArray) (hl : l.length ≤ 1048576) : ∀ (d k i j : Nat), j - i ≤ d → d < k → i ≤ j → j ≤ l.length →
    ∃ p, p ≤ l.length ∧ slices_BinarySearch_string_string.l0 k l s (l.length : Int) (i : Int) (j : Int) = some ((p : Int), isAt l s p) ∧
      ((∀ a b, a ≤ b → b < l.length → lessS l s b = true → lessS l s a = true) → (∀ a, a < i → lessS l s a = true) → (∀ a, j ≤ a → a < l.length → lessS l s a = false) → ∀ a, a < l.length → lessS l s a = decide (a < p)) := by
  intro d
  induction d with
  | zero =>
    intro k i j hd hk hij hj
    obtain ⟨k, rfl⟩ : ∃ m, k = m + 1 := ⟨k - 1, by omega⟩
    obtain rfl : i = j := by omega
    refine ⟨i, hj, ?_, fun _ h1 h2 a ha => ?_⟩
    · rw [slices_BinarySearch_string_string.l0, if_neg (by omega)]
      unfold isAt
      by_cases h : i < l.length
      · rw [if_pos (by omega), if_pos (by omega), if_pos (by omega)]
        by_cases e : (rdOf ByteArray.empty l (i : Int)).toList = s.toList
        · rw [if_pos e, e]; simp [h]
        · rw [if_neg e]
          unfold slices_isNaN_string.f
          simp [h, e]
      · rw [if_neg (by omega)]; simp [h]
    · by_cases h : a < i
      · rw [h1 a h]; simp [h]
      · rw [h2 a (by omega) ha]; simp [h]
  | succ d ih =>
    intro k i j hd hk hij hj
    by_cases hlt : i < j
    · obtain ⟨k, rfl⟩ : ∃ m, k = m + 1 := ⟨k - 1, by omega⟩
      have hh := half_at i j (by omega)
      have hm1 : i ≤ (i + j) / 2 := by omega
      have hm2 : (i + j) / 2 < j := by omega
      have e : wrap64 ((((i + j) / 2 : Nat) : Int) + 1) = (((i + j) / 2 + 1 : Nat) : Int) := by unfold wrap64; omega
      rw [slices_BinarySearch_string_string.l0, if_pos (by omega), hh, if_pos (by omega), if_pos (by omega), cmp_tells, e]
      simp only [Option.bind_some]
      cases hc : Op.bytesLess (rdOf ByteArray.empty l (((i + j) / 2 : Nat) : Int)).toList s.toList with
      | true =>
        rw [if_pos rfl]
        obtain ⟨p, hp, h1, h2⟩ := ih k ((i + j) / 2 + 1) j (by omega) (by omega) (by omega) hj
        exact ⟨p, hp, h1, fun hm hi hjj => h2 hm (fun a ha => hm a ((i + j) / 2) (by omega) (by omega) hc) hjj⟩
      | false =>
        rw [if_neg (show ¬ (false = true) by decide)]
        obtain ⟨p, hp, h1, h2⟩ := ih k i ((i + j) / 2) (by omega) (by omega) (by omega) (by omega)
        refine ⟨p, hp, h1, fun hm hi hjj => h2 hm hi (fun a ha hal => ?_)⟩
        cases hq : lessS l s a with
        | false => rfl
        | true => have := hm ((i + j) / 2) a ha hal hq; unfold lessS at this; rw [hc] at this; cases this
    · exact (fun ⟨p, a, b, c⟩ => ⟨p, a, b, c⟩) (ih k i j (by omega) (by omega) hij hj)
theorem at_loop (l : List ByteArray) (s : ByteArray) (hl : l.length ≤ 1048576) : ∀ (m k i : Nat), l.length = i + m → m < k → (∀ a, a < i → lessS l s a = true) →
    ∃ p, p ≤ l.length ∧ spec_l9At.l0 k l s (i : Int) = some ((p : Int), isAt l s p) ∧ (∀ a, a < p → lessS l s a = true) ∧ (p < l.length → lessS l s p = false)
  | 0, k, i, hd, hk, hi => by
    obtain ⟨k, rfl⟩ : ∃ m, k = m + 1 := ⟨k - 1, by omega⟩
    refine ⟨i, by omega, ?_, hi, fun h => by omega⟩
    rw [spec_l9At.l0, if_neg (by omega)]
    unfold isAt
    simp [show ¬ i < l.length by omega]
  | m + 1, k, i, hd, hk, hi => by
    obtain ⟨k, rfl⟩ : ∃ m, k = m + 1 := ⟨k - 1, by omega⟩
    have e : wrap64 ((i : Int) + 1) = ((i + 1 : Nat) : Int) := by unfold wrap64; omega
    rw [spec_l9At.l0, if_pos (by omega), if_pos (by omega), e]
    by_cases h : Op.bytesLess (rdOf ByteArray.empty l (i : Int)).toList s.toList = true
    · rw [if_pos h]
      exact at_loop l s hl m k (i + 1) (by omega) (by omega) (fun a ha => by
        by_cases q : a = i
        · rw [q]; exact h
        · exact hi a (by omega))
    · rw [if_neg h]
      refine ⟨i, by omega, ?_, hi, fun _ => by unfold lessS; simpa using h⟩
      unfold isAt
      simp [show i < l.length by omega]
theorem same_at (l : List ByteArray) (s : ByteArray) (p q : Nat) (hp : p ≤ l.length) (hq : q ≤ l.length) (h1 : ∀ a, a < l.length → lessS l s a = decide (a < p)) (h2 : ∀ a, a < q → lessS l s a = true) (h3 : q < l.length → lessS l s q = false) : p = q := by
  rcases Nat.lt_trichotomy p q with h | h | h
  · have a1 := h1 p (by omega)
    rw [h2 p h] at a1
    simp at a1
  · exact h
  · have a1 := h1 q (by omega)
    rw [h3 (by omega)] at a1
    simp at a1
    omega
theorem nums_one (x : Int) : (strOfNums [x]).size = 1 := by simp [strOfNums]; rfl
theorem mt_loop : ∀ (d : Nat) (x : Int) (y : ByteArray), 0 ≤ x → x < (10 : Int) ^ d → x ≤ 4611686018427387904 → y.size + d ≤ 1000 → ∃ r, ∀ k, d < k → laws_markText.l0 k x y = some r
  | 0, x, y, h0, h1, hx, hy => by
    refine ⟨(⟨#[109]⟩ : ByteArray) ++ y, fun k hk => ?_⟩
    obtain ⟨k, rfl⟩ : ∃ m, k = m + 1 := ⟨k - 1, by omega⟩
    rw [laws_markText.l0, if_neg (by simp at h1; omega), if_pos (by omega)]
  | d + 1, x, y, h0, h1, hx, hy => by
    by_cases h : x > 0
    · have e : wrap64 (Int.tdiv x 10) = x / 10 := by
        rw [Int.tdiv_eq_ediv_of_nonneg h0]
        unfold wrap64; omega
      have h10 : x / 10 < (10 : Int) ^ d := by
        rw [Int.pow_succ] at h1
        exact Int.ediv_lt_of_lt_mul (by decide) h1
      obtain ⟨r, hr⟩ := mt_loop d (x / 10) (strOfNums [(wrap64 (48 + (Int.tmod x 10))) % 256] ++ y) (by omega) h10 (by omega) (by rw [ByteArray.size_append, nums_one]; omega)
      refine ⟨r, fun k hk => ?_⟩
      obtain ⟨k, rfl⟩ : ∃ m, k = m + 1 := ⟨k - 1, by omega⟩
      rw [laws_markText.l0, if_pos h]
      simp only [Option.bind_some]
      rw [if_pos (by rw [nums_one]; omega), e]
      exact hr k (by omega)
    · refine ⟨(⟨#[109]⟩ : ByteArray) ++ y, fun k hk => ?_⟩
      obtain ⟨k, rfl⟩ : ∃ m, k = m + 1 := ⟨k - 1, by omega⟩
      rw [laws_markText.l0, if_neg h, if_pos (by omega)]
theorem mt_any (x : Int) (h0 : 1 ≤ x) (h1 : x ≤ 2000000) : ∃ r, ∀ k, 10 < k → laws_markText.f k x = some r := by
  obtain ⟨r, hr⟩ := mt_loop 7 x (⟨#[]⟩ : ByteArray) (by omega) (by omega) (by omega) (by decide)
  refine ⟨r, fun k hk => ?_⟩
  unfold laws_markText.f
  rw [if_neg (by omega)]
  exact hr k (by omega)
theorem mt_all : ∃ mt : Int → ByteArray, ∀ x, 1 ≤ x → x ≤ 2000000 → ∀ k, 10 < k → laws_markText.f k x = some (mt x) := by
  refine ⟨fun x => if h : 1 ≤ x ∧ x ≤ 2000000 then (mt_any x h.1 h.2).choose else (⟨#[]⟩ : ByteArray), fun x h0 h1 k hk => ?_⟩
  dsimp only
  rw [dif_pos ⟨h0, h1⟩]
  exact (mt_any x h0 h1).choose_spec k hk
def marked (mt : Int → ByteArray) (n : Nat) : List ByteArray := (List.range n).map fun i : Nat => mt (1 + (i : Int))
theorem marked_length (mt : Int → ByteArray) (n : Nat) : (marked mt n).length = n := by simp [marked]
theorem marked_at (mt : Int → ByteArray) (n i : Nat) (h : i < n) : rdOf ByteArray.empty (marked mt n) (i : Int) = mt (1 + (i : Int)) := by
  rw [rdS _ i (by rw [marked_length]; exact h)]; simp [marked]
theorem markS_loop (mt : Int → ByteArray) (hmt : ∀ x, 1 ≤ x → x ≤ 2000000 → ∀ k, 10 < k → laws_markText.f k x = some (mt x)) (n : Nat) (hn : n ≤ 1048576) : ∀ (m k i : Nat) (x : List ByteArray), n = i + m → x.length = n → x.take i = (marked mt n).take i → m + 11 < k →
    laws_markStringS.l0 k x (1 + (i : Int)) (i : Int) = some (1 + (n : Int), marked mt n)
  | 0, k, i, x, hd, hx, he, hk => by
    obtain ⟨k, rfl⟩ : ∃ m, k = m + 1 := ⟨k - 1, by omega⟩
    rw [laws_markStringS.l0, if_neg (by omega)]
    rw [List.take_of_length_le (by omega), List.take_of_length_le (by rw [marked_length]; omega)] at he
    rw [he, show (i : Int) = (n : Int) by omega]
  | m + 1, k, i, x, hd, hx, he, hk => by
    obtain ⟨k, rfl⟩ : ∃ m, k = m + 1 := ⟨k - 1, by omega⟩
    have e : wrap64 ((i : Int) + 1) = ((i + 1 : Nat) : Int) := by unfold wrap64; omega
    have e2 : wrap64 (1 + (i : Int) + 1) = 1 + ((i + 1 : Nat) : Int) := by unfold wrap64; omega
    rw [laws_markStringS.l0, if_pos (by omega), hmt _ (by omega) (by omega) k (by omega)]
    simp only [Option.bind_some]
    rw [if_pos (by omega), e, e2, Int.toNat_natCast]
    refine markS_loop mt hmt n hn m k (i + 1) _ (by omega) (by rw [List.length_set]; exact hx) ?_ (by omega)
    have hu : (marked mt n)[i]'(by rw [marked_length]; omega) = mt (1 + (i : Int)) := by simp [marked]
    rw [List.take_succ_eq_append_getElem (by rw [List.length_set]; omega), List.take_succ_eq_append_getElem (by rw [marked_length]; omega), List.take_set, List.set_eq_of_length_le (by rw [List.length_take]; omega), he, List.getElem_set_self, hu]
theorem markS_tells (mt : Int → ByteArray) (hmt : ∀ x, 1 ≤ x → x ≤ 2000000 → ∀ k, 10 < k → laws_markText.f k x = some (mt x)) (k : Nat) (l : List ByteArray) (hl : l.length ≤ 1048576) (hk : l.length + 11 < k) : laws_markStringS.f k l 1 = some (1 + (l.length : Int), marked mt l.length) := by
  have := markS_loop mt hmt l.length hl l.length k 0 l (by omega) rfl (by simp) hk
  simpa [laws_markStringS.f] using this
theorem heldS_loop (mt : Int → ByteArray) (hmt : ∀ x, 1 ≤ x → x ≤ 2000000 → ∀ k, 10 < k → laws_markText.f k x = some (mt x)) (n : Nat) (hn : n ≤ 1048576) : ∀ (m k i : Nat), n = i + m → m + 11 < k → laws_heldStringS.l0 k (marked mt n) (1 + (i : Int)) (i : Int) = some (1 + (n : Int))
  | 0, k, i, hd, hk => by
    obtain ⟨k, rfl⟩ : ∃ m, k = m + 1 := ⟨k - 1, by omega⟩
    rw [laws_heldStringS.l0, if_neg (by rw [marked_length]; omega), show (i : Int) = (n : Int) by omega]
  | m + 1, k, i, hd, hk => by
    obtain ⟨k, rfl⟩ : ∃ m, k = m + 1 := ⟨k - 1, by omega⟩
    have e : wrap64 ((i : Int) + 1) = ((i + 1 : Nat) : Int) := by unfold wrap64; omega
    have e2 : wrap64 (1 + (i : Int) + 1) = 1 + ((i + 1 : Nat) : Int) := by unfold wrap64; omega
    rw [laws_heldStringS.l0, if_pos (by rw [marked_length]; omega), if_pos (by omega), hmt _ (by omega) (by omega) k (by omega)]
    simp only [Option.bind_some]
    rw [marked_at mt n i (by omega), if_pos rfl, e, e2]
    exact heldS_loop mt hmt n hn m k (i + 1) (by omega) (by omega)
theorem heldS_tells (mt : Int → ByteArray) (hmt : ∀ x, 1 ≤ x → x ≤ 2000000 → ∀ k, 10 < k → laws_markText.f k x = some (mt x)) (k n : Nat) (hn : n ≤ 1048576) (hk : n + 11 < k) : laws_heldStringS.f k (marked mt n) 1 = some (1 + (n : Int)) := by
  have := heldS_loop mt hmt n hn n k 0 (by omega) hk
  simpa [laws_heldStringS.f] using this
theorem add_both (l : List ByteArray) (s : ByteArray) (hl : l.length ≤ 1048576) (hs : ∀ s, s ∈ l → s.size ≤ 1048576) (hss : s.size ≤ 1048576) :
    ∃ r : List ByteArray × Bool, r.1.length ≤ 1048576 ∧ impl_AddBackend.f l s = some r ∧ ∀ k, 2 * 1048577 < k → spec_AddBackend.f k l s = some r := by
  obtain ⟨p, hp, h1, h2⟩ := bin_loop l s hl l.length KK 0 l.length (by omega) (by unfold KK; omega) (by omega) (by omega)
  have hspec : ∃ q, q ≤ l.length ∧ (∀ k, 2 * 1048577 < k → spec_l9At.f k l s = some ((q : Int), isAt l s q)) ∧ (∀ a, a < q → lessS l s a = true) ∧ (q < l.length → lessS l s q = false) := by
    obtain ⟨q, hq, a1, a2, a3⟩ := at_loop l s hl l.length (2 * 1048577 + 1) 0 (by omega) (by omega) (fun a ha => by omega)
    refine ⟨q, hq, fun k hk => ?_, a2, a3⟩
    obtain ⟨q', hq', b1, b2, b3⟩ := at_loop l s hl l.length k 0 (by omega) (by omega) (fun a ha => by omega)
    have : q' = q := by
      rcases Nat.lt_trichotomy q' q with h | h | h
      · have := b3 (by omega); rw [a2 q' h] at this; cases this
      · exact h
      · have := a3 (by omega); rw [b2 q h] at this; cases this
    rw [this] at b1
    exact b1
  obtain ⟨q, hq, a1, a2, a3⟩ := hspec
  have himpl : impl_AddBackend.f l s = if liveS l = false ∨ goodS s = false ∨ isAt l s p = true ∨ 12 ≤ l.length then some ([], false) else if 0 ≤ (p : Int) ∧ (p : Int).toNat ≤ l.length then some (l.take (p : Int).toNat ++ s :: l.drop (p : Int).toNat, true) else none := by
    unfold impl_AddBackend.f addF
    have : slices_BinarySearch_string_string.f KK l s = some ((p : Int), isAt l s p) := h1
    rw [this, live_impl KK l hl hs (by unfold KK; decide), impl_good s (by omega)]
    rfl
  rw [himpl]
  cases hlv : liveS l with
  | false =>
    refine ⟨([], false), by simp, by rw [if_pos (.inl rfl)], fun k hk => ?_⟩
    unfold spec_AddBackend.f
    rw [a1 k hk, live_spec k l hl hs hk, hlv]
    simp
  | true =>
    have hpq : p = q := same_at l s p q hp hq (h2 (fun a b hab hb hb2 => live_down l hlv s.toList a b hab hb hb2) (fun a ha => by omega) (fun a ha hal => by omega)) a2 a3
    subst hpq
    have h12 : l.length ≤ 12 := by
      unfold liveS at hlv
      rw [Bool.and_eq_true, decide_eq_true_iff] at hlv
      exact hlv.2
    cases hat : isAt l s p with
    | true =>
      refine ⟨([], false), by simp, by rw [if_pos (.inr (.inr (.inl rfl)))], fun k hk => ?_⟩
      unfold spec_AddBackend.f
      rw [a1 k hk, live_spec k l hl hs hk, hlv, hat]
      simp
    | false =>
      cases hg : goodS s with
      | false =>
        refine ⟨([], false), by simp, by rw [if_pos (.inr (.inl rfl))], fun k hk => ?_⟩
        unfold spec_AddBackend.f
        rw [a1 k hk, live_spec k l hl hs hk, hlv, hat, spec_good k s hss (by omega), hg]
        simp
      | true =>
        by_cases hn : l.length = 12
        · refine ⟨([], false), by simp, by rw [if_pos (.inr (.inr (.inr (by omega))))], fun k hk => ?_⟩
          unfold spec_AddBackend.f
          rw [a1 k hk, live_spec k l hl hs hk, hlv, hat, spec_good k s hss (by omega), hg]
          have hn' : (l.length : Int) = 12 := by omega
          simp [hn']
        · refine ⟨(l.take p ++ s :: l.drop p, true), by simp; omega, ?_, fun k hk => ?_⟩
          · rw [if_neg (by simp; omega), if_pos ⟨by omega, by rw [Int.toNat_natCast]; exact hp⟩, Int.toNat_natCast]
          · unfold spec_AddBackend.f
            have hn' : ¬ (l.length : Int) = 12 := by omega
            rw [a1 k hk, live_spec k l hl hs hk, hlv, hat, spec_good k s hss (by omega), hg]
            simp only [Option.bind_some]
            rw [if_pos trivial, if_neg (show ¬ (false = true) by decide), if_pos trivial, if_neg hn', if_pos (by omega), if_pos (by omega), if_pos (by simp; omega), Int.toNat_natCast, if_pos (by simp; omega), if_pos (by simp; omega)]
            simp
theorem FnExactAddBackend : laws_FnExactAddBackend.Pure := by
  intro l s hl hw _
  refine ⟨3 * 1048577 + 3, ?_⟩
  obtain ⟨mt, hmt⟩ := mt_all
  unfold laws_FnExactAddBackend.f
  by_cases h0 : (s.size : Int) > 1048576
  · rw [if_pos h0]
  rw [if_neg h0]
  obtain ⟨r, hr, h⟩ := szS_tells (3 * 1048577 + 3) l 1048576 (by decide) (by decide) hl hw (by decide)
  rw [hr]
  simp only [Option.bind_some]
  by_cases hn : r < 0
  · rw [if_pos hn]
  rw [if_neg hn]
  obtain ⟨h1, h2⟩ := h hn
  obtain ⟨⟨rl, rb⟩, hrl, hi, hsp⟩ := add_both l s h1 h2 (by omega)
  have hrl' : rl.length ≤ 1048576 := hrl
  rw [toS_tells _ l h1 (by omega)]
  simp only [Option.bind_some]
  rw [hsp _ (by decide), hi]
  simp only [Option.bind_some]
  rw [eqS_tells _ rl hrl' (by omega)]
  simp only [Option.bind_some]
  rw [if_pos trivial, bne_self_eq_false, laws_FnExactAddBackend.j0, if_neg (show ¬ (false = true) by decide), toS_tells _ l h1 (by omega)]
  simp only [Option.bind_some]
  rw [eqS_tells _ l h1 (by omega)]
  simp only [Option.bind_some]
  rw [if_pos trivial, markS_tells mt hmt _ l h1 (by omega)]
  simp only [Option.bind_some]
  rw [if_neg (by omega), eqS_tells _ rl hrl' (by omega)]
  simp only [Option.bind_some]
  rw [if_pos trivial, bne_self_eq_false, laws_FnExactAddBackend.j1, if_neg (show ¬ (false = true) by decide), markS_tells mt hmt _ rl hrl' (by omega)]
  simp only [Option.bind_some]
  rw [heldS_tells mt hmt _ rl.length hrl' (by omega)]
  simp only [Option.bind_some]
  rw [if_neg (by omega), if_pos trivial, toS_tells _ l h1 (by omega)]
  simp only [Option.bind_some]
  rw [hi]
  simp only [Option.bind_some]
  rw [eqS_tells _ rl hrl' (by omega)]
  simp only [Option.bind_some]
  rw [if_pos trivial, bne_self_eq_false, laws_FnExactAddBackend.j2, if_neg (show ¬ (false = true) by decide), heldS_tells mt hmt _ rl.length hrl' (by omega)]
  simp only [Option.bind_some]
  rw [if_neg (by omega), if_pos trivial]

end Go.Proofs.YtnghcnkffbjddaaDoor.Pure
