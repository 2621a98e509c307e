/- The statement over numbers and lists that is left of the law FnExactGoodLive: the program's function and the reference's tell the same for all arguments. Conditions: none beyond the kinds' own bounds. -/
import Derived.Test.YtnghcnkffbjddaaDoorPFnExactGoodLivex2
set_option linter.unusedVariables false
set_option linter.unusedSimpArgs false
namespace Go.Proofs.YtnghcnkffbjddaaDoor.Pure
open Go.RowKit Go.Proofs.YtnghcnkffbjddaaDoor.PFnExactGoodLive Go.Proofs.YtnghcnkffbjddaaDoorV.PrintWords Go.Proofs.YtnghcnkffbjddaaDoorV.PrintLast

def okB (b : UInt8) : Bool := (decide (97 ≤ b.toNat) && decide (b.toNat ≤ 122)) || (decide (48 ≤ b.toNat) && decide (b.toNat ≤ 57))
def goodS (s : ByteArray) : Bool := (decide (1 ≤ s.size) && decide (s.size ≤ 12)) && s.data.toList.all okB
def cutL : List UInt8 := [97, 98, 99, 100, 101, 102, 103, 104, 105, 106, 107, 108, 109, 110, 111, 112, 113, 114, 115, 116, 117, 118, 119, 120, 121, 122, 48, 49, 50, 51, 52, 53, 54, 55, 56, 57]
theorem cut_ok (b : UInt8) : cutL.contains b = okB b := by
  have h : ∀ n : Fin 256, cutL.contains (UInt8.ofNat n) = okB (UInt8.ofNat n) := by decide +kernel
  have hb : b = UInt8.ofNat b.toNat := by simp
  rw [hb]
  exact h ⟨b.toNat, b.toNat_lt⟩
theorem drop_all (p : UInt8 → Bool) : ∀ l : List UInt8, (l.dropWhile p = []) ↔ l.all p = true
  | [] => by simp
  | x :: l => by
    rw [List.dropWhile_cons, List.all_cons]
    cases hx : p x with
    | true => rw [if_pos rfl, drop_all p l]; simp
    | false => rw [if_neg (by decide)]; simp
theorem trim_empty (l : List UInt8) : (Lib.trimS l cutL == ([] : List UInt8)) = l.all okB := by
  have e : (fun b => cutL.contains b) = okB := funext cut_ok
  unfold Lib.trimS Lib.trimLeftS Lib.trimRightS
  rw [e]
  rw [Bool.eq_iff_iff, beq_iff_eq, drop_all]
  constructor
  · intro h
    rw [List.all_reverse] at h
    by_cases hn : l.reverse.dropWhile okB = []
    · rw [drop_all, List.all_reverse] at hn; exact hn
    · exfalso
      have h1 := List.head_dropWhile_not okB (w := hn)
      rw [List.all_eq_true] at h
      have h2 := h _ (List.head_mem hn)
      rw [h1] at h2
      cases h2
  · intro h
    have : l.reverse.dropWhile okB = [] := by rw [drop_all, List.all_reverse]; exact h
    rw [this]; rfl
theorem bt_byte (s : ByteArray) (i : Nat) (h : i < s.size) : bt s (i : Int) = ((s.data.toList[i]'(by simpa using h)).toNat : Int) := by
  simp [bt, h]
  rfl
theorem in_both (x lo hi : Int) : impl_in.f x lo hi = some (decide (lo ≤ x) && decide (x ≤ hi)) := by
  unfold impl_in.f
  by_cases h : x ≥ lo
  · rw [if_pos h]
    have h' : lo ≤ x := h
    simp [h']
  · rw [if_neg h]
    have h' : ¬ lo ≤ x := h
    simp [h']
theorem l1In_tells (x lo hi : Int) : spec_l1In.f x lo hi = some (decide (lo ≤ x) && decide (x ≤ hi)) := in_both x lo hi
theorem size_dec (n : Nat) : (decide ((1 : Int) ≤ (n : Int)) && decide ((n : Int) ≤ 12)) = (decide (1 ≤ n) && decide (n ≤ 12)) := by
  congr 1
  · exact decide_eq_decide.mpr (by omega)
  · exact decide_eq_decide.mpr (by omega)
theorem impl_good (s : ByteArray) (hs : s.size ≤ 9223372036854775807) : impl_GoodBackend.f s = some (goodS s) := by
  unfold impl_GoodBackend.f goodS
  rw [in_both, size_dec]
  simp only [Option.bind_some]
  cases hb : (decide (1 ≤ s.size) && decide (s.size ≤ 12)) with
  | false => rw [if_neg (by decide), Bool.false_and]
  | true =>
    rw [if_pos rfl, Bool.true_and]
    unfold impl_over.f strings_Trim.f
    rw [if_pos hs, if_pos (by decide), if_pos (by decide +kernel)]
    simp only [Option.bind_some]
    rw [Lib.toList_data]
    exact congrArg some (trim_empty s.data.toList)
theorem spec_loop (s : ByteArray) (hs : s.size ≤ 1048576) : ∀ (m k i : Nat), s.size = i + m → m < k → spec_l8Backend.l0 k s (i : Int) = some ((s.data.toList.drop i).all okB && (decide (1 ≤ s.size) && decide (s.size ≤ 12)))
  | 0, k, i, hd, hk => by
    obtain ⟨k, rfl⟩ : ∃ m, k = m + 1 := ⟨k - 1, by omega⟩
    rw [spec_l8Backend.l0, if_neg (by omega), List.drop_eq_nil_of_le (by simp; omega), l1In_tells, size_dec]
    simp
  | m + 1, k, i, hd, hk => by
    obtain ⟨k, rfl⟩ : ∃ m, k = m + 1 := ⟨k - 1, by omega⟩
    have hi : i < s.size := by omega
    have hl : i < s.data.toList.length := by simpa using hi
    have e : wrap64 ((i : Int) + 1) = ((i + 1 : Nat) : Int) := by unfold wrap64; omega
    rw [spec_l8Backend.l0, if_pos (by omega), if_pos (by omega), bt_byte s i hi, e, List.drop_eq_getElem_cons hl, List.all_cons]
    have ih := spec_loop s hs m k (i + 1) (by omega) (by omega)
    rw [ih]
    generalize (s.data.toList[i]'hl) = b
    unfold okB
    by_cases h1 : 97 ≤ b.toNat
    · rw [if_pos (by omega)]
      by_cases h2 : b.toNat ≤ 122
      · rw [if_pos (by omega)]; simp [h1, h2]
      · have h3 : ¬ b.toNat ≤ 57 := by omega
        rw [if_neg (by omega), if_pos (by omega), if_neg (by omega)]
        simp [h2, h3]
    · rw [if_neg (by omega)]
      by_cases h2 : 48 ≤ b.toNat
      · rw [if_pos (by omega)]
        by_cases h3 : b.toNat ≤ 57
        · rw [if_pos (by omega)]; simp [h2, h3]
        · rw [if_neg (by omega)]; simp [h1, h3]
      · rw [if_neg (by omega)]; simp [h1, h2]
theorem spec_good (k : Nat) (s : ByteArray) (hs : s.size ≤ 1048576) (hk : s.size < k) : spec_l8Backend.f k s = some (goodS s) := by
  have := spec_loop s hs s.size k 0 (by omega) hk
  unfold spec_l8Backend.f goodS
  rw [Bool.and_comm]
  simpa using this
theorem rdS (l : List ByteArray) (i : Nat) (h : i < l.length) : rdOf ByteArray.empty l (i : Int) = l[i]'h := by simp [rdOf, List.getD_eq_getElem?_getD, List.getElem?_eq_getElem h]
theorem szS_loop (l : List ByteArray) (hl : l.length ≤ 1048576) (hw : ∀ s, s ∈ l → s.size ≤ 9223372036854775807) : ∀ (m k i : Nat) (x : Int), l.length = i + m → m < k → 0 ≤ x → x ≤ 1048576 → (∀ j (h : j < l.length), j < i → (l[j]'h).size ≤ 1048576) →
    ∃ r, laws_szStringS.l0 k l x (i : Int) = some r ∧ (¬ r < 0 → ∀ j (h : j < l.length), (l[j]'h).size ≤ 1048576)
  | 0, k, i, x, hd, hk, h0, h1, hp => by
    obtain ⟨k, rfl⟩ : ∃ m, k = m + 1 := ⟨k - 1, by omega⟩
    rw [laws_szStringS.l0, if_neg (by omega)]
    exact ⟨_, rfl, fun _ j h => hp j h (by omega)⟩
  | m + 1, k, i, x, hd, hk, h0, h1, hp => by
    obtain ⟨k, rfl⟩ : ∃ m, k = m + 1 := ⟨k - 1, by omega⟩
    have hi : i < l.length := by omega
    have hsz := hw (l[i]'hi) (List.getElem_mem hi)
    have e : wrap64 ((i : Int) + 1) = ((i + 1 : Nat) : Int) := by unfold wrap64; omega
    have e2 : wrap64 (x - ((l[i]'hi).size : Int)) = x - ((l[i]'hi).size : Int) := by unfold wrap64; omega
    rw [laws_szStringS.l0, if_pos (by omega), if_pos (by omega), rdS l i hi, e, e2]
    by_cases h : x - ((l[i]'hi).size : Int) < 0
    · rw [if_pos h]; exact ⟨_, rfl, fun q => absurd (by decide) q⟩
    · rw [if_neg h]
      exact szS_loop l hl hw m k (i + 1) _ (by omega) (by omega) (by omega) (by omega) (fun j hj hji => by
        by_cases q : j = i
        · subst q; omega
        · exact hp j hj (by omega))
theorem szS_tells (k : Nat) (l : List ByteArray) (x : Int) (h0 : 0 ≤ x) (h1 : x ≤ 1048576) (hl : l.length ≤ 9223372036854775807) (hw : ∀ s, s ∈ l → s.size ≤ 9223372036854775807) (hk : 1048577 < k) :
    ∃ r, laws_szStringS.f k l x = some r ∧ (¬ r < 0 → l.length ≤ 1048576 ∧ ∀ s, s ∈ l → s.size ≤ 1048576) := by
  unfold laws_szStringS.f
  have e : wrap64 (x - (l.length : Int)) = x - (l.length : Int) := by unfold wrap64; omega
  rw [e]
  by_cases h : x - (l.length : Int) < 0
  · rw [if_pos h]; exact ⟨_, rfl, fun q => absurd (by decide) q⟩
  · rw [if_neg h]
    obtain ⟨r, h2, h3⟩ := szS_loop l (by omega) hw l.length k 0 (x - (l.length : Int)) (by omega) (by omega) (by omega) (by omega) (fun j _ hj => absurd hj (Nat.not_lt_zero _))
    refine ⟨r, h2, fun q => ⟨by omega, fun s hs => ?_⟩⟩
    obtain ⟨j, hj, rfl⟩ := List.getElem_of_mem hs
    exact h3 q j hj
theorem toS_loop (l : List ByteArray) (hl : l.length ≤ 1048576) : ∀ (m k i : Nat) (x : List ByteArray), l.length = i + m → x.length = l.length → x.take i = l.take i → m < k → laws_toStringS.l0 k l x (i : Int) = some l
  | 0, k, i, x, hd, hx, he, hk => by
    obtain ⟨k, rfl⟩ : ∃ m, k = m + 1 := ⟨k - 1, by omega⟩
    rw [laws_toStringS.l0, if_neg (by omega)]
    rw [List.take_of_length_le (by omega), List.take_of_length_le (by omega)] at he
    rw [he]
  | m + 1, k, i, x, hd, hx, he, hk => by
    obtain ⟨k, rfl⟩ : ∃ m, k = m + 1 := ⟨k - 1, by omega⟩
    have e : wrap64 ((i : Int) + 1) = ((i + 1 : Nat) : Int) := by unfold wrap64; omega
    rw [laws_toStringS.l0, if_pos (by omega), if_pos (by omega), if_pos (by omega), e, Int.toNat_natCast, rdS l i (by omega)]
    refine toS_loop l hl m k (i + 1) _ (by omega) (by rw [List.length_set]; exact hx) ?_ (by omega)
    rw [List.take_succ_eq_append_getElem (by rw [List.length_set]; omega), List.take_succ_eq_append_getElem (by omega), List.take_set, List.set_eq_of_length_le (by rw [List.length_take]; omega), he, List.getElem_set_self]
theorem toS_tells (k : Nat) (l : List ByteArray) (hl : l.length ≤ 1048576) (hk : l.length < k) : laws_toStringS.f k l = some l := by
  unfold laws_toStringS.f
  rw [if_pos (by omega), if_pos (by omega), Int.toNat_natCast]
  exact toS_loop l hl l.length k 0 _ (by omega) (by simp) (by simp) hk
theorem eqS_loop (l : List ByteArray) (hl : l.length ≤ 1048576) : ∀ (m k i : Nat), l.length = i + m → m < k → laws_eqStringS.l0 k l l (i : Int) = some true
  | 0, k, i, hd, hk => by
    obtain ⟨k, rfl⟩ : ∃ m, k = m + 1 := ⟨k - 1, by omega⟩
    rw [laws_eqStringS.l0, if_neg (by omega)]
  | m + 1, k, i, hd, hk => by
    obtain ⟨k, rfl⟩ : ∃ m, k = m + 1 := ⟨k - 1, by omega⟩
    have e : wrap64 ((i : Int) + 1) = ((i + 1 : Nat) : Int) := by unfold wrap64; omega
    rw [laws_eqStringS.l0, if_pos (by omega), if_pos (by omega), if_pos (by omega), if_pos rfl, e]
    exact eqS_loop l hl m k (i + 1) (by omega) (by omega)
theorem eqS_tells (k : Nat) (l : List ByteArray) (hl : l.length ≤ 1048576) (hk : l.length < k) : laws_eqStringS.f k l l = some true := by
  unfold laws_eqStringS.f
  rw [if_pos rfl]
  exact eqS_loop l hl l.length k 0 (by omega) hk
def liveAt (l : List ByteArray) (i : Nat) : Bool := goodS (rdOf ByteArray.empty l (i : Int)) && (decide (i = 0) || Op.bytesLess (rdOf ByteArray.empty l ((i - 1 : Nat) : Int)).toList (rdOf ByteArray.empty l (i : Int)).toList)
def liveS (l : List ByteArray) : Bool := (List.range l.length).all (liveAt l) && decide (l.length ≤ 12)
theorem range_drop (n i : Nat) (h : i < n) : (List.range n).drop i = i :: (List.range n).drop (i + 1) := by
  rw [List.drop_eq_getElem_cons (by simpa using h)]; simp
theorem live_both (l : List ByteArray) (hl : l.length ≤ 1048576) (hs : ∀ s, s ∈ l → s.size ≤ 1048576) : ∀ (m k i : Nat), l.length = i + m → m + 1048577 < k →
    spec_GoodLive.l0 k l l (l.length : Int) (i : Int) = some (((List.range l.length).drop i).all (liveAt l) && decide (l.length ≤ 12)) ∧
    impl_GoodLive.l0 k l l (l.length : Int) (i : Int) = some (((List.range l.length).drop i).all (liveAt l) && decide (l.length ≤ 12))
  | 0, k, i, hd, hk => by
    obtain ⟨k, rfl⟩ : ∃ m, k = m + 1 := ⟨k - 1, by omega⟩
    have hz : decide ((l.length : Int) ≤ 12) = decide (l.length ≤ 12) := decide_eq_decide.mpr (by omega)
    rw [spec_GoodLive.l0, impl_GoodLive.l0, if_neg (by omega), if_neg (by omega), List.drop_eq_nil_of_le (by simp; omega), hz]
    simp
  | m + 1, k, i, hd, hk => by
    obtain ⟨k, rfl⟩ : ∃ m, k = m + 1 := ⟨k - 1, by omega⟩
    have hi : i < l.length := by omega
    have hsz := hs (l[i]'hi) (List.getElem_mem hi)
    have e : wrap64 ((i : Int) + 1) = ((i + 1 : Nat) : Int) := by unfold wrap64; omega
    obtain ⟨ih1, ih2⟩ := live_both l hl hs m k (i + 1) (by omega) (by omega)
    have hg : spec_l8Backend.f k (rdOf ByteArray.empty l (i : Int)) = some (goodS (rdOf ByteArray.empty l (i : Int))) := by
      rw [rdS l i hi]; exact spec_good k _ hsz (by omega)
    have hg' : impl_GoodBackend.f (rdOf ByteArray.empty l (i : Int)) = some (goodS (rdOf ByteArray.empty l (i : Int))) := by
      rw [rdS l i hi]; exact impl_good _ (by omega)
    have e1 : ¬ i = 0 → wrap64 ((i : Int) - 1) = ((i - 1 : Nat) : Int) := fun _ => by unfold wrap64; omega
    constructor
    · rw [spec_GoodLive.l0, if_pos (by omega), if_pos (by omega), if_pos (by omega), hg]
      simp only [Option.bind_some]
      rw [e, ih1, range_drop _ i hi, List.all_cons]
      unfold liveAt
      cases goodS (rdOf ByteArray.empty l (i : Int)) with
      | false => rw [if_neg (show ¬ (false = true) by decide)]; simp
      | true =>
        rw [if_pos rfl]
        by_cases h0 : i = 0
        · rw [if_neg (show ¬ (i : Int) > 0 by omega)]; simp [h0]
        · rw [if_pos (show (i : Int) > 0 by omega), e1 h0, if_pos (by omega), if_pos (by omega)]
          cases Op.bytesLess (rdOf ByteArray.empty l ((i - 1 : Nat) : Int)).toList (rdOf ByteArray.empty l (i : Int)).toList with
          | false => rw [if_neg (show ¬ (false = true) by decide)]; simp [h0]
          | true => rw [if_pos rfl]; simp
    · rw [impl_GoodLive.l0, if_pos (by omega), if_pos (by omega), if_pos (by omega), hg']
      simp only [Option.bind_some]
      rw [e, ih2, range_drop _ i hi, List.all_cons]
      unfold liveAt
      cases goodS (rdOf ByteArray.empty l (i : Int)) with
      | false => rw [if_neg (show ¬ (false = true) by decide)]; simp
      | true =>
        rw [if_pos rfl]
        by_cases h0 : i = 0
        · rw [if_neg (show ¬ (i : Int) > 0 by omega)]; simp [h0]
        · rw [if_pos (show (i : Int) > 0 by omega), e1 h0, if_pos (by omega), if_pos (by omega)]
          cases Op.bytesLess (rdOf ByteArray.empty l ((i - 1 : Nat) : Int)).toList (rdOf ByteArray.empty l (i : Int)).toList with
          | false => rw [if_neg (show ¬ (false = true) by decide)]; simp [h0]
          | true => rw [if_pos rfl]; simp
theorem live_spec (k : Nat) (l : List ByteArray) (hl : l.length ≤ 1048576) (hs : ∀ s, s ∈ l → s.size ≤ 1048576) (hk : 2 * 1048577 < k) : spec_GoodLive.f k l = some (liveS l) := by
  have := (live_both l hl hs l.length k 0 (by omega) (by omega)).1
  simpa [spec_GoodLive.f, liveS] using this
theorem live_impl (k : Nat) (l : List ByteArray) (hl : l.length ≤ 1048576) (hs : ∀ s, s ∈ l → s.size ≤ 1048576) (hk : 2 * 1048577 < k) : impl_GoodLive.f k l = some (liveS l) := by
  have := (live_both l hl hs l.length k 0 (by omega) (by omega)).2
  simpa [impl_GoodLive.f, liveS] using this
theorem FnExactGoodLive : laws_FnExactGoodLive.Pure := by
  intro l hl hw
  refine ⟨3 * 1048577, ?_⟩
  unfold laws_FnExactGoodLive.f
  obtain ⟨r, hr, h⟩ := szS_tells (3 * 1048577) l 1048576 (by decide) (by decide) hl hw (by decide)
  rw [hr]
  simp only [Option.bind_some]
  by_cases hn : r < 0
  · rw [if_pos hn]
  rw [if_neg hn]
  obtain ⟨h1, h2⟩ := h hn
  rw [toS_tells _ l h1 (by omega)]
  simp only [Option.bind_some]
  rw [live_spec _ l h1 h2 (by decide), live_impl _ l h1 h2 (by decide)]
  simp only [Option.bind_some]
  rw [eqS_tells _ l h1 (by omega)]
  simp

end Go.Proofs.YtnghcnkffbjddaaDoor.Pure
