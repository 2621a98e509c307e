/- PickBackend and RankBackends: what both tell, over lists; the program's PickBackend in one. Conditions: texts of at most 1048576 bytes. -/
import Derived.Test.YtnghcnkffbjddaaDoorVRk5
namespace Go.Proofs.YtnghcnkffbjddaaDoorV.Aes
open Go.RowKit Go.Proofs.YtnghcnkffbjddaaDoorV.PrintWords Go.Proofs.YtnghcnkffbjddaaDoorV.PrintLast Go.Proofs.YtnghcnkffbjddaaDoorV.PrintMore Go.Proofs.YtnghcnkffbjddaaDoorV.Mem
set_option linter.unusedVariables false
set_option linter.unusedSimpArgs false

open Go.Proofs.YtnghcnkffbjddaaDoor.PImplD Go.Proofs.YtnghcnkffbjddaaDoor.PSpecO
/-- Insertion by falling scores: behind all that score as much. -/
def insF (f : ByteArray → Int) (x : ByteArray) : List ByteArray → List ByteArray
  | [] => [x]
  | a :: l => if f x ≤ f a then a :: insF f x l else x :: a :: l
def rkL (f : ByteArray → Int) (l : List ByteArray) : List ByteArray := l.foldl (fun P x => insF f x P) []
def Fall (f : ByteArray → Int) : List ByteArray → Prop
  | [] => True
  | x :: l => (∀ y, y ∈ l → f y ≤ f x) ∧ Fall f l
theorem insF_mem (f : ByteArray → Int) (x : ByteArray) : ∀ l y, y ∈ insF f x l → y = x ∨ y ∈ l
  | [], y, h => .inl (List.mem_singleton.mp h)
  | a :: l, y, h => by
    unfold insF at h
    split at h
    · rcases List.mem_cons.mp h with rfl | h
      · exact .inr (List.mem_cons_self ..)
      · rcases insF_mem f x l y h with q | q
        · exact .inl q
        · exact .inr (List.mem_cons_of_mem _ q)
    · exact List.mem_cons.mp h
theorem Fall_insF (f : ByteArray → Int) (x : ByteArray) : ∀ l, Fall f l → Fall f (insF f x l)
  | [], _ => ⟨fun y hy => (by cases hy), trivial⟩
  | a :: l, h => by
    have ih := Fall_insF f x l h.2
    unfold insF
    by_cases ha : f x ≤ f a
    · rw [if_pos ha]
      refine ⟨fun y hy => ?_, ih⟩
      rcases insF_mem f x l y hy with rfl | q
      · exact ha
      · exact h.1 y q
    · rw [if_neg ha]
      refine ⟨fun y hy => ?_, h⟩
      rcases List.mem_cons.mp hy with rfl | q
      · omega
      · have := h.1 y q; omega
theorem Fall_snoc (f : ByteArray → Int) (y : ByteArray) : ∀ l, Fall f (l ++ [y]) → Fall f l ∧ ∀ z, z ∈ l → f y ≤ f z
  | [], _ => ⟨trivial, fun z hz => by cases hz⟩
  | a :: l, h => by
    obtain ⟨h1, h2⟩ := Fall_snoc f y l h.2
    refine ⟨⟨fun z hz => h.1 z (List.mem_append_left _ hz), h1⟩, fun z hz => ?_⟩
    rcases List.mem_cons.mp hz with rfl | q
    · exact h.1 y (List.mem_append_right _ (List.mem_singleton.mpr rfl))
    · exact h2 z q
theorem insF_snoc (f : ByteArray → Int) (x y : ByteArray) (h : f y < f x) : ∀ l, insF f x (l ++ [y]) = insF f x l ++ [y]
  | [] => by
    have : ¬ f x ≤ f y := by omega
    simp [insF, this]
  | a :: l => by
    rw [List.cons_append, insF, insF, insF_snoc f x y h l]
    split <;> rfl
theorem insF_all (f : ByteArray → Int) (x : ByteArray) : ∀ l, (∀ z, z ∈ l → f x ≤ f z) → insF f x l = l ++ [x]
  | [], _ => rfl
  | a :: l, h => by
    rw [insF, if_pos (h a (List.mem_cons_self ..)), insF_all f x l (fun z hz => h z (List.mem_cons_of_mem _ hz))]
    rfl
theorem insF_at (f : ByteArray → Int) (x : ByteArray) : ∀ (l : List ByteArray) (k : Nat), k ≤ l.length → (∀ j, j < k → f x ≤ f (l.getD j ByteArray.empty)) → (k < l.length → f (l.getD k ByteArray.empty) < f x) → insF f x l = l.take k ++ x :: l.drop k
  | [], k, _, _, _ => by simp [insF]
  | a :: l, 0, _, _, h2 => by
    have : f a < f x := h2 (by simp)
    rw [insF, if_neg (by omega)]; rfl
  | a :: l, k + 1, hk, h1, h2 => by
    have : f x ≤ f a := h1 0 (by omega)
    rw [insF, if_pos this, insF_at f x l k (by simpa using hk) (fun j hj => h1 (j + 1) (by omega)) (fun q => h2 (by simpa using q))]
    rfl
theorem swapL_at (P S : List ByteArray) (y x : ByteArray) : swapL (P ++ y :: x :: S) P.length = P ++ x :: y :: S := by
  unfold swapL
  have e1 : (P ++ y :: x :: S).getD P.length ByteArray.empty = y := by simp [List.getD_eq_getElem?_getD]
  have e2 : (P ++ y :: x :: S).getD (P.length + 1) ByteArray.empty = x := by
    rw [List.getD_eq_getElem?_getD, List.getElem?_append_right (by omega)]; simp
  rw [e1, e2, List.set_append_right _ _ (by omega), List.set_append_right _ _ (by omega)]
  simp
theorem inner_ins (f : ByteArray → Int) (cf : ByteArray → ByteArray → Int) (hcf : ∀ a b, cf a b < 0 ↔ f b < f a) (x : ByteArray) : ∀ (n : Nat) (P S : List ByteArray), P.length = n → Fall f P → innerL cf n (P ++ x :: S) = insF f x P ++ S
  | 0, P, S, hn, _ => by
    obtain rfl := List.length_eq_zero_iff.mp hn
    rfl
  | n + 1, P, S, hn, hF => by
    obtain ⟨P', y, rfl⟩ : ∃ P' y, P = P' ++ [y] := by
      rcases List.eq_nil_or_concat P with rfl | ⟨P', y, rfl⟩
      · cases hn
      · exact ⟨P', y, List.concat_eq_append⟩
    have hn' : P'.length = n := by simpa using hn
    subst hn'
    obtain ⟨hF', hy⟩ := Fall_snoc f y P' hF
    have e : P' ++ [y] ++ x :: S = P' ++ y :: x :: S := by simp
    rw [e, innerL]
    have e1 : (P' ++ y :: x :: S).getD P'.length ByteArray.empty = y := by simp [List.getD_eq_getElem?_getD]
    have e2 : (P' ++ y :: x :: S).getD (P'.length + 1) ByteArray.empty = x := by
      rw [List.getD_eq_getElem?_getD, List.getElem?_append_right (by omega)]; simp
    rw [e1, e2]
    by_cases h : f y < f x
    · rw [if_pos ((hcf x y).mpr h), swapL_at, inner_ins f cf hcf x P'.length P' (y :: S) rfl hF', insF_snoc f x y h]
      simp
    · rw [if_neg (fun q => h ((hcf x y).mp q)), insF_all f x (P' ++ [y]) (fun z hz => by
        rcases List.mem_append.mp hz with q | q
        · have := hy z q; omega
        · rw [List.mem_singleton.mp q]; omega)]
      simp
theorem insF_length (f : ByteArray → Int) (x : ByteArray) : ∀ l, (insF f x l).length = l.length + 1
  | [] => rfl
  | a :: l => by
    rw [insF]
    split
    · rw [List.length_cons, insF_length f x l]; rfl
    · rfl
theorem outer_ins (f : ByteArray → Int) (cf : ByteArray → ByteArray → Int) (hcf : ∀ a b, cf a b < 0 ↔ f b < f a) : ∀ (S P : List ByteArray), Fall f P → outerL cf S.length P.length (P ++ S) = S.foldl (fun P x => insF f x P) P
  | [], P, _ => by simp [outerL]
  | x :: S, P, hF => by
    rw [List.length_cons, outerL, inner_ins f cf hcf x P.length P S rfl hF, List.foldl_cons]
    have := outer_ins f cf hcf S (insF f x P) (Fall_insF f x P hF)
    rw [insF_length] at this
    exact this
theorem outer_rk (f : ByteArray → Int) (cf : ByteArray → ByteArray → Int) (hcf : ∀ a b, cf a b < 0 ↔ f b < f a) (l : List ByteArray) : outerL cf (l.length - 1) 1 l = rkL f l := by
  cases l with
  | nil => rfl
  | cons x S => exact outer_ins f cf hcf S [x] ⟨fun y hy => (by cases hy), trivial⟩
def scF (key : ByteArray) (x : ByteArray) : Int := scN x key
theorem cfS_neg (key : ByteArray) (a b : ByteArray) : cfS key a b < 0 ↔ scF key b < scF key a := by
  unfold cfS cmpI scF
  by_cases h : scN b key < scN a key
  · rw [if_pos h]; exact ⟨fun _ => h, fun _ => by decide⟩
  · rw [if_neg h]
    split
    · exact ⟨fun q => absurd q (by decide), fun q => absurd q h⟩
    · exact ⟨fun q => absurd q (by decide), fun q => absurd q h⟩
theorem rankL_rk (key : ByteArray) (l : List ByteArray) : rankL key l = rkL (scF key) l := outer_rk (scF key) (cfS key) (cfS_neg key) l
theorem rdS (l : List ByteArray) (i : Nat) (h : i < l.length) : rdOf ByteArray.empty l (i : Int) = l[i]'h := by simp [rdOf, List.getD_eq_getElem?_getD, List.getElem?_eq_getElem h]
def liveAt (l : List ByteArray) (i : Nat) : Bool := goodS (rdOf ByteArray.empty l (i : Int)) && (decide (i = 0) || Op.bytesLess (rdOf ByteArray.empty l ((i - 1 : Nat) : Int)).toList (rdOf ByteArray.empty l (i : Int)).toList)
def liveS (l : List ByteArray) : Bool := (List.range l.length).all (liveAt l) && decide (l.length ≤ 12)
theorem range_drop (n i : Nat) (h : i < n) : (List.range n).drop i = i :: (List.range n).drop (i + 1) := by
  rw [List.drop_eq_getElem_cons (by simpa using h)]; simp
theorem live_both (l : List ByteArray) (hl : l.length ≤ 1048576) (hs : ∀ s, s ∈ l → s.size ≤ 1048576) : ∀ (m k i : Nat), l.length = i + m → m + 1048577 < k →
    spec_GoodLive.l0 k l l (l.length : Int) (i : Int) = some (((List.range l.length).drop i).all (liveAt l) && decide (l.length ≤ 12)) ∧
    impl_GoodLive.l0 k l l (l.length : Int) (i : Int) = some (((List.range l.length).drop i).all (liveAt l) && decide (l.length ≤ 12))
  | 0, k, i, hd, hk => by
    obtain ⟨k, rfl⟩ : ∃ m, k = m + 1 := ⟨k - 1, by omega⟩
    have hz : decide ((l.length : Int) ≤ 12) = decide (l.length ≤ 12) := decide_eq_decide.mpr (by omega)
    rw [spec_GoodLive.l0, impl_GoodLive.l0, if_neg (by omega), if_neg (by omega), List.drop_eq_nil_of_le (by simp; omega), hz]
    simp
  | m + 1, k, i, hd, hk => by
    obtain ⟨k, rfl⟩ : ∃ m, k = m + 1 := ⟨k - 1, by omega⟩
    have hi : i < l.length := by omega
    have hsz := hs (l[i]'hi) (List.getElem_mem hi)
    have e : wrap64 ((i : Int) + 1) = ((i + 1 : Nat) : Int) := by unfold wrap64; omega
    obtain ⟨ih1, ih2⟩ := live_both l hl hs m k (i + 1) (by omega) (by omega)
    have hg : spec_l8Backend.f k (rdOf ByteArray.empty l (i : Int)) = some (goodS (rdOf ByteArray.empty l (i : Int))) := by
      rw [rdS l i hi]; exact spec_good k _ hsz (by omega)
    have hg' : impl_GoodBackend.f (rdOf ByteArray.empty l (i : Int)) = some (goodS (rdOf ByteArray.empty l (i : Int))) := by
      rw [rdS l i hi]; exact impl_good _ (by omega)
    have e1 : ¬ i = 0 → wrap64 ((i : Int) - 1) = ((i - 1 : Nat) : Int) := fun _ => by unfold wrap64; omega
    constructor
    · rw [spec_GoodLive.l0, if_pos (by omega), if_pos (by omega), if_pos (by omega), hg]
      simp only [Option.bind_some]
      rw [e, ih1, range_drop _ i hi, List.all_cons]
      unfold liveAt
      cases goodS (rdOf ByteArray.empty l (i : Int)) with
      | false => rw [if_neg (show ¬ (false = true) by decide)]; simp
      | true =>
        rw [if_pos rfl]
        by_cases h0 : i = 0
        · rw [if_neg (show ¬ (i : Int) > 0 by omega)]; simp [h0]
        · rw [if_pos (show (i : Int) > 0 by omega), e1 h0, if_pos (by omega), if_pos (by omega)]
          cases Op.bytesLess (rdOf ByteArray.empty l ((i - 1 : Nat) : Int)).toList (rdOf ByteArray.empty l (i : Int)).toList with
          | false => rw [if_neg (show ¬ (false = true) by decide)]; simp [h0]
          | true => rw [if_pos rfl]; simp
    · rw [impl_GoodLive.l0, if_pos (by omega), if_pos (by omega), if_pos (by omega), hg']
      simp only [Option.bind_some]
      rw [e, ih2, range_drop _ i hi, List.all_cons]
      unfold liveAt
      cases goodS (rdOf ByteArray.empty l (i : Int)) with
      | false => rw [if_neg (show ¬ (false = true) by decide)]; simp
      | true =>
        rw [if_pos rfl]
        by_cases h0 : i = 0
        · rw [if_neg (show ¬ (i : Int) > 0 by omega)]; simp [h0]
        · rw [if_pos (show (i : Int) > 0 by omega), e1 h0, if_pos (by omega), if_pos (by omega)]
          cases Op.bytesLess (rdOf ByteArray.empty l ((i - 1 : Nat) : Int)).toList (rdOf ByteArray.empty l (i : Int)).toList with
          | false => rw [if_neg (show ¬ (false = true) by decide)]; simp [h0]
          | true => rw [if_pos rfl]; simp
theorem live_spec (k : Nat) (l : List ByteArray) (hl : l.length ≤ 1048576) (hs : ∀ s, s ∈ l → s.size ≤ 1048576) (hk : 2 * 1048577 < k) : spec_GoodLive.f k l = some (liveS l) := by
  have := (live_both l hl hs l.length k 0 (by omega) (by omega)).1
  simpa [spec_GoodLive.f, liveS] using this
theorem live_impl (k : Nat) (l : List ByteArray) (hl : l.length ≤ 1048576) (hs : ∀ s, s ∈ l → s.size ≤ 1048576) (hk : 2 * 1048577 < k) : impl_GoodLive.f k l = some (liveS l) := by
  have := (live_both l hl hs l.length k 0 (by omega) (by omega)).2
  simpa [impl_GoodLive.f, liveS] using this
theorem liveS_sizes (l : List ByteArray) (h : liveS l = true) : l.length ≤ 12 ∧ ∀ s, s ∈ l → s.size ≤ 12 := by
  unfold liveS at h
  rw [Bool.and_eq_true, decide_eq_true_iff] at h
  refine ⟨h.2, fun s hs => ?_⟩
  obtain ⟨i, hi, rfl⟩ := List.getElem_of_mem hs
  have h1 := List.all_eq_true.mp h.1 i (List.mem_range.mpr hi)
  unfold liveAt at h1
  rw [Bool.and_eq_true, rdS l i hi] at h1
  have h2 := h1.1
  unfold goodS at h2
  simp only [Bool.and_eq_true, decide_eq_true_iff] at h2
  exact h2.1.2
def okT (l : List ByteArray) : Bool := decide (l.length ≤ 1048576) && l.all (fun s => decide (s.size ≤ 1048576))
theorem okT_iff (l : List ByteArray) : okT l = true ↔ l.length ≤ 1048576 ∧ ∀ s, s ∈ l → s.size ≤ 1048576 := by
  unfold okT
  rw [Bool.and_eq_true, decide_eq_true_iff, List.all_eq_true]
  exact ⟨fun h => ⟨h.1, fun s hs => of_decide_eq_true (h.2 s hs)⟩, fun h => ⟨h.1, fun s hs => decide_eq_true (h.2 s hs)⟩⟩
end Go.Proofs.YtnghcnkffbjddaaDoorV.Aes
