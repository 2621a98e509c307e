/- The statement over numbers and lists that is left of the law FnExactVersionAnswer: the program's function and the reference's tell the same for all arguments. Conditions: none beyond the kinds' own bounds. -/
import Derived.Test.YtlohefjigggjiaaPFnExactVersionAnswerx7
set_option linter.unusedVariables false
set_option linter.unusedSimpArgs false
namespace Go.Proofs.Ytlohefjigggjiaa.Pure
open Go.RowKit Go.Proofs.Ytlohefjigggjiaa.PFnExactVersionAnswer Go.Proofs.YtlohefjigggjiaaV.PrintWords Go.Proofs.YtlohefjigggjiaaV.PrintLast

open Go.Proofs.YtlohefjigggjiaaV.Aes
theorem l1In_tells (x lo hi : Int) : spec_l1In.f x lo hi = some (decide (lo ≤ x) && decide (x ≤ hi)) := by
  unfold spec_l1In.f
  by_cases h : x ≥ lo
  · rw [if_pos h]
    have h' : lo ≤ x := h
    simp [h']
  · rw [if_neg h]
    have h' : ¬ lo ≤ x := h
    simp [h']
theorem l2Word_tells (x : Int) : spec_l2Word.f x = some (!badV x) := by
  unfold spec_l2Word.f
  rw [l1In_tells]
  simp [badV]
def tailB (v : Int) (p : ByteArray) (n : Nat) : Bool := if v = 0 then (if p.toList = ([] : List UInt8) then (if 1 ≤ n ∧ n ≤ 20 then true else false) else false) else false
theorem vers_loop (l : List Int) (hl : l.length ≤ 1048576) (f b v : Int) (d s t p : ByteArray) : ∀ (m k i : Nat), l.length = i + m → m < k →
    spec_GoodHeader.l0 k l (l.length : Int) (i : Int) f b v d s t p l = some (!((l.drop i).any badV) && tailB v p l.length)
  | 0, k, i, hd, hk => by
    obtain ⟨k, rfl⟩ : ∃ m, k = m + 1 := ⟨k - 1, by omega⟩
    simp only [spec_GoodHeader.l0]
    rw [if_neg (by omega), List.drop_eq_nil_of_le (by omega)]
    unfold tailB
    by_cases h1 : v = 0
    · rw [if_pos h1, if_pos h1]
      by_cases h2 : p.toList = ([] : List UInt8)
      · rw [if_pos h2, if_pos h2, l1In_tells]
        by_cases h3 : 1 ≤ l.length ∧ l.length ≤ 20
        · rw [if_pos h3]
          have e1 : decide ((1 : Int) ≤ (l.length : Int)) = true := decide_eq_true (by omega)
          have e2 : decide ((l.length : Int) ≤ 20) = true := decide_eq_true (by omega)
          rw [e1, e2]; rfl
        · rw [if_neg h3]
          have e1 : (decide ((1 : Int) ≤ (l.length : Int)) && decide ((l.length : Int) ≤ 20)) = false := by
            rw [Bool.and_eq_false_iff, decide_eq_false_iff_not, decide_eq_false_iff_not]; omega
          rw [e1]; rfl
      · rw [if_neg h2, if_neg h2]; rfl
    · rw [if_neg h1, if_neg h1]; rfl
  | m + 1, k, i, hd, hk => by
    obtain ⟨k, rfl⟩ : ∃ m, k = m + 1 := ⟨k - 1, by omega⟩
    simp only [spec_GoodHeader.l0]
    have e : wrap64 ((i : Int) + 1) = ((i + 1 : Nat) : Int) := by unfold wrap64; omega
    rw [if_pos (by omega), if_pos (by omega), if_pos (by omega), l2Word_tells, e]
    simp only [Option.bind_some]
    have hr : rd l (i : Int) = l[i]'(by omega) := by simp [rd, List.getD_eq_getElem?_getD, List.getElem?_eq_getElem (show i < l.length by omega)]
    rw [List.drop_eq_getElem_cons (by omega), hr, List.any_cons]
    cases hb : badV (l[i]'(by omega)) with
    | true => simp
    | false =>
      rw [if_pos (by rfl), vers_loop l hl f b v d s t p m k (i + 1) (by omega) (by omega)]
      simp
theorem spec_tells (k : Nat) (f b v : Int) (d s t p : ByteArray) (l : List Int) (hl : l.length ≤ 1048576) (hk : l.length < k) :
    spec_GoodHeader.f (k + 3) f b v d s t p l = some (goodH f b v d s t p l.length (l.any badV)) := by
  unfold spec_GoodHeader.f goodH
  by_cases h1 : d.size > 20
  · rw [if_pos (show (d.size : Int) > 20 by omega), if_pos h1]
    rw [spec_GoodHeader.j0]
    rw [if_pos rfl]
  rw [if_neg (show ¬ (d.size : Int) > 20 by omega), if_neg h1]
  by_cases h2 : s.size > 20
  · rw [if_pos (show (s.size : Int) > 20 by omega), if_pos h2]
    rw [spec_GoodHeader.j0]
    rw [if_pos rfl]
  rw [if_neg (show ¬ (s.size : Int) > 20 by omega), if_neg h2, l1In_tells]
  simp only [Option.bind_some]
  by_cases h3 : 0 ≤ b ∧ b ≤ 15
  rotate_left
  · have e1 : (decide ((0 : Int) ≤ b) && decide (b ≤ 15)) = false := by
      rw [Bool.and_eq_false_iff, decide_eq_false_iff_not, decide_eq_false_iff_not]; omega
    rw [e1, if_neg (show ¬ (false = true) by decide), if_pos h3]
    rw [spec_GoodHeader.j0]
    rw [if_pos rfl]
  have e1 : (decide ((0 : Int) ≤ b) && decide (b ≤ 15)) = true := by
    rw [Bool.and_eq_true, decide_eq_true_iff, decide_eq_true_iff]; omega
  rw [e1, if_pos rfl, if_neg (not_not_intro h3)]
  by_cases h4 : t.size > 200
  · rw [if_pos (show (t.size : Int) > 200 by omega), if_pos h4]
    rw [spec_GoodHeader.j0]
    rw [if_pos rfl]
  rw [if_neg (show ¬ (t.size : Int) > 200 by omega), if_neg h4]
  rw [spec_GoodHeader.j0]
  by_cases h5 : p.size > 1200
  · rw [if_pos (decide_eq_true (show (p.size : Int) > 1200 by omega)), if_pos h5]
  rw [if_neg (show ¬ (decide ((p.size : Int) > 1200) = true) by rw [decide_eq_true_iff]; omega), if_neg h5]
  have hin : spec_l1In.f v 1 4294967295 = some (decide (1 ≤ v) && decide (v ≤ 4294967295)) := l1In_tells _ _ _
  have hlong : ∀ q : Bool, q = true → spec_GoodHeader.j2 (k + 1) f q f b v d s t p l = some (if 1 ≤ v ∧ v ≤ 4294967295 then (if p.toList = ([] : List UInt8) then false else true) else false) := by
    intro q hq
    rw [spec_GoodHeader.j2]
    rw [if_pos hq, hin]
    simp only [Option.bind_some]
    by_cases vv : 1 ≤ v ∧ v ≤ 4294967295
    · have e2 : (decide ((1 : Int) ≤ v) && decide (v ≤ 4294967295)) = true := by
        rw [Bool.and_eq_true, decide_eq_true_iff, decide_eq_true_iff]; omega
      rw [e2, if_pos rfl, if_pos vv]
      by_cases pe : p.toList = ([] : List UInt8)
      · rw [if_pos pe, pe]; rfl
      · rw [if_neg pe]
        have : (p.toList != ([] : List UInt8)) = true := by rw [bne_iff_ne]; exact pe
        rw [this]
    · have e2 : (decide ((1 : Int) ≤ v) && decide (v ≤ 4294967295)) = false := by
        rw [Bool.and_eq_false_iff, decide_eq_false_iff_not, decide_eq_false_iff_not]; omega
      rw [e2, if_neg (show ¬ (false = true) by decide), if_neg vv]
  have hrest : ∀ q : Bool, q = false → spec_GoodHeader.j2 (k + 1) f q f b v d s t p l = some (if f = 4 then (!(l.any badV) && tailB v p l.length) else if f = 5 then (if v = 0 then (if s.toList = ([] : List UInt8) then true else false) else false) else false) := by
    intro q hq
    rw [spec_GoodHeader.j2]
    rw [if_neg (by rw [hq]; decide)]
    by_cases f4 : f = 4
    · have := vers_loop l hl f b v d s t p l.length k 0 (by omega) hk
      rw [if_pos f4, if_pos f4]
      simpa using this
    · rw [if_neg f4, if_neg f4]
      by_cases f5 : f = 5
      · rw [if_pos f5, if_pos f5]
        by_cases se : s.toList = ([] : List UInt8)
        · rw [if_pos se]
          by_cases v0 : v = 0
          · rw [if_pos v0, if_pos se, v0]; rfl
          · rw [if_neg v0]
            have : (v == 0) = false := beq_eq_false_iff_ne.mpr v0
            rw [this]
        · rw [if_neg se]
          by_cases v0 : v = 0
          · rw [if_pos v0, if_neg se]
          · rw [if_neg v0]
      · rw [if_neg f5, if_neg f5]
  by_cases f0 : f = 0
  · rw [if_pos f0, if_neg (show ¬ f = 4 by omega), if_pos f0]
    rw [spec_GoodHeader.j1]
    by_cases l0 : l.length = 0
    · rw [if_neg (show ¬ (decide ((l.length : Int) > 0) = true) by rw [decide_eq_true_iff]; omega), if_pos f0, if_pos l0, hlong _ (by rw [f0]; rfl)]
    · rw [if_pos (decide_eq_true (show (l.length : Int) > 0 by omega)), if_neg l0]
  rw [if_neg f0, if_neg f0]
  by_cases te : t.toList = ([] : List UInt8)
  rotate_left
  · rw [if_neg te, if_neg te]
    rw [spec_GoodHeader.j1]
    rw [if_pos rfl]
  rw [if_pos te, if_pos te]
  by_cases f4 : f = 4
  · rw [if_pos f4, if_pos f4]
    rw [spec_GoodHeader.j1]
    rw [if_neg (show ¬ (false = true) by decide), if_neg f0, if_neg (show ¬ f = 1 by omega), if_neg (show ¬ f = 2 by omega), hrest _ (by rw [f4]; rfl), if_pos f4]
    unfold tailB
    by_cases v0 : v = 0
    · rw [if_pos v0, if_pos v0]
      by_cases pe : p.toList = ([] : List UInt8)
      · rw [if_pos pe, if_pos pe]
        by_cases ll : 1 ≤ l.length ∧ l.length ≤ 20
        · rw [if_pos ll, if_pos ll, Bool.and_true]
        · rw [if_neg ll, if_neg ll, Bool.and_false]
      · rw [if_neg pe, if_neg pe, Bool.and_false]
    · rw [if_neg v0, if_neg v0, Bool.and_false]
  rw [if_neg f4, if_neg f4]
  rw [spec_GoodHeader.j1]
  by_cases l0 : l.length = 0
  rotate_left
  · rw [if_pos (decide_eq_true (show (l.length : Int) > 0 by omega)), if_neg l0]
  rw [if_neg (show ¬ (decide ((l.length : Int) > 0) = true) by rw [decide_eq_true_iff]; omega), if_pos l0, if_neg f0]
  by_cases lg : 0 ≤ f ∧ f ≤ 3
  · rw [if_pos lg]
    by_cases f1 : f = 1
    · rw [if_pos f1, hlong _ (by rw [f1]; rfl)]
    · rw [if_neg f1]
      by_cases f2 : f = 2
      · rw [if_pos f2, hlong _ (by rw [f2]; rfl)]
      · rw [if_neg f2, hlong _ (by rw [beq_iff_eq]; omega)]
  · rw [if_neg lg, if_neg (show ¬ f = 1 by omega), if_neg (show ¬ f = 2 by omega), hrest _ (beq_eq_false_iff_ne.mpr (by omega)), if_neg f4]
theorem sz_tells (a b c : Int) (d s t p : ByteArray) (l : List Int) (hd : d.size ≤ 9223372036854775807) (hs : s.size ≤ 9223372036854775807) (ht : t.size ≤ 9223372036854775807) (hp : p.size ≤ 9223372036854775807) (hl : l.length ≤ 9223372036854775807) :
    ∃ r, laws_szHeader.f a b c d s t p l 1048576 = some r ∧ (¬ r < 0 → l.length ≤ 1048576) := by
  unfold laws_szHeader.f laws_szIntS.f
  have e1 : wrap64 (1048576 - (d.size : Int)) = 1048576 - (d.size : Int) := by unfold wrap64; omega
  rw [e1]
  by_cases h1 : (1048576 : Int) - (d.size : Int) < 0
  · rw [if_pos h1]; exact ⟨_, rfl, by omega⟩
  rw [if_neg h1]
  have e2 : wrap64 (1048576 - (d.size : Int) - (s.size : Int)) = 1048576 - (d.size : Int) - (s.size : Int) := by unfold wrap64; omega
  rw [e2]
  by_cases h2 : (1048576 : Int) - (d.size : Int) - (s.size : Int) < 0
  · rw [if_pos h2]; exact ⟨_, rfl, by omega⟩
  rw [if_neg h2]
  have e3 : wrap64 (1048576 - (d.size : Int) - (s.size : Int) - (t.size : Int)) = 1048576 - (d.size : Int) - (s.size : Int) - (t.size : Int) := by unfold wrap64; omega
  rw [e3]
  by_cases h3 : (1048576 : Int) - (d.size : Int) - (s.size : Int) - (t.size : Int) < 0
  · rw [if_pos h3]; exact ⟨_, rfl, by omega⟩
  rw [if_neg h3]
  have e4 : wrap64 (1048576 - (d.size : Int) - (s.size : Int) - (t.size : Int) - (p.size : Int)) = 1048576 - (d.size : Int) - (s.size : Int) - (t.size : Int) - (p.size : Int) := by unfold wrap64; omega
  rw [e4]
  by_cases h4 : (1048576 : Int) - (d.size : Int) - (s.size : Int) - (t.size : Int) - (p.size : Int) < 0
  · rw [if_pos h4]; exact ⟨_, rfl, by omega⟩
  rw [if_neg h4]
  have e5 : wrap64 (1048576 - (d.size : Int) - (s.size : Int) - (t.size : Int) - (p.size : Int) - (l.length : Int)) = 1048576 - (d.size : Int) - (s.size : Int) - (t.size : Int) - (p.size : Int) - (l.length : Int) := by unfold wrap64; omega
  rw [e5]
  by_cases h5 : (1048576 : Int) - (d.size : Int) - (s.size : Int) - (t.size : Int) - (p.size : Int) - (l.length : Int) < 0
  · rw [if_pos h5]; simp only [Option.bind_some]; exact ⟨_, rfl, by omega⟩
  rw [if_neg h5]
  simp only [Option.bind_some]
  rw [if_neg h5]
  exact ⟨_, rfl, fun _ => by omega⟩
theorem toIntS_loop (l : List Int) (hl : l.length ≤ 1048576) : ∀ (m k i : Nat) (x : List Int), l.length = i + m → x.length = l.length → x.take i = l.take i → m < k → laws_toIntS.l0 k l x (i : Int) = some l
  | 0, k, i, x, hd, hx, he, hk => by
    obtain ⟨k, rfl⟩ : ∃ m, k = m + 1 := ⟨k - 1, by omega⟩
    simp only [laws_toIntS.l0]
    rw [if_neg (by omega)]
    rw [List.take_of_length_le (by omega), List.take_of_length_le (by omega)] at he
    rw [he]
  | m + 1, k, i, x, hd, hx, he, hk => by
    obtain ⟨k, rfl⟩ : ∃ m, k = m + 1 := ⟨k - 1, by omega⟩
    simp only [laws_toIntS.l0]
    have e : wrap64 ((i : Int) + 1) = ((i + 1 : Nat) : Int) := by unfold wrap64; omega
    rw [if_pos (by omega), if_pos (by omega), if_pos (by omega), e, Int.toNat_natCast]
    have hr : rd l (i : Int) = l[i]'(by omega) := by simp [rd, List.getD_eq_getElem?_getD, List.getElem?_eq_getElem (show i < l.length by omega)]
    refine toIntS_loop l hl m k (i + 1) _ (by omega) (by rw [List.length_set]; exact hx) ?_ (by omega)
    rw [List.take_succ_eq_append_getElem (by rw [List.length_set]; omega), List.take_succ_eq_append_getElem (by omega), List.take_set, List.set_eq_of_length_le (by rw [List.length_take]; omega), he, List.getElem_set_self, hr]
theorem toIntS_tells (k : Nat) (l : List Int) (hl : l.length ≤ 1048576) (hk : l.length < k) : laws_toIntS.f k l = some l := by
  unfold laws_toIntS.f
  rw [if_pos (by omega), if_pos (by omega), Int.toNat_natCast]
  exact toIntS_loop l hl l.length k 0 _ (by omega) (by simp) (by simp) hk
theorem eqIntS_loop (l : List Int) (hl : l.length ≤ 1048576) : ∀ (m k i : Nat), l.length = i + m → m < k → laws_eqIntS.l0 k l l (i : Int) = some true
  | 0, k, i, hd, hk => by
    obtain ⟨k, rfl⟩ : ∃ m, k = m + 1 := ⟨k - 1, by omega⟩
    simp only [laws_eqIntS.l0]
    rw [if_neg (by omega)]
  | m + 1, k, i, hd, hk => by
    obtain ⟨k, rfl⟩ : ∃ m, k = m + 1 := ⟨k - 1, by omega⟩
    simp only [laws_eqIntS.l0]
    have e : wrap64 ((i : Int) + 1) = ((i + 1 : Nat) : Int) := by unfold wrap64; omega
    rw [if_pos (by omega), if_pos (by omega), if_pos (by omega), if_pos trivial, e]
    exact eqIntS_loop l hl m k (i + 1) (by omega) (by omega)
theorem eqIntS_tells (k : Nat) (l : List Int) (hl : l.length ≤ 1048576) (hk : l.length < k) : laws_eqIntS.f k l l = some true := by
  unfold laws_eqIntS.f
  rw [if_pos rfl]
  exact eqIntS_loop l hl l.length k 0 (by omega) hk
theorem in_tells (x lo hi : Int) : impl_in.f x lo hi = some (decide (lo ≤ x) && decide (x ≤ hi)) := l1In_tells x lo hi
theorem rd_at (l : List Int) (i : Nat) (h : i < l.length) : rd l (i : Int) = l[i]'h := by simp [rd, List.getD_eq_getElem?_getD, List.getElem?_eq_getElem h]
theorem has_loop (v : Int) (l : List Int) (hl : l.length ≤ 1048576) : ∀ (m k i : Nat), l.length = i + m → m < k → spec_l1Has.l0 k v l (l.length : Int) (i : Int) = some ((l.drop i).contains v)
  | 0, k, i, hd, hk => by
    obtain ⟨k, rfl⟩ : ∃ m, k = m + 1 := ⟨k - 1, by omega⟩
    rw [spec_l1Has.l0, if_neg (by omega), List.drop_eq_nil_of_le (by omega)]; rfl
  | m + 1, k, i, hd, hk => by
    obtain ⟨k, rfl⟩ : ∃ m, k = m + 1 := ⟨k - 1, by omega⟩
    have e : wrap64 ((i : Int) + 1) = ((i + 1 : Nat) : Int) := by unfold wrap64; omega
    rw [spec_l1Has.l0, if_pos (by omega), if_pos (by omega), if_pos (by omega), rd_at l i (by omega), List.drop_eq_getElem_cons (by omega), List.contains_cons]
    by_cases h : l[i]'(by omega) = v
    · rw [if_pos h]
      have : (v == l[i]'(by omega)) = true := beq_iff_eq.mpr h.symm
      rw [this]; rfl
    · rw [if_neg h, e, has_loop v l hl m k (i + 1) (by omega) (by omega)]
      have : (v == l[i]'(by omega)) = false := beq_eq_false_iff_ne.mpr (fun q => h q.symm)
      rw [this]; rfl
theorem has_tells (k : Nat) (v : Int) (l : List Int) (hl : l.length ≤ 1048576) (hk : l.length < k) : spec_l1Has.f k l v = some (l.contains v) := by
  have := has_loop v l hl l.length k 0 (by omega) hk
  simpa [spec_l1Has.f] using this
theorem index_loop (v : Int) (l : List Int) (hl : l.length ≤ 1048576) : ∀ (m k i : Nat), l.length = i + m → m < k → ∃ r : Int, slices_Index_int_int.l0 k l v (l.length : Int) (i : Int) = some r ∧ decide (r ≥ 0) = (l.drop i).contains v
  | 0, k, i, hd, hk => by
    obtain ⟨k, rfl⟩ : ∃ m, k = m + 1 := ⟨k - 1, by omega⟩
    rw [slices_Index_int_int.l0, if_neg (by omega), List.drop_eq_nil_of_le (by omega)]
    exact ⟨_, rfl, rfl⟩
  | m + 1, k, i, hd, hk => by
    obtain ⟨k, rfl⟩ : ∃ m, k = m + 1 := ⟨k - 1, by omega⟩
    have e : wrap64 ((i : Int) + 1) = ((i + 1 : Nat) : Int) := by unfold wrap64; omega
    rw [slices_Index_int_int.l0, if_pos (by omega), if_pos (by omega), if_pos (by omega), rd_at l i (by omega), List.drop_eq_getElem_cons (by omega), List.contains_cons]
    by_cases h : v = l[i]'(by omega)
    · rw [if_pos h]
      have : (v == l[i]'(by omega)) = true := beq_iff_eq.mpr h
      rw [this]
      exact ⟨_, rfl, by simp⟩
    · have : (v == l[i]'(by omega)) = false := beq_eq_false_iff_ne.mpr h
      rw [if_neg h, e, this, Bool.false_or]
      exact index_loop v l hl m k (i + 1) (by omega) (by omega)
theorem contains_tells (k : Nat) (v : Int) (l : List Int) (hl : l.length ≤ 1048576) (hk : l.length < k) : slices_Contains_int_int.f k l v = some (l.contains v) := by
  obtain ⟨r, h1, h2⟩ := index_loop v l hl l.length k 0 (by omega) hk
  unfold slices_Contains_int_int.f slices_Index_int_int.f
  rw [show ((0 : Nat) : Int) = 0 from rfl] at h1
  rw [h1]
  simpa using h2
def NO : Int × Int × Int × ByteArray × ByteArray × ByteArray × ByteArray × List Int × Bool := (0, 0, 0, (⟨#[]⟩ : ByteArray), (⟨#[]⟩ : ByteArray), (⟨#[]⟩ : ByteArray), (⟨#[]⟩ : ByteArray), ([] : List Int), false)
def YES (d s : ByteArray) (vs : List Int) : Int × Int × Int × ByteArray × ByteArray × ByteArray × ByteArray × List Int × Bool := (4, 0, 0, s, d, (⟨#[]⟩ : ByteArray), (⟨#[]⟩ : ByteArray), vs, true)
theorem sver_loop (vs : List Int) (hl : vs.length ≤ 1048576) (f b v : Int) (d s t p : ByteArray) (l : List Int) : ∀ (m k i : Nat), vs.length = i + m → m < k →
    spec_VersionAnswer.l0 k vs vs (vs.length : Int) (i : Int) f b v d s t p l = some (if (vs.drop i).any badW = true then NO else YES d s vs)
  | 0, k, i, hd, hk => by
    obtain ⟨k, rfl⟩ : ∃ m, k = m + 1 := ⟨k - 1, by omega⟩
    rw [spec_VersionAnswer.l0, if_neg (by omega), List.drop_eq_nil_of_le (by omega)]
    simp only [Option.bind_some, List.length_nil, List.nil_append, List.any_nil]
    rw [if_pos (by omega)]
    rfl
  | m + 1, k, i, hd, hk => by
    obtain ⟨k, rfl⟩ : ∃ m, k = m + 1 := ⟨k - 1, by omega⟩
    have e : wrap64 ((i : Int) + 1) = ((i + 1 : Nat) : Int) := by unfold wrap64; omega
    rw [spec_VersionAnswer.l0, if_pos (by omega), if_pos (by omega), if_pos (by omega), rd_at vs i (by omega), l1In_tells, List.drop_eq_getElem_cons (by omega), List.any_cons]
    simp only [Option.bind_some]
    have hw : (decide (1 ≤ vs[i]'(by omega)) && decide (vs[i]'(by omega) ≤ 4294967295)) = !badW (vs[i]'(by omega)) := by simp [badW]
    rw [hw]
    cases hb : badW (vs[i]'(by omega)) with
    | true => rfl
    | false =>
      rw [e, if_pos (by rfl), sver_loop vs hl f b v d s t p l m k (i + 1) (by omega) (by omega), Bool.false_or]
def ansV (f b v : Int) (d s t p : ByteArray) (l vs : List Int) : Int × Int × Int × ByteArray × ByteArray × ByteArray × ByteArray × List Int × Bool :=
  if goodH f b v d s t p l.length (l.any badV) = true then (if f = 0 then (if (decide (1 ≤ (vs.length : Int)) && decide ((vs.length : Int) ≤ 20)) = true then (if vs.any badW = true then NO else if vs.contains v = true then NO else YES d s vs) else NO) else NO) else NO
theorem sver_tells (k : Nat) (f b v : Int) (d s t p : ByteArray) (l vs : List Int) (hl : l.length ≤ 1048576) (hk : l.length < k) (hv : vs.length ≤ 1048576) (hkv : vs.length < k) :
    spec_VersionAnswer.f (k + 3) f b v d s t p l vs = some (ansV f b v d s t p l vs) := by
  unfold spec_VersionAnswer.f ansV
  rw [spec_tells k f b v d s t p l hl hk]
  simp only [Option.bind_some]
  have hj : spec_VersionAnswer.j0 (k + 3) vs true f b v d s t p l = some NO := by rw [spec_VersionAnswer.j0, if_pos rfl]; rfl
  by_cases h1 : goodH f b v d s t p l.length (l.any badV) = true
  · rw [if_pos h1, if_pos h1]
    by_cases h2 : f = 0
    · rw [if_pos h2, if_pos h2, l1In_tells]
      simp only [Option.bind_some]
      by_cases h3 : (decide (1 ≤ (vs.length : Int)) && decide ((vs.length : Int) ≤ 20)) = true
      · rw [if_pos h3, if_pos h3, has_tells _ v vs hv (by omega)]
        simp only [Option.bind_some]
        cases h4 : vs.contains v with
        | true =>
          rw [hj, if_pos rfl, ite_self]
        | false =>
          have := sver_loop vs hv f b v d s t p l vs.length (k + 2) 0 (by omega) (by omega)
          rw [spec_VersionAnswer.j0, if_neg (show ¬ (false = true) by decide), if_neg (show ¬ (false = true) by decide)]
          simpa using this
      · rw [if_neg h3, if_neg h3, hj]
    · rw [if_neg h2, if_neg h2, hj]
  · rw [if_neg h1, if_neg h1, hj]
theorem iver_tells (k : Nat) (f b v : Int) (d s t p : ByteArray) (l vs : List Int) (hl : l.length ≤ 1048576) (hv : vs.length ≤ 1048576) (hkv : vs.length < k) :
    impl_VersionAnswer.f k f b v d s t p l vs = some (ansV f b v d s t p l vs) := by
  unfold impl_VersionAnswer.f ansV slices_ContainsFunc_int_int.f impl_GoodHeader.f
  rw [if_pos hv, if_pos hl]
  simp only [Option.bind_some]
  by_cases h1 : goodH f b v d s t p l.length (l.any badV) = true
  · rw [if_pos h1, if_pos h1]
    by_cases h2 : f = 0
    · rw [if_pos h2, if_pos h2, in_tells]
      simp only [Option.bind_some]
      by_cases h3 : (decide (1 ≤ (vs.length : Int)) && decide ((vs.length : Int) ≤ 20)) = true
      · rw [if_pos h3, if_pos h3]
        cases h5 : vs.any badW with
        | true => rw [if_pos rfl, if_pos rfl]; rfl
        | false =>
          rw [if_neg (show ¬ (false = true) by decide), if_neg (show ¬ (false = true) by decide), contains_tells k v vs hv hkv]
          simp only [Option.bind_some]
          cases h4 : vs.contains v with
          | true => rw [if_pos rfl, if_pos rfl]; rfl
          | false =>
            rw [if_neg (show ¬ (false = true) by decide), if_neg (show ¬ (false = true) by decide)]
            unfold slices_Clone_int_int.f
            rw [if_pos (by rw [Bool.and_eq_true, decide_eq_true_iff, decide_eq_true_iff] at h3; omega)]
            rfl
      · rw [if_neg h3, if_neg h3]; rfl
    · rw [if_neg h2, if_neg h2]; rfl
  · rw [if_neg h1, if_neg h1]; rfl
theorem ansV_len (f b v : Int) (d s t p : ByteArray) (l vs : List Int) (hv : vs.length ≤ 1048576) : (ansV f b v d s t p l vs).2.2.2.2.2.2.2.1.length ≤ 1048576 := by
  unfold ansV
  repeat' split
  all_goals first | exact hv | exact Nat.zero_le _
def upto (n : Nat) (x : Int) : List Int := (List.range n).map fun i : Nat => x + (i : Int)
theorem upto_length (n : Nat) (x : Int) : (upto n x).length = n := by simp [upto]
theorem upto_at (n i : Nat) (x : Int) (h : i < n) : rd (upto n x) (i : Int) = x + (i : Int) := by
  rw [rd_at _ i (by rw [upto_length]; exact h)]; simp [upto]
theorem mark_loop (n : Nat) (hn : n ≤ 1048576) : ∀ (m k i : Nat) (x : List Int), n = i + m → x.length = n → x.take i = (upto n 1).take i → m < k →
    laws_markIntS.l0 k x (1 + (i : Int)) (i : Int) = some (1 + (n : Int), upto n 1)
  | 0, k, i, x, hd, hx, he, hk => by
    obtain ⟨k, rfl⟩ : ∃ m, k = m + 1 := ⟨k - 1, by omega⟩
    rw [laws_markIntS.l0, if_neg (by omega)]
    rw [List.take_of_length_le (by omega), List.take_of_length_le (by rw [upto_length]; omega)] at he
    rw [he, show (i : Int) = (n : Int) by omega]
  | m + 1, k, i, x, hd, hx, he, hk => by
    obtain ⟨k, rfl⟩ : ∃ m, k = m + 1 := ⟨k - 1, by omega⟩
    have e : wrap64 ((i : Int) + 1) = ((i + 1 : Nat) : Int) := by unfold wrap64; omega
    have e2 : wrap64 (1 + (i : Int) + 1) = 1 + ((i + 1 : Nat) : Int) := by unfold wrap64; omega
    rw [laws_markIntS.l0, if_pos (by omega), if_pos (by omega), e, e2, Int.toNat_natCast]
    refine mark_loop n hn m k (i + 1) _ (by omega) (by rw [List.length_set]; exact hx) ?_ (by omega)
    have hu : (upto n 1)[i]'(by rw [upto_length]; omega) = 1 + (i : Int) := by simp [upto]
    rw [List.take_succ_eq_append_getElem (by rw [List.length_set]; omega), List.take_succ_eq_append_getElem (by rw [upto_length]; omega), List.take_set, List.set_eq_of_length_le (by rw [List.length_take]; omega), he, List.getElem_set_self, hu]
theorem mark_tells (k : Nat) (l : List Int) (hl : l.length ≤ 1048576) (hk : l.length < k) : laws_markIntS.f k l 1 = some (1 + (l.length : Int), upto l.length 1) := by
  have := mark_loop l.length hl l.length k 0 l (by omega) rfl (by simp) hk
  simpa [laws_markIntS.f] using this
theorem markat_loop (n : Nat) (hn : n ≤ 1048576) (x0 : Int) (h0 : 0 ≤ x0) (h1 : x0 ≤ 1048578) : ∀ (m k i : Nat) (x : List Int), n = i + m → x.length = n → m < k →
    ∃ y, laws_markIntS.l0 k x (x0 + (i : Int)) (i : Int) = some (x0 + (n : Int), y)
  | 0, k, i, x, hd, hx, hk => by
    obtain ⟨k, rfl⟩ : ∃ m, k = m + 1 := ⟨k - 1, by omega⟩
    rw [laws_markIntS.l0, if_neg (by omega), show (i : Int) = (n : Int) by omega]
    exact ⟨_, rfl⟩
  | m + 1, k, i, x, hd, hx, hk => by
    obtain ⟨k, rfl⟩ : ∃ m, k = m + 1 := ⟨k - 1, by omega⟩
    have e : wrap64 ((i : Int) + 1) = ((i + 1 : Nat) : Int) := by unfold wrap64; omega
    have e2 : wrap64 (x0 + (i : Int) + 1) = x0 + ((i + 1 : Nat) : Int) := by unfold wrap64; omega
    rw [laws_markIntS.l0, if_pos (by omega), if_pos (by omega), e, e2, Int.toNat_natCast]
    exact markat_loop n hn x0 h0 h1 m k (i + 1) _ (by omega) (by rw [List.length_set]; exact hx) (by omega)
theorem markat_tells (k : Nat) (l : List Int) (x0 : Int) (h0 : 0 ≤ x0) (h1 : x0 ≤ 1048578) (hl : l.length ≤ 1048576) (hk : l.length < k) : ∃ y, laws_markIntS.f k l x0 = some (x0 + (l.length : Int), y) := by
  obtain ⟨y, h⟩ := markat_loop l.length hl x0 h0 h1 l.length k 0 l (by omega) rfl hk
  exact ⟨y, by simpa [laws_markIntS.f] using h⟩
theorem held_loop (n : Nat) (hn : n ≤ 1048576) : ∀ (m k i : Nat), n = i + m → m < k → laws_heldIntS.l0 k (upto n 1) (1 + (i : Int)) (i : Int) = some (1 + (n : Int))
  | 0, k, i, hd, hk => by
    obtain ⟨k, rfl⟩ : ∃ m, k = m + 1 := ⟨k - 1, by omega⟩
    rw [laws_heldIntS.l0, if_neg (by rw [upto_length]; omega), show (i : Int) = (n : Int) by omega]
  | m + 1, k, i, hd, hk => by
    obtain ⟨k, rfl⟩ : ∃ m, k = m + 1 := ⟨k - 1, by omega⟩
    have e : wrap64 ((i : Int) + 1) = ((i + 1 : Nat) : Int) := by unfold wrap64; omega
    have e2 : wrap64 (1 + (i : Int) + 1) = 1 + ((i + 1 : Nat) : Int) := by unfold wrap64; omega
    rw [laws_heldIntS.l0, if_pos (by rw [upto_length]; omega), if_pos (by omega), upto_at n i 1 (by omega), if_pos rfl, e, e2]
    exact held_loop n hn m k (i + 1) (by omega) (by omega)
theorem held_tells (k : Nat) (n : Nat) (hn : n ≤ 1048576) (hk : n < k) : laws_heldIntS.f k (upto n 1) 1 = some (1 + (n : Int)) := by
  have := held_loop n hn n k 0 (by omega) hk
  simpa [laws_heldIntS.f] using this
theorem heldH_tells (k : Nat) (a b c : Int) (d s t p : ByteArray) (n : Nat) (hn : n ≤ 1048576) (hk : n < k) : laws_heldHeader.f k a b c d s t p (upto n 1) 1 = some (1 + (n : Int)) := by
  unfold laws_heldHeader.f
  rw [held_tells k n hn hk]
  simp only [Option.bind_some]
  rw [if_neg (by omega)]
theorem markH_tells (k : Nat) (a b c : Int) (d s t p : ByteArray) (l : List Int) (hl : l.length ≤ 1048576) (hk : l.length < k) : laws_markHeader.f k a b c d s t p l 1 = some (1 + (l.length : Int), upto l.length 1) := by
  unfold laws_markHeader.f
  rw [mark_tells k l hl hk]
  rfl
theorem toH_tells (k : Nat) (a b c : Int) (d s t p : ByteArray) (l : List Int) (hl : l.length ≤ 1048576) (hk : l.length < k) : laws_toHeader.f k a b c d s t p l = some (a, b, c, d, s, t, p, l) := by
  unfold laws_toHeader.f
  rw [toIntS_tells k l hl hk]
  rfl
theorem eqH_tells (k : Nat) (a b c : Int) (d s t p : ByteArray) (l : List Int) (hl : l.length ≤ 1048576) (hk : l.length < k) : laws_eqHeader.f k a b c d s t p l a b c d s t p l = some true := by
  unfold laws_eqHeader.f
  rw [if_pos rfl, if_pos rfl, if_pos rfl, if_pos rfl, if_pos rfl, if_pos rfl, if_pos rfl, eqIntS_tells k l hl hk]
  rfl
theorem FnExactVersionAnswer : laws_FnExactVersionAnswer.Pure := by
  intro f b v d s t p l vs _ _ _ hd hs ht hp hl _ hvs _
  refine ⟨1048578 + 3, ?_⟩
  obtain ⟨r, hr, hsm⟩ := sz_tells f b v d s t p l hd hs ht hp hl
  unfold laws_FnExactVersionAnswer.f
  by_cases h0 : (vs.length : Int) > 1048576
  · rw [if_pos h0]
  rw [if_neg h0, hr]
  simp only [Option.bind_some]
  by_cases h : r < 0
  · rw [if_pos h]
  rw [if_neg h]
  have hl' := hsm h
  have hv' : vs.length ≤ 1048576 := by omega
  rw [toH_tells _ f b v d s t p l hl' (by omega), toIntS_tells _ vs hv' (by omega)]
  simp only [Option.bind_some]
  rw [sver_tells 1048578 f b v d s t p l vs hl' (by omega) hv' (by omega)]
  simp only [Option.bind_some]
  rw [iver_tells _ f b v d s t p l vs hl' hv' (by omega)]
  have hal := ansV_len f b v d s t p l vs hv'
  generalize hA : ansV f b v d s t p l vs = AA at hal ⊢
  obtain ⟨r1, r2, r3, r4, r5, r6, r7, r8, r9⟩ := AA
  have hal' : r8.length ≤ 1048576 := hal
  simp only [Option.bind_some]
  rw [eqH_tells _ r1 r2 r3 r4 r5 r6 r7 r8 hal' (by omega)]
  simp only [Option.bind_some]
  rw [if_pos trivial, bne_self_eq_false]
  rw [laws_FnExactVersionAnswer.j0, if_neg (show ¬ (false = true) by decide)]
  obtain ⟨y, hy⟩ := markat_tells 1048580 vs (1 + (l.length : Int)) (by omega) (by omega) hv' (by omega)
  rw [toH_tells _ f b v d s t p l hl' (by omega)]
  simp only [Option.bind_some]
  rw [eqH_tells _ f b v d s t p l hl' (by omega)]
  simp only [Option.bind_some]
  rw [if_pos trivial, toIntS_tells _ vs hv' (by omega)]
  simp only [Option.bind_some]
  rw [eqIntS_tells _ vs hv' (by omega)]
  simp only [Option.bind_some]
  rw [if_pos trivial, markH_tells _ f b v d s t p l hl' (by omega)]
  simp only [Option.bind_some]
  rw [hy]
  simp only [Option.bind_some]
  rw [if_neg (by omega), eqH_tells _ r1 r2 r3 r4 r5 r6 r7 r8 hal' (by omega)]
  simp only [Option.bind_some]
  rw [if_pos trivial, bne_self_eq_false, laws_FnExactVersionAnswer.j1, if_neg (show ¬ (false = true) by decide)]
  rw [markH_tells _ r1 r2 r3 r4 r5 r6 r7 r8 hal' (by omega)]
  simp only [Option.bind_some]
  rw [heldH_tells _ r1 r2 r3 r4 r5 r6 r7 r8.length hal' (by omega)]
  simp only [Option.bind_some]
  rw [if_neg (by omega), if_pos trivial, toH_tells _ f b v d s t p l hl' (by omega)]
  simp only [Option.bind_some]
  rw [toIntS_tells _ vs hv' (by omega)]
  simp only [Option.bind_some]
  rw [iver_tells _ f b v d s t p l vs hl' hv' (by omega), hA]
  simp only [Option.bind_some]
  rw [eqH_tells _ r1 r2 r3 r4 r5 r6 r7 r8 hal' (by omega)]
  simp only [Option.bind_some]
  rw [if_pos trivial, bne_self_eq_false, laws_FnExactVersionAnswer.j2, if_neg (show ¬ (false = true) by decide)]
  rw [heldH_tells _ r1 r2 r3 r4 r5 r6 r7 r8.length hal' (by omega)]
  simp only [Option.bind_some]
  rw [if_neg (by omega), if_pos trivial]

end Go.Proofs.Ytlohefjigggjiaa.Pure
