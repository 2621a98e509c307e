/- The statement over numbers and lists that is left of the law FnExactGoodHeader: the program's function and the reference's tell the same for all arguments. Conditions: none beyond the kinds' own bounds. -/
import Derived.Test.YtlohefjigggjiaaPFnExactGoodHeaderx3
set_option linter.unusedVariables false
set_option linter.unusedSimpArgs false
namespace Go.Proofs.Ytlohefjigggjiaa.Pure
open Go.RowKit Go.Proofs.Ytlohefjigggjiaa.PFnExactGoodHeader Go.Proofs.YtlohefjigggjiaaV.PrintWords Go.Proofs.YtlohefjigggjiaaV.PrintLast

open Go.Proofs.YtlohefjigggjiaaV.Aes
theorem l1In_tells (x lo hi : Int) : spec_l1In.f x lo hi = some (decide (lo ≤ x) && decide (x ≤ hi)) := by
  unfold spec_l1In.f
  by_cases h : x ≥ lo
  · rw [if_pos h]
    have h' : lo ≤ x := h
    simp [h']
  · rw [if_neg h]
    have h' : ¬ lo ≤ x := h
    simp [h']
theorem l2Word_tells (x : Int) : spec_l2Word.f x = some (!badV x) := by
  unfold spec_l2Word.f
  rw [l1In_tells]
  simp [badV]
def tailB (v : Int) (p : ByteArray) (n : Nat) : Bool := if v = 0 then (if p.toList = ([] : List UInt8) then (if 1 ≤ n ∧ n ≤ 20 then true else false) else false) else false
theorem vers_loop (l : List Int) (hl : l.length ≤ 1048576) (f b v : Int) (d s t p : ByteArray) : ∀ (m k i : Nat), l.length = i + m → m < k →
    spec_GoodHeader.l0 k l (l.length : Int) (i : Int) f b v d s t p l = some (!((l.drop i).any badV) && tailB v p l.length)
  | 0, k, i, hd, hk => by
    obtain ⟨k, rfl⟩ : ∃ m, k = m + 1 := ⟨k - 1, by omega⟩
    simp only [spec_GoodHeader.l0]
    rw [if_neg (by omega), List.drop_eq_nil_of_le (by omega)]
    unfold tailB
    by_cases h1 : v = 0
    · rw [if_pos h1, if_pos h1]
      by_cases h2 : p.toList = ([] : List UInt8)
      · rw [if_pos h2, if_pos h2, l1In_tells]
        by_cases h3 : 1 ≤ l.length ∧ l.length ≤ 20
        · rw [if_pos h3]
          have e1 : decide ((1 : Int) ≤ (l.length : Int)) = true := decide_eq_true (by omega)
          have e2 : decide ((l.length : Int) ≤ 20) = true := decide_eq_true (by omega)
          rw [e1, e2]; rfl
        · rw [if_neg h3]
          have e1 : (decide ((1 : Int) ≤ (l.length : Int)) && decide ((l.length : Int) ≤ 20)) = false := by
            rw [Bool.and_eq_false_iff, decide_eq_false_iff_not, decide_eq_false_iff_not]; omega
          rw [e1]; rfl
      · rw [if_neg h2, if_neg h2]; rfl
    · rw [if_neg h1, if_neg h1]; rfl
  | m + 1, k, i, hd, hk => by
    obtain ⟨k, rfl⟩ : ∃ m, k = m + 1 := ⟨k - 1, by omega⟩
    simp only [spec_GoodHeader.l0]
    have e : wrap64 ((i : Int) + 1) = ((i + 1 : Nat) : Int) := by unfold wrap64; omega
    rw [if_pos (by omega), if_pos (by omega), if_pos (by omega), l2Word_tells, e]
    simp only [Option.bind_some]
    have hr : rd l (i : Int) = l[i]'(by omega) := by simp [rd, List.getD_eq_getElem?_getD, List.getElem?_eq_getElem (show i < l.length by omega)]
    rw [List.drop_eq_getElem_cons (by omega), hr, List.any_cons]
    cases hb : badV (l[i]'(by omega)) with
    | true => simp
    | false =>
      rw [if_pos (by rfl), vers_loop l hl f b v d s t p m k (i + 1) (by omega) (by omega)]
      simp
theorem spec_tells (k : Nat) (f b v : Int) (d s t p : ByteArray) (l : List Int) (hl : l.length ≤ 1048576) (hk : l.length < k) :
    spec_GoodHeader.f (k + 3) f b v d s t p l = some (goodH f b v d s t p l.length (l.any badV)) := by
  unfold spec_GoodHeader.f goodH
  by_cases h1 : d.size > 20
  · rw [if_pos (show (d.size : Int) > 20 by omega), if_pos h1]
    rw [spec_GoodHeader.j0]
    rw [if_pos rfl]
  rw [if_neg (show ¬ (d.size : Int) > 20 by omega), if_neg h1]
  by_cases h2 : s.size > 20
  · rw [if_pos (show (s.size : Int) > 20 by omega), if_pos h2]
    rw [spec_GoodHeader.j0]
    rw [if_pos rfl]
  rw [if_neg (show ¬ (s.size : Int) > 20 by omega), if_neg h2, l1In_tells]
  simp only [Option.bind_some]
  by_cases h3 : 0 ≤ b ∧ b ≤ 15
  rotate_left
  · have e1 : (decide ((0 : Int) ≤ b) && decide (b ≤ 15)) = false := by
      rw [Bool.and_eq_false_iff, decide_eq_false_iff_not, decide_eq_false_iff_not]; omega
    rw [e1, if_neg (show ¬ (false = true) by decide), if_pos h3]
    rw [spec_GoodHeader.j0]
    rw [if_pos rfl]
  have e1 : (decide ((0 : Int) ≤ b) && decide (b ≤ 15)) = true := by
    rw [Bool.and_eq_true, decide_eq_true_iff, decide_eq_true_iff]; omega
  rw [e1, if_pos rfl, if_neg (not_not_intro h3)]
  by_cases h4 : t.size > 200
  · rw [if_pos (show (t.size : Int) > 200 by omega), if_pos h4]
    rw [spec_GoodHeader.j0]
    rw [if_pos rfl]
  rw [if_neg (show ¬ (t.size : Int) > 200 by omega), if_neg h4]
  rw [spec_GoodHeader.j0]
  by_cases h5 : p.size > 1200
  · rw [if_pos (decide_eq_true (show (p.size : Int) > 1200 by omega)), if_pos h5]
  rw [if_neg (show ¬ (decide ((p.size : Int) > 1200) = true) by rw [decide_eq_true_iff]; omega), if_neg h5]
  have hin : spec_l1In.f v 1 4294967295 = some (decide (1 ≤ v) && decide (v ≤ 4294967295)) := l1In_tells _ _ _
  have hlong : ∀ q : Bool, q = true → spec_GoodHeader.j2 (k + 1) f q f b v d s t p l = some (if 1 ≤ v ∧ v ≤ 4294967295 then (if p.toList = ([] : List UInt8) then false else true) else false) := by
    intro q hq
    rw [spec_GoodHeader.j2]
    rw [if_pos hq, hin]
    simp only [Option.bind_some]
    by_cases vv : 1 ≤ v ∧ v ≤ 4294967295
    · have e2 : (decide ((1 : Int) ≤ v) && decide (v ≤ 4294967295)) = true := by
        rw [Bool.and_eq_true, decide_eq_true_iff, decide_eq_true_iff]; omega
      rw [e2, if_pos rfl, if_pos vv]
      by_cases pe : p.toList = ([] : List UInt8)
      · rw [if_pos pe, pe]; rfl
      · rw [if_neg pe]
        have : (p.toList != ([] : List UInt8)) = true := by rw [bne_iff_ne]; exact pe
        rw [this]
    · have e2 : (decide ((1 : Int) ≤ v) && decide (v ≤ 4294967295)) = false := by
        rw [Bool.and_eq_false_iff, decide_eq_false_iff_not, decide_eq_false_iff_not]; omega
      rw [e2, if_neg (show ¬ (false = true) by decide), if_neg vv]
  have hrest : ∀ q : Bool, q = false → spec_GoodHeader.j2 (k + 1) f q f b v d s t p l = some (if f = 4 then (!(l.any badV) && tailB v p l.length) else if f = 5 then (if v = 0 then (if s.toList = ([] : List UInt8) then true else false) else false) else false) := by
    intro q hq
    rw [spec_GoodHeader.j2]
    rw [if_neg (by rw [hq]; decide)]
    by_cases f4 : f = 4
    · have := vers_loop l hl f b v d s t p l.length k 0 (by omega) hk
      rw [if_pos f4, if_pos f4]
      simpa using this
    · rw [if_neg f4, if_neg f4]
      by_cases f5 : f = 5
      · rw [if_pos f5, if_pos f5]
        by_cases se : s.toList = ([] : List UInt8)
        · rw [if_pos se]
          by_cases v0 : v = 0
          · rw [if_pos v0, if_pos se, v0]; rfl
          · rw [if_neg v0]
            have : (v == 0) = false := beq_eq_false_iff_ne.mpr v0
            rw [this]
        · rw [if_neg se]
          by_cases v0 : v = 0
          · rw [if_pos v0, if_neg se]
          · rw [if_neg v0]
      · rw [if_neg f5, if_neg f5]
  by_cases f0 : f = 0
  · rw [if_pos f0, if_neg (show ¬ f = 4 by omega), if_pos f0]
    rw [spec_GoodHeader.j1]
    by_cases l0 : l.length = 0
    · rw [if_neg (show ¬ (decide ((l.length : Int) > 0) = true) by rw [decide_eq_true_iff]; omega), if_pos f0, if_pos l0, hlong _ (by rw [f0]; rfl)]
    · rw [if_pos (decide_eq_true (show (l.length : Int) > 0 by omega)), if_neg l0]
  rw [if_neg f0, if_neg f0]
  by_cases te : t.toList = ([] : List UInt8)
  rotate_left
  · rw [if_neg te, if_neg te]
    rw [spec_GoodHeader.j1]
    rw [if_pos rfl]
  rw [if_pos te, if_pos te]
  by_cases f4 : f = 4
  · rw [if_pos f4, if_pos f4]
    rw [spec_GoodHeader.j1]
    rw [if_neg (show ¬ (false = true) by decide), if_neg f0, if_neg (show ¬ f = 1 by omega), if_neg (show ¬ f = 2 by omega), hrest _ (by rw [f4]; rfl), if_pos f4]
    unfold tailB
    by_cases v0 : v = 0
    · rw [if_pos v0, if_pos v0]
      by_cases pe : p.toList = ([] : List UInt8)
      · rw [if_pos pe, if_pos pe]
        by_cases ll : 1 ≤ l.length ∧ l.length ≤ 20
        · rw [if_pos ll, if_pos ll, Bool.and_true]
        · rw [if_neg ll, if_neg ll, Bool.and_false]
      · rw [if_neg pe, if_neg pe, Bool.and_false]
    · rw [if_neg v0, if_neg v0, Bool.and_false]
  rw [if_neg f4, if_neg f4]
  rw [spec_GoodHeader.j1]
  by_cases l0 : l.length = 0
  rotate_left
  · rw [if_pos (decide_eq_true (show (l.length : Int) > 0 by omega)), if_neg l0]
  rw [if_neg (show ¬ (decide ((l.length : Int) > 0) = true) by rw [decide_eq_true_iff]; omega), if_pos l0, if_neg f0]
  by_cases lg : 0 ≤ f ∧ f ≤ 3
  · rw [if_pos lg]
    by_cases f1 : f = 1
    · rw [if_pos f1, hlong _ (by rw [f1]; rfl)]
    · rw [if_neg f1]
      by_cases f2 : f = 2
      · rw [if_pos f2, hlong _ (by rw [f2]; rfl)]
      · rw [if_neg f2, hlong _ (by rw [beq_iff_eq]; omega)]
  · rw [if_neg lg, if_neg (show ¬ f = 1 by omega), if_neg (show ¬ f = 2 by omega), hrest _ (beq_eq_false_iff_ne.mpr (by omega)), if_neg f4]
theorem sz_tells (a b c : Int) (d s t p : ByteArray) (l : List Int) (hd : d.size ≤ 9223372036854775807) (hs : s.size ≤ 9223372036854775807) (ht : t.size ≤ 9223372036854775807) (hp : p.size ≤ 9223372036854775807) (hl : l.length ≤ 9223372036854775807) :
    ∃ r, laws_szHeader.f a b c d s t p l 1048576 = some r ∧ (¬ r < 0 → l.length ≤ 1048576) := by
  unfold laws_szHeader.f laws_szIntS.f
  have e1 : wrap64 (1048576 - (d.size : Int)) = 1048576 - (d.size : Int) := by unfold wrap64; omega
  rw [e1]
  by_cases h1 : (1048576 : Int) - (d.size : Int) < 0
  · rw [if_pos h1]; exact ⟨_, rfl, by omega⟩
  rw [if_neg h1]
  have e2 : wrap64 (1048576 - (d.size : Int) - (s.size : Int)) = 1048576 - (d.size : Int) - (s.size : Int) := by unfold wrap64; omega
  rw [e2]
  by_cases h2 : (1048576 : Int) - (d.size : Int) - (s.size : Int) < 0
  · rw [if_pos h2]; exact ⟨_, rfl, by omega⟩
  rw [if_neg h2]
  have e3 : wrap64 (1048576 - (d.size : Int) - (s.size : Int) - (t.size : Int)) = 1048576 - (d.size : Int) - (s.size : Int) - (t.size : Int) := by unfold wrap64; omega
  rw [e3]
  by_cases h3 : (1048576 : Int) - (d.size : Int) - (s.size : Int) - (t.size : Int) < 0
  · rw [if_pos h3]; exact ⟨_, rfl, by omega⟩
  rw [if_neg h3]
  have e4 : wrap64 (1048576 - (d.size : Int) - (s.size : Int) - (t.size : Int) - (p.size : Int)) = 1048576 - (d.size : Int) - (s.size : Int) - (t.size : Int) - (p.size : Int) := by unfold wrap64; omega
  rw [e4]
  by_cases h4 : (1048576 : Int) - (d.size : Int) - (s.size : Int) - (t.size : Int) - (p.size : Int) < 0
  · rw [if_pos h4]; exact ⟨_, rfl, by omega⟩
  rw [if_neg h4]
  have e5 : wrap64 (1048576 - (d.size : Int) - (s.size : Int) - (t.size : Int) - (p.size : Int) - (l.length : Int)) = 1048576 - (d.size : Int) - (s.size : Int) - (t.size : Int) - (p.size : Int) - (l.length : Int) := by unfold wrap64; omega
  rw [e5]
  by_cases h5 : (1048576 : Int) - (d.size : Int) - (s.size : Int) - (t.size : Int) - (p.size : Int) - (l.length : Int) < 0
  · rw [if_pos h5]; simp only [Option.bind_some]; exact ⟨_, rfl, by omega⟩
  rw [if_neg h5]
  simp only [Option.bind_some]
  rw [if_neg h5]
  exact ⟨_, rfl, fun _ => by omega⟩
theorem toIntS_loop (l : List Int) (hl : l.length ≤ 1048576) : ∀ (m k i : Nat) (x : List Int), l.length = i + m → x.length = l.length → x.take i = l.take i → m < k → laws_toIntS.l0 k l x (i : Int) = some l
  | 0, k, i, x, hd, hx, he, hk => by
    obtain ⟨k, rfl⟩ : ∃ m, k = m + 1 := ⟨k - 1, by omega⟩
    simp only [laws_toIntS.l0]
    rw [if_neg (by omega)]
    rw [List.take_of_length_le (by omega), List.take_of_length_le (by omega)] at he
    rw [he]
  | m + 1, k, i, x, hd, hx, he, hk => by
    obtain ⟨k, rfl⟩ : ∃ m, k = m + 1 := ⟨k - 1, by omega⟩
    simp only [laws_toIntS.l0]
    have e : wrap64 ((i : Int) + 1) = ((i + 1 : Nat) : Int) := by unfold wrap64; omega
    rw [if_pos (by omega), if_pos (by omega), if_pos (by omega), e, Int.toNat_natCast]
    have hr : rd l (i : Int) = l[i]'(by omega) := by simp [rd, List.getD_eq_getElem?_getD, List.getElem?_eq_getElem (show i < l.length by omega)]
    refine toIntS_loop l hl m k (i + 1) _ (by omega) (by rw [List.length_set]; exact hx) ?_ (by omega)
    rw [List.take_succ_eq_append_getElem (by rw [List.length_set]; omega), List.take_succ_eq_append_getElem (by omega), List.take_set, List.set_eq_of_length_le (by rw [List.length_take]; omega), he, List.getElem_set_self, hr]
theorem toIntS_tells (k : Nat) (l : List Int) (hl : l.length ≤ 1048576) (hk : l.length < k) : laws_toIntS.f k l = some l := by
  unfold laws_toIntS.f
  rw [if_pos (by omega), if_pos (by omega), Int.toNat_natCast]
  exact toIntS_loop l hl l.length k 0 _ (by omega) (by simp) (by simp) hk
theorem eqIntS_loop (l : List Int) (hl : l.length ≤ 1048576) : ∀ (m k i : Nat), l.length = i + m → m < k → laws_eqIntS.l0 k l l (i : Int) = some true
  | 0, k, i, hd, hk => by
    obtain ⟨k, rfl⟩ : ∃ m, k = m + 1 := ⟨k - 1, by omega⟩
    simp only [laws_eqIntS.l0]
    rw [if_neg (by omega)]
  | m + 1, k, i, hd, hk => by
    obtain ⟨k, rfl⟩ : ∃ m, k = m + 1 := ⟨k - 1, by omega⟩
    simp only [laws_eqIntS.l0]
    have e : wrap64 ((i : Int) + 1) = ((i + 1 : Nat) : Int) := by unfold wrap64; omega
    rw [if_pos (by omega), if_pos (by omega), if_pos (by omega), if_pos trivial, e]
    exact eqIntS_loop l hl m k (i + 1) (by omega) (by omega)
theorem eqIntS_tells (k : Nat) (l : List Int) (hl : l.length ≤ 1048576) (hk : l.length < k) : laws_eqIntS.f k l l = some true := by
  unfold laws_eqIntS.f
  rw [if_pos rfl]
  exact eqIntS_loop l hl l.length k 0 (by omega) hk
theorem FnExactGoodHeader : laws_FnExactGoodHeader.Pure := by
  intro f b v d s t p l _ _ _ hd hs ht hp hl _
  refine ⟨1048578 + 3, ?_⟩
  obtain ⟨r, hr, hsm⟩ := sz_tells f b v d s t p l hd hs ht hp hl
  unfold laws_FnExactGoodHeader.f laws_toHeader.f impl_GoodHeader.f laws_eqHeader.f
  rw [hr]
  simp only [Option.bind_some]
  by_cases h : r < 0
  · rw [if_pos h]
  rw [if_neg h]
  have hl' := hsm h
  rw [toIntS_tells _ l hl' (by omega)]
  simp only [Option.bind_some]
  rw [spec_tells 1048578 f b v d s t p l hl' (by omega)]
  simp only [Option.bind_some]
  rw [if_pos hl']
  simp only [Option.bind_some]
  rw [eqIntS_tells _ l hl' (by omega)]
  simp

end Go.Proofs.Ytlohefjigggjiaa.Pure
