/- The statement over numbers and lists that is left of the law FnExactGoodFrame: the program's function and the reference's tell the same for all arguments. Conditions: none beyond the kinds' own bounds. -/
import Derived.Test.YtlohefjigggjiaaPFnExactGoodFramex5
import Derived.Lib.Strings
set_option linter.unusedVariables false
set_option linter.unusedSimpArgs false
namespace Go.Proofs.Ytlohefjigggjiaa.Pure
open Go.RowKit Go.Proofs.Ytlohefjigggjiaa.PFnExactGoodFrame Go.Proofs.YtlohefjigggjiaaV.PrintWords Go.Proofs.YtlohefjigggjiaaV.PrintLast

open Go.Proofs.YtlohefjigggjiaaV.Aes
def tB (k a b c z : Int) : Bool := if k = 6 then decide (a ≤ 4611686018427387903 - z) else if k = 8 then decide (b ≤ 4611686018427387903 - z) else if k = 24 then (if b ≤ a then decide (c ≤ 255) else false) else true
def s1B (k a b c z : Int) (n : Nat) (rg : Bool) : Bool := if ((k == 2) != decide ((n : Int) > 0)) = true then false else if k = 2 then (if rg = true then tB k a b c z else false) else tB k a b c z
def bdB (m a b c : Int) : Bool := (decide (m < 3) && c != 0) || (decide (m < 2) && b != 0) || (decide (m < 1) && a != 0)
def sB (m lo hi k a b c : Int) (fin : Bool) (z : Int) (n : Nat) (rg : Bool) : Bool :=
  if m < 0 then false else if okI a = true then (if okI b = true then (if okI c = true then (if inB lo hi z = true then (if (fin && k != 8) = true then false else (if bdB m a b c = true then false else s1B k a b c z n rg)) else false) else false) else false) else false
theorem nil_size (s : ByteArray) : (s.toList = ([] : List UInt8)) ↔ s.size = 0 := by
  have h : s.toList.length = s.size := by rw [Lib.toList_data]; simp
  constructor
  · intro e; rw [e] at h; simpa using h.symm
  · intro e; exact List.length_eq_zero_iff.mp (by omega)
def gT (k a b c : Int) (z : Int) (n : Nat) (ro : Bool) : Bool :=
  if k = 2 then (inB 1 20 (n : Int) && ro) else if k = 6 then okI (a + z) else if k = 7 then decide (z ≠ 0) else if k = 8 then okI (b + z) else if k = 24 then (decide (b ≤ a) && inB 1 20 z && decide (c ≤ 255)) else if k = 26 then decide (z = 8) else if k = 27 then decide (z = 8) else true
def gZ (num : Int) (dt ok : Bool) (k a b c : Int) (fin : Bool) (z : Int) (n : Nat) (ro : Bool) : Bool :=
  ok && decide (z ≤ 200) && (dt || decide (z = 0)) && !(fin && k != 8) && !(decide (0 < n) && k != 2) && !badAt num 0 a && !badAt num 1 b && !badAt num 2 c && gT k a b c z n ro
theorem bad_eq (k : Int) (fin : Bool) (s : ByteArray) (n : Nat) (dt ok : Bool) : badTop k fin s n dt ok = !(ok && decide ((s.size : Int) ≤ 200) && (dt || decide ((s.size : Int) = 0)) && !(fin && k != 8) && !(decide (0 < n) && k != 2)) := by
  unfold badTop
  have n0 := nil_size s
  cases ok with
  | false => rfl
  | true =>
    rw [if_pos rfl]
    by_cases hz : s.size > 200
    · have hz' : ¬ (s.size : Int) ≤ 200 := by omega
      rw [if_pos hz, decide_eq_false hz']; rfl
    · have hz' : (s.size : Int) ≤ 200 := by omega
      rw [if_neg hz, decide_eq_true hz']
      by_cases h2 : dt = false ∧ s.toList ≠ ([] : List UInt8)
      · have h0 : ¬ (s.size : Int) = 0 := fun q => h2.2 (n0.mpr (by omega))
        rw [if_pos h2, h2.1, decide_eq_false h0]; rfl
      · have h0 : (dt || decide ((s.size : Int) = 0)) = true := by
          cases dt with
          | true => rfl
          | false =>
            have : (s.size : Int) = 0 := by
              by_cases q : s.toList = ([] : List UInt8)
              · have := n0.mp q; omega
              · exact absurd ⟨rfl, q⟩ h2
            simp [this]
        rw [if_neg h2, h0]
        by_cases h3 : fin = true ∧ k ≠ 8
        · have h3' : (k != 8) = true := by simp [h3.2]
          rw [if_pos h3, h3.1, h3']; rfl
        · have h3' : (fin && k != 8) = false := by
            cases fin with
            | false => rfl
            | true => simp at h3; simp [h3]
          rw [if_neg h3, h3']
          by_cases h4 : 0 < n ∧ k ≠ 2
          · have h4' : (k != 2) = true := by simp [h4.2]
            rw [if_pos h4, decide_eq_true h4.1, h4']; rfl
          · have h4' : (decide (0 < n) && k != 2) = false := by
              by_cases q : 0 < n
              · have q2 : k = 2 := by
                  by_cases q3 : k = 2
                  · exact q3
                  · exact absurd ⟨q, q3⟩ h4
                simp [q2]
              · simp [q]
            rw [if_neg h4, h4']; rfl
theorem good_gZ (k a b c : Int) (fin : Bool) (s : ByteArray) (n : Nat) (ro : Bool) : goodIF k a b c fin s n ro = gZ (shP k).1 (shP k).2 (shH k) k a b c fin (s.size : Int) n ro := by
  unfold goodIF gZ nmF namedF
  generalize (shP k).1 = num
  generalize (shP k).2 = dt
  generalize shH k = ok
  have e7 : (!(decide (s.toList = ([] : List UInt8)))) = decide ((s.size : Int) ≠ 0) := by
    rw [decide_eq_decide.mpr (nil_size s), ← decide_not]
    exact decide_eq_decide.mpr (by omega)
  have eT : (if k = 2 then (inB 1 20 (n : Int) && ro) else if k = 6 then okI (a + (s.size : Int)) else if k = 7 then !(decide (s.toList = ([] : List UInt8))) else if k = 8 then okI (b + (s.size : Int)) else if k = 24 then (decide (b ≤ a) && inB 1 20 (s.size : Int) && decide (c ≤ 255)) else if k = 26 then decide ((s.size : Int) = 8) else if k = 27 then decide ((s.size : Int) = 8) else true) = gT k a b c (s.size : Int) n ro := by
    rw [e7]; rfl
  rw [eT, bad_eq]
  generalize gT k a b c (s.size : Int) n ro = T
  generalize (ok && decide ((s.size : Int) ≤ 200) && (dt || decide ((s.size : Int) = 0)) && !(fin && k != 8) && !(decide (0 < n) && k != 2)) = X
  generalize badAt num 0 a = B0
  generalize badAt num 1 b = B1
  generalize badAt num 2 c = B2
  cases X <;> cases B0 <;> cases B1 <;> cases B2 <;> cases T <;> rfl
/-- The fifteen kinds, and all others. -/
def shK (k : Int) : Int × Int × Int := if k = 0 then (0, 0, 0) else if k = 1 then (0, 0, 0) else if k = 16 then (1, 0, 0) else if k = 2 then (1, 0, 0) else if k = 17 then (2, 0, 0) else if k = 5 then (2, 0, 0) else if k = 4 then (3, 0, 0) else if k = 28 then (2, 0, 200) else if k = 8 then (2, 0, 200) else if k = 6 then (1, 0, 200) else if k = 7 then (0, 1, 200) else if k = 24 then (3, 1, 20) else if k = 26 then (0, 8, 8) else if k = 27 then (0, 8, 8) else if k = 48 then (0, 0, 200) else (-1, 0, 0)
theorem shape_f (K : Nat) (k : Int) : spec_l1Shape.f (K + 6) k = some (shK k) := by
  unfold spec_l1Shape.f shK
  by_cases h0 : k = 0
  · subst h0; rfl
  rw [if_neg h0, if_neg h0, spec_l1Shape.j0]
  by_cases h1 : k = 1
  · subst h1; rfl
  rw [if_neg h1, if_neg (show ¬ (k == 1) = true by simpa using h1)]
  by_cases h16 : k = 16
  · subst h16; rfl
  rw [if_neg h16, if_neg h16, spec_l1Shape.j1]
  by_cases h2 : k = 2
  · subst h2; rfl
  rw [if_neg h2, if_neg (show ¬ (k == 2) = true by simpa using h2)]
  by_cases h17 : k = 17
  · subst h17; rfl
  rw [if_neg h17, if_neg h17, spec_l1Shape.j2]
  by_cases h5 : k = 5
  · subst h5; rfl
  rw [if_neg h5, if_neg (show ¬ (k == 5) = true by simpa using h5)]
  by_cases h4 : k = 4
  · subst h4; rfl
  rw [if_neg h4, if_neg h4]
  by_cases h28 : k = 28
  · subst h28; rfl
  rw [if_neg h28, if_neg h28, spec_l1Shape.j3]
  by_cases h8 : k = 8
  · subst h8; rfl
  rw [if_neg h8, if_neg (show ¬ (k == 8) = true by simpa using h8)]
  by_cases h6 : k = 6
  · subst h6; rfl
  rw [if_neg h6, if_neg h6]
  by_cases h7 : k = 7
  · subst h7; rfl
  rw [if_neg h7, if_neg h7]
  by_cases h24 : k = 24
  · subst h24; rfl
  rw [if_neg h24, if_neg h24]
  by_cases h26 : k = 26
  · subst h26; rfl
  rw [if_neg h26, if_neg h26, spec_l1Shape.j4]
  by_cases h27 : k = 27
  · subst h27; rfl
  rw [if_neg h27, if_neg (show ¬ (k == 27) = true by simpa using h27)]
  by_cases h48 : k = 48
  · subst h48; rfl
  rw [if_neg h48, if_neg h48]
theorem in_f (x lo hi : Int) : spec_l1In.f x lo hi = some (inB lo hi x) := by
  unfold spec_l1In.f inB
  by_cases h : x ≥ lo
  · rw [if_pos h]; have h' : lo ≤ x := h; simp [h']
  · rw [if_neg h]; have h' : ¬ lo ≤ x := h; simp [h']
theorem known_f (x : Int) : spec_l1Known.f x = some (okI x) := by
  unfold spec_l1Known.f
  rw [in_f]; rfl
def prS (l : List S116) : List (Int × Int) := l.map fun x => (x.f0, x.f1)
theorem rdS6 (l : List S116) (i : Nat) : (rd_T116 l (i : Int)).f0 = ((prS l).getD i (0, 0)).1 ∧ (rd_T116 l (i : Int)).f1 = ((prS l).getD i (0, 0)).2 := by
  unfold rd_T116 prS
  rw [Int.toNat_natCast, List.getD_eq_getElem?_getD, List.getD_eq_getElem?_getD, List.getElem?_map]
  cases l[i]? <;> exact ⟨rfl, rfl⟩
theorem okI_iff (x : Int) : okI x = true ↔ 0 ≤ x ∧ x ≤ 4611686018427387903 := by unfold okI; rw [Bool.and_eq_true, decide_eq_true_iff, decide_eq_true_iff]
theorem ranges_loop (l : List S116) (hl : l.length ≤ 1048576) : ∀ (m k i : Nat), l.length = i + m → m < k → (i = 0 ∨ okI ((prS l).getD (i - 1) (0, 0)).1 = true) → spec_l1Ranges.l0 k l l (l.length : Int) (i : Int) = some (((List.range l.length).drop i).all (rgAt (prS l)) && inB 1 20 (l.length : Int))
  | 0, k, i, hd, hk, _ => by
    obtain ⟨k, rfl⟩ : ∃ m, k = m + 1 := ⟨k - 1, by omega⟩
    rw [spec_l1Ranges.l0, if_neg (by omega), List.drop_eq_nil_of_le (by simp; omega), in_f]
    rfl
  | m + 1, k, i, hd, hk, hp => by
    obtain ⟨k, rfl⟩ : ∃ m, k = m + 1 := ⟨k - 1, by omega⟩
    have hi : i < l.length := by omega
    have e : wrap64 ((i : Int) + 1) = ((i + 1 : Nat) : Int) := by unfold wrap64; omega
    have ih := ranges_loop l hl m k (i + 1) (by omega) (by omega)
    rw [spec_l1Ranges.l0, if_pos (by omega), if_pos (by omega), if_pos (by omega), (rdS6 l i).1, (rdS6 l i).2, in_f, known_f, e, range_drop _ i hi, List.all_cons]
    simp only [Option.bind_some]
    have hat : rgAt (prS l) i = (okI ((prS l).getD i (0, 0)).1 && okI ((prS l).getD i (0, 0)).2 && decide (((prS l).getD i (0, 0)).1 ≤ ((prS l).getD i (0, 0)).2) && (decide (i = 0) || decide (((prS l).getD i (0, 0)).2 + 2 ≤ ((prS l).getD (i - 1) (0, 0)).1))) := rfl
    rw [hat]
    have hsub : i + 1 - 1 = i := by omega
    rw [hsub] at ih
    generalize ((prS l).getD i (0, 0)).1 = x at ih ⊢
    generalize ((prS l).getD i (0, 0)).2 = y at ih ⊢
    have hz0 : (rd_T116 l ((i - 1 : Nat) : Int)).f0 = ((prS l).getD (i - 1) (0, 0)).1 := (rdS6 l (i - 1)).1
    generalize ((prS l).getD (i - 1) (0, 0)).1 = z at hz0 hp ⊢
    cases h1 : inB 0 y x with
    | false =>
      rw [if_neg (by decide)]
      have : (okI x && okI y && decide (x ≤ y)) = false := by
        by_cases q : x ≤ y
        · have q2 : ¬ 0 ≤ x := fun q2 => by unfold inB at h1; simp [q, q2] at h1
          have q3 : okI x = false := by unfold okI; simp [q2]
          rw [q3]; rfl
        · rw [decide_eq_false q]; simp
      rw [this]; simp
    | true =>
      rw [if_pos rfl]
      have hx : 0 ≤ x ∧ x ≤ y := by unfold inB at h1; rw [Bool.and_eq_true, decide_eq_true_iff, decide_eq_true_iff] at h1; exact h1
      cases h2 : okI y with
      | false => rw [if_neg (by decide)]; simp
      | true =>
        rw [if_pos rfl]
        have hy := (okI_iff y).mp h2
        have hox : okI x = true := (okI_iff x).mpr ⟨hx.1, by omega⟩
        have ih' := ih (.inr hox)
        rw [ih', hox, decide_eq_true hx.2]
        by_cases h0 : i = 0
        · rw [if_neg (show ¬ (i : Int) > 0 by omega), decide_eq_true h0]; simp
        · have e1 : wrap64 ((i : Int) - 1) = ((i - 1 : Nat) : Int) := by unfold wrap64; omega
          have hz := (okI_iff z).mp (hp.resolve_left h0)
          have e2 : wrap64 (z - 2) = z - 2 := by unfold wrap64; omega
          rw [if_pos (show (i : Int) > 0 by omega), e1, if_pos (by omega), if_pos (by omega), hz0, e2, decide_eq_false h0]
          by_cases h4 : y > z - 2
          · have h4' : ¬ y + 2 ≤ z := by omega
            rw [if_pos h4, decide_eq_false h4']; simp
          · have h4' : y + 2 ≤ z := by omega
            rw [if_neg h4, decide_eq_true h4']; simp
theorem ranges_f (k : Nat) (l : List S116) (hl : l.length ≤ 1048576) (hk : l.length < k) : spec_l1Ranges.f k l = some (rgOk (prS l) && inB 1 20 (l.length : Int)) := by
  have h := ranges_loop l hl l.length k 0 (by omega) hk (.inl rfl)
  unfold spec_l1Ranges.f rgOk
  have e : (prS l).length = l.length := by unfold prS; rw [List.length_map]
  rw [e]
  simpa using h
theorem j2_f (K : Nat) (x : Bool) (k a b c d : Int) (fin : Bool) (s : ByteArray) (l : List S116) (hs : s.size ≤ 1048576) : spec_GoodFrame.j2 (K + 1) x k a b c fin s l = some (if x = true then false else tB k a b c (s.size : Int)) := by
  have e : wrap64 (4611686018427387903 - (s.size : Int)) = 4611686018427387903 - (s.size : Int) := by unfold wrap64; omega
  unfold tB
  rw [spec_GoodFrame.j2, e]
  split
  · rfl
  · split
    · rfl
    · split
      · rfl
      · split
        · split <;> rfl
        · rfl
theorem j1_f (K : Nat) (x : Bool) (k a b c : Int) (fin : Bool) (s : ByteArray) (l : List S116) (hl : l.length ≤ 1048576) (hs : s.size ≤ 1048576) (hK : l.length < K) : spec_GoodFrame.j1 (K + 2) x k a b c fin s l = some (if x = true then false else s1B k a b c (s.size : Int) l.length (rgOk (prS l) && inB 1 20 (l.length : Int))) := by
  unfold s1B
  rw [spec_GoodFrame.j1, ranges_f (K + 1) l hl (by omega)]
  simp only [Option.bind_some]
  rw [j2_f K true k a b c 0 fin s l hs, j2_f K false k a b c 0 fin s l hs, j2_f K _ k a b c 0 fin s l hs]
  split
  · rfl
  · split
    · rfl
    · split
      · generalize (rgOk (prS l) && inB 1 20 (l.length : Int)) = R
        cases R <;> rfl
      · rfl
theorem j0_f (K : Nat) (m : Int) (x : Bool) (k a b c : Int) (fin : Bool) (s : ByteArray) (l : List S116) (hl : l.length ≤ 1048576) (hs : s.size ≤ 1048576) (hK : l.length < K) : spec_GoodFrame.j0 (K + 3) m x k a b c fin s l = some (if x = true then false else if bdB m a b c = true then false else s1B k a b c (s.size : Int) l.length (rgOk (prS l) && inB 1 20 (l.length : Int))) := by
  rw [spec_GoodFrame.j0]
  simp only [j1_f K _ k a b c fin s l hl hs hK]
  generalize s1B k a b c (s.size : Int) l.length (rgOk (prS l) && inB 1 20 (l.length : Int)) = T
  unfold bdB
  cases x with
  | true => rfl
  | false =>
    rw [if_neg (show ¬ (false = true) by decide)]
    by_cases h3 : m < 3 <;> by_cases h2 : m < 2 <;> by_cases h1 : m < 1 <;> by_cases hc : c = 0 <;> by_cases hb : b = 0 <;> by_cases ha : a = 0 <;> simp [h3, h2, h1, hc, hb, ha]
theorem spec_sB (K : Nat) (k a b c : Int) (fin : Bool) (s : ByteArray) (l : List S116) (hl : l.length ≤ 1048576) (hs : s.size ≤ 1048576) (hK : l.length < K) : spec_GoodFrame.f (K + 6) k a b c fin s l = some (sB (shK k).1 (shK k).2.1 (shK k).2.2 k a b c fin (s.size : Int) l.length (rgOk (prS l) && inB 1 20 (l.length : Int))) := by
  unfold spec_GoodFrame.f sB
  rw [shape_f]
  simp only [Option.bind_some, known_f, in_f]
  have hj := fun x => j0_f (K + 3) (shK k).1 x k a b c fin s l hl hs (by omega)
  simp only [show K + 3 + 3 = K + 6 from rfl] at hj
  simp only [hj]
  generalize s1B k a b c (s.size : Int) l.length (rgOk (prS l) && inB 1 20 (l.length : Int)) = T
  generalize bdB (shK k).1 a b c = B
  generalize inB (shK k).2.1 (shK k).2.2 (s.size : Int) = Z
  generalize okI a = A0
  generalize okI b = B0
  generalize okI c = C0
  by_cases hm : (shK k).1 < 0
  · rw [if_pos hm, if_pos hm]; rfl
  · rw [if_neg hm, if_neg hm]
    have e8 : (k != 8) = !(k == 8) := rfl
    rw [e8]
    generalize (k == 8) = E
    cases A0 <;> cases B0 <;> cases C0 <;> cases Z <;> cases fin <;> cases E <;> rfl
theorem kind_0 (a b c : Int) (fin : Bool) (z : Int) (n : Nat) (ro : Bool) (hz : 0 ≤ z) : sB 0 0 0 0 a b c fin z n (ro && inB 1 20 (n : Int)) = gZ 0 false true 0 a b c fin z n ro := by
  rw [Bool.eq_iff_iff]
  cases fin <;> cases ro <;> simp [sB, s1B, bdB, tB, gZ, gT, badAt, inB, okI] <;> omega
theorem kind_1 (a b c : Int) (fin : Bool) (z : Int) (n : Nat) (ro : Bool) (hz : 0 ≤ z) : sB 0 0 0 1 a b c fin z n (ro && inB 1 20 (n : Int)) = gZ 0 false true 1 a b c fin z n ro := by
  rw [Bool.eq_iff_iff]
  cases fin <;> cases ro <;> simp [sB, s1B, bdB, tB, gZ, gT, badAt, inB, okI] <;> omega
theorem kind_16 (a b c : Int) (fin : Bool) (z : Int) (n : Nat) (ro : Bool) (hz : 0 ≤ z) : sB 1 0 0 16 a b c fin z n (ro && inB 1 20 (n : Int)) = gZ 1 false true 16 a b c fin z n ro := by
  rw [Bool.eq_iff_iff]
  cases fin <;> cases ro <;> simp [sB, s1B, bdB, tB, gZ, gT, badAt, inB, okI] <;> omega
theorem kind_2 (a b c : Int) (fin : Bool) (z : Int) (n : Nat) (ro : Bool) (hz : 0 ≤ z) : sB 1 0 0 2 a b c fin z n (ro && inB 1 20 (n : Int)) = gZ 1 false true 2 a b c fin z n ro := by
  rw [Bool.eq_iff_iff]
  cases fin <;> cases ro <;> simp [sB, s1B, bdB, tB, gZ, gT, badAt, inB, okI] <;> omega
theorem kind_17 (a b c : Int) (fin : Bool) (z : Int) (n : Nat) (ro : Bool) (hz : 0 ≤ z) : sB 2 0 0 17 a b c fin z n (ro && inB 1 20 (n : Int)) = gZ 2 false true 17 a b c fin z n ro := by
  rw [Bool.eq_iff_iff]
  cases fin <;> cases ro <;> simp [sB, s1B, bdB, tB, gZ, gT, badAt, inB, okI] <;> omega
theorem kind_5 (a b c : Int) (fin : Bool) (z : Int) (n : Nat) (ro : Bool) (hz : 0 ≤ z) : sB 2 0 0 5 a b c fin z n (ro && inB 1 20 (n : Int)) = gZ 2 false true 5 a b c fin z n ro := by
  rw [Bool.eq_iff_iff]
  cases fin <;> cases ro <;> simp [sB, s1B, bdB, tB, gZ, gT, badAt, inB, okI] <;> omega
theorem kind_4 (a b c : Int) (fin : Bool) (z : Int) (n : Nat) (ro : Bool) (hz : 0 ≤ z) : sB 3 0 0 4 a b c fin z n (ro && inB 1 20 (n : Int)) = gZ 3 false true 4 a b c fin z n ro := by
  rw [Bool.eq_iff_iff]
  cases fin <;> cases ro <;> simp [sB, s1B, bdB, tB, gZ, gT, badAt, inB, okI] <;> omega
theorem kind_28 (a b c : Int) (fin : Bool) (z : Int) (n : Nat) (ro : Bool) (hz : 0 ≤ z) : sB 2 0 200 28 a b c fin z n (ro && inB 1 20 (n : Int)) = gZ 2 true true 28 a b c fin z n ro := by
  rw [Bool.eq_iff_iff]
  cases fin <;> cases ro <;> simp [sB, s1B, bdB, tB, gZ, gT, badAt, inB, okI] <;> omega
theorem kind_8 (a b c : Int) (fin : Bool) (z : Int) (n : Nat) (ro : Bool) (hz : 0 ≤ z) : sB 2 0 200 8 a b c fin z n (ro && inB 1 20 (n : Int)) = gZ 2 true true 8 a b c fin z n ro := by
  rw [Bool.eq_iff_iff]
  cases fin <;> cases ro <;> simp [sB, s1B, bdB, tB, gZ, gT, badAt, inB, okI] <;> omega
theorem kind_6 (a b c : Int) (fin : Bool) (z : Int) (n : Nat) (ro : Bool) (hz : 0 ≤ z) : sB 1 0 200 6 a b c fin z n (ro && inB 1 20 (n : Int)) = gZ 1 true true 6 a b c fin z n ro := by
  rw [Bool.eq_iff_iff]
  cases fin <;> cases ro <;> simp [sB, s1B, bdB, tB, gZ, gT, badAt, inB, okI] <;> omega
theorem kind_7 (a b c : Int) (fin : Bool) (z : Int) (n : Nat) (ro : Bool) (hz : 0 ≤ z) : sB 0 1 200 7 a b c fin z n (ro && inB 1 20 (n : Int)) = gZ 0 true true 7 a b c fin z n ro := by
  rw [Bool.eq_iff_iff]
  cases fin <;> cases ro <;> simp [sB, s1B, bdB, tB, gZ, gT, badAt, inB, okI] <;> omega
theorem kind_24 (a b c : Int) (fin : Bool) (z : Int) (n : Nat) (ro : Bool) (hz : 0 ≤ z) : sB 3 1 20 24 a b c fin z n (ro && inB 1 20 (n : Int)) = gZ 3 true true 24 a b c fin z n ro := by
  rw [Bool.eq_iff_iff]
  cases fin <;> cases ro <;> simp [sB, s1B, bdB, tB, gZ, gT, badAt, inB, okI] <;> omega
theorem kind_26 (a b c : Int) (fin : Bool) (z : Int) (n : Nat) (ro : Bool) (hz : 0 ≤ z) : sB 0 8 8 26 a b c fin z n (ro && inB 1 20 (n : Int)) = gZ 0 true true 26 a b c fin z n ro := by
  rw [Bool.eq_iff_iff]
  cases fin <;> cases ro <;> simp [sB, s1B, bdB, tB, gZ, gT, badAt, inB, okI] <;> omega
theorem kind_27 (a b c : Int) (fin : Bool) (z : Int) (n : Nat) (ro : Bool) (hz : 0 ≤ z) : sB 0 8 8 27 a b c fin z n (ro && inB 1 20 (n : Int)) = gZ 0 true true 27 a b c fin z n ro := by
  rw [Bool.eq_iff_iff]
  cases fin <;> cases ro <;> simp [sB, s1B, bdB, tB, gZ, gT, badAt, inB, okI] <;> omega
theorem kind_48 (a b c : Int) (fin : Bool) (z : Int) (n : Nat) (ro : Bool) (hz : 0 ≤ z) : sB 0 0 200 48 a b c fin z n (ro && inB 1 20 (n : Int)) = gZ 0 true true 48 a b c fin z n ro := by
  rw [Bool.eq_iff_iff]
  cases fin <;> cases ro <;> simp [sB, s1B, bdB, tB, gZ, gT, badAt, inB, okI] <;> omega
theorem kinds (k a b c : Int) (fin : Bool) (z : Int) (n : Nat) (ro : Bool) (hz : 0 ≤ z) : sB (shK k).1 (shK k).2.1 (shK k).2.2 k a b c fin z n (ro && inB 1 20 (n : Int)) = gZ (shP k).1 (shP k).2 (shH k) k a b c fin z n ro := by
  by_cases h0 : k = 0
  · subst h0; exact kind_0 a b c fin z n ro hz
  by_cases h1 : k = 1
  · subst h1; exact kind_1 a b c fin z n ro hz
  by_cases h16 : k = 16
  · subst h16; exact kind_16 a b c fin z n ro hz
  by_cases h2 : k = 2
  · subst h2; exact kind_2 a b c fin z n ro hz
  by_cases h17 : k = 17
  · subst h17; exact kind_17 a b c fin z n ro hz
  by_cases h5 : k = 5
  · subst h5; exact kind_5 a b c fin z n ro hz
  by_cases h4 : k = 4
  · subst h4; exact kind_4 a b c fin z n ro hz
  by_cases h28 : k = 28
  · subst h28; exact kind_28 a b c fin z n ro hz
  by_cases h8 : k = 8
  · subst h8; exact kind_8 a b c fin z n ro hz
  by_cases h6 : k = 6
  · subst h6; exact kind_6 a b c fin z n ro hz
  by_cases h7 : k = 7
  · subst h7; exact kind_7 a b c fin z n ro hz
  by_cases h24 : k = 24
  · subst h24; exact kind_24 a b c fin z n ro hz
  by_cases h26 : k = 26
  · subst h26; exact kind_26 a b c fin z n ro hz
  by_cases h27 : k = 27
  · subst h27; exact kind_27 a b c fin z n ro hz
  by_cases h48 : k = 48
  · subst h48; exact kind_48 a b c fin z n ro hz
  have e1 : shK k = (-1, 0, 0) := by unfold shK; simp only [h0, h1, h16, h2, h17, h5, h4, h28, h8, h6, h7, h24, h26, h27, h48, if_false]
  have e2 : shH k = false := by
    have hs : ∀ j, k ≠ j → (j == k) = false := fun j hj => beq_eq_false_iff_ne.mpr (Ne.symm hj)
    unfold shH shT
    simp only [List.any_cons, List.any_nil, hs 0 h0, hs 1 h1, hs 16 h16, hs 2 h2, hs 17 h17, hs 5 h5, hs 4 h4, hs 28 h28, hs 8 h8, hs 6 h6, hs 7 h7, hs 24 h24, hs 26 h26, hs 27 h27, hs 48 h48, Bool.or_false]
  rw [e1, e2]
  unfold sB gZ
  rw [if_pos (by decide)]
  simp
theorem szF (a b c d : Int) (e : Bool) (s : ByteArray) (l : List S118) (hs : s.size ≤ 9223372036854775807) (hl : l.length ≤ 9223372036854775807) : ∃ r, laws_szFrame.f a b c d e s l 1048576 = some r ∧ (¬ r < 0 → s.size ≤ 1048576 ∧ l.length ≤ 1048576) := by
  unfold laws_szFrame.f laws_szRangeS.f
  have e1 : wrap64 (1048576 - (s.size : Int)) = 1048576 - (s.size : Int) := by unfold wrap64; omega
  rw [e1]
  by_cases h1 : 1048576 - (s.size : Int) < 0
  · rw [if_pos h1]; exact ⟨_, rfl, fun q => absurd (by decide) q⟩
  · have e2 : wrap64 (1048576 - (s.size : Int) - (l.length : Int)) = 1048576 - (s.size : Int) - (l.length : Int) := by unfold wrap64; omega
    rw [if_neg h1, e2]
    by_cases h2 : 1048576 - (s.size : Int) - (l.length : Int) < 0
    · rw [if_pos h2]; exact ⟨_, rfl, fun q => absurd (by decide) q⟩
    · rw [if_neg h2]
      simp only [Option.bind_some]
      rw [if_neg h2]
      exact ⟨_, rfl, fun _ => ⟨by omega, by omega⟩⟩
def cvR (x : S118) : S116 := ⟨x.f0, x.f1⟩
theorem rd8 (l : List S118) (i : Nat) (h : i < l.length) : rd_T118 l (i : Int) = l[i]'h := by
  unfold rd_T118
  rw [Int.toNat_natCast, List.getD_eq_getElem?_getD, List.getElem?_eq_getElem h]; rfl
theorem rd6 (l : List S116) (i : Nat) (h : i < l.length) : rd_T116 l (i : Int) = l[i]'h := by
  unfold rd_T116
  rw [Int.toNat_natCast, List.getD_eq_getElem?_getD, List.getElem?_eq_getElem h]; rfl
theorem toR_loop (l : List S118) (hl : l.length ≤ 1048576) : ∀ (m k i : Nat) (x : List S116), l.length = i + m → x.length = l.length → x.take i = (l.map cvR).take i → m < k → laws_toRangeS.l0 k l x (i : Int) = some (l.map cvR)
  | 0, k, i, x, hd, hx, he, hk => by
    obtain ⟨k, rfl⟩ : ∃ m, k = m + 1 := ⟨k - 1, by omega⟩
    rw [laws_toRangeS.l0, if_neg (by omega)]
    rw [List.take_of_length_le (by omega), List.take_of_length_le (by rw [List.length_map]; omega)] at he
    rw [he]
  | m + 1, k, i, x, hd, hx, he, hk => by
    obtain ⟨k, rfl⟩ : ∃ m, k = m + 1 := ⟨k - 1, by omega⟩
    have e : wrap64 ((i : Int) + 1) = ((i + 1 : Nat) : Int) := by unfold wrap64; omega
    rw [laws_toRangeS.l0, if_pos (by omega), if_pos (by omega), rd8 l i (by omega)]
    unfold laws_toRange.f
    simp only [Option.bind_some]
    rw [if_pos (by omega), e, Int.toNat_natCast]
    refine toR_loop l hl m k (i + 1) _ (by omega) (by rw [List.length_set]; exact hx) ?_ (by omega)
    rw [List.take_succ_eq_append_getElem (by rw [List.length_set]; omega), List.take_succ_eq_append_getElem (by rw [List.length_map]; omega), List.take_set, List.set_eq_of_length_le (by rw [List.length_take]; omega), he, List.getElem_set_self, List.getElem_map]
    rfl
theorem toF (k : Nat) (a b c d : Int) (e : Bool) (s : ByteArray) (l : List S118) (hl : l.length ≤ 1048576) (hk : l.length < k) : laws_toFrame.f k a b c d e s l = some (a, b, c, d, e, s, l.map cvR) := by
  unfold laws_toFrame.f laws_toRangeS.f
  rw [if_pos (by omega), if_pos (by omega), Int.toNat_natCast]
  have h := toR_loop l hl l.length k 0 (List.replicate l.length z116) (by omega) (by simp) (by simp) hk
  have h0 : ((0 : Nat) : Int) = 0 := rfl
  rw [h0] at h
  rw [h]; rfl
theorem eqR_loop (l : List S116) (hl : l.length ≤ 1048576) : ∀ (m k i : Nat), l.length = i + m → m < k → laws_eqRangeS.l0 k l l (i : Int) = some true
  | 0, k, i, hd, hk => by
    obtain ⟨k, rfl⟩ : ∃ m, k = m + 1 := ⟨k - 1, by omega⟩
    rw [laws_eqRangeS.l0, if_neg (by omega)]
  | m + 1, k, i, hd, hk => by
    obtain ⟨k, rfl⟩ : ∃ m, k = m + 1 := ⟨k - 1, by omega⟩
    have e : wrap64 ((i : Int) + 1) = ((i + 1 : Nat) : Int) := by unfold wrap64; omega
    rw [laws_eqRangeS.l0, if_pos (by omega), if_pos (by omega), if_pos (by omega), laws_eqRange.f, if_pos rfl, if_pos rfl]
    simp only [Option.bind_some]
    rw [if_pos trivial, e]
    exact eqR_loop l hl m k (i + 1) (by omega) (by omega)
theorem eqF (k : Nat) (a b c d : Int) (e : Bool) (s : ByteArray) (l : List S116) (hl : l.length ≤ 1048576) (hk : l.length < k) : laws_eqFrame.f k a b c d e s l a b c d e s l = some true := by
  unfold laws_eqFrame.f laws_eqRangeS.f
  have h := eqR_loop l hl l.length k 0 (by omega) hk
  have h0 : ((0 : Nat) : Int) = 0 := rfl
  rw [h0] at h
  rw [if_pos rfl, if_pos rfl, if_pos rfl, if_pos rfl, bne_self_eq_false, if_neg (by decide), if_pos rfl, if_pos rfl, h]
  simp
theorem FnExactGoodFrame : laws_FnExactGoodFrame.Pure := by
  intro k a b c fin s l wk wa wb wc hs hl hw
  refine ⟨1048600 + 6, ?_⟩
  unfold laws_FnExactGoodFrame.f
  obtain ⟨r, hr, h⟩ := szF k a b c fin s l hs hl
  rw [hr]
  simp only [Option.bind_some]
  by_cases hn : r < 0
  · rw [if_pos hn]
  rw [if_neg hn]
  obtain ⟨h1, h2⟩ := h hn
  have hlen : (l.map cvR).length = l.length := List.length_map ..
  have hlen2 : ((l.map cvR).map fun x => (x.f0, x.f1)).length = l.length := by rw [List.length_map, List.length_map]
  have hi : impl_GoodFrame.f k a b c fin s (l.map cvR) = some (gZ (shP k).1 (shP k).2 (shH k) k a b c fin (s.size : Int) l.length (rgOk (prS (l.map cvR)))) := by
    unfold impl_GoodFrame.f frameA
    rw [hlen2, if_pos ⟨h2, wk⟩, good_gZ]
    rfl
  rw [toF _ k a b c fin s l h2 (by omega)]
  simp only [Option.bind_some]
  rw [spec_sB 1048600 k a b c fin s (l.map cvR) (by omega) h1 (by omega), hi, hlen, kinds k a b c fin (s.size : Int) l.length _ (by omega)]
  simp only [Option.bind_some]
  rw [bne_self_eq_false, if_neg (show ¬ (false = true) by decide), eqF _ k a b c fin s (l.map cvR) (by omega) (by omega)]
  simp only [Option.bind_some]
  rw [if_pos trivial]

end Go.Proofs.Ytlohefjigggjiaa.Pure
