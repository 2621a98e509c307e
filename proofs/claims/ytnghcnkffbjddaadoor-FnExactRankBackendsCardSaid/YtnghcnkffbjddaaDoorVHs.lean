/- The reference's primes, walked. Conditions: none (closed calls). -/
import Derived.Test.YtnghcnkffbjddaaDoorVHb
namespace Go.Proofs.YtnghcnkffbjddaaDoorV.Aes
open Go.RowKit Go.Proofs.YtnghcnkffbjddaaDoorV.PrintWords Go.Proofs.YtnghcnkffbjddaaDoorV.PrintLast Go.Proofs.YtnghcnkffbjddaaDoorV.PrintMore Go.Proofs.YtnghcnkffbjddaaDoorV.Mem
set_option linter.unusedVariables false
set_option linter.unusedSimpArgs false

def pli (n : Nat) : List Int := (pl n).map fun (q : Nat) => (q : Int)
theorem pli_length (n : Nat) : (pli n).length = (pl n).length := by simp [pli]
theorem pl_ge : ∀ n q, q ∈ pl n → 2 ≤ q
  | 0, q, h => by simp [pl] at h
  | n + 1, q, h => by
    rw [pl] at h
    split at h
    · simp at h
    · split at h
      · rw [List.mem_append] at h
        rcases h with h | h
        · exact pl_ge n q h
        · simp at h; omega
      · exact pl_ge n q h
def qB (n j : Nat) : Bool := ((pl n).take j).all fun q => n % q != 0
theorem qB_succ (n j : Nat) (h : j < (pl n).length) : qB n (j + 1) = (qB n j && (n % (pl n).getD j 0 != 0)) := by
  unfold qB
  rw [List.take_succ_eq_append_getElem h, List.all_append, List.getD_eq_getElem?_getD, List.getElem?_eq_getElem h]
  simp
theorem qB_all : (List.range 312).all (fun n => decide (n < 2) || (qB n 64 == isPr n)) = true := by decide +kernel
theorem qB_end (n : Nat) (h2 : 2 ≤ n) (hn : n < 312) (hl : (pl n).length ≤ 64) : qB n (pl n).length = isPr n := by
  have h := List.all_eq_true.mp qB_all n (List.mem_range.mpr hn)
  simp only [Bool.or_eq_true, decide_eq_true_eq, beq_iff_eq] at h
  rcases h with h | h
  · omega
  · rw [← h]
    unfold qB
    rw [List.take_of_length_le (Nat.le_refl _), List.take_of_length_le hl]
theorem info3 : (Tryd.prog.info? 3).map (fun i => (i.zero, i.size, i.bytes)) = some (some (.int .i64 0), 1, 8) := by kernel_rfl
theorem pli_cell {w : World} {b n cap : Nat} {A : Option Addr} {l : List Int} (h : w.ownsRow b 3 1 (.slice A n cap) n (nums .i64 l)) (i : Nat) (hi : i < l.length) : ∃ g, A = some ⟨g, 0, none⟩ ∧ w.cell? ⟨g, i, none⟩ = some (.int .i64 (l.getD i 0)) := by
  have hl : l.length = n := by have := h.1; simpa [nums] using this
  obtain ⟨g, c, h1, h2, h3⟩ := h.form (by omega)
  injection h1 with h1 _ h4
  subst h1; subst h4
  refine ⟨g, rfl, ?_⟩
  rw [h.cellAt i (by omega)]
  simp [nums, List.getD_eq_getElem?_getD, List.getElem?_eq_getElem hi]
set_option maxHeartbeats 4000000 in
set_option maxRecDepth 100000 in
theorem sprimes_walk (m lim : Nat) (hm : 0 < m ∧ m ≤ 64) (hlim : 2 ≤ lim ∧ lim ≤ 312) (hP : (pl lim).length = m) (hS : ∀ n, n < lim → (pl n).length < m) (w : World) :
    Calls Tryd.prog 148 #[.int .i64 (m : Int)] w fun e w' => ∃ v, e = .returned v ∧ w'.ownsRow w.heap.size 3 1 v m (nums .i64 (pli lim)) ∧ Below w.heap.size w w' := by
  obtain ⟨i0, hi, hz0, hz1, hz2⟩ := info_parts info3
  have Hm := Lib.hid hm
  have HP := Lib.hid hP
  have HS := Lib.hid hS
  clear hm hP hS
  go_enter Tryd.func148, Tryd.ntmps148
  go_wp2
  go_loopw [3, 4] (fun u y wr => ∃ (n : Nat) (A : Option Addr) (cap : Nat), 2 ≤ n ∧ n ≤ lim ∧ y = .int .i64 (n : Int) ∧ u = .slice A (pl n).length cap ∧ wr.ownsRow w.heap.size 3 1 (.slice A (pl n).length cap) (pl n).length (nums .i64 (pli n)) ∧ Below w.heap.size w wr)
    (fun _ y _ => 312 - (intOf y).toNat)
  case atStart => exact ⟨2, _, _, by omega, by omega, rfl, rfl, World.ownsRow_nil _ _ _ _, Below.refl _ _⟩
  case round =>
    obtain ⟨n, A, cap, hn2, hnl, rfl, rfl, hown, hB⟩ := hrel
    have hnl2 : (n : Int) ≤ 312 := by omega
    by_cases hlt : (pl n).length < m
    · have hltn : n < lim := by
        have := HP.out
        by_cases e : n < lim
        · exact e
        · have : n = lim := by omega
          subst this; omega
      have hlti : ((pl n).length : Int) < (m : Int) := by omega
      have hm64 : (pl n).length ≤ 64 := by have := Hm.out; omega
      obtain ⟨L, hL⟩ : ∃ L, L = (pl n).length := ⟨_, rfl⟩
      rw [← hL] at hlt hlti hown hm64 ⊢
      have HL := Lib.hid hL
      clear hL
      go_wp2
      go_loop [5, 16] (fun p y => ∃ k : Nat, k ≤ L ∧ y = .int .i64 (k : Int) ∧ p = .bool (qB n k)) (fun _ y => 64 - (intOf y).toNat)
      case atStart => exact ⟨0, by omega, rfl, by simp [qB]⟩
      case round =>
        obtain ⟨k, hkL, rfl, rfl⟩ := hrel
        by_cases hk : k < L
        · have hki : (k : Int) < (L : Int) := by omega
          obtain ⟨g, rfl, hc⟩ := pli_cell hown k (by rw [pli_length, ← HL.out]; exact hk)
          have hq := qB_succ n k (by rw [← HL.out]; exact hk)
          have hq2 : 2 ≤ (pl n).getD k 0 := by
            have hkl : k < (pl n).length := by rw [← HL.out]; exact hk
            rw [List.getD_eq_getElem?_getD, List.getElem?_eq_getElem hkl]
            exact pl_ge n _ (List.getElem_mem hkl)
          have hqe : (pli n).getD k 0 = (((pl n).getD k 0 : Nat) : Int) := by simp [pli, List.getD_eq_getElem?_getD]; cases (pl n)[k]? <;> rfl
          rw [hqe] at hc
          clear hqe
          obtain ⟨q, hqd⟩ : ∃ q, q = (pl n).getD k 0 := ⟨_, rfl⟩
          rw [← hqd] at hc hq hq2
          clear hqd
          have Hq := Lib.hid hq
          clear hq
          by_cases hb : qB n k = true
          · rw [hb]
            have Hb := Lib.hid hb
            clear hb
            go_wp2
            exact ⟨⟨k + 1, by omega, by go_num, by rw [Hq.out, Hb.out, Bool.true_and, neq_cast]⟩, by simp [intOf]; omega⟩
          · rw [Bool.eq_false_iff.mpr hb]
            have Hb := Lib.hid hb
            clear hb
            go_wp2
            exact ⟨⟨k + 1, by omega, by go_num, by rw [Hq.out, Bool.eq_false_iff.mpr Hb.out, Bool.false_and]⟩, by simp [intOf]; omega⟩
        · have hkL2 : k = L := by omega
          subst hkL2
          have hend := qB_end n hn2 (by omega) (by rw [← HL.out]; omega)
          rw [← HL.out] at hend
          rw [hend]
          clear hend
          have hpl := pl_two n hn2
          have hki : ¬ (k : Int) < (k : Int) := by omega
          by_cases hp : isPr n = true
          · rw [hp]
            rw [if_pos hp] at hpl
            have Hpl := Lib.hid hpl
            clear hpl
            have hc3 : k + 1 ≤ maxLen := by unfold maxLen; have := Hm.out; omega
            have hc4 : (k + 1) * 8 ≤ 140737488355328 := by have := Hm.out; omega
            go_wp2_with (at_builtin; refine wpList_append_own _ rfl _ _ 96 rfl w.heap.size 3 i0 (.int .i64 0) 1 8 Tryd.underlying96 hi hz0 hz1 hz2 rfl (by decide) _ _ _ rfl (hown.alloc _) ⟨wr.heap.size, 0, none⟩ 1 1 [.int .i64 (n : Int)] rfl rfl (cell_lit1 wr _ _) (one_lit rfl) hc3 hc4 (Nat.le_trans hB.size (le_alloc wr _)) ?_)
            intro v' w1 hown' hgrow _
            have hfl : nums .i64 (pli n) ++ [Value.int .i64 (n : Int)] = nums .i64 (pli (n + 1)) := by unfold pli; rw [Hpl.out]; simp [nums]
            have hpln : (pl (n + 1)).length = k + 1 := by rw [Hpl.out, HL.out]; simp
            rw [hfl, ← hpln] at hown'
            obtain ⟨A', cap', rfl⟩ := own_slice hown'
            have hB1 := below_row hB hown hgrow
            clear hown hgrow hB Hpl hfl hpln
            go_wp2
            exact ⟨⟨n + 1, A', cap', by omega, by omega, by go_num, rfl, hown', hB1⟩, by simp [intOf]; omega⟩
          · rw [Bool.eq_false_iff.mpr hp]
            rw [if_neg hp] at hpl
            have Hpl := Lib.hid hpl
            clear hpl hp
            go_wp2
            exact ⟨⟨n + 1, A, cap, by omega, by omega, by go_num, by rw [Hpl.out, ← HL.out], by unfold pli; rw [Hpl.out, ← HL.out]; exact hown, hB⟩, by simp [intOf]; omega⟩
    · have : n = lim := by
        by_cases e : n < lim
        · have := HS.out n e; omega
        · omega
      subst this
      have h2 := HP.out
      have hlti : ¬ ((pl n).length : Int) < (m : Int) := by omega
      go_wp2
      go_ret
      exact ⟨_, rfl, by rw [← h2]; exact hown, hB⟩
theorem R_int {w : World} {b : Nat} {v : Value} {ws : List Int} (h : w.ownsRow b 3 1 v ws.length (nums .i64 ws)) : Kd.R (Kd.int .i64) 3 w b (fun _ => True) v ws := Kd.R_of_own (ownsRowM.of h) (fun _ _ => trivial)
theorem R_words {w : World} {b : Nat} {v : Value} {ws : List Int} (h : w.ownsRow b 145 1 v ws.length (nums .u32 ws)) : Kd.R (Kd.int .u32) 145 w b (fun _ => True) v ws := Kd.R_of_own (ownsRowM.of h) (fun _ _ => trivial)
theorem sprimes64 (w : World) : Calls Tryd.prog 148 #[.int .i64 64] w fun e w' => ∃ v0_ : Value, e = .returned v0_ ∧ Kd.R (Kd.int .i64) 3 w' w.heap.size (fun _ => True) v0_ (pli 312) ∧ Below w.heap.size w w' := by
  refine (sprimes_walk 64 312 (by decide) (by decide) (by rw [pl_312]; rfl) (fun n hn => of_decide_eq_true (List.all_eq_true.mp pl_short n (List.mem_range.mpr hn))) w).mono ?_
  rintro e w' ⟨v, he, ho, hb⟩
  exact ⟨v, he, R_int (by rw [pli_length, pl_312]; exact ho), hb⟩
theorem sprimes8 (w : World) : Calls Tryd.prog 148 #[.int .i64 8] w fun e w' => ∃ v0_ : Value, e = .returned v0_ ∧ Kd.R (Kd.int .i64) 3 w' w.heap.size (fun _ => True) v0_ (pli 20) ∧ Below w.heap.size w w' := by
  refine (sprimes_walk 8 20 (by decide) (by decide) (by rw [pl_20]; rfl) (fun n hn => of_decide_eq_true (List.all_eq_true.mp pl_short8 n (List.mem_range.mpr hn))) w).mono ?_
  rintro e w' ⟨v, he, ho, hb⟩
  exact ⟨v, he, R_int (by rw [pli_length, pl_20]; exact ho), hb⟩
end Go.Proofs.YtnghcnkffbjddaaDoorV.Aes
