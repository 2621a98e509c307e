/- impl.changed at AllocServer's function, walked. Conditions: those that each theorem names. -/
import Derived.Test.YtnghcnkffbjddaaDoorVTab8
namespace Go.Proofs.YtnghcnkffbjddaaDoorV.Aes
open Go.RowKit Go.Proofs.YtnghcnkffbjddaaDoorV.PrintWords Go.Proofs.YtnghcnkffbjddaaDoorV.PrintLast Go.Proofs.YtnghcnkffbjddaaDoorV.PrintMore Go.Proofs.YtnghcnkffbjddaaDoorV.Mem
set_option linter.unusedVariables false
set_option linter.unusedSimpArgs false

open Go.Maps Go.WideShapes Go.Proofs.YtnghcnkffbjddaaDoor.PImplM
def ClVA (s1 s2 s3 : Addr) : Value := .func (.func 76) #[] #[.pointer (some s1), .pointer (some s2), .pointer (some s3)]
set_option maxHeartbeats 4000000 in
set_option maxRecDepth 100000 in
theorem ch_badA (A : Option Addr) (c n : Nat) (s1 s2 s3 : Addr) (w : World)
    (hgood : ∀ W, Below w.heap.size w W → Calls Tryd.prog 30 #[.agg #[.slice A n c]] W fun e w' => e = .returned (.bool false) ∧ Below W.heap.size W w') :
    Calls Tryd.prog 65 #[.agg #[.slice A n c], ClVA s1 s2 s3] w (ChPost w [] 1) := by
  obtain ⟨b1, b2, b3, b4⟩ := two_boxes w (.slice A n c)
  have hgd := hgood _ b3
  have H := Lib.hid (And.intro b1 (And.intro b2 (And.intro b3 b4)))
  have l1 := (blk_cell b1 0).trans rfl
  unfold ClVA
  unfold T1 at l1 H hgd
  clear b1 b2 b3 b4
  go_enter Tryd.func65, Tryd.ntmps65
  go_wp2_with (go_at_call 30; refine hgd.mono ?_; rintro e w3 ⟨rfl, hB3⟩; have q2 := blk_below H.out.2.1 hB3; have q := (blk_cell q2 0).trans rfl; have qf := blk_frozen q2 0; have Q2 := Lib.hid q2; have HB3 := Lib.hid hB3; clear hB3 l1 q2)
  refine bodyPost_ret (results_cell_tmp rfl _ _ (w.heap.size + 1) 38 #[.slice none 0 0] (0, 0) _ rfl (blk_put Q2.out 0 _ rfl) Tryd.underlying38 rfl (by kernel_rfl)) rfl ?_
  exact ⟨_, rfl, Kd.S_nil _ _ _ _ _, below_set (H.out.2.2.1.trans (HB3.out.mono (by have := H.out.2.2.2; omega))) (by omega)⟩
def DoIsA (w : World) (s1 s2 s3 : Addr) (E E' : List S68) (code : Int) : Prop :=
  ∀ (B : Nat) (W : World) (p : Nat) (v : Value), Below w.heap.size w W → w.heap.size ≤ B → B ≤ W.heap.size → B ≤ p → W.heap[p]? = some (T1 v) → sEnt W B (fun k => k ≠ p) v E →
    Calls Tryd.prog 76 #[.pointer (some ⟨p, 0, none⟩), .pointer (some s1), .pointer (some s2), .pointer (some s3)] W fun e w' => e = .returned (.int .i64 code) ∧ Below B W w' ∧ ∃ v', w'.heap[p]? = some (T1 v') ∧ sEnt w' B (fun k => k ≠ p) v' E'
set_option maxHeartbeats 8000000 in
set_option maxRecDepth 100000 in
theorem ch_goA (A : Option Addr) (c n : Nat) (s1 s2 s3 : Addr) (E E' R : List S68) (code : Int) (w : World) (hR : R = if code = 0 then E' else E)
    (hgood : ∀ W, Below w.heap.size w W → Calls Tryd.prog 30 #[.agg #[.slice A n c]] W fun e w' => e = .returned (.bool true) ∧ Below W.heap.size W w')
    (hclone : ∀ W, Below w.heap.size w W → Calls Tryd.prog 96 #[.agg #[.slice A n c]] W fun e w' => ∃ v : Value, e = .returned (.agg #[v]) ∧ sEnt w' W.heap.size (fun _ => True) v E ∧ Below W.heap.size W w')
    (hdo : DoIsA w s1 s2 s3 E E' code) :
    Calls Tryd.prog 65 #[.agg #[.slice A n c], ClVA s1 s2 s3] w (ChPost w R code) := by
  obtain ⟨b1, b2, b3, b4⟩ := two_boxes w (.slice A n c)
  have hgd := hgood _ b3
  have H := Lib.hid (And.intro b1 (And.intro b2 (And.intro b3 b4)))
  have HC := Lib.hid hclone
  have HD := Lib.hid hdo
  have HRR := Lib.hid hR
  have l1 := (blk_cell b1 0).trans rfl
  unfold ClVA
  unfold T1 at l1 H hgd
  clear b1 b2 b3 b4 hclone hdo hgood hR
  go_enter Tryd.func65, Tryd.ntmps65
  go_upto_region 4 with (first
    | (go_at_call 30; refine hgd.mono ?_; rintro e w3 ⟨rfl, hB3⟩; have m1 := (blk_cell (blk_below H.out.1 hB3) 0).trans rfl; have HB3 := Lib.hid hB3; clear hB3 l1)
    | (go_at_call 96; refine (HC.out _ (H.out.2.2.1.trans (HB3.out.mono H.out.2.2.1.size))).mono ?_; rintro e w4 ⟨v, rfl, hS, hB4⟩; obtain ⟨Av, cv, ev⟩ := Kd.S_slice hS; subst ev; have HS := Lib.hid hS; have HB4 := Lib.hid hB4; clear hS hB4 m1)
    | ((with_reducible refine gate_dst (N := 6) rfl ?_); refine box_event ?hg (N := 6) ?hd (cs := #[.slice none 0 0]) (t := 38) ?hr ?_; (case hd => rfl); (case hg => rfl); (case hr => first | (go_simp; done) | (go_simp; rfl)); intro p hp w5 hbox hb5; have hcz0 := (blk_cell hbox 0).trans rfl; have hfz0 := blk_frozen hbox 0; have BX := Lib.hid hbox; have B5 := Lib.hid hb5; have HP := Lib.hid hp; clear hbox hb5 hp))
  obtain ⟨V, hV⟩ : ∃ V : Value, V = .slice Av E.length cv := ⟨_, rfl⟩
  have S6 : Hid (Below w.heap.size w (w5.setCell ⟨p, 0, none⟩ (.slice Av E.length cv)) ∧ w3.heap.size ≤ p ∧ (w5.setCell ⟨p, 0, none⟩ (.slice Av E.length cv)).heap[p]? = some (T1 (.slice Av E.length cv)) ∧ sEnt (w5.setCell ⟨p, 0, none⟩ (.slice Av E.length cv)) w3.heap.size (fun k => k ≠ p) (.slice Av E.length cv) E ∧ (w5.setCell ⟨p, 0, none⟩ (.slice Av E.length cv)).heap[w.heap.size]? = some (T1 (.slice A n c)) ∧ (w5.setCell ⟨p, 0, none⟩ (.slice Av E.length cv)).heap[w.heap.size + 1]? = some (T1 (.slice none 0 0)) ∧ w.heap.size + 2 ≤ w3.heap.size ∧ w3.heap.size ≤ (w5.setCell ⟨p, 0, none⟩ (.slice Av E.length cv)).heap.size) := by
    have g4 := HB4.out.size
    have g5 := B5.out.size
    have g3 := HB3.out.size
    have hb5 : Below w4.heap.size w4 (w5.setCell ⟨p, 0, none⟩ (.slice Av E.length cv)) := below_set B5.out (by rw [HP.out]; exact Nat.le_refl _)
    have hb3 : Below w3.heap.size w3 (w5.setCell ⟨p, 0, none⟩ (.slice Av E.length cv)) := HB4.out.trans (hb5.mono g4)
    have hb2 := HB3.out.trans (hb3.mono g3)
    refine Lib.hid ⟨H.out.2.2.1.trans (hb2.mono H.out.2.2.1.size), by rw [HP.out]; exact g4, blk_put BX.out 0 _ rfl, ?_, blk_below H.out.1 hb2, blk_below H.out.2.1 hb2, by have := H.out.2.2.2; omega, hb3.size⟩
    exact Kd.S_mono (Kd.S_below (Kd.S_bound HS.out) hb5) (fun k hk => by have := hk.2.2.1; rw [HP.out]; omega)
  clear hcz0 hfz0 BX B5 HP HS HB4 hV V
  generalize w5.setCell ⟨p, 0, none⟩ (.slice Av E.length cv) = w6 at S6 ⊢
  have hcall := HD.out w3.heap.size w6 p _ S6.out.1 (by have := S6.out.2.2.2.2.2.2.1; omega) S6.out.2.2.2.2.2.2.2 S6.out.2.1 S6.out.2.2.1 S6.out.2.2.2.1
  by_cases h0 : code = 0
  · have HRE : R = E' := by rw [HRR.out, if_pos h0]
    have h0a : (code == 0) = true := beq_iff_eq.mpr h0
    have h0b : (code != 0) = false := bne_eq_false_iff_eq.mpr h0
    have H0 := Lib.hid h0
    subst HRE
    have HZ := Lib.hid h0
    clear h0 HRR
    go_wp2_with (first
      | (go_at_call 76; refine hcall.mono ?_; rintro e w7 ⟨rfl, hB7, v', hp7, hS7⟩; obtain ⟨Aw, cw, ev⟩ := Kd.S_slice hS7; subst ev; have mm := (blk_cell hp7 0).trans rfl; have q2 := blk_below' S6.out.2.2.2.2.2.1 hB7 (by have := S6.out.2.2.2.2.2.2.1; omega); have q := (blk_cell q2 0).trans rfl; have qf := blk_frozen q2 0; have Q2 := Lib.hid q2; have HB7 := Lib.hid hB7; have HS7 := Lib.hid hS7; clear hB7 hp7 hS7 q2 hcall))
    have hlt := S6.out.2.2.2.2.2.2.1
    refine bodyPost_ret (results_cell_tmp rfl _ _ (w.heap.size + 1) 38 #[.slice Aw R.length cw] (0, 0) _ rfl (blk_put Q2.out 0 _ rfl) Tryd.underlying38 rfl (by kernel_rfl)) rfl ?_
    refine ⟨_, by rw [HZ.out]; rfl, ?_, below_set (S6.out.1.trans (HB7.out.mono (by omega))) (by omega)⟩
    exact Kd.S_lower (Kd.S_mono (Kd.S_far (Kd.S_bound HS7.out) (p := ⟨w.heap.size + 1, 0, none⟩) (fun k hk => by have h2 := hk.2.1; show k ≠ w.heap.size + 1; omega) _) (fun _ _ => trivial)) (by omega)
  · have HRE : R = E := by rw [HRR.out, if_neg h0]
    have h0a : (code == 0) = false := beq_eq_false_iff_ne.mpr h0
    have h0b : (code != 0) = true := bne_iff_ne.mpr h0
    subst HRE
    clear h0 HRR
    go_wp2_with (first
      | (go_at_call 76; refine hcall.mono ?_; rintro e w7 ⟨rfl, hB7, v', hp7, hS7⟩; have m1 := (blk_cell (blk_below' S6.out.2.2.2.2.1 hB7 (by have := S6.out.2.2.2.2.2.2.1; omega)) 0).trans rfl; have q2 := blk_below' S6.out.2.2.2.2.2.1 hB7 (by have := S6.out.2.2.2.2.2.2.1; omega); have Q2 := Lib.hid q2; have HB7 := Lib.hid hB7; clear hB7 hp7 hS7 q2 hcall)
      | (go_at_call 96; refine (HC.out _ (S6.out.1.trans (HB7.out.mono (by have := S6.out.2.2.2.2.2.2.1; omega)))).mono ?_; rintro e w8 ⟨v2, rfl, hS8, hB8⟩; obtain ⟨Aw, cw, ev⟩ := Kd.S_slice hS8; subst ev; have q3 := blk_below Q2.out hB8; have q := (blk_cell q3 0).trans rfl; have qf := blk_frozen q3 0; have Q3 := Lib.hid q3; have HS8 := Lib.hid hS8; have HB8 := Lib.hid hB8; clear hS8 hB8 m1 q3))
    have hlt := S6.out.2.2.2.2.2.2.1
    have h67 := HB7.out.size
    have h36 := S6.out.2.2.2.2.2.2.2
    refine bodyPost_ret (results_cell_tmp rfl _ _ (w.heap.size + 1) 38 #[.slice Aw R.length cw] (0, 0) _ rfl (blk_put Q3.out 0 _ rfl) Tryd.underlying38 rfl (by kernel_rfl)) rfl ?_
    refine ⟨_, rfl, ?_, below_set ((S6.out.1.trans (HB7.out.mono (by omega))).trans (HB8.out.mono (by omega))) (by omega)⟩
    exact Kd.S_lower (Kd.S_mono (Kd.S_far (Kd.S_bound HS8.out) (p := ⟨w.heap.size + 1, 0, none⟩) (fun k hk => by have h2 := hk.2.1; show k ≠ w.heap.size + 1; omega) _) (fun _ _ => trivial)) (by omega)
end Go.Proofs.YtnghcnkffbjddaaDoorV.Aes
