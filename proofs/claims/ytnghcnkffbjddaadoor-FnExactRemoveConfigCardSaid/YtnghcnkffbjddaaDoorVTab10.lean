/- impl.RemoveConfig and its function, walked. Conditions: at most 1048576 entries. -/
import Derived.Test.YtnghcnkffbjddaaDoorVTab9
import Derived.Test.YtnghcnkffbjddaaDoorVTab7
namespace Go.Proofs.YtnghcnkffbjddaaDoorV.Aes
open Go.RowKit Go.Proofs.YtnghcnkffbjddaaDoorV.PrintWords Go.Proofs.YtnghcnkffbjddaaDoorV.PrintLast Go.Proofs.YtnghcnkffbjddaaDoorV.PrintMore Go.Proofs.YtnghcnkffbjddaaDoorV.Mem
set_option linter.unusedVariables false
set_option linter.unusedSimpArgs false

open Go.Maps Go.WideShapes Go.Proofs.YtnghcnkffbjddaaDoor.PImplM
def evM (x : S68) : Ent := ⟨x.f0.f0, x.f0.f1, x.f0.f2, x.f0.f3, x.f0.f4, x.f1.map (fun y => (y.f0, y.f1)), x.f2⟩
theorem c_ent {w : World} {A : Option Addr} {n : Nat} {l : List S68} (h : Kd.C k68 w A n l) : ReadsRow (entK w) 7 w A n (l.map evM) := by
  refine reads_map (R' := entK w) evM h (fun x cs hx => ?_)
  obtain ⟨A5, c5, e, h5, h6⟩ := k68_open hx
  have hx5 : (x.f1.map (fun y => (y.f0, y.f1))).length = x.f1.length := List.length_map ..
  refine ⟨A5, c5, ?_, ?_, ?_⟩
  · show cs = [.int .i64 x.f0.f0, .int .i64 x.f0.f1, .int .i64 x.f0.f2, .string x.f0.f3, .bool x.f0.f4, .slice A5 (x.f1.map (fun y => (y.f0, y.f1))).length c5, .int .i64 x.f2]
    rw [hx5]; exact e
  · show (x.f1.map (fun y => (y.f0, y.f1))).length ≤ c5
    rw [hx5]; exact h5
  · show ReadsRow prK 2 w A5 (x.f1.map (fun y => (y.f0, y.f1))).length (x.f1.map (fun y => (y.f0, y.f1)))
    rw [hx5]
    exact reads_map (R' := prK) (fun y : S71 => (y.f0, y.f1)) h6 (fun y cs hy => k71_open hy)
theorem idx_lt (slot : Int) (E : List Ent) (h : ¬ idxOf slot E < 0) : ∃ i : Nat, idxOf slot E = i ∧ i < E.length := by
  unfold idxOf at h ⊢
  cases q : E.findIdx? (fun x => x.s0 == slot) with
  | none => rw [q] at h; exact absurd (by decide) h
  | some i =>
    rw [List.findIdx?_eq_some_iff_getElem] at q
    exact ⟨i, rfl, q.1⟩
def remC (slot : Int) (E : List S68) : Int := if idxOf slot (E.map evM) < 0 then 2 else 0
def remE (slot : Int) (E : List S68) : List S68 := if idxOf slot (E.map evM) < 0 then E else E.eraseIdx (idxOf slot (E.map evM)).toNat
set_option maxHeartbeats 4000000 in
set_option maxRecDepth 100000 in
theorem rem_do (slot : Int) (sb : Addr) (E : List S68) (w : World) (hsb : w.cell? sb = some (.int .i64 slot)) (hE : E.length ≤ 1048576) : DoIs w sb E (remE slot E) (remC slot E) := by
  intro B W p v hB hwB hBW hBp hp hS
  obtain ⟨A, cc, rfl, hcl, hC⟩ := Kd.S_reads hS
  have hlen : (E.map evM).length = E.length := List.length_map ..
  have hpc := (blk_cell hp 0).trans rfl
  have hent := entry_walk ⟨p, 0, none⟩ slot A cc (E.map evM) W (by rw [hlen]; exact hpc) (by rw [hlen]; exact c_ent hC) (by omega)
  have hsb2 := pw_cell_below hB hsb
  by_cases hi : idxOf slot (E.map evM) < 0
  · have e1 : remC slot E = 2 := by unfold remC; rw [if_pos hi]
    have e2 : remE slot E = E := by unfold remE; rw [if_pos hi]
    rw [e1, e2]
    obtain ⟨ix, hix⟩ : ∃ ix, ix = idxOf slot (E.map evM) := ⟨_, rfl⟩
    rw [← hix] at hent hi
    have hia : decide (ix < 0) = true := decide_eq_true hi
    have H := Lib.hid (And.intro hp (And.intro hS hBW))
    clear e1 e2 hix hp hS hC hlen hB hsb hcl hpc
    go_enter Tryd.func74, Tryd.ntmps74
    go_wp2_with (go_at_call 68; refine hent.mono ?_; rintro e w1 ⟨rfl, hB1⟩; have HB1 := Lib.hid hB1; clear hB1)
    go_ret
    exact ⟨rfl, HB1.out.mono H.out.2.2, _, blk_below H.out.1 HB1.out, Kd.S_below H.out.2.1 HB1.out⟩
  · obtain ⟨kn, hkn, hklt⟩ := idx_lt slot (E.map evM) hi
    rw [hlen] at hklt
    have e1 : remC slot E = 0 := by unfold remC; rw [if_neg hi]
    have e2 : remE slot E = E.eraseIdx kn := by unfold remE; rw [if_neg hi, hkn, Int.toNat_natCast]
    rw [e1, e2]
    rw [hkn] at hent
    obtain ⟨g, cap, ev, hbg, _, _⟩ := Kd.S_form hS (by omega)
    injection ev with ea _ ec
    subst ea; subst ec
    have hgp : g ≠ p := (Kd.S_R hS).1 g rfl
    have hka : decide ((kn : Int) < 0) = false := decide_eq_false (by omega)
    have ra : IntKind.i64.wrap ((kn : Int) + 1) = (kn : Int) + 1 := by rw [IntKind.wrap_i64]; omega
    have H := Lib.hid (And.intro hp (And.intro hS (And.intro hBW (And.intro hklt (And.intro hE (And.intro hcl (And.intro hgp hBp)))))))
    clear e1 e2 hkn hp hS hC hlen hB hsb hcl hi hgp hklt hE hBp
    go_enter Tryd.func74, Tryd.ntmps74
    go_wp2_with (first
      | (go_at_call 68; refine hent.mono ?_; rintro e w1 ⟨rfl, hB1⟩; have q1 := blk_below H.out.1 hB1; have m1 := (blk_cell q1 0).trans rfl; have Q1 := Lib.hid q1; have S1 := Lib.hid (Kd.S_below H.out.2.1 hB1); have HB1 := Lib.hid hB1; clear hB1 q1 hpc hent hsb2)
      | (go_at_call 75; refine (del_walk B g E.length cc kn _ E w1 S1.out H.out.2.2.2.1 H.out.2.2.2.2.1 H.out.2.2.2.2.2.1 (Nat.le_trans H.out.2.2.1 HB1.out.size)).mono ?_; rintro e w2 ⟨rfl, hS2, hB2, hO2⟩; have q2 := (hO2 p (blk_lt Q1.out) (Ne.symm H.out.2.2.2.2.2.2.1)).trans Q1.out; have m2 := (blk_cell q2 0).trans rfl; have f2 := blk_frozen q2 0; have Q2 := Lib.hid q2; have HS2 := Lib.hid hS2; have HB2 := Lib.hid hB2; clear hS2 hB2 hO2 q2 m1))
    go_ret
    exact ⟨rfl, Below.setCell (p := ⟨p, 0, none⟩) ((HB1.out.mono H.out.2.2.1).trans HB2.out) H.out.2.2.2.2.2.2.2 _, _, blk_put Q2.out 0 _ rfl, Kd.S_far HS2.out (p := ⟨p, 0, none⟩) (fun k hk => hk) _⟩
set_option maxHeartbeats 4000000 in
set_option maxRecDepth 100000 in
theorem rem_top (A : Option Addr) (c n : Nat) (slot : Int) (R : List S68) (code : Int) (w : World)
    (hch : ∀ W sb, Below w.heap.size w W → w.heap.size + 3 ≤ W.heap.size → W.cell? sb = some (.int .i64 slot) → Calls Tryd.prog 65 #[.agg #[.slice A n c], ClV sb] W (ChPost W R code)) :
    Calls Tryd.prog 39 #[.agg #[.slice A n c], .int .i64 slot] w (ChPost w R code) := by
  have b1 := heap_alloc_new w (T1 (.slice A n c))
  have s1 : (w.alloc (T1 (.slice A n c))).heap.size = w.heap.size + 1 := by simp
  have b2 := heap_alloc_new (w.alloc (T1 (.slice A n c))) (.cells #[.int .i64 slot] 3)
  rw [s1] at b2
  have s2 : ((w.alloc (T1 (.slice A n c))).alloc (.cells #[.int .i64 slot] 3)).heap.size = w.heap.size + 2 := by simp
  have b3 := heap_alloc_new ((w.alloc (T1 (.slice A n c))).alloc (.cells #[.int .i64 slot] 3)) (T1 (.slice none 0 0))
  rw [s2] at b3
  have s3 : (((w.alloc (T1 (.slice A n c))).alloc (.cells #[.int .i64 slot] 3)).alloc (T1 (.slice none 0 0))).heap.size = w.heap.size + 3 := by simp
  have hB : Below w.heap.size w (((w.alloc (T1 (.slice A n c))).alloc (.cells #[.int .i64 slot] 3)).alloc (T1 (.slice none 0 0))) := (((Below.refl _ _).alloc (Nat.le_refl _) _).alloc (by rw [s1]; omega) _).alloc (by rw [s2]; omega) _
  have l1 := (blk_cell (blk_alloc (blk_alloc b1 (.cells #[.int .i64 slot] 3)) (T1 (.slice none 0 0))) 0).trans rfl
  have l2 := (blk_cell (blk_alloc b2 (T1 (.slice none 0 0))) 0).trans rfl
  have hcall := hch _ ⟨w.heap.size + 1, 0, none⟩ hB (by rw [s3]; exact Nat.le_refl _) l2
  have H := Lib.hid (And.intro b3 (And.intro s3 hB))
  unfold ClV at hcall
  unfold T1 at l1 H hcall
  clear b1 b2 b3 s1 s2 s3 hB l2
  go_enter Tryd.func39, Tryd.ntmps39
  go_wp2_with (go_at_call 65; refine hcall.mono ?_; rintro e w3 ⟨v, rfl, hS, hB3⟩; obtain ⟨Aw, cw, ev⟩ := Kd.S_slice hS; subst ev; have q2 := blk_below H.out.1 hB3; have q := (blk_cell q2 0).trans rfl; have qf := blk_frozen q2 0; have Q2 := Lib.hid q2; have HB3 := Lib.hid hB3; have HS := Lib.hid hS; clear hB3 hS l1 q2)
  have h3 := H.out.2.1
  refine bodyPost_ret (results_cell_tmp rfl _ _ (w.heap.size + 2) 38 #[.slice Aw R.length cw] (0, 0) _ rfl (blk_put Q2.out 0 _ rfl) Tryd.underlying38 rfl (by kernel_rfl)) rfl ?_
  refine ⟨_, rfl, ?_, below_set (H.out.2.2.trans (HB3.out.mono (by omega))) (by omega)⟩
  exact Kd.S_lower (Kd.S_mono (Kd.S_far (Kd.S_bound HS.out) (p := ⟨w.heap.size + 2, 0, none⟩) (fun k hk => by have h2 := hk.2.1; show k ≠ w.heap.size + 2; omega) _) (fun _ _ => trivial)) (by omega)
end Go.Proofs.YtnghcnkffbjddaaDoorV.Aes
