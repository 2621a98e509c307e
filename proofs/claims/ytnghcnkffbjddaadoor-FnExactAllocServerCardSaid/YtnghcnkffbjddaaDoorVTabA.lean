/- impl.AllocServer's function, walked. Conditions: a good table; texts of at most 1048576 bytes. -/
import Derived.Test.YtnghcnkffbjddaaDoorVTabSA
import Derived.Test.YtnghcnkffbjddaaDoorVTabCA
import Derived.Test.YtnghcnkffbjddaaDoorVTab8A
import Derived.Test.YtnghcnkffbjddaaDoorVTabM
import Derived.Test.YtnghcnkffbjddaaDoorVTabF
import Derived.Deep.Cut
import Derived.Lib.QuietBelow
import Derived.BigRegion
import Derived.BigQuiet
import Derived.Deep.QuietTactic
import Derived.Deep.LoopGhost
namespace Go.Proofs.YtnghcnkffbjddaaDoorV.Aes
open Go.RowKit Go.Proofs.YtnghcnkffbjddaaDoorV.PrintWords Go.Proofs.YtnghcnkffbjddaaDoorV.PrintLast Go.Proofs.YtnghcnkffbjddaaDoorV.PrintMore Go.Proofs.YtnghcnkffbjddaaDoorV.Mem
set_option linter.unusedVariables false
set_option linter.unusedSimpArgs false

open Go.Maps Go.WideShapes Go.Proofs.YtnghcnkffbjddaaDoor.PImplM
theorem cell_grown {w w' : World} {a : Addr} {v : Value} {row : Option Nat} (hc : w.cell? a = some v) (hg : w.grownBy w' row) (hne : some a.block ≠ row) : w'.cell? a = some v := by
  have := hg.block a.block (World.block_lt_of_cell? w a hc) hne
  simpa [World.cell?, this] using hc
def prs (l : List S71) : List (ByteArray × ByteArray) := l.map (fun y => (y.f0, y.f1))
def alC1 (sid sbk : ByteArray) (x : S68) : Int := if (sid.size : Int) = x.f0.f1 then (if (prs x.f1).any (hitA sid sbk) = true then 3 else (if 12 ≤ x.f1.length then 4 else 0)) else 1
def alC (slot : Int) (sid sbk : ByteArray) (E : List S68) : Int := if goodS sbk = true then (if idxOf slot (E.map evM) < 0 then 2 else alC1 sid sbk (E.getD (idxOf slot (E.map evM)).toNat z68)) else 1
def alX (sid sbk : ByteArray) (x : S68) : S68 := ⟨x.f0, insL ltA ⟨sid, sbk⟩ x.f1, x.f2⟩
def alE (slot : Int) (sid sbk : ByteArray) (E : List S68) : List S68 := if alC slot sid sbk E = 0 then E.set (idxOf slot (E.map evM)).toNat (alX sid sbk (E.getD (idxOf slot (E.map evM)).toNat z68)) else E
theorem has_none {sid sbk : ByteArray} {l : List S71} (h : (prs l).any (hitA sid sbk) = false) : ∀ y ∈ l, y.f0.toList ≠ sid.toList := by
  intro y hy e
  have := (List.any_eq_false.mp h) (y.f0, y.f1) (List.mem_map.mpr ⟨y, hy, rfl⟩)
  unfold hitA at this
  simp [e] at this
set_option maxHeartbeats 8000000 in
set_option maxRecDepth 100000 in
theorem al_do (slot : Int) (sid sbk : ByteArray) (s1 s2 s3 : Addr) (E : List S68) (w : World) (hs1 : w.cell? s1 = some (.int .i64 slot)) (hs2 : w.cell? s2 = some (.string sbk)) (hs3 : w.cell? s3 = some (.string sid)) (hbk : sbk.size ≤ 1048576) (hid : sid.size ≤ 1048576) (hE : tabOk (E.map evM) = true) : DoIsA w s1 s2 s3 E (alE slot sid sbk E) (alC slot sid sbk E) := by
  intro B W p v hB hwB hBW hBp hp hS
  have mixed : Tryd.prog.follows .mixedOrders = true := by kernel_rfl
  obtain ⟨hE3, hEp, hEg⟩ := tab_facts hE
  obtain ⟨A, cc, rfl, hcl, hC⟩ := Kd.S_reads hS
  have hlen : (E.map evM).length = E.length := List.length_map ..
  have hent := entry_walk ⟨p, 0, none⟩ slot A cc (E.map evM) W (by rw [hlen]; exact (blk_cell hp 0).trans rfl) (by rw [hlen]; exact c_ent hC) (by omega)
  have hgb := fun W' => Go.Proofs.YtnghcnkffbjddaaDoor.PImplG.impl_GoodBackend.calls sbk (goodS sbk) W' (impl_good sbk (by omega))
  have F : Hid (∀ W', Below W.heap.size W W' → W'.heap[p]? = some (T1 (.slice A E.length cc)) ∧ W'.cell? s1 = some (.int .i64 slot) ∧ W'.cell? s2 = some (.string sbk) ∧ W'.cell? s3 = some (.string sid) ∧ sEnt W' B (fun k => k ≠ p) (.slice A E.length cc) E) := Lib.hid (fun W' h => ⟨blk_below hp h, pw_cell_below h (pw_cell_below hB hs1), pw_cell_below h (pw_cell_below hB hs2), pw_cell_below h (pw_cell_below hB hs3), Kd.S_below hS h⟩)
  have l1 := (F.out _ (Below.refl _ _)).2.1
  have H := Lib.hid (And.intro hBW (And.intro hBp hcl))
  have HLO := Lib.hid (And.intro (Nat.lt_of_lt_of_le (block_lt_of_cell hs3) hwB) (Nat.lt_of_lt_of_le (block_lt_of_cell hs2) hwB))
  have HE := Lib.hid (And.intro hE3 hEg)
  have HID := Lib.hid hid
  obtain ⟨gb, hgbe⟩ : ∃ q, q = goodS sbk := ⟨_, rfl⟩
  rw [← hgbe] at hgb
  have hC0 : alC slot sid sbk E = if gb = true then (if idxOf slot (E.map evM) < 0 then 2 else alC1 sid sbk (E.getD (idxOf slot (E.map evM)).toNat z68)) else 1 := by rw [hgbe]; rfl
  clear hp hBW hBp hcl hB hwB hs1 hs2 hs3 hE hE3 hEp hEg hbk hid hgbe
  cases gb with
  | false =>
    have e1 : alC slot sid sbk E = 1 := by rw [hC0, if_neg (by decide)]
    have e2 : alE slot sid sbk E = E := by unfold alE; rw [e1, if_neg (by decide)]
    rw [e1, e2]
    clear e1 e2 hC0 hS hC hlen
    go_enter Tryd.func76, Tryd.ntmps76
    go_wp2_with (first | (go_at_call 68; refine hent.mono ?_; rintro e w1 ⟨rfl, hB1⟩; have HB1 := Lib.hid hB1; have m2 := (F.out _ hB1).2.2.1; clear hB1 l1) | (go_at_call 15; refine (hgb _).mono ?_; rintro e w2 ⟨rfl, hB2⟩; have HB2 := Lib.hid (HB1.out.trans (hB2.mono HB1.out.size)); have n1 := (blk_cell (F.out _ HB2.out).1 0).trans rfl; clear hB2 m2))
    go_ret
    exact ⟨rfl, HB2.out.mono H.out.1, _, (F.out _ HB2.out).1, (F.out _ HB2.out).2.2.2.2⟩
  | true =>
  rw [if_pos rfl] at hC0
  by_cases hi : idxOf slot (E.map evM) < 0
  · have e1 : alC slot sid sbk E = 2 := by rw [hC0, if_pos hi]
    have e2 : alE slot sid sbk E = E := by unfold alE; rw [e1, if_neg (by decide)]
    rw [e1, e2]
    obtain ⟨ix, hix⟩ : ∃ q, q = idxOf slot (E.map evM) := ⟨_, rfl⟩
    rw [← hix] at hent hi
    have hia : decide (ix < 0) = true := decide_eq_true hi
    clear e1 e2 hC0 hS hC hlen hi hix
    go_enter Tryd.func76, Tryd.ntmps76
    go_wp2_with (first | (go_at_call 68; refine hent.mono ?_; rintro e w1 ⟨rfl, hB1⟩; have HB1 := Lib.hid hB1; have m2 := (F.out _ hB1).2.2.1; clear hB1 l1) | (go_at_call 15; refine (hgb _).mono ?_; rintro e w2 ⟨rfl, hB2⟩; have HB2 := Lib.hid (HB1.out.trans (hB2.mono HB1.out.size)); have n1 := (blk_cell (F.out _ HB2.out).1 0).trans rfl; clear hB2 m2))
    go_ret
    exact ⟨rfl, HB2.out.mono H.out.1, _, (F.out _ HB2.out).1, (F.out _ HB2.out).2.2.2.2⟩
  · rw [if_neg hi] at hC0
    obtain ⟨kn, hkn, hkl⟩ := idx_lt slot (E.map evM) hi
    rw [hlen] at hkl
    rw [hkn, Int.toNat_natCast] at hC0
    have hE0 : alE slot sid sbk E = if alC1 sid sbk (E.getD kn z68) = 0 then E.set kn (alX sid sbk (E.getD kn z68)) else E := by unfold alE; rw [hC0, hkn, Int.toNat_natCast]
    rw [hkn] at hent
    rw [hC0, hE0]
    obtain ⟨g, cap, ev, hbg, _, _⟩ := Kd.S_form hS (by omega)
    injection ev with ea el ec
    subst ea; subst ec
    clear el
    have hgp : g ≠ p := (Kd.S_R hS).1 g rfl
    obtain ⟨oki, cs, _, hM, hcc, _, hoki, _⟩ := Kd.S_elem hS z68 (kn : Int) (by omega) (by omega)
    obtain ⟨x, hx⟩ : ∃ q, q = E.getD kn z68 := ⟨_, rfl⟩
    rw [show ((kn : Int)).toNat = kn from Int.toNat_natCast kn, ← hx] at hM
    rw [← hx]
    obtain ⟨v5, ecs, hR5⟩ := k68_openM hM
    subst ecs
    obtain ⟨A5, c5, e5⟩ := Kd.R_slice hR5
    subst e5
    have hxm : x ∈ E := by rw [hx, List.getD_eq_getElem?_getD, List.getElem?_eq_getElem hkl]; exact List.getElem_mem hkl
    obtain ⟨hx12, hxp, _, _⟩ := ent_facts (HE.out.2 x hxm)
    have G : Hid (∀ W', Below W.heap.size W W' → W'.cell? ⟨g, kn * 7 + 1, none⟩ = some (.int .i64 x.f0.f1) ∧ W'.cell? ⟨g, kn * 7 + 5, none⟩ = some (.slice A5 x.f1.length c5)) := Lib.hid (fun W' h => ⟨pw_cell_below h (hcc 1 _ rfl), pw_cell_below h (hcc 5 _ rfl)⟩)
    have hpr : ReadsRow prK 2 W A5 (prs x.f1).length (prs x.f1) := by
      have q := reads_map (R' := prK) (fun y : S71 => (y.f0, y.f1)) (Kd.R_reads' hR5).2.2 (fun y cs hy => k71_open hy)
      unfold prs
      rw [List.length_map]
      exact q
    have hhas := fun (W' : World) (h : Below W.heap.size W W') => hasA_walk s3 s2 sid sbk A5 c5 (prs x.f1) W' (pr_below hpr h) (by unfold prs; rw [List.length_map]; omega) (F.out _ h).2.2.2.1 (F.out _ h).2.2.1
    rw [show (prs x.f1).length = x.f1.length from List.length_map ..] at hhas
    have hia : decide ((kn : Int) < 0) = false := decide_eq_false (by omega)
    have hkz : (kn : Int) < (E.length : Int) := by omega
    have HKX := Lib.hid (And.intro hx (And.intro hkl (And.intro hxp (And.intro hgp hbg))))
    have HX12 := Lib.hid hx12
    clear hC0 hE0 hS hC hlen hi hkn hM hcc hoki hR5 hpr hx hxm hxp hgp hbg hx12
    unfold alC1
    by_cases hsz : (sid.size : Int) = x.f0.f1
    case neg =>
      rw [if_neg hsz, if_neg (by decide)]
      have hne : ((sid.size : Int) != x.f0.f1) = true := bne_iff_ne.mpr hsz
      clear hsz
      go_enter Tryd.func76, Tryd.ntmps76
      go_upto_region 7 with (first | (go_at_call 68; refine hent.mono ?_; rintro e w1 ⟨rfl, hB1⟩; have HB1 := Lib.hid hB1; have m2 := (F.out _ hB1).2.2.1; clear hB1 l1) | (go_at_call 15; refine (hgb _).mono ?_; rintro e w2 ⟨rfl, hB2⟩; have HB2 := Lib.hid (HB1.out.trans (hB2.mono HB1.out.size)); have n1 := (blk_cell (F.out _ HB2.out).1 0).trans rfl; clear hB2 m2))
      have c3 := (F.out _ HB2.out).2.2.2.1
      have c1 := (G.out _ HB2.out).1
      go_wp2_with fail
      have lq0 := fun d os => cell_regrown c3 d os
      have lq1 := fun d os => cell_regrown c1 d os
      refine wp_region_quiet_below (by assumption) (by kernel_rfl) ?_
      repeat (refine (wpQuiet_step (fun K hK => ?_) : _); go_simp; (refine hK _ ?_; clear hK K))
      refine wpQuiet_nil ?_
      intro _ hw'
      obtain ⟨⟨dq, osq⟩, hw''⟩ := hw'
      subst hw''
      have hbq := below_regrown w2 dq osq
      have HB3 : Hid (Below W.heap.size W (Go.Sort.grow (redrawn w2 dq) osq)) := Lib.hid (HB2.out.trans (hbq.mono HB2.out.size))
      clear hbq lq0 lq1 c3 c1 n1
      generalize Go.Sort.grow (redrawn w2 dq) osq = w3 at HB3 ⊢
      go_wp2
      go_ret
      exact ⟨rfl, HB3.out.mono H.out.1, _, (F.out _ HB3.out).1, (F.out _ HB3.out).2.2.2.2⟩
    rw [if_pos hsz]
    have hne : ((sid.size : Int) != x.f0.f1) = false := bne_eq_false_iff_eq.mpr hsz
    clear hsz
    cases hh : (prs x.f1).any (hitA sid sbk) with
    | true =>
      rw [if_pos rfl, if_neg (by decide)]
      rw [hh] at hhas
      clear hh
      go_enter Tryd.func76, Tryd.ntmps76
      go_upto_region 7 with (first | (go_at_call 68; refine hent.mono ?_; rintro e w1 ⟨rfl, hB1⟩; have HB1 := Lib.hid hB1; have m2 := (F.out _ hB1).2.2.1; clear hB1 l1) | (go_at_call 15; refine (hgb _).mono ?_; rintro e w2 ⟨rfl, hB2⟩; have HB2 := Lib.hid (HB1.out.trans (hB2.mono HB1.out.size)); have n1 := (blk_cell (F.out _ HB2.out).1 0).trans rfl; clear hB2 m2))
      have c3 := (F.out _ HB2.out).2.2.2.1
      have c1 := (G.out _ HB2.out).1
      go_wp2_with fail
      have lq0 := fun d os => cell_regrown c3 d os
      have lq1 := fun d os => cell_regrown c1 d os
      refine wp_region_quiet_below (by assumption) (by kernel_rfl) ?_
      repeat (refine (wpQuiet_step (fun K hK => ?_) : _); go_simp; (refine hK _ ?_; clear hK K))
      refine wpQuiet_nil ?_
      intro _ hw'
      obtain ⟨⟨dq, osq⟩, hw''⟩ := hw'
      subst hw''
      have hbq := below_regrown w2 dq osq
      have HB3 : Hid (Below W.heap.size W (Go.Sort.grow (redrawn w2 dq) osq)) := Lib.hid (HB2.out.trans (hbq.mono HB2.out.size))
      clear hbq lq0 lq1 c3 c1 n1
      generalize Go.Sort.grow (redrawn w2 dq) osq = w3 at HB3 ⊢
      have c5 := (G.out _ HB3.out).2
      go_wp2_with (first | (go_at_call 77; refine (hhas _ HB3.out).mono ?_; rintro e w4 ⟨rfl, hB4⟩; have HB4 := Lib.hid (HB3.out.trans (hB4.mono HB3.out.size)); have d5 := (G.out _ HB4.out).2; clear hB4 c5))
      go_ret
      exact ⟨rfl, HB4.out.mono H.out.1, _, (F.out _ HB4.out).1, (F.out _ HB4.out).2.2.2.2⟩
    | false =>
    rw [if_neg (by decide)]
    rw [hh] at hhas
    by_cases h12 : 12 ≤ x.f1.length
    case pos =>
      rw [if_pos h12, if_neg (by decide)]
      have h12a : decide ((x.f1.length : Int) ≥ 12) = true := decide_eq_true (by omega)
      have h12b : decide (12 ≤ (x.f1.length : Int)) = true := decide_eq_true (by omega)
      clear hh h12
      go_enter Tryd.func76, Tryd.ntmps76
      go_upto_region 7 with (first | (go_at_call 68; refine hent.mono ?_; rintro e w1 ⟨rfl, hB1⟩; have HB1 := Lib.hid hB1; have m2 := (F.out _ hB1).2.2.1; clear hB1 l1) | (go_at_call 15; refine (hgb _).mono ?_; rintro e w2 ⟨rfl, hB2⟩; have HB2 := Lib.hid (HB1.out.trans (hB2.mono HB1.out.size)); have n1 := (blk_cell (F.out _ HB2.out).1 0).trans rfl; clear hB2 m2))
      have c3 := (F.out _ HB2.out).2.2.2.1
      have c1 := (G.out _ HB2.out).1
      go_wp2_with fail
      have lq0 := fun d os => cell_regrown c3 d os
      have lq1 := fun d os => cell_regrown c1 d os
      refine wp_region_quiet_below (by assumption) (by kernel_rfl) ?_
      repeat (refine (wpQuiet_step (fun K hK => ?_) : _); go_simp; (refine hK _ ?_; clear hK K))
      refine wpQuiet_nil ?_
      intro _ hw'
      obtain ⟨⟨dq, osq⟩, hw''⟩ := hw'
      subst hw''
      have hbq := below_regrown w2 dq osq
      have HB3 : Hid (Below W.heap.size W (Go.Sort.grow (redrawn w2 dq) osq)) := Lib.hid (HB2.out.trans (hbq.mono HB2.out.size))
      clear hbq lq0 lq1 c3 c1 n1
      generalize Go.Sort.grow (redrawn w2 dq) osq = w3 at HB3 ⊢
      have c5 := (G.out _ HB3.out).2
      go_wp2_with (first | (go_at_call 77; refine (hhas _ HB3.out).mono ?_; rintro e w4 ⟨rfl, hB4⟩; have HB4 := Lib.hid (HB3.out.trans (hB4.mono HB3.out.size)); have d5 := (G.out _ HB4.out).2; clear hB4 c5))
      go_ret
      exact ⟨rfl, HB4.out.mono H.out.1, _, (F.out _ HB4.out).1, (F.out _ HB4.out).2.2.2.2⟩
    rw [if_neg h12, if_pos rfl]
    have h12a : decide ((x.f1.length : Int) ≥ 12) = false := decide_eq_false (by omega)
    have h12b : decide (12 ≤ (x.f1.length : Int)) = false := decide_eq_false (by omega)
    have HH12 := Lib.hid h12
    have HNO := Lib.hid (has_none hh)
    clear hh h12
    go_enter Tryd.func76, Tryd.ntmps76
    go_upto_region 7 with (first | (go_at_call 68; refine hent.mono ?_; rintro e w1 ⟨rfl, hB1⟩; have HB1 := Lib.hid hB1; have m2 := (F.out _ hB1).2.2.1; clear hB1 l1) | (go_at_call 15; refine (hgb _).mono ?_; rintro e w2 ⟨rfl, hB2⟩; have HB2 := Lib.hid (HB1.out.trans (hB2.mono HB1.out.size)); have n1 := (blk_cell (F.out _ HB2.out).1 0).trans rfl; clear hB2 m2))
    have c3 := (F.out _ HB2.out).2.2.2.1
    have c1 := (G.out _ HB2.out).1
    go_wp2_with fail
    have lq0 := fun d os => cell_regrown c3 d os
    have lq1 := fun d os => cell_regrown c1 d os
    refine wp_region_quiet_below (by assumption) (by kernel_rfl) ?_
    repeat (refine (wpQuiet_step (fun K hK => ?_) : _); go_simp; (refine hK _ ?_; clear hK K))
    refine wpQuiet_nil ?_
    intro _ hw'
    obtain ⟨⟨dq, osq⟩, hw''⟩ := hw'
    subst hw''
    have hbq := below_regrown w2 dq osq
    have HB3 : Hid (Below W.heap.size W (Go.Sort.grow (redrawn w2 dq) osq)) := Lib.hid (HB2.out.trans (hbq.mono HB2.out.size))
    clear hbq lq0 lq1 c3 c1 n1
    generalize Go.Sort.grow (redrawn w2 dq) osq = w3 at HB3 ⊢
    have c5' := (G.out _ HB3.out).2
    have c5 := c5'
    clear c5'
    go_upto_region 13 with (first | (go_at_call 77; refine (hhas _ HB3.out).mono ?_; rintro e w4 ⟨rfl, hB4⟩; have HB4 := Lib.hid (HB3.out.trans (hB4.mono HB3.out.size)); have d5 := (G.out _ HB4.out).2; clear hB4 c5))
    clear d5
    have hB5 : Below W.heap.size W w4.drew := below_drew1 HB4.out
    obtain ⟨oki, cs, _, hM, _, _, hoki, hH⟩ := Kd.S_elem (F.out _ hB5).2.2.2.2 z68 (kn : Int) (by omega) hkz
    rw [show ((kn : Int)).toNat = kn from Int.toNat_natCast kn, ← HKX.out.1] at hM
    obtain ⟨v5, ecs, hR5⟩ := k68_openM hM
    subst ecs
    have e5 := (el_cell hH (by omega) hkz 5 (by decide) _ rfl).1
    have e5' : some v5 = some (.slice A5 x.f1.length c5) := e5.symm.trans (G.out _ hB5).2
    obtain rfl := Option.some.inj e5'
    clear e5 e5' hM
    obtain ⟨okA, hokA⟩ : ∃ q : Nat → Prop, q = (fun k => oki k ∨ (k ≠ p ∧ w4.drew.heap.size ≤ k)) := ⟨_, rfl⟩
    have hpw : p < w4.drew.heap.size := blk_lt (F.out _ hB5).1
    have hgw : g < w4.drew.heap.size := block_lt_of_cell (G.out w4.drew hB5).2
    have HP := Lib.hid (F.out _ hB5).1
    have HC := Lib.hid (And.intro (F.out _ hB5).2.2.2.1 (F.out _ hB5).2.2.1)
    have E5 := Lib.hid (G.out _ hB5).2
    have HR : Hid (k71.R 71 w4.drew B okA (.slice A5 x.f1.length c5) x.f1) := Lib.hid (Kd.R_mono hR5 (fun k hk => by rw [hokA]; exact .inl hk))
    have HH : Hid (Kd.H k68 68 w4.drew B (fun k => k ≠ p) (.slice (some ⟨g, 0, none⟩) E.length cc) E (kn : Int) okA [.int .i64 x.f0.f0, .int .i64 x.f0.f1, .int .i64 x.f0.f2, .string x.f0.f3, .bool x.f0.f4, (.slice A5 x.f1.length c5), .int .i64 x.f2]) := Lib.hid (by rw [hokA]; exact Kd.H_widen hH)
    have HFR : Hid (∀ k, w4.drew.heap.size ≤ k → okA k) := Lib.hid (fun k hk => by rw [hokA]; exact .inr ⟨by omega, hk⟩)
    have HNP : Hid (∀ k, okA k → k ≠ p ∧ k ≠ g) := Lib.hid (fun k hk => by
      rw [hokA] at hk
      rcases hk with hk | hk
      · exact hoki k hk
      · exact ⟨hk.1, by omega⟩)
    have HBW := Lib.hid (hB5.mono H.out.1)
    have HBS := Lib.hid (Nat.le_trans H.out.1 hB5.size)
    have HI : Hid ((0 : Int) ≤ (kn : Int) ∧ (kn : Int) < (E.length : Nat)) := Lib.hid ⟨by omega, hkz⟩
    obtain ⟨n6, hn6⟩ : ∃ q, q = (x.f1 ++ [(⟨sid, sbk⟩ : S71)]).length := ⟨_, rfl⟩
    have HN6 := Lib.hid hn6
    clear hB5 hR5 hH hokA hpw hgw hn6 hoki
    refine start_ (n := 13) (S := fun w' => w'.cell? ⟨g, kn * 7 + 5, none⟩ = some (.slice A5 x.f1.length c5) ∧ w'.cell? s3 = some (.string sid) ∧ w'.cell? s2 = some (.string sbk)) (ds := [12]) #[false, false, false, false, false, false, false, false, false, false, false, false, false] (by kernel_rfl) rfl rfl ⟨E5.out, HC.out.1, HC.out.2⟩ (fun hHeld => ?_)
    generalize w4.drew = w5 at HP HC E5 HR HH HFR HBW HBS hHeld ⊢
    refine pure_ (i := 0) (N := some 47) (v := ?_) (a' := ?_) #[true, false, false, false, false, false, false, false, false, false, false, false, false] rfl rfl (by kernel_rfl) (fun _ _ _ h => h) (Or.inl ⟨by rfl, ?_⟩) ?_ ?_
    rotate_left
    · intro w'
      go_simp
      with_reducible rfl
    rotate_left
    · simp only [Act.put, List.setIfInBounds_toArray, List.set_cons_zero, List.set_cons_succ, i64_w, i32_w]
      rfl
    refine pure_ (i := 1) (N := some 48) (v := ?_) (a' := ?_) #[true, true, false, false, false, false, false, false, false, false, false, false, false] rfl rfl (by kernel_rfl) (fun _ _ _ h => h) (Or.inl ⟨by rfl, ?_⟩) ?_ ?_
    rotate_left
    · intro w'
      go_simp
      with_reducible rfl
    rotate_left
    · simp only [Act.put, List.setIfInBounds_toArray, List.set_cons_zero, List.set_cons_succ, i64_w, i32_w]
      rfl
    refine pure_ (i := 2) (N := some 49) (v := ?_) (a' := ?_) #[true, true, true, false, false, false, false, false, false, false, false, false, false] rfl rfl (by kernel_rfl) (fun _ _ _ h => h) (Or.inl ⟨by rfl, ?_⟩) ?_ ?_
    rotate_left
    · intro w'
      go_simp
      with_reducible rfl
    rotate_left
    · simp only [Act.put, List.setIfInBounds_toArray, List.set_cons_zero, List.set_cons_succ, i64_w, i32_w]
      rfl
    refine pure_ (i := 3) (N := some 50) (v := ?_) (a' := ?_) #[true, true, true, true, false, false, false, false, false, false, false, false, false] rfl rfl (by kernel_rfl) (fun _ _ _ h => h) (Or.inl ⟨by rfl, ?_⟩) ?_ ?_
    rotate_left
    · intro w'
      go_simp
      with_reducible rfl
    rotate_left
    · simp only [Act.put, List.setIfInBounds_toArray, List.set_cons_zero, List.set_cons_succ, i64_w, i32_w]
      rfl
    refine take_ (i := 4) (N := some 51) (v := ?_) (a' := ?_) #[true, true, true, true, true, false, false, false, false, false, false, false, false] rfl rfl (by kernel_rfl) (fun _ _ _ h => h) (Or.inl ⟨by rfl, ?_⟩) hHeld ?_ ?_
    rotate_left
    · rintro w' ⟨s0, s1, s2⟩
      go_simp
      with_reducible rfl
    rotate_left
    · simp only [Act.put, List.setIfInBounds_toArray, List.set_cons_zero, List.set_cons_succ, i64_w, i32_w]
      rfl
    refine take_ (i := 5) (N := some 52) (v := ?_) (a' := ?_) #[true, true, true, true, true, true, false, false, false, false, false, false, false] rfl rfl (by kernel_rfl) (fun _ _ _ h => h) (Or.inl ⟨by rfl, ?_⟩) hHeld ?_ ?_
    rotate_left
    · rintro w' ⟨s0, s1, s2⟩
      go_simp
      with_reducible rfl
    rotate_left
    · simp only [Act.put, List.setIfInBounds_toArray, List.set_cons_zero, List.set_cons_succ, i64_w, i32_w]
      rfl
    refine take_ (i := 6) (N := some 53) (v := ?_) (a' := ?_) #[true, true, true, true, true, true, true, false, false, false, false, false, false] rfl rfl (by kernel_rfl) (fun _ _ _ h => h) (Or.inl ⟨by rfl, ?_⟩) hHeld ?_ ?_
    rotate_left
    · rintro w' ⟨s0, s1, s2⟩
      go_simp
      with_reducible rfl
    rotate_left
    · simp only [Act.put, List.setIfInBounds_toArray, List.set_cons_zero, List.set_cons_succ, i64_w, i32_w]
      rfl
    refine pure_ (i := 7) (N := some 54) (v := ?_) (a' := ?_) #[true, true, true, true, true, true, true, true, false, false, false, false, false] rfl rfl (by kernel_rfl) (fun _ _ _ h => h) (Or.inl ⟨by rfl, ?_⟩) ?_ ?_
    rotate_left
    · intro w'
      go_simp
      with_reducible rfl
    rotate_left
    · simp only [Act.put, List.setIfInBounds_toArray, List.set_cons_zero, List.set_cons_succ, i64_w, i32_w]
      rfl
    refine one_ (i := 8) (N := some 55) #[true, true, true, true, true, true, true, true, true, false, false, false, false] rfl rfl (by kernel_rfl) (by decide) (fun K hK => ?_)
    refine value_ (w1 := ?_) (v := ?_) (by rfl) rfl ?_ ?_
    rotate_left 2
    · go_simp
      constructor
      · rfl
      · rfl
    refine hK.out _ _ ⟨pw_cell_below (below_alloc (Below.refl _ _) _) E5.out, pw_cell_below (below_alloc (Below.refl _ _) _) HC.out.1, pw_cell_below (below_alloc (Below.refl _ _) _) HC.out.2⟩ (fun hHeld => ?_)
    clear hK K
    refine norm_ (a' := ?_) ?_ ?_
    rotate_left
    · show Act.put _ (some 55) _ = _
      simp only [Act.put, List.setIfInBounds_toArray, List.set_cons_zero, List.set_cons_succ, i64_w, i32_w]
      rfl
    refine one_ (i := 9) (N := some 56) #[true, true, true, true, true, true, true, true, true, true, false, false, false] rfl rfl (by kernel_rfl) (by decide) (fun K hK => ?_)
    refine Kd.R_append_step k71 (w0 := W) B (by rfl) (.tmp 51) (.tmp 55) 66 71 (.agg #[.string ⟨#[]⟩, .string ⟨#[]⟩]) 32 rfl Tryd.underlying66 info71 rfl (by decide) (by decide) (.slice A5 x.f1.length c5) x.f1 ⟨sid, sbk⟩ [.string sid, .string sbk] okA (fun _ => False) rfl rfl (k71_mkM _ _ _ ⟨sid, sbk⟩) (fun _ h => h.elim) HFR.out HR.out HBW.out HBS.out (by have := HX12.out; omega) ?_
    intro v1 w6 hR6 hB6 hg6 _
    obtain ⟨A6, c6, e6⟩ := Kd.R_slice hR6
    rw [← HN6.out] at e6
    subst e6
    have hown : ∀ k, (Value.slice A5 x.f1.length c5).ownBlock = some k → okA k := fun k hk => HR.out.1 k hk
    have HH6 := Lib.hid (Kd.H_grown HH.out hg6 (fun k hk => hown k hk))
    have HR6 := Lib.hid hR6
    have HB6 := Lib.hid hB6
    have HP6 := Lib.hid (blk_grown HP.out hg6 (fun he => (HNP.out p (hown p he.symm)).1 rfl))
    have HC6 : Hid (w6.cell? s3 = some (.string sid) ∧ w6.cell? s2 = some (.string sbk)) := Lib.hid ⟨cell_grown HC.out.1 hg6 (fun he => by have h1 := Kd.R_base HR.out _ he.symm; have h2 := HLO.out.1; omega), cell_grown HC.out.2 hg6 (fun he => by have h1 := Kd.R_base HR.out _ he.symm; have h2 := HLO.out.2; omega)⟩
    have e65 := (el_cell HH6.out HI.out.1 HI.out.2 5 (by decide) _ rfl).1
    clear hR6 hB6 hg6 hown
    refine hK.out _ _ ⟨e65, HC6.out.1, HC6.out.2⟩ (fun hHeld => ?_)
    clear hK K
    refine norm_ (a' := ?_) ?_ ?_
    rotate_left
    · show Act.put _ (some 56) _ = _
      simp only [Act.put, List.setIfInBounds_toArray, List.set_cons_zero, List.set_cons_succ, i64_w, i32_w]
      rfl
    refine pure_ (i := 10) (N := some 57) (v := ?_) (a' := ?_) #[true, true, true, true, true, true, true, true, true, true, true, false, false] rfl rfl (by kernel_rfl) (fun _ _ _ h => h) (Or.inl ⟨by rfl, ?_⟩) ?_ ?_
    rotate_left
    · intro w'
      go_simp
      with_reducible rfl
    rotate_left
    · simp only [Act.put, List.setIfInBounds_toArray, List.set_cons_zero, List.set_cons_succ, i64_w, i32_w]
      rfl
    refine pure_ (i := 11) (N := some 58) (v := ?_) (a' := ?_) #[true, true, true, true, true, true, true, true, true, true, true, true, false] rfl rfl (by kernel_rfl) (fun _ _ _ h => h) (Or.inl ⟨by rfl, ?_⟩) ?_ ?_
    rotate_left
    · intro w'
      go_simp
      with_reducible rfl
    rotate_left
    · simp only [Act.put, List.setIfInBounds_toArray, List.set_cons_zero, List.set_cons_succ, i64_w, i32_w]
      rfl
    refine last_ (i := 12) (N := none) #[true, true, true, true, true, true, true, true, true, true, true, true, true] rfl rfl (by kernel_rfl) (by decide) (fun K hK => ?_)
    have hs1 : w6.cell? ⟨g, kn * 7 + 5, none⟩ = some (.slice A5 x.f1.length c5) := (el_cell HH6.out HI.out.1 HI.out.2 5 (by decide) _ rfl).1
    have hf1 : w6.frozen? ⟨g, kn * 7 + 5, none⟩ = false := (el_cell HH6.out HI.out.1 HI.out.2 5 (by decide) _ rfl).2
    refine skip_ (w1 := ?_) (by rfl) rfl ?_ ?_
    rotate_left
    · go_simp
      rfl
    refine hK.out _ _ ?_
    clear hK K
    refine done_ (by kernel_rfl) ?_
    have hH7 := (el_put HH6.out HI.out.1 HI.out.2 5 (by decide) rfl (.slice A6 n6 c6) rfl).1
    have HH7 : Hid (Kd.H k68 68 (w6.setCell ⟨g, kn * 7 + 5, none⟩ (.slice A6 n6 c6)) B (fun k => k ≠ p) (.slice (some ⟨g, 0, none⟩) E.length cc) E (kn : Int) okA [.int .i64 x.f0.f0, .int .i64 x.f0.f1, .int .i64 x.f0.f2, .string x.f0.f3, .bool x.f0.f4, (.slice A6 n6 c6), .int .i64 x.f2]) := Lib.hid hH7
    have HR7 : Hid (k71.R 71 (w6.setCell ⟨g, kn * 7 + 5, none⟩ (.slice A6 n6 c6)) B okA (.slice A6 n6 c6) (x.f1 ++ [⟨sid, sbk⟩])) := Lib.hid (Kd.R_far HR6.out (p := ⟨g, kn * 7 + 5, none⟩) (fun k hk => (HNP.out k hk).2) _)
    have HP7 : Hid ((w6.setCell ⟨g, kn * 7 + 5, none⟩ (.slice A6 n6 c6)).heap[p]? = some (T1 (.slice (some ⟨g, 0, none⟩) E.length cc))) := Lib.hid (blk_far HP6.out (p := ⟨g, kn * 7 + 5, none⟩) (by have := HKX.out.2.2.2.1; exact fun h => this h.symm) _)
    have HB7 : Hid (Below B W (w6.setCell ⟨g, kn * 7 + 5, none⟩ (.slice A6 n6 c6))) := Lib.hid (Below.setCell (p := ⟨g, kn * 7 + 5, none⟩) HB6.out HKX.out.2.2.2.2 _)
    clear hs1 hf1 hH7 HH6 HR6 HP6 HB6
    generalize (w6.setCell ⟨g, kn * 7 + 5, none⟩ (.slice A6 n6 c6)) = w7 at HH7 HR7 HP7 HB7 ⊢
    obtain ⟨g6, cap6, ev6, hbg6, _, _⟩ := Kd.R_form HR7.out (by simp)
    injection ev6 with ea el ec
    subst ea; subst ec
    clear el
    have hg6ok : okA g6 := HR7.out.1 g6 rfl
    have hln : n6 ≤ 12 := by have := HH12.out; rw [HN6.out, List.length_append, List.length_singleton]; omega
    have hsort := sortA_walk B g6 n6 c6 okA _ w7 HR7.out hln
    have t5 := (el_cell HH7.out HI.out.1 HI.out.2 5 (by decide) _ rfl).1
    replace t5 : w7.cell? ⟨g, kn * 7 + 5, none⟩ = some (.slice (some ⟨g6, 0, none⟩) n6 c6) := t5
    have HG6 := Lib.hid (And.intro hg6ok hbg6)
    have HRES : Hid (∀ xs' : List S71, xs'.Perm (x.f1 ++ [⟨sid, sbk⟩]) → (∀ i j (hi : i < j) (hj : j < xs'.length), ltA xs'[j] (xs'[i]'(by omega)) = false) → xs' = insL ltA ⟨sid, sbk⟩ x.f1) := Lib.hid (fun xs' h1 h2 =>
      sorted_ins ltA ltA_asy ltA_tr h1 h2 HKX.out.2.2.1 (fun y hy => bl_tot _ _ (HNO.out y hy)))
    clear hg6ok hbg6 hln
    go_wp2_with (first | (go_at_call 79; refine hsort.mono ?_; rintro e w8 ⟨rfl, hg8, xs', hperm, hsrt, hR8⟩; have H8 := Lib.hid (And.intro hg8 (And.intro hperm (And.intro hsrt hR8))); clear hg8 hperm hsrt hR8 t5))
    go_ret
    have hxs := HRES.out _ H8.out.2.1 H8.out.2.2.1
    have hR8 := H8.out.2.2.2
    rw [hxs] at hR8
    have hln8 : n6 = (insL ltA ⟨sid, sbk⟩ x.f1).length := (Kd.R_reads' hR8).1
    have hH8 := Kd.H_grown HH7.out H8.out.1 (fun k hk => by injection hk with hk; subst hk; exact HG6.out.1)
    have hS8 := Kd.H_back hH8 (k68_mkM w8 B okA (alX sid sbk x) hR8) (fun _ h => h)
    rw [show ((kn : Int)).toNat = kn from Int.toNat_natCast kn] at hS8
    refine ⟨rfl, HB7.out.trans ?_, _, blk_grown HP7.out H8.out.1 (fun he => by injection he with he; subst he; exact (HNP.out _ HG6.out.1).1 rfl), hS8⟩
    exact ⟨H8.out.1.os, H8.out.1.tape, H8.out.1.output, H8.out.1.size, fun k hk => H8.out.1.block k (Nat.lt_of_lt_of_le hk (Nat.le_trans H.out.1 HB7.out.size)) (fun he => by injection he with he; have := HG6.out.2; omega)⟩
end Go.Proofs.YtnghcnkffbjddaaDoorV.Aes
