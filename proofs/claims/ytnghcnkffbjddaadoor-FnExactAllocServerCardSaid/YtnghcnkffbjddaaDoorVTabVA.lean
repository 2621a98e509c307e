/- The reference's AllocServer, walked. Conditions: a table of the sizes that okTab names; texts of at most 1048576 bytes. -/
import Derived.Test.YtnghcnkffbjddaaDoorVTabJ
import Derived.Test.YtnghcnkffbjddaaDoorVTabA2
import Derived.Deep.Cut
import Derived.Lib.QuietBelow
import Derived.BigRegion
import Derived.BigQuiet
import Derived.Deep.QuietTactic
import Derived.Deep.LoopGhost
namespace Go.Proofs.YtnghcnkffbjddaaDoorV.Aes
open Go.RowKit Go.Proofs.YtnghcnkffbjddaaDoorV.PrintWords Go.Proofs.YtnghcnkffbjddaaDoorV.PrintLast Go.Proofs.YtnghcnkffbjddaaDoorV.PrintMore Go.Proofs.YtnghcnkffbjddaaDoorV.Mem
set_option linter.unusedVariables false
set_option linter.unusedSimpArgs false

open Go.Maps Go.WideShapes Go.Proofs.YtnghcnkffbjddaaDoor.PImplM
theorem info71s : (Tryd.prog.info? 71).map (·.size) = some 2 := by kernel_rfl
theorem insL_at {β : Type} (lt : β → β → Bool) (z : β) : ∀ (l : List β) (k : Nat), k ≤ l.length → (∀ j (h : j < l.length), j < k → lt l[j] z = true) → (∀ h : k < l.length, lt l[k] z = false) → insL lt z l = l.take k ++ z :: l.drop k
  | [], k, hk, _, _ => by
    obtain rfl : k = 0 := by simpa using hk
    rfl
  | x :: l, 0, _, _, h2 => by
    have := h2 (by simp)
    rw [insL_cons, if_neg (by rw [show lt x z = false from this]; decide)]; rfl
  | x :: l, k + 1, hk, h1, h2 => by
    rw [insL_cons, if_pos (show lt x z = true from h1 0 (by simp) (by omega)), insL_at lt z l k (by simpa using hk) (fun j h hj => h1 (j + 1) (by simpa using h) (by omega)) (fun h => h2 (by simpa using h))]; rfl
set_option maxHeartbeats 8000000 in
set_option maxRecDepth 100000 in
theorem sAl_walk (A : Option Addr) (c : Nat) (slot : Int) (sid sbk : ByteArray) (E : List S68) (w : World) (hC : Kd.C k68 w A E.length E) (hc : E.length ≤ c) (hok : OkE E) (hid : sid.size ≤ 1048576) (hbk : sbk.size ≤ 1048576) :
    Calls Tryd.prog 40 #[.agg #[.slice A E.length c], .int .i64 slot, .string sid, .string sbk] w (SpPost w (alR slot sid sbk E) (alK slot sid sbk E)) := by
  obtain ⟨hl1, hl2⟩ := ok_small hok
  have mixed : Tryd.prog.follows .mixedOrders = true := by kernel_rfl
  obtain ⟨b1, b2, hB, q2⟩ := two_boxes w (.slice A E.length c)
  have l1 := (blk_cell b1 0).trans rfl
  have H := Lib.hid (And.intro b1 (And.intro b2 (And.intro hB q2)))
  clear b1 b2 hB q2
  have hgd := fun W (hW : Below w.heap.size w W) => spec_GoodTable.calls A c E (tabOk (E.map evM)) W (Kd.C_below hC hW) hc (good_tells hok)
  have hown := fun W (hW : Below w.heap.size w W) => spec_l8Own.calls 1048577 A c E E W (Kd.C_below hC hW) hc (own_tells 1048577 E hl1 hl2 (by omega))
  have hgb := fun W => calls_below (Go.Proofs.YtnghcnkffbjddaaDoor.PSpecT.spec_l8Backend.calls 1048577 sbk (goodS sbk) W (spec_good 1048577 sbk hbk (by omega)))
  have hat := fun A' c' W (h1 : Kd.C k68 W A' E.length E) (h2 : E.length ≤ c') => spec_l8At.calls 1048577 A' c' E slot (idxOf slot (E.map evM)) W h1 h2 (at_tells 1048577 slot E hl1 (by omega))
  have HN := Lib.hid hl1
  unfold T1 at l1 H
  unfold alR alK
  clear hC hc hl1 hl2 hok hid hbk
  cases hg : tabOk (E.map evM) with
  | false =>
    rw [if_neg (by decide), if_neg (by decide)]
    rw [hg] at hgd
    clear hg
    go_enter Tryd.func40, Tryd.ntmps40
    go_wp2_with (first
      | (go_at_call 28; refine (hgd _ H.out.2.2.1).mono ?_; rintro e w4 ⟨rfl, hB4⟩; have HB4 := Lib.hid hB4; have r1 := (blk_cell (blk_below H.out.1 hB4) 0).trans rfl; have r3 := (blk_cell (blk_below H.out.2.1 hB4) 0).trans rfl; have f3 := blk_frozen (blk_below H.out.2.1 hB4) 0; have f1 := blk_frozen (blk_below H.out.1 hB4) 0; clear hB4 l1))
    refine bodyPost_ret (results_cell_tmp rfl _ _ (w.heap.size + 1) 38 #[.slice none 0 0] (0, 0) _ rfl (blk_put (blk_below H.out.2.1 HB4.out) 0 _ rfl) Tryd.underlying38 rfl (by kernel_rfl)) rfl ?_
    exact ⟨none, 0, rfl, Nat.le_refl _, Kd.C_nil _ _, Below.setCell (p := ⟨(w.heap.size + 1), 0, none⟩) (H.out.2.2.1.trans (HB4.out.mono H.out.2.2.1.size)) (by show w.heap.size ≤ (w.heap.size + 1); omega) _⟩
  | true =>
  rw [if_pos rfl, if_pos rfl]
  rw [hg] at hgd
  obtain ⟨hE3, hEp, hEg⟩ := tab_facts hg
  clear hg
  obtain ⟨gb, hgbe⟩ : ∃ q, q = goodS sbk := ⟨_, rfl⟩
  rw [← hgbe] at hgb
  have hC0 : alC slot sid sbk E = if gb = true then (if idxOf slot (E.map evM) < 0 then 2 else alC1 sid sbk (E.getD (idxOf slot (E.map evM)).toNat z68)) else 1 := by rw [hgbe]; rfl
  clear hgbe
  have hlen : (E.map evM).length = E.length := List.length_map ..
  cases gb with
  | false =>
    have e1 : alC slot sid sbk E = 1 := by rw [hC0, if_neg (by decide)]
    have e2 : alE slot sid sbk E = E := by unfold alE; rw [e1, if_neg (by decide)]
    rw [e1, e2]
    clear e1 e2 hC0 hlen hE3 hEp hEg
    go_enter Tryd.func40, Tryd.ntmps40
    go_upto_region 4 with (first
      | (go_at_call 28; refine (hgd _ H.out.2.2.1).mono ?_; rintro e w4 ⟨rfl, hB4⟩; have HB4 := Lib.hid hB4; have r1 := (blk_cell (blk_below H.out.1 hB4) 0).trans rfl; have r3 := (blk_cell (blk_below H.out.2.1 hB4) 0).trans rfl; have f3 := blk_frozen (blk_below H.out.2.1 hB4) 0; have f1 := blk_frozen (blk_below H.out.1 hB4) 0; clear hB4 l1)
      | (go_at_call 63; refine (hown _ (H.out.2.2.1.trans (HB4.out.mono H.out.2.2.1.size))).mono ?_; rintro e w5 ⟨v5, rfl, hS5, hB5⟩; obtain ⟨A5, c5, e5⟩ := Kd.S_slice hS5; subst e5; have HS5 := Lib.hid hS5; have hB5' := HB4.out.trans (hB5.mono HB4.out.size); have HB5 := Lib.hid hB5'; have HB5a := Lib.hid hB5; have z1 := (blk_cell (blk_below H.out.1 hB5') 0).trans rfl; have y1 := blk_frozen (blk_below H.out.1 hB5') 0; clear hB5 hB5' hS5 r1 r3 f1 f3))
    have F : Hid (∀ W', Below (w5.setCell ⟨w.heap.size, 0, none⟩ (.slice A5 E.length c5)).heap.size (w5.setCell ⟨w.heap.size, 0, none⟩ (.slice A5 E.length c5)) W' → Below w.heap.size w W' ∧ W'.heap[w.heap.size]? = some (T1 (.slice A5 E.length c5)) ∧ W'.heap[(w.heap.size + 1)]? = some (T1 (.slice none 0 0)) ∧ sEnt W' w.heap.size (fun k => w.heap.size + 2 ≤ k ∧ k < (w5.setCell ⟨w.heap.size, 0, none⟩ (.slice A5 E.length c5)).heap.size) (.slice A5 E.length c5) E) := Lib.hid (fun W' h => by
      have hb : Below w.heap.size w (w5.setCell ⟨w.heap.size, 0, none⟩ (.slice A5 E.length c5)) := Below.setCell (p := ⟨w.heap.size, 0, none⟩) (H.out.2.2.1.trans (HB5.out.mono H.out.2.2.1.size)) (Nat.le_refl _) _
      have h4 := HB4.out.size
      have h5 := H.out.2.2.2
      have hsz : (w5.setCell ⟨w.heap.size, 0, none⟩ (.slice A5 E.length c5)).heap.size = w5.heap.size := by simp [World.setCell]
      have hS := Kd.S_far (Kd.S_bound HS5.out) (p := ⟨w.heap.size, 0, none⟩) (fun k hk => by have h2 := hk.2.1; show k ≠ w.heap.size; omega) (.slice A5 E.length c5)
      exact ⟨hb.trans (h.mono hb.size), blk_below (blk_put (blk_below H.out.1 HB5.out) 0 _ rfl) h, blk_below (blk_far (blk_below H.out.2.1 HB5.out) (p := ⟨w.heap.size, 0, none⟩) (by show (w.heap.size + 1) ≠ w.heap.size; omega) _) h,
        Kd.S_below (Kd.S_lower (Kd.S_mono hS (fun k hk => by have h2 := hk.2.1; have h3 := hk.2.2.1; show w.heap.size + 2 ≤ k ∧ k < (w5.setCell ⟨w.heap.size, 0, none⟩ (.slice A5 E.length c5)).heap.size; rw [hsz]; exact ⟨by omega, h3⟩)) (by omega)) h⟩)
    have HC5 := Lib.hid (Kd.S_reads' HS5.out).2.1
    clear z1 y1 HS5 HB5 HB5a HB4 H
    generalize (w5.setCell ⟨w.heap.size, 0, none⟩ (.slice A5 E.length c5)) = wq at F ⊢
    have a1 := (blk_cell (F.out _ (Below.refl _ _)).2.1 0).trans rfl
    have a3 := (blk_cell (F.out _ (Below.refl _ _)).2.2.1 0).trans rfl
    have af := blk_frozen (F.out _ (Below.refl _ _)).2.2.1 0
    go_wp2_with (first
      | (go_at_call 48; refine (hgb _).mono ?_; rintro e w6 ⟨rfl, hB6⟩; have HB6 := Lib.hid hB6; have b1 := (blk_cell (F.out _ hB6).2.1 0).trans rfl; have b3 := (blk_cell (F.out _ hB6).2.2.1 0).trans rfl; have bf := blk_frozen (F.out _ hB6).2.2.1 0; clear hB6 a1 a3 af))
    refine bodyPost_ret (results_cell_tmp rfl _ _ (w.heap.size + 1) 38 #[.slice A5 E.length c5] (0, 0) _ rfl (blk_put (F.out _ HB6.out).2.2.1 0 _ rfl) Tryd.underlying38 rfl (by kernel_rfl)) rfl ?_
    exact ⟨_, c5, rfl, HC5.out, (S_C (Kd.S_far (F.out _ HB6.out).2.2.2 (p := ⟨(w.heap.size + 1), 0, none⟩) (fun k hk => by have h2 := hk.1; show k ≠ (w.heap.size + 1); omega) (.slice A5 E.length c5))).1, Below.setCell (p := ⟨(w.heap.size + 1), 0, none⟩) (F.out _ HB6.out).1 (by show w.heap.size ≤ (w.heap.size + 1); omega) _⟩
  | true =>
  rw [if_pos rfl] at hC0
  by_cases hi : idxOf slot (E.map evM) < 0
  · have e1 : alC slot sid sbk E = 2 := by rw [hC0, if_pos hi]
    have e2 : alE slot sid sbk E = E := by unfold alE; rw [e1, if_neg (by decide)]
    rw [e1, e2]
    obtain ⟨ix, hix⟩ : ∃ q, q = idxOf slot (E.map evM) := ⟨_, rfl⟩
    rw [← hix] at hat hi
    have hia : decide (ix < 0) = true := decide_eq_true hi
    clear e1 e2 hC0 hlen hi hix hE3 hEp hEg
    go_enter Tryd.func40, Tryd.ntmps40
    go_upto_region 4 with (first
      | (go_at_call 28; refine (hgd _ H.out.2.2.1).mono ?_; rintro e w4 ⟨rfl, hB4⟩; have HB4 := Lib.hid hB4; have r1 := (blk_cell (blk_below H.out.1 hB4) 0).trans rfl; have r3 := (blk_cell (blk_below H.out.2.1 hB4) 0).trans rfl; have f3 := blk_frozen (blk_below H.out.2.1 hB4) 0; have f1 := blk_frozen (blk_below H.out.1 hB4) 0; clear hB4 l1)
      | (go_at_call 63; refine (hown _ (H.out.2.2.1.trans (HB4.out.mono H.out.2.2.1.size))).mono ?_; rintro e w5 ⟨v5, rfl, hS5, hB5⟩; obtain ⟨A5, c5, e5⟩ := Kd.S_slice hS5; subst e5; have HS5 := Lib.hid hS5; have hB5' := HB4.out.trans (hB5.mono HB4.out.size); have HB5 := Lib.hid hB5'; have HB5a := Lib.hid hB5; have z1 := (blk_cell (blk_below H.out.1 hB5') 0).trans rfl; have y1 := blk_frozen (blk_below H.out.1 hB5') 0; clear hB5 hB5' hS5 r1 r3 f1 f3))
    have F : Hid (∀ W', Below (w5.setCell ⟨w.heap.size, 0, none⟩ (.slice A5 E.length c5)).heap.size (w5.setCell ⟨w.heap.size, 0, none⟩ (.slice A5 E.length c5)) W' → Below w.heap.size w W' ∧ W'.heap[w.heap.size]? = some (T1 (.slice A5 E.length c5)) ∧ W'.heap[(w.heap.size + 1)]? = some (T1 (.slice none 0 0)) ∧ sEnt W' w.heap.size (fun k => w.heap.size + 2 ≤ k ∧ k < (w5.setCell ⟨w.heap.size, 0, none⟩ (.slice A5 E.length c5)).heap.size) (.slice A5 E.length c5) E) := Lib.hid (fun W' h => by
      have hb : Below w.heap.size w (w5.setCell ⟨w.heap.size, 0, none⟩ (.slice A5 E.length c5)) := Below.setCell (p := ⟨w.heap.size, 0, none⟩) (H.out.2.2.1.trans (HB5.out.mono H.out.2.2.1.size)) (Nat.le_refl _) _
      have h4 := HB4.out.size
      have h5 := H.out.2.2.2
      have hsz : (w5.setCell ⟨w.heap.size, 0, none⟩ (.slice A5 E.length c5)).heap.size = w5.heap.size := by simp [World.setCell]
      have hS := Kd.S_far (Kd.S_bound HS5.out) (p := ⟨w.heap.size, 0, none⟩) (fun k hk => by have h2 := hk.2.1; show k ≠ w.heap.size; omega) (.slice A5 E.length c5)
      exact ⟨hb.trans (h.mono hb.size), blk_below (blk_put (blk_below H.out.1 HB5.out) 0 _ rfl) h, blk_below (blk_far (blk_below H.out.2.1 HB5.out) (p := ⟨w.heap.size, 0, none⟩) (by show (w.heap.size + 1) ≠ w.heap.size; omega) _) h,
        Kd.S_below (Kd.S_lower (Kd.S_mono hS (fun k hk => by have h2 := hk.2.1; have h3 := hk.2.2.1; show w.heap.size + 2 ≤ k ∧ k < (w5.setCell ⟨w.heap.size, 0, none⟩ (.slice A5 E.length c5)).heap.size; rw [hsz]; exact ⟨by omega, h3⟩)) (by omega)) h⟩)
    have HC5 := Lib.hid (Kd.S_reads' HS5.out).2.1
    clear z1 y1 HS5 HB5 HB5a HB4 H
    generalize (w5.setCell ⟨w.heap.size, 0, none⟩ (.slice A5 E.length c5)) = wq at F ⊢
    have a1 := (blk_cell (F.out _ (Below.refl _ _)).2.1 0).trans rfl
    have a3 := (blk_cell (F.out _ (Below.refl _ _)).2.2.1 0).trans rfl
    have af := blk_frozen (F.out _ (Below.refl _ _)).2.2.1 0
    go_wp2_with (first
      | (go_at_call 48; refine (hgb _).mono ?_; rintro e w6 ⟨rfl, hB6⟩; have HB6 := Lib.hid hB6; have b1 := (blk_cell (F.out _ hB6).2.1 0).trans rfl; have b3 := (blk_cell (F.out _ hB6).2.2.1 0).trans rfl; have bf := blk_frozen (F.out _ hB6).2.2.1 0; clear hB6 a1 a3 af)
      | (go_at_call 64; refine (hat _ _ _ (S_C (F.out _ HB6.out).2.2.2).1 HC5.out).mono ?_; rintro e w7 ⟨rfl, hB7⟩; have hB7' := HB6.out.trans (hB7.mono HB6.out.size); have HB7 := Lib.hid hB7'; have c1 := (blk_cell (F.out _ hB7').2.1 0).trans rfl; have c3 := (blk_cell (F.out _ hB7').2.2.1 0).trans rfl; have cf := blk_frozen (F.out _ hB7').2.2.1 0; clear hB7 hB7' b1 b3 bf))
    refine bodyPost_ret (results_cell_tmp rfl _ _ (w.heap.size + 1) 38 #[.slice A5 E.length c5] (0, 0) _ rfl (blk_put (F.out _ HB7.out).2.2.1 0 _ rfl) Tryd.underlying38 rfl (by kernel_rfl)) rfl ?_
    exact ⟨_, c5, rfl, HC5.out, (S_C (Kd.S_far (F.out _ HB7.out).2.2.2 (p := ⟨(w.heap.size + 1), 0, none⟩) (fun k hk => by have h2 := hk.1; show k ≠ (w.heap.size + 1); omega) (.slice A5 E.length c5))).1, Below.setCell (p := ⟨(w.heap.size + 1), 0, none⟩) (F.out _ HB7.out).1 (by show w.heap.size ≤ (w.heap.size + 1); omega) _⟩
  · rw [if_neg hi] at hC0
    obtain ⟨kn, hkn, hkl⟩ := idx_lt slot (E.map evM) hi
    rw [hlen] at hkl
    rw [hkn, Int.toNat_natCast] at hC0
    have hE0 : alE slot sid sbk E = if alC slot sid sbk E = 0 then E.set kn (alX sid sbk (E.getD kn z68)) else E := by unfold alE; rw [hkn, Int.toNat_natCast]
    rw [hkn] at hat
    obtain ⟨x, hx⟩ : ∃ q, q = E.getD kn z68 := ⟨_, rfl⟩
    rw [← hx] at hC0 hE0
    have hxm : x ∈ E := by rw [hx, List.getD_eq_getElem?_getD, List.getElem?_eq_getElem hkl]; exact List.getElem_mem hkl
    obtain ⟨hx12, hxp, _, _⟩ := ent_facts (hEg x hxm)
    obtain ⟨code, hcd⟩ : ∃ q, q = alC slot sid sbk E := ⟨_, rfl⟩
    obtain ⟨R, hRd⟩ : ∃ q, q = alE slot sid sbk E := ⟨_, rfl⟩
    rw [← hcd] at hC0 hE0 ⊢
    rw [← hRd] at hE0 ⊢
    have HCODE := Lib.hid (And.intro hC0 hE0)
    have HX := Lib.hid hx
    have HX12 := Lib.hid hx12
    have HXP := Lib.hid hxp
    have HKL := Lib.hid hkl
    have hia : decide ((kn : Int) < 0) = false := decide_eq_false (by omega)
    have hk0 : (0 : Int) ≤ (kn : Int) := by omega
    have hkz : (kn : Int) < (E.length : Int) := by omega
    clear hC0 hE0 hcd hRd hx hxm hx12 hxp hE3 hEp hEg hlen hi hkn hkl
    obtain ⟨i0, hi0, hsz2⟩ := Option.map_eq_some_iff.1 info71s
    by_cases hsz : (sid.size : Int) = x.f0.f1
    case neg =>
      have HSZ := Lib.hid hsz
      have hne : ((sid.size : Int) != x.f0.f1) = true := bne_iff_ne.mpr hsz
      clear hsz
      go_enter Tryd.func40, Tryd.ntmps40
      go_upto_region 4 with (first
        | (go_at_call 28; refine (hgd _ H.out.2.2.1).mono ?_; rintro e w4 ⟨rfl, hB4⟩; have HB4 := Lib.hid hB4; have r1 := (blk_cell (blk_below H.out.1 hB4) 0).trans rfl; have r3 := (blk_cell (blk_below H.out.2.1 hB4) 0).trans rfl; have f3 := blk_frozen (blk_below H.out.2.1 hB4) 0; have f1 := blk_frozen (blk_below H.out.1 hB4) 0; clear hB4 l1)
        | (go_at_call 63; refine (hown _ (H.out.2.2.1.trans (HB4.out.mono H.out.2.2.1.size))).mono ?_; rintro e w5 ⟨v5, rfl, hS5, hB5⟩; obtain ⟨A5, c5, e5⟩ := Kd.S_slice hS5; subst e5; have HS5 := Lib.hid hS5; have hB5' := HB4.out.trans (hB5.mono HB4.out.size); have HB5 := Lib.hid hB5'; have HB5a := Lib.hid hB5; have z1 := (blk_cell (blk_below H.out.1 hB5') 0).trans rfl; have y1 := blk_frozen (blk_below H.out.1 hB5') 0; clear hB5 hB5' hS5 r1 r3 f1 f3))
      have F : Hid (∀ W', Below (w5.setCell ⟨w.heap.size, 0, none⟩ (.slice A5 E.length c5)).heap.size (w5.setCell ⟨w.heap.size, 0, none⟩ (.slice A5 E.length c5)) W' → Below w.heap.size w W' ∧ W'.heap[w.heap.size]? = some (T1 (.slice A5 E.length c5)) ∧ W'.heap[(w.heap.size + 1)]? = some (T1 (.slice none 0 0)) ∧ sEnt W' w.heap.size (fun k => w.heap.size + 2 ≤ k ∧ k < (w5.setCell ⟨w.heap.size, 0, none⟩ (.slice A5 E.length c5)).heap.size) (.slice A5 E.length c5) E) := Lib.hid (fun W' h => by
        have hb : Below w.heap.size w (w5.setCell ⟨w.heap.size, 0, none⟩ (.slice A5 E.length c5)) := Below.setCell (p := ⟨w.heap.size, 0, none⟩) (H.out.2.2.1.trans (HB5.out.mono H.out.2.2.1.size)) (Nat.le_refl _) _
        have h4 := HB4.out.size
        have h5 := H.out.2.2.2
        have hsz : (w5.setCell ⟨w.heap.size, 0, none⟩ (.slice A5 E.length c5)).heap.size = w5.heap.size := by simp [World.setCell]
        have hS := Kd.S_far (Kd.S_bound HS5.out) (p := ⟨w.heap.size, 0, none⟩) (fun k hk => by have h2 := hk.2.1; show k ≠ w.heap.size; omega) (.slice A5 E.length c5)
        exact ⟨hb.trans (h.mono hb.size), blk_below (blk_put (blk_below H.out.1 HB5.out) 0 _ rfl) h, blk_below (blk_far (blk_below H.out.2.1 HB5.out) (p := ⟨w.heap.size, 0, none⟩) (by show (w.heap.size + 1) ≠ w.heap.size; omega) _) h,
          Kd.S_below (Kd.S_lower (Kd.S_mono hS (fun k hk => by have h2 := hk.2.1; have h3 := hk.2.2.1; show w.heap.size + 2 ≤ k ∧ k < (w5.setCell ⟨w.heap.size, 0, none⟩ (.slice A5 E.length c5)).heap.size; rw [hsz]; exact ⟨by omega, h3⟩)) (by omega)) h⟩)
      have HC5 := Lib.hid (Kd.S_reads' HS5.out).2.1
      clear z1 y1 HS5 HB5 HB5a HB4 H
      generalize (w5.setCell ⟨w.heap.size, 0, none⟩ (.slice A5 E.length c5)) = wq at F ⊢
      have a1 := (blk_cell (F.out _ (Below.refl _ _)).2.1 0).trans rfl
      have a3 := (blk_cell (F.out _ (Below.refl _ _)).2.2.1 0).trans rfl
      have af := blk_frozen (F.out _ (Below.refl _ _)).2.2.1 0
      obtain ⟨g, cap, ev, hbg, hgq, _⟩ := Kd.S_form (F.out _ (Below.refl _ _)).2.2.2 (by have := HKL.out; omega)
      injection ev with ea el ec
      subst ea; subst ec
      clear el
      have hgo := (Kd.S_R (F.out _ (Below.refl _ _)).2.2.2).1 g rfl
      obtain ⟨oki, cs, _, hM, hcc, _, hoki, _⟩ := Kd.S_elem (F.out _ (Below.refl _ _)).2.2.2 z68 (kn : Int) (by omega) hkz
      rw [show ((kn : Int)).toNat = kn from Int.toNat_natCast kn, ← HX.out] at hM
      obtain ⟨v5, ecs, hR5⟩ := k68_openM hM
      subst ecs
      obtain ⟨As, cs5, e5⟩ := Kd.R_slice hR5
      subst e5
      have G : Hid (∀ W', Below wq.heap.size wq W' → W'.cell? ⟨g, kn * 7, none⟩ = some (.int .i64 x.f0.f0) ∧ W'.cell? ⟨g, kn * 7 + 1, none⟩ = some (.int .i64 x.f0.f1) ∧ W'.cell? ⟨g, kn * 7 + 2, none⟩ = some (.int .i64 x.f0.f2) ∧ W'.cell? ⟨g, kn * 7 + 3, none⟩ = some (.string x.f0.f3) ∧ W'.cell? ⟨g, kn * 7 + 4, none⟩ = some (.bool x.f0.f4) ∧ W'.cell? ⟨g, kn * 7 + 5, none⟩ = some (.slice As x.f1.length cs5) ∧ W'.cell? ⟨g, kn * 7 + 6, none⟩ = some (.int .i64 x.f2) ∧ k71.R 71 W' w.heap.size oki (.slice As x.f1.length cs5) x.f1) := Lib.hid (fun W' h => ⟨pw_cell_below h (hcc 0 _ rfl), pw_cell_below h (hcc 1 _ rfl), pw_cell_below h (hcc 2 _ rfl), pw_cell_below h (hcc 3 _ rfl), pw_cell_below h (hcc 4 _ rfl), pw_cell_below h (hcc 5 _ rfl), pw_cell_below h (hcc 6 _ rfl), Kd.R_below hR5 h⟩)
      have HG := Lib.hid (And.intro hgo.1 hgo.2)
      clear hM hcc hoki hR5 hbg hgq hgo
      go_upto_region 10 with (first
        | (go_at_call 48; refine (hgb _).mono ?_; rintro e w6 ⟨rfl, hB6⟩; have HB6 := Lib.hid hB6; have b1 := (blk_cell (F.out _ hB6).2.1 0).trans rfl; have b3 := (blk_cell (F.out _ hB6).2.2.1 0).trans rfl; have bf := blk_frozen (F.out _ hB6).2.2.1 0; clear hB6 a1 a3 af)
        | (go_at_call 64; refine (hat _ _ _ (S_C (F.out _ HB6.out).2.2.2).1 HC5.out).mono ?_; rintro e w7 ⟨rfl, hB7⟩; have hB7' := HB6.out.trans (hB7.mono HB6.out.size); have HB7 := Lib.hid hB7'; have c1 := (blk_cell (F.out _ hB7').2.1 0).trans rfl; have c3 := (blk_cell (F.out _ hB7').2.2.1 0).trans rfl; have cf := blk_frozen (F.out _ hB7').2.2.1 0; have e0 := (G.out _ hB7').1; have e1 := (G.out _ hB7').2.1; have e2 := (G.out _ hB7').2.2.1; have e3 := (G.out _ hB7').2.2.2.1; have e4 := (G.out _ hB7').2.2.2.2.1; have e5 := (G.out _ hB7').2.2.2.2.2.1; have e6 := (G.out _ hB7').2.2.2.2.2.2.1; clear hB7 hB7' b1 b3 bf)
        | ((with_reducible refine gate_dst (N := 11) rfl ?_); refine box_event ?hg (N := 11) ?hd (cs := #[.int .i64 0, .int .i64 0, .int .i64 0, .string (⟨#[]⟩ : ByteArray), .bool false, .slice none 0 0, .int .i64 0]) (t := 68) ?hr ?_; (case hd => rfl); (case hg => rfl); (case hr => first | (go_simp; done) | (go_simp; rfl)); intro w3g hgb w3 hbox hb3; have BX := Lib.hid hbox; have B3 := Lib.hid hb3; have GBH := Lib.hid hgb; have hcz0 := (blk_cell hbox 0).trans rfl; have hfz0 := blk_frozen hbox 0; have hcz1 := (blk_cell hbox 1).trans rfl; have hfz1 := blk_frozen hbox 1; have hcz2 := (blk_cell hbox 2).trans rfl; have hfz2 := blk_frozen hbox 2; have hcz3 := (blk_cell hbox 3).trans rfl; have hfz3 := blk_frozen hbox 3; have hcz4 := (blk_cell hbox 4).trans rfl; have hfz4 := blk_frozen hbox 4; have hcz5 := (blk_cell hbox 5).trans rfl; have hfz5 := blk_frozen hbox 5; have hcz6 := (blk_cell hbox 6).trans rfl; have hfz6 := blk_frozen hbox 6; clear hbox hb3 hgb))
      have hb4 : Below w7.heap.size w7 (((((((w3.setCell ⟨w3g, 0, none⟩ (.int .i64 x.f0.f0)).setCell ⟨w3g, 1, none⟩ (.int .i64 x.f0.f1)).setCell ⟨w3g, 2, none⟩ (.int .i64 x.f0.f2)).setCell ⟨w3g, 3, none⟩ (.string x.f0.f3)).setCell ⟨w3g, 4, none⟩ (.bool x.f0.f4)).setCell ⟨w3g, 5, none⟩ (.slice As x.f1.length cs5)).setCell ⟨w3g, 6, none⟩ (.int .i64 x.f2)) := (below_set (below_set (below_set (below_set (below_set (below_set (below_set B3.out (by rw [GBH.out]; exact Nat.le_refl _)) (by rw [GBH.out]; exact Nat.le_refl _)) (by rw [GBH.out]; exact Nat.le_refl _)) (by rw [GBH.out]; exact Nat.le_refl _)) (by rw [GBH.out]; exact Nat.le_refl _)) (by rw [GBH.out]; exact Nat.le_refl _)) (by rw [GBH.out]; exact Nat.le_refl _))
      have hbq : Below wq.heap.size wq (((((((w3.setCell ⟨w3g, 0, none⟩ (.int .i64 x.f0.f0)).setCell ⟨w3g, 1, none⟩ (.int .i64 x.f0.f1)).setCell ⟨w3g, 2, none⟩ (.int .i64 x.f0.f2)).setCell ⟨w3g, 3, none⟩ (.string x.f0.f3)).setCell ⟨w3g, 4, none⟩ (.bool x.f0.f4)).setCell ⟨w3g, 5, none⟩ (.slice As x.f1.length cs5)).setCell ⟨w3g, 6, none⟩ (.int .i64 x.f2)) := HB7.out.trans (hb4.mono HB7.out.size)
      have hput : (((((((w3.setCell ⟨w3g, 0, none⟩ (.int .i64 x.f0.f0)).setCell ⟨w3g, 1, none⟩ (.int .i64 x.f0.f1)).setCell ⟨w3g, 2, none⟩ (.int .i64 x.f0.f2)).setCell ⟨w3g, 3, none⟩ (.string x.f0.f3)).setCell ⟨w3g, 4, none⟩ (.bool x.f0.f4)).setCell ⟨w3g, 5, none⟩ (.slice As x.f1.length cs5)).setCell ⟨w3g, 6, none⟩ (.int .i64 x.f2)).heap[w3g]? = some (.cells #[.int .i64 x.f0.f0, .int .i64 x.f0.f1, .int .i64 x.f0.f2, .string x.f0.f3, .bool x.f0.f4, .slice As x.f1.length cs5, .int .i64 x.f2] 68 (0, 0)) := (blk_put (blk_put (blk_put (blk_put (blk_put (blk_put (blk_put BX.out 0 _ rfl) 1 _ rfl) 2 _ rfl) 3 _ rfl) 4 _ rfl) 5 _ rfl) 6 _ rfl)
      have F2 : Hid (∀ W', Below (((((((w3.setCell ⟨w3g, 0, none⟩ (.int .i64 x.f0.f0)).setCell ⟨w3g, 1, none⟩ (.int .i64 x.f0.f1)).setCell ⟨w3g, 2, none⟩ (.int .i64 x.f0.f2)).setCell ⟨w3g, 3, none⟩ (.string x.f0.f3)).setCell ⟨w3g, 4, none⟩ (.bool x.f0.f4)).setCell ⟨w3g, 5, none⟩ (.slice As x.f1.length cs5)).setCell ⟨w3g, 6, none⟩ (.int .i64 x.f2)).heap.size (((((((w3.setCell ⟨w3g, 0, none⟩ (.int .i64 x.f0.f0)).setCell ⟨w3g, 1, none⟩ (.int .i64 x.f0.f1)).setCell ⟨w3g, 2, none⟩ (.int .i64 x.f0.f2)).setCell ⟨w3g, 3, none⟩ (.string x.f0.f3)).setCell ⟨w3g, 4, none⟩ (.bool x.f0.f4)).setCell ⟨w3g, 5, none⟩ (.slice As x.f1.length cs5)).setCell ⟨w3g, 6, none⟩ (.int .i64 x.f2)) W' → Below wq.heap.size wq W' ∧ W'.heap[w3g]? = some (.cells #[.int .i64 x.f0.f0, .int .i64 x.f0.f1, .int .i64 x.f0.f2, .string x.f0.f3, .bool x.f0.f4, .slice As x.f1.length cs5, .int .i64 x.f2] 68 (0, 0))) := Lib.hid (fun W' h => ⟨hbq.trans (h.mono hbq.size), blk_below hput h⟩)
      have HGX : Hid (wq.heap.size ≤ w3g ∧ w3g < (((((((w3.setCell ⟨w3g, 0, none⟩ (.int .i64 x.f0.f0)).setCell ⟨w3g, 1, none⟩ (.int .i64 x.f0.f1)).setCell ⟨w3g, 2, none⟩ (.int .i64 x.f0.f2)).setCell ⟨w3g, 3, none⟩ (.string x.f0.f3)).setCell ⟨w3g, 4, none⟩ (.bool x.f0.f4)).setCell ⟨w3g, 5, none⟩ (.slice As x.f1.length cs5)).setCell ⟨w3g, 6, none⟩ (.int .i64 x.f2)).heap.size ∧ wq.heap.size ≤ (((((((w3.setCell ⟨w3g, 0, none⟩ (.int .i64 x.f0.f0)).setCell ⟨w3g, 1, none⟩ (.int .i64 x.f0.f1)).setCell ⟨w3g, 2, none⟩ (.int .i64 x.f0.f2)).setCell ⟨w3g, 3, none⟩ (.string x.f0.f3)).setCell ⟨w3g, 4, none⟩ (.bool x.f0.f4)).setCell ⟨w3g, 5, none⟩ (.slice As x.f1.length cs5)).setCell ⟨w3g, 6, none⟩ (.int .i64 x.f2)).heap.size) := Lib.hid ⟨by rw [GBH.out]; exact HB7.out.size, blk_lt hput, hbq.size⟩
      clear hcz0 hfz0 hcz1 hfz1 hcz2 hfz2 hcz3 hfz3 hcz4 hfz4 hcz5 hfz5 hcz6 hfz6 BX B3 GBH c1 c3 cf hb4 hbq hput e0 e1 e2 e3 e4 e5 e6
      generalize (((((((w3.setCell ⟨w3g, 0, none⟩ (.int .i64 x.f0.f0)).setCell ⟨w3g, 1, none⟩ (.int .i64 x.f0.f1)).setCell ⟨w3g, 2, none⟩ (.int .i64 x.f0.f2)).setCell ⟨w3g, 3, none⟩ (.string x.f0.f3)).setCell ⟨w3g, 4, none⟩ (.bool x.f0.f4)).setCell ⟨w3g, 5, none⟩ (.slice As x.f1.length cs5)).setCell ⟨w3g, 6, none⟩ (.int .i64 x.f2)) = wx at F2 HGX ⊢
      have d1 := (blk_cell (F.out _ (F2.out _ (Below.refl _ _)).1).2.1 0).trans rfl
      have d3 := (blk_cell (F.out _ (F2.out _ (Below.refl _ _)).1).2.2.1 0).trans rfl
      have df := blk_frozen (F.out _ (F2.out _ (Below.refl _ _)).1).2.2.1 0
      have de1 := (blk_cell (F2.out _ (Below.refl _ _)).2 1).trans rfl
      have de5 := (blk_cell (F2.out _ (Below.refl _ _)).2 5).trans rfl
      have dez := blk_frozen (F2.out _ (Below.refl _ _)).2 5
      go_wp2
      have hcode : code = 1 := by rw [HCODE.out.1]; unfold alC1; rw [if_neg HSZ.out]
      have hRe : R = E := by rw [HCODE.out.2, hcode, if_neg (by decide)]
      rw [hcode, hRe]
      refine bodyPost_ret (results_cell_tmp rfl _ _ (w.heap.size + 1) 38 #[.slice (some ⟨g, 0, none⟩) E.length c5] (0, 0) _ rfl (blk_put (F.out _ (F2.out _ (Below.refl _ _)).1).2.2.1 0 _ rfl) Tryd.underlying38 rfl (by kernel_rfl)) rfl ?_
      exact ⟨_, c5, rfl, HC5.out, (S_C (Kd.S_far (F.out _ (F2.out _ (Below.refl _ _)).1).2.2.2 (p := ⟨(w.heap.size + 1), 0, none⟩) (fun k hk => by have h2 := hk.1; show k ≠ (w.heap.size + 1); omega) (.slice (some ⟨g, 0, none⟩) E.length c5))).1, Below.setCell (p := ⟨(w.heap.size + 1), 0, none⟩) (F.out _ (F2.out _ (Below.refl _ _)).1).1 (by show w.heap.size ≤ (w.heap.size + 1); omega) _⟩
    have HSZ := Lib.hid hsz
    have hne : ((sid.size : Int) != x.f0.f1) = false := bne_eq_false_iff_eq.mpr hsz
    clear hsz
    go_enter Tryd.func40, Tryd.ntmps40
    go_upto_region 4 with (first
      | (go_at_call 28; refine (hgd _ H.out.2.2.1).mono ?_; rintro e w4 ⟨rfl, hB4⟩; have HB4 := Lib.hid hB4; have r1 := (blk_cell (blk_below H.out.1 hB4) 0).trans rfl; have r3 := (blk_cell (blk_below H.out.2.1 hB4) 0).trans rfl; have f3 := blk_frozen (blk_below H.out.2.1 hB4) 0; have f1 := blk_frozen (blk_below H.out.1 hB4) 0; clear hB4 l1)
      | (go_at_call 63; refine (hown _ (H.out.2.2.1.trans (HB4.out.mono H.out.2.2.1.size))).mono ?_; rintro e w5 ⟨v5, rfl, hS5, hB5⟩; obtain ⟨A5, c5, e5⟩ := Kd.S_slice hS5; subst e5; have HS5 := Lib.hid hS5; have hB5' := HB4.out.trans (hB5.mono HB4.out.size); have HB5 := Lib.hid hB5'; have HB5a := Lib.hid hB5; have z1 := (blk_cell (blk_below H.out.1 hB5') 0).trans rfl; have y1 := blk_frozen (blk_below H.out.1 hB5') 0; clear hB5 hB5' hS5 r1 r3 f1 f3))
    have F : Hid (∀ W', Below (w5.setCell ⟨w.heap.size, 0, none⟩ (.slice A5 E.length c5)).heap.size (w5.setCell ⟨w.heap.size, 0, none⟩ (.slice A5 E.length c5)) W' → Below w.heap.size w W' ∧ W'.heap[w.heap.size]? = some (T1 (.slice A5 E.length c5)) ∧ W'.heap[(w.heap.size + 1)]? = some (T1 (.slice none 0 0)) ∧ sEnt W' w.heap.size (fun k => w.heap.size + 2 ≤ k ∧ k < (w5.setCell ⟨w.heap.size, 0, none⟩ (.slice A5 E.length c5)).heap.size) (.slice A5 E.length c5) E) := Lib.hid (fun W' h => by
      have hb : Below w.heap.size w (w5.setCell ⟨w.heap.size, 0, none⟩ (.slice A5 E.length c5)) := Below.setCell (p := ⟨w.heap.size, 0, none⟩) (H.out.2.2.1.trans (HB5.out.mono H.out.2.2.1.size)) (Nat.le_refl _) _
      have h4 := HB4.out.size
      have h5 := H.out.2.2.2
      have hsz : (w5.setCell ⟨w.heap.size, 0, none⟩ (.slice A5 E.length c5)).heap.size = w5.heap.size := by simp [World.setCell]
      have hS := Kd.S_far (Kd.S_bound HS5.out) (p := ⟨w.heap.size, 0, none⟩) (fun k hk => by have h2 := hk.2.1; show k ≠ w.heap.size; omega) (.slice A5 E.length c5)
      exact ⟨hb.trans (h.mono hb.size), blk_below (blk_put (blk_below H.out.1 HB5.out) 0 _ rfl) h, blk_below (blk_far (blk_below H.out.2.1 HB5.out) (p := ⟨w.heap.size, 0, none⟩) (by show (w.heap.size + 1) ≠ w.heap.size; omega) _) h,
        Kd.S_below (Kd.S_lower (Kd.S_mono hS (fun k hk => by have h2 := hk.2.1; have h3 := hk.2.2.1; show w.heap.size + 2 ≤ k ∧ k < (w5.setCell ⟨w.heap.size, 0, none⟩ (.slice A5 E.length c5)).heap.size; rw [hsz]; exact ⟨by omega, h3⟩)) (by omega)) h⟩)
    have HC5 := Lib.hid (Kd.S_reads' HS5.out).2.1
    clear z1 y1 HS5 HB5 HB5a HB4 H
    generalize (w5.setCell ⟨w.heap.size, 0, none⟩ (.slice A5 E.length c5)) = wq at F ⊢
    have a1 := (blk_cell (F.out _ (Below.refl _ _)).2.1 0).trans rfl
    have a3 := (blk_cell (F.out _ (Below.refl _ _)).2.2.1 0).trans rfl
    have af := blk_frozen (F.out _ (Below.refl _ _)).2.2.1 0
    obtain ⟨g, cap, ev, hbg, hgq, _⟩ := Kd.S_form (F.out _ (Below.refl _ _)).2.2.2 (by have := HKL.out; omega)
    injection ev with ea el ec
    subst ea; subst ec
    clear el
    have hgo := (Kd.S_R (F.out _ (Below.refl _ _)).2.2.2).1 g rfl
    obtain ⟨oki, cs, _, hM, hcc, _, hoki, _⟩ := Kd.S_elem (F.out _ (Below.refl _ _)).2.2.2 z68 (kn : Int) (by omega) hkz
    rw [show ((kn : Int)).toNat = kn from Int.toNat_natCast kn, ← HX.out] at hM
    obtain ⟨v5, ecs, hR5⟩ := k68_openM hM
    subst ecs
    obtain ⟨As, cs5, e5⟩ := Kd.R_slice hR5
    subst e5
    have G : Hid (∀ W', Below wq.heap.size wq W' → W'.cell? ⟨g, kn * 7, none⟩ = some (.int .i64 x.f0.f0) ∧ W'.cell? ⟨g, kn * 7 + 1, none⟩ = some (.int .i64 x.f0.f1) ∧ W'.cell? ⟨g, kn * 7 + 2, none⟩ = some (.int .i64 x.f0.f2) ∧ W'.cell? ⟨g, kn * 7 + 3, none⟩ = some (.string x.f0.f3) ∧ W'.cell? ⟨g, kn * 7 + 4, none⟩ = some (.bool x.f0.f4) ∧ W'.cell? ⟨g, kn * 7 + 5, none⟩ = some (.slice As x.f1.length cs5) ∧ W'.cell? ⟨g, kn * 7 + 6, none⟩ = some (.int .i64 x.f2) ∧ k71.R 71 W' w.heap.size oki (.slice As x.f1.length cs5) x.f1) := Lib.hid (fun W' h => ⟨pw_cell_below h (hcc 0 _ rfl), pw_cell_below h (hcc 1 _ rfl), pw_cell_below h (hcc 2 _ rfl), pw_cell_below h (hcc 3 _ rfl), pw_cell_below h (hcc 4 _ rfl), pw_cell_below h (hcc 5 _ rfl), pw_cell_below h (hcc 6 _ rfl), Kd.R_below hR5 h⟩)
    have HG := Lib.hid (And.intro hgo.1 hgo.2)
    clear hM hcc hoki hR5 hbg hgq hgo
    go_upto_region 10 with (first
      | (go_at_call 48; refine (hgb _).mono ?_; rintro e w6 ⟨rfl, hB6⟩; have HB6 := Lib.hid hB6; have b1 := (blk_cell (F.out _ hB6).2.1 0).trans rfl; have b3 := (blk_cell (F.out _ hB6).2.2.1 0).trans rfl; have bf := blk_frozen (F.out _ hB6).2.2.1 0; clear hB6 a1 a3 af)
      | (go_at_call 64; refine (hat _ _ _ (S_C (F.out _ HB6.out).2.2.2).1 HC5.out).mono ?_; rintro e w7 ⟨rfl, hB7⟩; have hB7' := HB6.out.trans (hB7.mono HB6.out.size); have HB7 := Lib.hid hB7'; have c1 := (blk_cell (F.out _ hB7').2.1 0).trans rfl; have c3 := (blk_cell (F.out _ hB7').2.2.1 0).trans rfl; have cf := blk_frozen (F.out _ hB7').2.2.1 0; have e0 := (G.out _ hB7').1; have e1 := (G.out _ hB7').2.1; have e2 := (G.out _ hB7').2.2.1; have e3 := (G.out _ hB7').2.2.2.1; have e4 := (G.out _ hB7').2.2.2.2.1; have e5 := (G.out _ hB7').2.2.2.2.2.1; have e6 := (G.out _ hB7').2.2.2.2.2.2.1; clear hB7 hB7' b1 b3 bf)
      | ((with_reducible refine gate_dst (N := 11) rfl ?_); refine box_event ?hg (N := 11) ?hd (cs := #[.int .i64 0, .int .i64 0, .int .i64 0, .string (⟨#[]⟩ : ByteArray), .bool false, .slice none 0 0, .int .i64 0]) (t := 68) ?hr ?_; (case hd => rfl); (case hg => rfl); (case hr => first | (go_simp; done) | (go_simp; rfl)); intro w3g hgb w3 hbox hb3; have BX := Lib.hid hbox; have B3 := Lib.hid hb3; have GBH := Lib.hid hgb; have hcz0 := (blk_cell hbox 0).trans rfl; have hfz0 := blk_frozen hbox 0; have hcz1 := (blk_cell hbox 1).trans rfl; have hfz1 := blk_frozen hbox 1; have hcz2 := (blk_cell hbox 2).trans rfl; have hfz2 := blk_frozen hbox 2; have hcz3 := (blk_cell hbox 3).trans rfl; have hfz3 := blk_frozen hbox 3; have hcz4 := (blk_cell hbox 4).trans rfl; have hfz4 := blk_frozen hbox 4; have hcz5 := (blk_cell hbox 5).trans rfl; have hfz5 := blk_frozen hbox 5; have hcz6 := (blk_cell hbox 6).trans rfl; have hfz6 := blk_frozen hbox 6; clear hbox hb3 hgb))
    have hb4 : Below w7.heap.size w7 (((((((w3.setCell ⟨w3g, 0, none⟩ (.int .i64 x.f0.f0)).setCell ⟨w3g, 1, none⟩ (.int .i64 x.f0.f1)).setCell ⟨w3g, 2, none⟩ (.int .i64 x.f0.f2)).setCell ⟨w3g, 3, none⟩ (.string x.f0.f3)).setCell ⟨w3g, 4, none⟩ (.bool x.f0.f4)).setCell ⟨w3g, 5, none⟩ (.slice As x.f1.length cs5)).setCell ⟨w3g, 6, none⟩ (.int .i64 x.f2)) := (below_set (below_set (below_set (below_set (below_set (below_set (below_set B3.out (by rw [GBH.out]; exact Nat.le_refl _)) (by rw [GBH.out]; exact Nat.le_refl _)) (by rw [GBH.out]; exact Nat.le_refl _)) (by rw [GBH.out]; exact Nat.le_refl _)) (by rw [GBH.out]; exact Nat.le_refl _)) (by rw [GBH.out]; exact Nat.le_refl _)) (by rw [GBH.out]; exact Nat.le_refl _))
    have hbq : Below wq.heap.size wq (((((((w3.setCell ⟨w3g, 0, none⟩ (.int .i64 x.f0.f0)).setCell ⟨w3g, 1, none⟩ (.int .i64 x.f0.f1)).setCell ⟨w3g, 2, none⟩ (.int .i64 x.f0.f2)).setCell ⟨w3g, 3, none⟩ (.string x.f0.f3)).setCell ⟨w3g, 4, none⟩ (.bool x.f0.f4)).setCell ⟨w3g, 5, none⟩ (.slice As x.f1.length cs5)).setCell ⟨w3g, 6, none⟩ (.int .i64 x.f2)) := HB7.out.trans (hb4.mono HB7.out.size)
    have hput : (((((((w3.setCell ⟨w3g, 0, none⟩ (.int .i64 x.f0.f0)).setCell ⟨w3g, 1, none⟩ (.int .i64 x.f0.f1)).setCell ⟨w3g, 2, none⟩ (.int .i64 x.f0.f2)).setCell ⟨w3g, 3, none⟩ (.string x.f0.f3)).setCell ⟨w3g, 4, none⟩ (.bool x.f0.f4)).setCell ⟨w3g, 5, none⟩ (.slice As x.f1.length cs5)).setCell ⟨w3g, 6, none⟩ (.int .i64 x.f2)).heap[w3g]? = some (.cells #[.int .i64 x.f0.f0, .int .i64 x.f0.f1, .int .i64 x.f0.f2, .string x.f0.f3, .bool x.f0.f4, .slice As x.f1.length cs5, .int .i64 x.f2] 68 (0, 0)) := (blk_put (blk_put (blk_put (blk_put (blk_put (blk_put (blk_put BX.out 0 _ rfl) 1 _ rfl) 2 _ rfl) 3 _ rfl) 4 _ rfl) 5 _ rfl) 6 _ rfl)
    have F2 : Hid (∀ W', Below (((((((w3.setCell ⟨w3g, 0, none⟩ (.int .i64 x.f0.f0)).setCell ⟨w3g, 1, none⟩ (.int .i64 x.f0.f1)).setCell ⟨w3g, 2, none⟩ (.int .i64 x.f0.f2)).setCell ⟨w3g, 3, none⟩ (.string x.f0.f3)).setCell ⟨w3g, 4, none⟩ (.bool x.f0.f4)).setCell ⟨w3g, 5, none⟩ (.slice As x.f1.length cs5)).setCell ⟨w3g, 6, none⟩ (.int .i64 x.f2)).heap.size (((((((w3.setCell ⟨w3g, 0, none⟩ (.int .i64 x.f0.f0)).setCell ⟨w3g, 1, none⟩ (.int .i64 x.f0.f1)).setCell ⟨w3g, 2, none⟩ (.int .i64 x.f0.f2)).setCell ⟨w3g, 3, none⟩ (.string x.f0.f3)).setCell ⟨w3g, 4, none⟩ (.bool x.f0.f4)).setCell ⟨w3g, 5, none⟩ (.slice As x.f1.length cs5)).setCell ⟨w3g, 6, none⟩ (.int .i64 x.f2)) W' → Below wq.heap.size wq W' ∧ W'.heap[w3g]? = some (.cells #[.int .i64 x.f0.f0, .int .i64 x.f0.f1, .int .i64 x.f0.f2, .string x.f0.f3, .bool x.f0.f4, .slice As x.f1.length cs5, .int .i64 x.f2] 68 (0, 0))) := Lib.hid (fun W' h => ⟨hbq.trans (h.mono hbq.size), blk_below hput h⟩)
    have HGX : Hid (wq.heap.size ≤ w3g ∧ w3g < (((((((w3.setCell ⟨w3g, 0, none⟩ (.int .i64 x.f0.f0)).setCell ⟨w3g, 1, none⟩ (.int .i64 x.f0.f1)).setCell ⟨w3g, 2, none⟩ (.int .i64 x.f0.f2)).setCell ⟨w3g, 3, none⟩ (.string x.f0.f3)).setCell ⟨w3g, 4, none⟩ (.bool x.f0.f4)).setCell ⟨w3g, 5, none⟩ (.slice As x.f1.length cs5)).setCell ⟨w3g, 6, none⟩ (.int .i64 x.f2)).heap.size ∧ wq.heap.size ≤ (((((((w3.setCell ⟨w3g, 0, none⟩ (.int .i64 x.f0.f0)).setCell ⟨w3g, 1, none⟩ (.int .i64 x.f0.f1)).setCell ⟨w3g, 2, none⟩ (.int .i64 x.f0.f2)).setCell ⟨w3g, 3, none⟩ (.string x.f0.f3)).setCell ⟨w3g, 4, none⟩ (.bool x.f0.f4)).setCell ⟨w3g, 5, none⟩ (.slice As x.f1.length cs5)).setCell ⟨w3g, 6, none⟩ (.int .i64 x.f2)).heap.size) := Lib.hid ⟨by rw [GBH.out]; exact HB7.out.size, blk_lt hput, hbq.size⟩
    clear hcz0 hfz0 hcz1 hfz1 hcz2 hfz2 hcz3 hfz3 hcz4 hfz4 hcz5 hfz5 hcz6 hfz6 BX B3 GBH c1 c3 cf hb4 hbq hput e0 e1 e2 e3 e4 e5 e6
    generalize (((((((w3.setCell ⟨w3g, 0, none⟩ (.int .i64 x.f0.f0)).setCell ⟨w3g, 1, none⟩ (.int .i64 x.f0.f1)).setCell ⟨w3g, 2, none⟩ (.int .i64 x.f0.f2)).setCell ⟨w3g, 3, none⟩ (.string x.f0.f3)).setCell ⟨w3g, 4, none⟩ (.bool x.f0.f4)).setCell ⟨w3g, 5, none⟩ (.slice As x.f1.length cs5)).setCell ⟨w3g, 6, none⟩ (.int .i64 x.f2)) = wx at F2 HGX ⊢
    have d1 := (blk_cell (F.out _ (F2.out _ (Below.refl _ _)).1).2.1 0).trans rfl
    have d3 := (blk_cell (F.out _ (F2.out _ (Below.refl _ _)).1).2.2.1 0).trans rfl
    have df := blk_frozen (F.out _ (F2.out _ (Below.refl _ _)).1).2.2.1 0
    have de1 := (blk_cell (F2.out _ (Below.refl _ _)).2 1).trans rfl
    have de5 := (blk_cell (F2.out _ (Below.refl _ _)).2 5).trans rfl
    have dez := blk_frozen (F2.out _ (Below.refl _ _)).2 5
    go_wp2
    clear d1 d3 df de1 de5 dez HB7 HB6
    go_loopg [12, 47] x.f1.length (fun g1 v12 v47 wr => ∃ xk xj : Int, v12 = .int .i64 xk ∧ v47 = .int .i64 xj ∧ Aside0 (0 ≤ xk ∧ xk ≤ xj ∧ xj ≤ x.f1.length ∧ x.f1.length - xj.toNat ≤ g1) ∧ Aside0 (∀ j, j < xj.toNat → hitA sid sbk ((prs x.f1).getD j zP) = false) ∧ Aside0 (∀ j (h : j < x.f1.length), j < xk.toNat → ltA x.f1[j] (⟨sid, sbk⟩ : S71) = true) ∧ Aside0 (∀ j (h : j < x.f1.length), xk.toNat ≤ j → j < xj.toNat → ltA x.f1[j] (⟨sid, sbk⟩ : S71) = false) ∧ Aside0 (Below wx.heap.size wx wr))
    case atStart => exact ⟨0, 0, rfl, rfl, ⟨by omega, by omega, by omega, by simp⟩, ⟨fun j hj => absurd hj (Nat.not_lt_zero _)⟩, ⟨fun j h hj => absurd hj (Nat.not_lt_zero _)⟩, ⟨fun j h _ hj => absurd hj (Nat.not_lt_zero _)⟩, ⟨Below.refl _ _⟩⟩
    case round =>
      obtain ⟨xk, xj, rfl, rfl, X, HNO, HLT, HGE0, B1⟩ := hrel
      have p1 : 0 ≤ xk := X.out.1
      have p2 : 0 ≤ xj := by have := X.out; omega
      have g1 := (blk_cell (F.out _ (F2.out _ B1.out).1).2.1 0).trans rfl
      have g3 := (blk_cell (F.out _ (F2.out _ B1.out).1).2.2.1 0).trans rfl
      have gf := blk_frozen (F.out _ (F2.out _ B1.out).1).2.2.1 0
      have ge1 := (blk_cell (F2.out _ B1.out).2 1).trans rfl
      have ge5 := (blk_cell (F2.out _ B1.out).2 5).trans rfl
      have gez := blk_frozen (F2.out _ B1.out).2 5
      by_cases hlt : xj < (x.f1.length : Int)
      · have hjl : xj.toNat < x.f1.length := by omega
        have ra : IntKind.i64.wrap (xj + 1) = xj + 1 := by rw [IntKind.wrap_i64]; have := HX12.out; omega
        have hpr : ReadsRow prK 2 wr As x.f1.length (prs x.f1) := by
          have q := reads_map (R' := prK) (fun y : S71 => (y.f0, y.f1)) (Kd.R_reads' (G.out _ (F2.out _ B1.out).1).2.2.2.2.2.2.2).2.2 (fun y cs hy => k71_open hy)
          exact q
        obtain ⟨ad, eA, hy0, hy1⟩ := pr_at hpr xj p2 hlt
        subst eA
        clear hpr
        have hgy : (prs x.f1).getD xj.toNat zP = ((x.f1[xj.toNat]'hjl).f0, (x.f1[xj.toNat]'hjl).f1) := by
          unfold prs
          rw [List.getD_eq_getElem?_getD, List.getElem?_map, List.getElem?_eq_getElem hjl]; rfl
        have HMEM : Hid ((prs x.f1).getD xj.toNat zP ∈ prs x.f1) := Lib.hid (by
          have hl : xj.toNat < (prs x.f1).length := by unfold prs; rw [List.length_map]; exact hjl
          rw [List.getD_eq_getElem?_getD, List.getElem?_eq_getElem hl]; exact List.getElem_mem _)
        obtain ⟨y0, hy0e⟩ : ∃ q, q = ((prs x.f1).getD xj.toNat zP).1 := ⟨_, rfl⟩
        obtain ⟨y1, hy1e⟩ : ∃ q, q = ((prs x.f1).getD xj.toNat zP).2 := ⟨_, rfl⟩
        rw [← hy0e] at hy0
        rw [← hy1e] at hy1
        have HY := Lib.hid (And.intro hy0e.symm hy1e.symm)
        have HY0 : Hid (y0 = (x.f1[xj.toNat]'hjl).f0) := Lib.hid (by rw [hy0e, hgy])
        clear hy0e hy1e hgy
        go_upto_region 16 with ((with_reducible refine gate_dst (N := 14) rfl ?_); refine box_event ?hg (N := 14) ?hd (cs := #[.string (⟨#[]⟩ : ByteArray), .string (⟨#[]⟩ : ByteArray)]) (t := 71) ?hr ?_; (case hd => rfl); (case hg => rfl); (case hr => first | (go_simp; done) | (go_simp; rfl)); intro w8g hgb w8 hbox hb3; have BX := Lib.hid hbox; have B3 := Lib.hid hb3; have GBH := Lib.hid hgb; have hcz0 := (blk_cell hbox 0).trans rfl; have hfz0 := blk_frozen hbox 0; have hcz1 := (blk_cell hbox 1).trans rfl; have hfz1 := blk_frozen hbox 1; clear hbox hb3 hgb)
        have hb8 : Below wr.heap.size wr ((w8.setCell ⟨w8g, 0, none⟩ (.string y0)).setCell ⟨w8g, 1, none⟩ (.string y1)) := (below_set (below_set B3.out (by rw [GBH.out]; exact Nat.le_refl _)) (by rw [GBH.out]; exact Nat.le_refl _))
        have B8 : Hid (Below wx.heap.size wx ((w8.setCell ⟨w8g, 0, none⟩ (.string y0)).setCell ⟨w8g, 1, none⟩ (.string y1))) := Lib.hid (B1.out.trans (hb8.mono B1.out.size))
        have hp8 : ((w8.setCell ⟨w8g, 0, none⟩ (.string y0)).setCell ⟨w8g, 1, none⟩ (.string y1)).heap[w8g]? = some (.cells #[.string y0, .string y1] 71 (0, 0)) := (blk_put (blk_put BX.out 0 _ rfl) 1 _ rfl)
        clear hcz0 hfz0 hcz1 hfz1 BX B3 GBH g1 g3 gf ge1 ge5 gez hb8 hy0 hy1
        generalize ((w8.setCell ⟨w8g, 0, none⟩ (.string y0)).setCell ⟨w8g, 1, none⟩ (.string y1)) = w8 at B8 hp8 ⊢
        have s0 := (blk_cell hp8 0).trans rfl
        have s1 := (blk_cell hp8 1).trans rfl
        clear hp8
        have h1 := (blk_cell (F.out _ (F2.out _ B8.out).1).2.1 0).trans rfl
        have h3 := (blk_cell (F.out _ (F2.out _ B8.out).1).2.2.1 0).trans rfl
        have hf := blk_frozen (F.out _ (F2.out _ B8.out).1).2.2.1 0
        have he1 := (blk_cell (F2.out _ B8.out).2 1).trans rfl
        have he5 := (blk_cell (F2.out _ B8.out).2 5).trans rfl
        have hez := blk_frozen (F2.out _ B8.out).2 5
        cases ee1 : (y0.toList == sid.toList) with
        | true =>
          have EE := ee1
          go_wp2
          have hcode : code = 3 := by rw [HCODE.out.1]; unfold alC1; rw [if_pos HSZ.out, if_pos (List.any_eq_true.mpr ⟨_, HMEM.out, by unfold hitA; rw [HY.out.1, HY.out.2, ee1]; simp⟩)]
          have hRe : R = E := by rw [HCODE.out.2, hcode, if_neg (by decide)]
          rw [hcode, hRe]
          refine bodyPost_ret (results_cell_tmp rfl _ _ (w.heap.size + 1) 38 #[.slice (some ⟨g, 0, none⟩) E.length c5] (0, 0) _ rfl (blk_put (F.out _ (F2.out _ B8.out).1).2.2.1 0 _ rfl) Tryd.underlying38 rfl (by kernel_rfl)) rfl ?_
          exact ⟨_, c5, rfl, HC5.out, (S_C (Kd.S_far (F.out _ (F2.out _ B8.out).1).2.2.2 (p := ⟨(w.heap.size + 1), 0, none⟩) (fun k hk => by have h2 := hk.1; show k ≠ (w.heap.size + 1); omega) (.slice (some ⟨g, 0, none⟩) E.length c5))).1, Below.setCell (p := ⟨(w.heap.size + 1), 0, none⟩) (F.out _ (F2.out _ B8.out).1).1 (by show w.heap.size ≤ (w.heap.size + 1); omega) _⟩
        | false =>
        cases ee2 : (y1.toList == sbk.toList) with
        | true =>
          go_wp2
          have hcode : code = 3 := by rw [HCODE.out.1]; unfold alC1; rw [if_pos HSZ.out, if_pos (List.any_eq_true.mpr ⟨_, HMEM.out, by unfold hitA; rw [HY.out.1, HY.out.2, ee2]; simp⟩)]
          have hRe : R = E := by rw [HCODE.out.2, hcode, if_neg (by decide)]
          rw [hcode, hRe]
          refine bodyPost_ret (results_cell_tmp rfl _ _ (w.heap.size + 1) 38 #[.slice (some ⟨g, 0, none⟩) E.length c5] (0, 0) _ rfl (blk_put (F.out _ (F2.out _ B8.out).1).2.2.1 0 _ rfl) Tryd.underlying38 rfl (by kernel_rfl)) rfl ?_
          exact ⟨_, c5, rfl, HC5.out, (S_C (Kd.S_far (F.out _ (F2.out _ B8.out).1).2.2.2 (p := ⟨(w.heap.size + 1), 0, none⟩) (fun k hk => by have h2 := hk.1; show k ≠ (w.heap.size + 1); omega) (.slice (some ⟨g, 0, none⟩) E.length c5))).1, Below.setCell (p := ⟨(w.heap.size + 1), 0, none⟩) (F.out _ (F2.out _ B8.out).1).1 (by show w.heap.size ≤ (w.heap.size + 1); omega) _⟩
        | false =>
        have HM : Hid (hitA sid sbk ((prs x.f1).getD xj.toNat zP) = false) := Lib.hid (by unfold hitA; rw [HY.out.1, HY.out.2, ee1, ee2]; rfl)
        cases ee3 : Op.bytesLess y0.toList sid.toList with
        | true =>
          have HL3 : Hid (∀ h : xj.toNat < x.f1.length, ltA (x.f1[xj.toNat]'h) (⟨sid, sbk⟩ : S71) = true) := Lib.hid (fun h => by rw [HY0.out] at ee3; exact ee3)
          go_wp2
          go_roundg (x.f1.length - (xj + 1).toNat)
          case measure => have := X.out.2.2.2; omega
          case rel =>
            refine ⟨xj + 1, xj + 1, by first | rfl | rw [ra], by first | rfl | rw [ra], ⟨by omega, by omega, by omega, Nat.le_refl _⟩, ⟨fun j hj => ?_⟩, ⟨fun j h hj => ?_⟩, ⟨fun j h h1 h2 => absurd h2 (by omega)⟩, ⟨B8.out⟩⟩
            · by_cases hjx : j < xj.toNat
              · exact HNO.out j hjx
              · obtain rfl : j = xj.toNat := by omega
                exact HM.out
            · by_cases hjx : j < xj.toNat
              · exact ltA_tr _ _ _ (List.pairwise_iff_getElem.mp HXP.out j xj.toNat h hjl hjx) (HL3.out hjl)
              · obtain rfl : j = xj.toNat := by omega
                exact HL3.out h
        | false =>
          have HL3 : Hid (∀ h : xj.toNat < x.f1.length, ltA (x.f1[xj.toNat]'h) (⟨sid, sbk⟩ : S71) = false) := Lib.hid (fun h => by rw [HY0.out] at ee3; exact ee3)
          go_wp2
          go_roundg (x.f1.length - (xj + 1).toNat)
          case measure => have := X.out.2.2.2; omega
          case rel =>
            refine ⟨xk, xj + 1, by first | rfl | rw [ra], by first | rfl | rw [ra], ⟨by omega, by have := X.out; omega, by omega, Nat.le_refl _⟩, ⟨fun j hj => ?_⟩, HLT, ⟨fun j h h1 h2 => ?_⟩, ⟨B8.out⟩⟩
            · by_cases hjx : j < xj.toNat
              · exact HNO.out j hjx
              · obtain rfl : j = xj.toNat := by omega
                exact HM.out
            · by_cases hjx : j < xj.toNat
              · exact HGE0.out j h h1 hjx
              · obtain rfl : j = xj.toNat := by omega
                exact HL3.out h
      · have hjn : xj = (x.f1.length : Int) := by have := X.out; omega
        have HANY : Hid ((prs x.f1).any (hitA sid sbk) = false) := Lib.hid (by
          rw [List.any_eq_false]
          intro y hy
          obtain ⟨j, hj, rfl⟩ := List.getElem_of_mem hy
          have hj' : j < x.f1.length := by unfold prs at hj; rw [List.length_map] at hj; exact hj
          have := HNO.out j (by omega)
          rw [List.getD_eq_getElem?_getD, List.getElem?_eq_getElem hj] at this
          exact Bool.eq_false_iff.mp this)
        have HGE : Hid (∀ j (h : j < x.f1.length), xk.toNat ≤ j → j < x.f1.length → ltA x.f1[j] (⟨sid, sbk⟩ : S71) = false) := Lib.hid (fun j h h1 h2 => HGE0.out j h h1 (by omega))
        by_cases h12 : x.f1.length = 12
        · have HN12 := Lib.hid h12
          have h12a : ((x.f1.length : Int) == 12) = true := beq_iff_eq.mpr (by omega)
          have h12b : decide ((x.f1.length : Int) = 12) = true := decide_eq_true (by omega)
          clear h12 hjn
          go_wp2
          have hcode : code = 4 := by rw [HCODE.out.1]; unfold alC1; rw [if_pos HSZ.out, if_neg (by rw [HANY.out]; decide), if_pos (by have := HN12.out; omega)]
          have hRe : R = E := by rw [HCODE.out.2, hcode, if_neg (by decide)]
          rw [hcode, hRe]
          refine bodyPost_ret (results_cell_tmp rfl _ _ (w.heap.size + 1) 38 #[.slice (some ⟨g, 0, none⟩) E.length c5] (0, 0) _ rfl (blk_put (F.out _ (F2.out _ B1.out).1).2.2.1 0 _ rfl) Tryd.underlying38 rfl (by kernel_rfl)) rfl ?_
          exact ⟨_, c5, rfl, HC5.out, (S_C (Kd.S_far (F.out _ (F2.out _ B1.out).1).2.2.2 (p := ⟨(w.heap.size + 1), 0, none⟩) (fun k hk => by have h2 := hk.1; show k ≠ (w.heap.size + 1); omega) (.slice (some ⟨g, 0, none⟩) E.length c5))).1, Below.setCell (p := ⟨(w.heap.size + 1), 0, none⟩) (F.out _ (F2.out _ B1.out).1).1 (by show w.heap.size ≤ (w.heap.size + 1); omega) _⟩
        · have HN12 := Lib.hid h12
          have h12a : ((x.f1.length : Int) == 12) = false := beq_eq_false_iff_ne.mpr (by omega)
          have h12b : decide ((x.f1.length : Int) = 12) = false := decide_eq_false (by omega)
          clear h12 hjn
          have hxk : xk.toNat ≤ x.f1.length := by have := X.out; omega
          have hc1 := cut_to (P := Tryd.prog) 66 71 .i64 Tryd.underlying66 hi0 As x.f1.length cs5 xk p1 (by have := X.out; omega) (Kd.R_reads' (G.out _ (Below.refl _ _)).2.2.2.2.2.2.2).2.1
          have hc2 := cut_from (P := Tryd.prog) 66 71 .i64 Tryd.underlying66 hi0 2 hsz2 As x.f1.length cs5 xk p1 (by have := X.out; omega)
          obtain ⟨A6, hA6⟩ : ∃ q, q = (if cs5 = xk.toNat then As else (As).map (·.add (xk.toNat * 2))) := ⟨_, rfl⟩
          rw [← hA6] at hc2
          obtain ⟨m6, hm6⟩ : ∃ q, q = x.f1.length - xk.toNat := ⟨_, rfl⟩
          rw [← hm6] at hc2
          have HM6 := Lib.hid hm6
          have hrd : ∀ W', Below wx.heap.size wx W' → k71.C W' As x.f1.length x.f1 := fun W' h => (Kd.R_reads' (G.out _ (F2.out _ h).1).2.2.2.2.2.2.2).2.2
          have HR1 : Hid (∀ W', Below wx.heap.size wx W' → k71.C W' As xk.toNat (x.f1.take xk.toNat)) := Lib.hid (fun W' h => by
            have q := Kd.C_take (hrd W' h) hxk
            rw [List.length_take, Nat.min_eq_left hxk] at q
            exact q)
          have HR2 : Hid (∀ W', Below wx.heap.size wx W' → k71.C W' A6 m6 (x.f1.drop xk.toNat)) := Lib.hid (fun W' h => by
            have q := Kd.C_drop (c := cs5) (hrd W' h) hxk (Kd.R_reads' (G.out _ (Below.refl _ _)).2.2.2.2.2.2.2).2.1
            rw [List.length_drop] at q
            rw [hA6, hm6]
            exact q)
          have P1 : True := trivial
          clear hA6 hrd hm6 hxk
          go_upto_region 27 with (first
            | (have _ := P1; at_builtin; refine Kd.R_append_rows k71 (w0 := wx) wx.heap.size rfl (.tmp 75) (.tmp 79) 66 71 (.agg #[.string ⟨#[]⟩, .string ⟨#[]⟩]) 32 rfl Tryd.underlying66 info71 rfl (by decide) (by decide) (.slice none 0 0) [] (x.f1.take xk.toNat) As xk.toNat cs5 (fun _ => True) (fun _ => False) rfl rfl (Kd.R_nil _ _ _ _ _) (HR1.out _ B1.out) (fun y cs h => by have h' := k71_open h; subst h'; exact k71_mkM _ _ _ y) (fun _ h => h.elim) (fun _ _ => trivial) B1.out (by have h := B1.out.size; first | exact h | simpa using h) (by have := HX12.out; have := X.out; simp only [List.nil_append, List.length_append, List.length_take, List.length_cons, List.length_nil]; omega) ?_; intro v8 w8 hR8 hB8 _ _; obtain ⟨A8, c8, e8⟩ := Kd.R_slice hR8; obtain ⟨n8, hn8⟩ : ∃ q, q = ([] ++ (x.f1.take xk.toNat)).length := ⟨_, rfl⟩; rw [← hn8] at e8; subst e8; have H8 := Lib.hid (And.intro hR8 (And.intro hB8 hn8)); clear g1 g3 gf ge1 ge5 gez; have h1 := (blk_cell (F.out _ (F2.out _ hB8).1).2.1 0).trans rfl; have h3 := (blk_cell (F.out _ (F2.out _ hB8).1).2.2.1 0).trans rfl; have hf := blk_frozen (F.out _ (F2.out _ hB8).1).2.2.1 0; have he1 := (blk_cell (F2.out _ hB8).2 1).trans rfl; have he5 := (blk_cell (F2.out _ hB8).2 5).trans rfl; have hez := blk_frozen (F2.out _ hB8).2 5; clear hR8 hB8 hn8 P1; have P2 : True := trivial)
            | (have _ := P2; at_builtin; refine Kd.R_append k71 (w0 := wx) wx.heap.size rfl (.tmp 81) (.tmp 85) 66 71 (.agg #[.string ⟨#[]⟩, .string ⟨#[]⟩]) 32 rfl Tryd.underlying66 info71 rfl (by decide) (by decide) (.slice A8 n8 c8) ([] ++ (x.f1.take xk.toNat)) (⟨sid, sbk⟩ : S71) ([.string sid, .string sbk] : List Value) (fun _ => True) (fun _ => False) rfl rfl (k71_mkM _ _ _ (⟨sid, sbk⟩ : S71)) (fun _ h => h.elim) (fun _ _ => trivial) H8.out.1 H8.out.2.1 H8.out.2.1.size (by have := HX12.out; have := X.out; simp only [List.nil_append, List.length_append, List.length_take, List.length_cons, List.length_nil]; omega) ?_; intro v9 w9 hR9 hB9 _ _; obtain ⟨A9, c9, e9⟩ := Kd.R_slice hR9; obtain ⟨n9, hn9⟩ : ∃ q, q = ([] ++ (x.f1.take xk.toNat) ++ [(⟨sid, sbk⟩ : S71)]).length := ⟨_, rfl⟩; rw [← hn9] at e9; subst e9; have H9 := Lib.hid (And.intro hR9 (And.intro hB9 hn9)); clear h1 h3 hf he1 he5 hez; have qq1 := (blk_cell (F.out _ (F2.out _ hB9).1).2.1 0).trans rfl; have qq3 := (blk_cell (F.out _ (F2.out _ hB9).1).2.2.1 0).trans rfl; have qqf := blk_frozen (F.out _ (F2.out _ hB9).1).2.2.1 0; have qqe1 := (blk_cell (F2.out _ hB9).2 1).trans rfl; have qqe5 := (blk_cell (F2.out _ hB9).2 5).trans rfl; have qqez := blk_frozen (F2.out _ hB9).2 5; clear hR9 hB9 hn9 P2; have P3 : True := trivial)
            | (have _ := P3; at_builtin; refine Kd.R_append_rows k71 (w0 := wx) wx.heap.size rfl (.tmp 87) (.tmp 91) 66 71 (.agg #[.string ⟨#[]⟩, .string ⟨#[]⟩]) 32 rfl Tryd.underlying66 info71 rfl (by decide) (by decide) (.slice A9 n9 c9) ([] ++ (x.f1.take xk.toNat) ++ [(⟨sid, sbk⟩ : S71)]) (x.f1.drop xk.toNat) A6 m6 _ (fun _ => True) (fun _ => False) rfl rfl H9.out.1 (HR2.out _ H9.out.2.1) (fun y cs h => by have h' := k71_open h; subst h'; exact k71_mkM _ _ _ y) (fun _ h => h.elim) (fun _ _ => trivial) H9.out.2.1 H9.out.2.1.size (by have h6 := HM6.out; have := HX12.out; have := X.out; simp only [List.nil_append, List.length_append, List.length_take, List.length_cons, List.length_nil]; omega) ?_; intro v10 w10 hR10 hB10 _ _; obtain ⟨A10, c10, e10⟩ := Kd.R_slice hR10; obtain ⟨n10, hn10⟩ : ∃ q, q = ([] ++ (x.f1.take xk.toNat) ++ [(⟨sid, sbk⟩ : S71)] ++ (x.f1.drop xk.toNat)).length := ⟨_, rfl⟩; rw [← hn10] at e10; subst e10; have H10 := Lib.hid (And.intro hR10 (And.intro hB10 hn10)); clear qq1 qq3 qqf qqe1 qqe5 qqez; have j1 := (blk_cell (F.out _ (F2.out _ hB10).1).2.1 0).trans rfl; have j3 := (blk_cell (F.out _ (F2.out _ hB10).1).2.2.1 0).trans rfl; have jf := blk_frozen (F.out _ (F2.out _ hB10).1).2.2.1 0; have je1 := (blk_cell (F2.out _ hB10).2 1).trans rfl; have je5 := (blk_cell (F2.out _ hB10).2 5).trans rfl; have jez := blk_frozen (F2.out _ hB10).2 5; clear hR10 hB10 hn10 P3))
          clear j1 j3 jf je1 je5 jez
          have q10 := F2.out _ H10.out.2.1
          have F10 := F.out _ q10.1
          have hgx := HGX.out
          have hlt2 := blk_lt (F.out _ (Below.refl _ _)).2.2.1
          have HE27 : (w10.setCell ⟨w3g, 5, none⟩ (.slice A10 n10 c10)).heap[w3g]? = some (.cells #[.int .i64 x.f0.f0, .int .i64 x.f0.f1, .int .i64 x.f0.f2, .string x.f0.f3, .bool x.f0.f4, .slice A10 n10 c10, .int .i64 x.f2] 68 (0, 0)) := blk_put q10.2 5 _ rfl
          have HT27 := blk_far F10.2.1 (p := ⟨w3g, 5, none⟩) (by show w.heap.size ≠ w3g; omega) (.slice A10 n10 c10)
          have HO27 := blk_far F10.2.2.1 (p := ⟨w3g, 5, none⟩) (by show (w.heap.size + 1) ≠ w3g; omega) (.slice A10 n10 c10)
          have HS27 := Kd.S_far F10.2.2.2 (p := ⟨w3g, 5, none⟩) (fun k hk => by have h2 := hk.2; show k ≠ w3g; omega) (.slice A10 n10 c10)
          have HB27 : Below w.heap.size w (w10.setCell ⟨w3g, 5, none⟩ (.slice A10 n10 c10)) := below_set F10.1 (by omega)
          have hcat : ([] ++ (x.f1.take xk.toNat) ++ [(⟨sid, sbk⟩ : S71)] ++ (x.f1.drop xk.toNat)) = insL ltA (⟨sid, sbk⟩ : S71) x.f1 := by rw [insL_at ltA (⟨sid, sbk⟩ : S71) x.f1 xk.toNat (by have := X.out; omega) HLT.out (fun h => HGE.out _ h (Nat.le_refl _) (by have := X.out; omega)), List.nil_append, List.append_assoc]; rfl
          have HR27 : k71.R 71 (w10.setCell ⟨w3g, 5, none⟩ (.slice A10 n10 c10)) w.heap.size (fun k => wx.heap.size ≤ k) (.slice A10 n10 c10) (insL ltA (⟨sid, sbk⟩ : S71) x.f1) := by
            have q := Kd.R_lower (base' := w.heap.size) (Kd.R_mono (ok' := fun k => wx.heap.size ≤ k) (Kd.R_far (Kd.R_bound H10.out.1) (p := ⟨w3g, 5, none⟩) (fun k hk => by have h2 := hk.2.1; show k ≠ w3g; omega) (.slice A10 n10 c10)) (fun k hk => hk.2.1)) (by omega)
            rw [hcat] at q
            exact q
          clear q10 F10 hcat
          generalize (w10.setCell ⟨w3g, 5, none⟩ (.slice A10 n10 c10)) = w27 at HE27 HT27 HO27 HS27 HB27 HR27 ⊢
          have hS27 : sEnt w27 w.heap.size (fun k => w.heap.size + 2 ≤ k ∧ ¬ wx.heap.size ≤ k) (.slice (some ⟨g, 0, none⟩) E.length c5) E := Kd.S_mono HS27 (fun k hk => ⟨hk.1, by have := hk.2; omega⟩)
          obtain ⟨okj, cs, _, hM, _, _, hokj, hH⟩ := Kd.S_elem hS27 z68 (kn : Int) (by omega) hkz
          rw [show ((kn : Int)).toNat = kn from Int.toNat_natCast kn, ← HX.out] at hM
          obtain ⟨v5, ecs, hR5⟩ := k68_openM hM
          subst ecs
          have hH' := Kd.H_more (ok := fun k => w.heap.size + 2 ≤ k) (okg := fun k => wx.heap.size ≤ k) hH (fun k hk => by have h2 : wx.heap.size ≤ k := hk; show w.heap.size + 2 ≤ k; omega)
          have k0 : w27.cell? ⟨g, kn * 7, none⟩ = some (.int .i64 x.f0.f0) := (el_cell hH' (by omega) hkz 0 (by decide) _ rfl).1
          have k1 : w27.cell? ⟨g, kn * 7 + 1, none⟩ = some (.int .i64 x.f0.f1) := (el_cell hH' (by omega) hkz 1 (by decide) _ rfl).1
          have k2 : w27.cell? ⟨g, kn * 7 + 2, none⟩ = some (.int .i64 x.f0.f2) := (el_cell hH' (by omega) hkz 2 (by decide) _ rfl).1
          have k3 : w27.cell? ⟨g, kn * 7 + 3, none⟩ = some (.string x.f0.f3) := (el_cell hH' (by omega) hkz 3 (by decide) _ rfl).1
          have k4 : w27.cell? ⟨g, kn * 7 + 4, none⟩ = some (.bool x.f0.f4) := (el_cell hH' (by omega) hkz 4 (by decide) _ rfl).1
          have k5 : w27.cell? ⟨g, kn * 7 + 5, none⟩ = some (v5) := (el_cell hH' (by omega) hkz 5 (by decide) _ rfl).1
          have k6 : w27.cell? ⟨g, kn * 7 + 6, none⟩ = some (.int .i64 x.f2) := (el_cell hH' (by omega) hkz 6 (by decide) _ rfl).1
          have l0 : w27.frozen? ⟨g, kn * 7, none⟩ = false := (el_cell hH' (by omega) hkz 0 (by decide) _ rfl).2
          have l1 : w27.frozen? ⟨g, kn * 7 + 1, none⟩ = false := (el_cell hH' (by omega) hkz 1 (by decide) _ rfl).2
          have l2 : w27.frozen? ⟨g, kn * 7 + 2, none⟩ = false := (el_cell hH' (by omega) hkz 2 (by decide) _ rfl).2
          have l3 : w27.frozen? ⟨g, kn * 7 + 3, none⟩ = false := (el_cell hH' (by omega) hkz 3 (by decide) _ rfl).2
          have l4 : w27.frozen? ⟨g, kn * 7 + 4, none⟩ = false := (el_cell hH' (by omega) hkz 4 (by decide) _ rfl).2
          have l5 : w27.frozen? ⟨g, kn * 7 + 5, none⟩ = false := (el_cell hH' (by omega) hkz 5 (by decide) _ rfl).2
          have l6 : w27.frozen? ⟨g, kn * 7 + 6, none⟩ = false := (el_cell hH' (by omega) hkz 6 (by decide) _ rfl).2
          have m0 := (blk_cell HE27 0).trans rfl
          have m1 := (blk_cell HE27 1).trans rfl
          have m2 := (blk_cell HE27 2).trans rfl
          have m3 := (blk_cell HE27 3).trans rfl
          have m4 := (blk_cell HE27 4).trans rfl
          have m5 := (blk_cell HE27 5).trans rfl
          have m6 := (blk_cell HE27 6).trans rfl
          have mt := (blk_cell HT27 0).trans rfl
          have HH := Lib.hid hH'
          have HALL := Lib.hid (And.intro HT27 (And.intro HO27 (And.intro HB27 HR27)))
          have HOKJ := Lib.hid hokj
          clear HE27 HT27 HO27 HS27 HB27 HR27 hS27 hM hH hH' hR5 hokj hgx hlt2
          go_upto_region 28 with fail
          clear k0 l0 m0 k1 l1 m1 k2 l2 m2 k3 l3 m3 k4 l4 m4 k5 l5 m5 k6 l6 m6 mt
          have hg := HG.out
          have hgx := HGX.out
          have hlt2 := blk_lt (F.out _ (Below.refl _ _)).2.2.1
          have HT28 : (((((((w27.setCell ⟨g, kn * 7, none⟩ (.int .i64 x.f0.f0)).setCell ⟨g, kn * 7 + 1, none⟩ (.int .i64 x.f0.f1)).setCell ⟨g, kn * 7 + 2, none⟩ (.int .i64 x.f0.f2)).setCell ⟨g, kn * 7 + 3, none⟩ (.string x.f0.f3)).setCell ⟨g, kn * 7 + 4, none⟩ (.bool x.f0.f4)).setCell ⟨g, kn * 7 + 5, none⟩ (.slice A10 n10 c10)).setCell ⟨g, kn * 7 + 6, none⟩ (.int .i64 x.f2)).heap[w.heap.size]? = some (T1 (.slice (some ⟨g, 0, none⟩) E.length c5)) := (blk_far (blk_far (blk_far (blk_far (blk_far (blk_far (blk_far HALL.out.1 (p := ⟨g, kn * 7, none⟩) (by show w.heap.size ≠ g; omega) _) (p := ⟨g, kn * 7 + 1, none⟩) (by show w.heap.size ≠ g; omega) _) (p := ⟨g, kn * 7 + 2, none⟩) (by show w.heap.size ≠ g; omega) _) (p := ⟨g, kn * 7 + 3, none⟩) (by show w.heap.size ≠ g; omega) _) (p := ⟨g, kn * 7 + 4, none⟩) (by show w.heap.size ≠ g; omega) _) (p := ⟨g, kn * 7 + 5, none⟩) (by show w.heap.size ≠ g; omega) _) (p := ⟨g, kn * 7 + 6, none⟩) (by show w.heap.size ≠ g; omega) _)
          have HO28 : (((((((w27.setCell ⟨g, kn * 7, none⟩ (.int .i64 x.f0.f0)).setCell ⟨g, kn * 7 + 1, none⟩ (.int .i64 x.f0.f1)).setCell ⟨g, kn * 7 + 2, none⟩ (.int .i64 x.f0.f2)).setCell ⟨g, kn * 7 + 3, none⟩ (.string x.f0.f3)).setCell ⟨g, kn * 7 + 4, none⟩ (.bool x.f0.f4)).setCell ⟨g, kn * 7 + 5, none⟩ (.slice A10 n10 c10)).setCell ⟨g, kn * 7 + 6, none⟩ (.int .i64 x.f2)).heap[(w.heap.size + 1)]? = some (T1 (.slice none 0 0)) := (blk_far (blk_far (blk_far (blk_far (blk_far (blk_far (blk_far HALL.out.2.1 (p := ⟨g, kn * 7, none⟩) (by show (w.heap.size + 1) ≠ g; omega) _) (p := ⟨g, kn * 7 + 1, none⟩) (by show (w.heap.size + 1) ≠ g; omega) _) (p := ⟨g, kn * 7 + 2, none⟩) (by show (w.heap.size + 1) ≠ g; omega) _) (p := ⟨g, kn * 7 + 3, none⟩) (by show (w.heap.size + 1) ≠ g; omega) _) (p := ⟨g, kn * 7 + 4, none⟩) (by show (w.heap.size + 1) ≠ g; omega) _) (p := ⟨g, kn * 7 + 5, none⟩) (by show (w.heap.size + 1) ≠ g; omega) _) (p := ⟨g, kn * 7 + 6, none⟩) (by show (w.heap.size + 1) ≠ g; omega) _)
          have HB28 : Below w.heap.size w (((((((w27.setCell ⟨g, kn * 7, none⟩ (.int .i64 x.f0.f0)).setCell ⟨g, kn * 7 + 1, none⟩ (.int .i64 x.f0.f1)).setCell ⟨g, kn * 7 + 2, none⟩ (.int .i64 x.f0.f2)).setCell ⟨g, kn * 7 + 3, none⟩ (.string x.f0.f3)).setCell ⟨g, kn * 7 + 4, none⟩ (.bool x.f0.f4)).setCell ⟨g, kn * 7 + 5, none⟩ (.slice A10 n10 c10)).setCell ⟨g, kn * 7 + 6, none⟩ (.int .i64 x.f2)) := (Below.setCell (p := ⟨g, kn * 7 + 6, none⟩) (Below.setCell (p := ⟨g, kn * 7 + 5, none⟩) (Below.setCell (p := ⟨g, kn * 7 + 4, none⟩) (Below.setCell (p := ⟨g, kn * 7 + 3, none⟩) (Below.setCell (p := ⟨g, kn * 7 + 2, none⟩) (Below.setCell (p := ⟨g, kn * 7 + 1, none⟩) (Below.setCell (p := ⟨g, kn * 7, none⟩) HALL.out.2.2.1 (by show w.heap.size ≤ g; omega) _) (by show w.heap.size ≤ g; omega) _) (by show w.heap.size ≤ g; omega) _) (by show w.heap.size ≤ g; omega) _) (by show w.heap.size ≤ g; omega) _) (by show w.heap.size ≤ g; omega) _) (by show w.heap.size ≤ g; omega) _)
          have HR28 : k71.R 71 (((((((w27.setCell ⟨g, kn * 7, none⟩ (.int .i64 x.f0.f0)).setCell ⟨g, kn * 7 + 1, none⟩ (.int .i64 x.f0.f1)).setCell ⟨g, kn * 7 + 2, none⟩ (.int .i64 x.f0.f2)).setCell ⟨g, kn * 7 + 3, none⟩ (.string x.f0.f3)).setCell ⟨g, kn * 7 + 4, none⟩ (.bool x.f0.f4)).setCell ⟨g, kn * 7 + 5, none⟩ (.slice A10 n10 c10)).setCell ⟨g, kn * 7 + 6, none⟩ (.int .i64 x.f2)) w.heap.size (fun k => wx.heap.size ≤ k) (.slice A10 n10 c10) (insL ltA (⟨sid, sbk⟩ : S71) x.f1) := (Kd.R_far (Kd.R_far (Kd.R_far (Kd.R_far (Kd.R_far (Kd.R_far (Kd.R_far HALL.out.2.2.2 (p := ⟨g, kn * 7, none⟩) (fun k hk => by have h2 : wx.heap.size ≤ k := hk; show k ≠ g; omega) _) (p := ⟨g, kn * 7 + 1, none⟩) (fun k hk => by have h2 : wx.heap.size ≤ k := hk; show k ≠ g; omega) _) (p := ⟨g, kn * 7 + 2, none⟩) (fun k hk => by have h2 : wx.heap.size ≤ k := hk; show k ≠ g; omega) _) (p := ⟨g, kn * 7 + 3, none⟩) (fun k hk => by have h2 : wx.heap.size ≤ k := hk; show k ≠ g; omega) _) (p := ⟨g, kn * 7 + 4, none⟩) (fun k hk => by have h2 : wx.heap.size ≤ k := hk; show k ≠ g; omega) _) (p := ⟨g, kn * 7 + 5, none⟩) (fun k hk => by have h2 : wx.heap.size ≤ k := hk; show k ≠ g; omega) _) (p := ⟨g, kn * 7 + 6, none⟩) (fun k hk => by have h2 : wx.heap.size ≤ k := hk; show k ≠ g; omega) _)
          have HH28 : Kd.H k68 68 (((((((w27.setCell ⟨g, kn * 7, none⟩ (.int .i64 x.f0.f0)).setCell ⟨g, kn * 7 + 1, none⟩ (.int .i64 x.f0.f1)).setCell ⟨g, kn * 7 + 2, none⟩ (.int .i64 x.f0.f2)).setCell ⟨g, kn * 7 + 3, none⟩ (.string x.f0.f3)).setCell ⟨g, kn * 7 + 4, none⟩ (.bool x.f0.f4)).setCell ⟨g, kn * 7 + 5, none⟩ (.slice A10 n10 c10)).setCell ⟨g, kn * 7 + 6, none⟩ (.int .i64 x.f2)) w.heap.size (fun k => w.heap.size + 2 ≤ k) (.slice (some ⟨g, 0, none⟩) E.length c5) E (kn : Int) (fun k => okj k ∨ wx.heap.size ≤ k) [.int .i64 x.f0.f0, .int .i64 x.f0.f1, .int .i64 x.f0.f2, .string x.f0.f3, .bool x.f0.f4, .slice A10 n10 c10, .int .i64 x.f2] := (el_put (el_put (el_put (el_put (el_put (el_put (el_put HH.out (by omega) hkz 0 (by decide) rfl (.int .i64 x.f0.f0) rfl).1 (by omega) hkz 1 (by decide) rfl (.int .i64 x.f0.f1) rfl).1 (by omega) hkz 2 (by decide) rfl (.int .i64 x.f0.f2) rfl).1 (by omega) hkz 3 (by decide) rfl (.string x.f0.f3) rfl).1 (by omega) hkz 4 (by decide) rfl (.bool x.f0.f4) rfl).1 (by omega) hkz 5 (by decide) rfl (.slice A10 n10 c10) rfl).1 (by omega) hkz 6 (by decide) rfl (.int .i64 x.f2) rfl).1
          generalize (((((((w27.setCell ⟨g, kn * 7, none⟩ (.int .i64 x.f0.f0)).setCell ⟨g, kn * 7 + 1, none⟩ (.int .i64 x.f0.f1)).setCell ⟨g, kn * 7 + 2, none⟩ (.int .i64 x.f0.f2)).setCell ⟨g, kn * 7 + 3, none⟩ (.string x.f0.f3)).setCell ⟨g, kn * 7 + 4, none⟩ (.bool x.f0.f4)).setCell ⟨g, kn * 7 + 5, none⟩ (.slice A10 n10 c10)).setCell ⟨g, kn * 7 + 6, none⟩ (.int .i64 x.f2)) = w28 at HT28 HO28 HB28 HR28 HH28 ⊢
          have hS28 := Kd.S_far (Kd.H_back HH28 (k68_mkM w28 w.heap.size (fun k => wx.heap.size ≤ k) (alX sid sbk x) HR28) (fun k h => .inr h)) (p := ⟨(w.heap.size + 1), 0, none⟩) (fun k hk => by have h2 : w.heap.size + 2 ≤ k := hk; show k ≠ (w.heap.size + 1); omega) (.slice (some ⟨g, 0, none⟩) E.length c5)
          rw [show ((kn : Int)).toNat = kn from Int.toNat_natCast kn] at hS28
          have n1 := (blk_cell HT28 0).trans rfl
          have n3 := (blk_cell HO28 0).trans rfl
          have nf := blk_frozen HO28 0
          have HS28 := Lib.hid hS28
          have HX28 := Lib.hid (And.intro HO28 HB28)
          clear HT28 HO28 HB28 HR28 HH28 hS28 hg hgx hlt2
          go_wp2
          have hcode : code = 0 := by rw [HCODE.out.1]; unfold alC1; rw [if_pos HSZ.out, if_neg (by rw [HANY.out]; decide), if_neg (by have := HN12.out; have := HX12.out; omega)]
          have hRe : R = E.set kn (alX sid sbk x) := by rw [HCODE.out.2, hcode, if_pos rfl]
          rw [hcode, hRe]
          refine bodyPost_ret (results_cell_tmp rfl _ _ (w.heap.size + 1) 38 #[(.slice (some ⟨g, 0, none⟩) E.length c5)] (0, 0) _ rfl (blk_put HX28.out.1 0 _ rfl) Tryd.underlying38 rfl (by kernel_rfl)) rfl ?_
          have hln : (E.set kn (alX sid sbk x)).length = E.length := List.length_set
          exact ⟨_, c5, by rw [hln]; rfl, by rw [hln]; exact HC5.out, by have q := (S_C HS28.out).1; rw [hln]; exact q, Below.setCell (p := ⟨(w.heap.size + 1), 0, none⟩) HX28.out.2 (by show w.heap.size ≤ (w.heap.size + 1); omega) _⟩
end Go.Proofs.YtnghcnkffbjddaaDoorV.Aes
