/- impl.GoodTable, walked over its entries. Conditions: texts of at most 1048576 bytes, at most 1048576 entries and servers each. -/
import Derived.Test.YtnghcnkffbjddaaDoorVTab2
namespace Go.Proofs.YtnghcnkffbjddaaDoorV.Aes
open Go.RowKit Go.Proofs.YtnghcnkffbjddaaDoorV.PrintWords Go.Proofs.YtnghcnkffbjddaaDoorV.PrintLast Go.Proofs.YtnghcnkffbjddaaDoorV.PrintMore Go.Proofs.YtnghcnkffbjddaaDoorV.Mem
set_option linter.unusedVariables false
set_option linter.unusedSimpArgs false

open Go.Maps Go.WideShapes
def zE : Ent := ⟨0, 0, 0, ByteArray.empty, false, [], 0⟩
def entAt (E : List Ent) (i : Nat) : Bool := goodE (E.getD i zE) && (decide (i = 0) || decide ((E.getD (i - 1) zE).s0 < (E.getD i zE).s0))
def tabOk (E : List Ent) : Bool := (List.range E.length).all (entAt E) && decide (E.length ≤ 3)
theorem tab_no (E : List Ent) (i : Nat) (hi : i < E.length) (h : entAt E i = false) : tabOk E = false := by
  unfold tabOk
  have : (List.range E.length).all (entAt E) = false := by
    rw [List.all_eq_false]
    exact ⟨i, List.mem_range.mpr hi, by rw [h]; decide⟩
  rw [this]; rfl
theorem tab_all (E : List Ent) (h : ∀ i, i < E.length → entAt E i = true) : tabOk E = decide (E.length ≤ 3) := by
  unfold tabOk
  have : (List.range E.length).all (entAt E) = true := List.all_eq_true.mpr fun i hi => h i (List.mem_range.mp hi)
  rw [this]; rfl
theorem ent_below {W W' : World} {A : Option Addr} {n : Nat} {E : List Ent} (h : ReadsRow (entK W) 7 W A n E) (hB : Below W.heap.size W W') : ReadsRow (entK W') 7 W' A n E := by
  refine h.imp_ hB fun x cs hx => ?_
  obtain ⟨A5, c5, e, hl, hr⟩ := hx
  exact ⟨A5, c5, e, hl, pr_below hr hB⟩
theorem ent_at {W : World} {A : Option Addr} {n : Nat} {E : List Ent} (h : ReadsRow (entK W) 7 W A n E) (i : Int) (h0 : 0 ≤ i) (h1 : i < n) : ∃ ad A5 c5, A = some ad ∧ W.cell? (ad.add (i.toNat * 7)) = some (.int .i64 (E.getD i.toNat zE).s0) ∧ W.cell? ⟨(ad.add (i.toNat * 7)).block, (ad.add (i.toNat * 7)).off + 1, none⟩ = some (.int .i64 (E.getD i.toNat zE).s1) ∧ W.cell? ⟨(ad.add (i.toNat * 7)).block, (ad.add (i.toNat * 7)).off + 2, none⟩ = some (.int .i64 (E.getD i.toNat zE).s2) ∧ W.cell? ⟨(ad.add (i.toNat * 7)).block, (ad.add (i.toNat * 7)).off + 3, none⟩ = some (.string (E.getD i.toNat zE).ky) ∧ W.cell? ⟨(ad.add (i.toNat * 7)).block, (ad.add (i.toNat * 7)).off + 4, none⟩ = some (.bool (E.getD i.toNat zE).fb) ∧ W.cell? ⟨(ad.add (i.toNat * 7)).block, (ad.add (i.toNat * 7)).off + 5, none⟩ = some (.slice A5 (E.getD i.toNat zE).L.length c5) ∧ W.cell? ⟨(ad.add (i.toNat * 7)).block, (ad.add (i.toNat * 7)).off + 6, none⟩ = some (.int .i64 (E.getD i.toNat zE).nx) ∧ ReadsRow prK 2 W A5 (E.getD i.toNat zE).L.length (E.getD i.toNat zE).L := by
  obtain ⟨ad, c, e, _, hK, hc0⟩ := h.get_ zE i h0 h1
  obtain ⟨A5, c5, rfl, _, hr⟩ := hK
  exact ⟨ad, A5, c5, e, hc0 0 _ rfl, by rw [← add_field _ _ 1 (by omega)]; exact hc0 1 _ rfl, by rw [← add_field _ _ 2 (by omega)]; exact hc0 2 _ rfl, by rw [← add_field _ _ 3 (by omega)]; exact hc0 3 _ rfl, by rw [← add_field _ _ 4 (by omega)]; exact hc0 4 _ rfl, by rw [← add_field _ _ 5 (by omega)]; exact hc0 5 _ rfl, by rw [← add_field _ _ 6 (by omega)]; exact hc0 6 _ rfl, hr⟩
def okE (x : Ent) : Prop := x.L.length ≤ 1048576 ∧ ∀ p, p ∈ x.L → p.1.size ≤ 1048576 ∧ p.2.size ≤ 1048576
def TabCells (A : Option Addr) (n c : Nat) : Obj := .cells #[.slice A n c] 38 (0, 0)
set_option maxHeartbeats 40000000 in
set_option maxRecDepth 100000 in
theorem table_walk (A : Option Addr) (c : Nat) (E : List Ent) (w : World) (hr : ReadsRow (entK w) 7 w A E.length E) (hn : E.length ≤ 1048576) (hs : ∀ x, x ∈ E → okE x) :
    Calls Tryd.prog 30 #[.agg #[.slice A E.length c]] w fun e' w' => e' = .returned (.bool (tabOk E)) ∧ Below w.heap.size w w' := by
  have mixed : Tryd.prog.follows .mixedOrders = true := by kernel_rfl
  have HR := Aside0.mk hr
  have HN := Aside0.mk hn
  have HS := Aside0.mk hs
  clear hr hn hs
  go_enter Tryd.func30, Tryd.ntmps30
  have hbx : (w.alloc (TabCells A E.length c)).heap[w.heap.size]? = some (TabCells A E.length c) := heap_alloc_new w _
  have lx0 := (blk_cell hbx 0).trans rfl
  have S0 : Aside0 ((w.alloc (TabCells A E.length c)).heap[w.heap.size]? = some (TabCells A E.length c) ∧ Below w.heap.size w (w.alloc (TabCells A E.length c))) := ⟨hbx, (Below.refl _ _).alloc (Nat.le_refl _) _⟩
  clear hbx
  unfold TabCells at lx0
  go_wp2
  clear lx0
  obtain ⟨gt, hgt⟩ : ∃ g, g = w.heap.size := ⟨_, rfl⟩
  have S0' : Aside0 ((w.alloc (TabCells A E.length c)).heap[gt]? = some (TabCells A E.length c) ∧ Below w.heap.size w (w.alloc (TabCells A E.length c))) := ⟨by rw [hgt]; exact S0.out.1, S0.out.2⟩
  clear S0
  have S0 := S0'
  clear S0'
  rw [← hgt]
  have HGT := Aside0.mk hgt
  clear hgt
  go_loopg [8] E.length (fun g1 vi wr => ∃ xi : Int, vi = .int .i64 xi ∧ Aside0 (0 ≤ xi ∧ xi ≤ E.length ∧ E.length - xi.toNat ≤ g1) ∧ Aside0 (wr.heap[gt]? = some (TabCells A E.length c) ∧ Below w.heap.size w wr) ∧ Aside0 (∀ j, j < xi.toNat → entAt E j = true))
  case atStart => exact ⟨0, rfl, ⟨by omega, by omega, by simp⟩, S0, ⟨fun j hj => absurd hj (Nat.not_lt_zero _)⟩⟩
  case round =>
    clear S0
    obtain ⟨xi, rfl, X, S1, HALL⟩ := hrel
    have p1 : 0 ≤ xi := X.out.1
    by_cases hlt : xi < (E.length : Int)
    · have ra : IntKind.i64.wrap (xi + 1) = xi + 1 := by rw [IntKind.wrap_i64]; have := HN.out; omega
      obtain ⟨ad, A5, c5, rfl, hx0, hx1, hx2, hx3, hx4, hx5, hx6, hrr⟩ := ent_at (ent_below HR.out S1.out.2) xi p1 hlt
      have hmem : E.getD xi.toNat zE ∈ E := by
        rw [List.getD_eq_getElem?_getD, List.getElem?_eq_getElem (show xi.toNat < E.length by omega)]; exact List.getElem_mem _
      have HOK := Aside0.mk (HS.out _ hmem)
      obtain ⟨x, hx⟩ : ∃ x, x = E.getD xi.toNat zE := ⟨_, rfl⟩
      rw [← hx] at hx0 hx1 hx2 hx3 hx4 hx5 hx6 hrr HOK
      have HX := Aside0.mk hx
      have HRR := Aside0.mk hrr
      clear hx hmem hrr
      go_upto_region 4 with ((with_reducible refine gate_dst (N := 4) rfl ?_); refine box_event ?hg (N := 4) ?hd (cs := #[.int .i64 0, .int .i64 0, .int .i64 0, .string (⟨#[]⟩ : ByteArray), .bool false, .slice none 0 0, .int .i64 0]) (t := 68) ?hr ?_; (case hd => rfl); (case hg => rfl); (case hr => first | (go_simp; done) | (go_simp; rfl)); intro gb hgb w3 hbox hb3; have BX := Aside0.mk hbox; have B3 := Aside0.mk hb3; have GBH := Aside0.mk hgb; have hcz0 := (blk_cell hbox 0).trans rfl; have hfz0 := blk_frozen hbox 0; have hcz1 := (blk_cell hbox 1).trans rfl; have hfz1 := blk_frozen hbox 1; have hcz2 := (blk_cell hbox 2).trans rfl; have hfz2 := blk_frozen hbox 2; have hcz3 := (blk_cell hbox 3).trans rfl; have hfz3 := blk_frozen hbox 3; have hcz4 := (blk_cell hbox 4).trans rfl; have hfz4 := blk_frozen hbox 4; have hcz5 := (blk_cell hbox 5).trans rfl; have hfz5 := blk_frozen hbox 5; have hcz6 := (blk_cell hbox 6).trans rfl; have hfz6 := blk_frozen hbox 6; clear hbox hb3 hgb)
      have S4 : Aside0 ((((((((w3.setCell ⟨gb, 0, none⟩ (.int .i64 x.s0)).setCell ⟨gb, 1, none⟩ (.int .i64 x.s1)).setCell ⟨gb, 2, none⟩ (.int .i64 x.s2)).setCell ⟨gb, 3, none⟩ (.string x.ky)).setCell ⟨gb, 4, none⟩ (.bool x.fb)).setCell ⟨gb, 5, none⟩ (.slice A5 x.L.length c5)).setCell ⟨gb, 6, none⟩ (.int .i64 x.nx)).heap[gb]? = some (EntCells x A5 c5) ∧ (((((((w3.setCell ⟨gb, 0, none⟩ (.int .i64 x.s0)).setCell ⟨gb, 1, none⟩ (.int .i64 x.s1)).setCell ⟨gb, 2, none⟩ (.int .i64 x.s2)).setCell ⟨gb, 3, none⟩ (.string x.ky)).setCell ⟨gb, 4, none⟩ (.bool x.fb)).setCell ⟨gb, 5, none⟩ (.slice A5 x.L.length c5)).setCell ⟨gb, 6, none⟩ (.int .i64 x.nx)).heap[gt]? = some (TabCells (some ad) E.length c) ∧ Below w.heap.size w (((((((w3.setCell ⟨gb, 0, none⟩ (.int .i64 x.s0)).setCell ⟨gb, 1, none⟩ (.int .i64 x.s1)).setCell ⟨gb, 2, none⟩ (.int .i64 x.s2)).setCell ⟨gb, 3, none⟩ (.string x.ky)).setCell ⟨gb, 4, none⟩ (.bool x.fb)).setCell ⟨gb, 5, none⟩ (.slice A5 x.L.length c5)).setCell ⟨gb, 6, none⟩ (.int .i64 x.nx))) ∧ Aside0 (ReadsRow prK 2 (((((((w3.setCell ⟨gb, 0, none⟩ (.int .i64 x.s0)).setCell ⟨gb, 1, none⟩ (.int .i64 x.s1)).setCell ⟨gb, 2, none⟩ (.int .i64 x.s2)).setCell ⟨gb, 3, none⟩ (.string x.ky)).setCell ⟨gb, 4, none⟩ (.bool x.fb)).setCell ⟨gb, 5, none⟩ (.slice A5 x.L.length c5)).setCell ⟨gb, 6, none⟩ (.int .i64 x.nx)) A5 x.L.length x.L) := by
        have hb4 : Below wr.heap.size wr (((((((w3.setCell ⟨gb, 0, none⟩ (.int .i64 x.s0)).setCell ⟨gb, 1, none⟩ (.int .i64 x.s1)).setCell ⟨gb, 2, none⟩ (.int .i64 x.s2)).setCell ⟨gb, 3, none⟩ (.string x.ky)).setCell ⟨gb, 4, none⟩ (.bool x.fb)).setCell ⟨gb, 5, none⟩ (.slice A5 x.L.length c5)).setCell ⟨gb, 6, none⟩ (.int .i64 x.nx)) := (below_set (below_set (below_set (below_set (below_set (below_set (below_set B3.out (by rw [GBH.out]; exact Nat.le_refl _)) (by rw [GBH.out]; exact Nat.le_refl _)) (by rw [GBH.out]; exact Nat.le_refl _)) (by rw [GBH.out]; exact Nat.le_refl _)) (by rw [GBH.out]; exact Nat.le_refl _)) (by rw [GBH.out]; exact Nat.le_refl _)) (by rw [GBH.out]; exact Nat.le_refl _))
        exact ⟨⟨(blk_put (blk_put (blk_put (blk_put (blk_put (blk_put (blk_put BX.out 0 _ rfl) 1 _ rfl) 2 _ rfl) 3 _ rfl) 4 _ rfl) 5 _ rfl) 6 _ rfl), blk_below S1.out.1 hb4, S1.out.2.trans (hb4.mono S1.out.2.size)⟩, ⟨pr_below HRR.out hb4⟩⟩
      obtain ⟨S4, HRX⟩ := S4
      clear hcz0 hcz1 hcz2 hcz3 hcz4 hcz5 hcz6 hfz0 hfz1 hfz2 hfz3 hfz4 hfz5 hfz6 BX B3 GBH hx0 hx1 hx2 hx3 hx4 hx5 hx6 S1 HRR
      generalize (((((((w3.setCell ⟨gb, 0, none⟩ (.int .i64 x.s0)).setCell ⟨gb, 1, none⟩ (.int .i64 x.s1)).setCell ⟨gb, 2, none⟩ (.int .i64 x.s2)).setCell ⟨gb, 3, none⟩ (.string x.ky)).setCell ⟨gb, 4, none⟩ (.bool x.fb)).setCell ⟨gb, 5, none⟩ (.slice A5 x.L.length c5)).setCell ⟨gb, 6, none⟩ (.int .i64 x.nx)) = w4 at S4 HRX ⊢
      have HGD : Aside0 (∀ W, Below w4.heap.size w4 W → Calls Tryd.prog 61 #[.pointer (some ⟨gb, 0, none⟩)] W fun e' w' => e' = .returned (.bool (goodE x)) ∧ Below W.heap.size W w') := ⟨fun W hW => good_walk gb x A5 c5 W (blk_below S4.out.1 hW) (pr_below HRX.out hW) HOK.out.1 HOK.out.2⟩
      cases hgx : goodE x with
      | false =>
        rw [hgx] at HGD
        have hent : Aside0 (entAt E xi.toNat = false) := ⟨by unfold entAt; rw [← HX.out]; rw [hgx]; rfl⟩
        have la0 := fun d os => cell_regrown ((blk_cell S4.out.1 0).trans rfl) d os
        have lt0 := fun d os => cell_regrown ((blk_cell S4.out.2.1 0).trans rfl) d os
        have hgd := fun d os => Calls.regrown_of (HGD.out (Go.Sort.grow (redrawn w4 d) os) (below_regrown w4 d os))
        go_wp2_with fail
        refine wp_region_quiet_below (by assumption) (by kernel_rfl) ?_
        repeat (refine (wpQuiet_step (fun K hK => ?_) : _); go_simp; first | (refine hK _ ?_; clear hK K) | (apply Exists.intro; refine ⟨fun _ => ?_, hK _ ?_⟩; (go_at_call 61; with_reducible exact hgd _ _); clear hK K))
        refine wpQuiet_nil ?_
        intro _ hw'
        obtain ⟨⟨dq, osq⟩, hw''⟩ := hw'
        subst hw''
        have hbq := below_regrown w4 dq osq
        have S5 : Aside0 ((Go.Sort.grow (redrawn w4 dq) osq).heap[gt]? = some (TabCells (some ad) E.length c) ∧ Below w.heap.size w (Go.Sort.grow (redrawn w4 dq) osq)) := ⟨blk_below S4.out.2.1 hbq, S4.out.2.2.trans (hbq.mono S4.out.2.2.size)⟩
        clear la0 lt0 hgd hbq S4
        generalize Go.Sort.grow (redrawn w4 dq) osq = w5 at S5 ⊢
        go_wp2
        go_ret
        exact ⟨by rw [tab_no E xi.toNat (by omega) hent.out]; rfl, S5.out.2⟩
      | true =>
        rw [hgx] at HGD
        by_cases h2 : xi > 0
        · have h2a : decide (0 < xi) = true := decide_eq_true h2
          obtain ⟨ji, hji⟩ : ∃ j : Int, j = xi - 1 := ⟨_, rfl⟩
          have hjw : IntKind.i64.wrap (xi - 1) = ji := by rw [hji, IntKind.wrap_i64]; have := HN.out; omega
          have hj0 : 0 ≤ ji := by omega
          have hj1 : ji < (E.length : Int) := by omega
          obtain ⟨ad', _, _, e', hp0, _⟩ := ent_at (ent_below HR.out S4.out.2.2) ji hj0 hj1
          obtain rfl : ad = ad' := by injection e'
          clear e'
          obtain ⟨pv, hpv⟩ : ∃ pv, pv = (E.getD ji.toNat zE).s0 := ⟨_, rfl⟩
          rw [← hpv] at hp0
          have HPc := Aside0.mk hp0
          have HPV : Aside0 ((E.getD (xi.toNat - 1) zE).s0 = pv) := ⟨by rw [hpv, show ji.toNat = xi.toNat - 1 by omega]⟩
          have h0d : Aside0 (decide (xi.toNat = 0) = false) := ⟨decide_eq_false (by omega)⟩
          clear hp0 hpv hji
          by_cases h3 : pv ≥ x.s0
          · have h3a : decide (pv ≥ x.s0) = true := decide_eq_true h3
            have h3b : Aside0 (decide (pv < x.s0) = false) := ⟨decide_eq_false (by omega)⟩
            clear h3
            have hent : Aside0 (entAt E xi.toNat = false) := ⟨by unfold entAt; rw [← HX.out]; rw [hgx, HPV.out, h0d.out, h3b.out]; rfl⟩
            have la0 := fun d os => cell_regrown ((blk_cell S4.out.1 0).trans rfl) d os
            have lt0 := fun d os => cell_regrown ((blk_cell S4.out.2.1 0).trans rfl) d os
            have hgd := fun d os => Calls.regrown_of (HGD.out (Go.Sort.grow (redrawn w4 d) os) (below_regrown w4 d os))
            have lc0 := fun d os => cell_regrown (HPc.out) d os
            go_wp2_with fail
            refine wp_region_quiet_below (by assumption) (by kernel_rfl) ?_
            repeat (refine (wpQuiet_step (fun K hK => ?_) : _); go_simp; first | (refine hK _ ?_; clear hK K) | (apply Exists.intro; refine ⟨fun _ => ?_, hK _ ?_⟩; (go_at_call 61; with_reducible exact hgd _ _); clear hK K))
            refine wpQuiet_nil ?_
            intro _ hw'
            obtain ⟨⟨dq, osq⟩, hw''⟩ := hw'
            subst hw''
            have hbq := below_regrown w4 dq osq
            have S5 : Aside0 ((Go.Sort.grow (redrawn w4 dq) osq).heap[gt]? = some (TabCells (some ad) E.length c) ∧ Below w.heap.size w (Go.Sort.grow (redrawn w4 dq) osq)) := ⟨blk_below S4.out.2.1 hbq, S4.out.2.2.trans (hbq.mono S4.out.2.2.size)⟩
            clear la0 lt0 hgd lc0 hbq S4
            generalize Go.Sort.grow (redrawn w4 dq) osq = w5 at S5 ⊢
            go_wp2
            go_ret
            exact ⟨by rw [tab_no E xi.toNat (by omega) hent.out]; rfl, S5.out.2⟩
          · have h3a : decide (pv ≥ x.s0) = false := decide_eq_false h3
            have h3b : Aside0 (decide (pv < x.s0) = true) := ⟨decide_eq_true (by omega)⟩
            clear h3
            have hent : Aside0 (entAt E xi.toNat = true) := ⟨by unfold entAt; rw [← HX.out]; rw [hgx, HPV.out, h0d.out, h3b.out]; rfl⟩
            have la0 := fun d os => cell_regrown ((blk_cell S4.out.1 0).trans rfl) d os
            have lt0 := fun d os => cell_regrown ((blk_cell S4.out.2.1 0).trans rfl) d os
            have hgd := fun d os => Calls.regrown_of (HGD.out (Go.Sort.grow (redrawn w4 d) os) (below_regrown w4 d os))
            have lc0 := fun d os => cell_regrown (HPc.out) d os
            go_wp2_with fail
            refine wp_region_quiet_below (by assumption) (by kernel_rfl) ?_
            repeat (refine (wpQuiet_step (fun K hK => ?_) : _); go_simp; first | (refine hK _ ?_; clear hK K) | (apply Exists.intro; refine ⟨fun _ => ?_, hK _ ?_⟩; (go_at_call 61; with_reducible exact hgd _ _); clear hK K))
            refine wpQuiet_nil ?_
            intro _ hw'
            obtain ⟨⟨dq, osq⟩, hw''⟩ := hw'
            subst hw''
            have hbq := below_regrown w4 dq osq
            have S5 : Aside0 ((Go.Sort.grow (redrawn w4 dq) osq).heap[gt]? = some (TabCells (some ad) E.length c) ∧ Below w.heap.size w (Go.Sort.grow (redrawn w4 dq) osq)) := ⟨blk_below S4.out.2.1 hbq, S4.out.2.2.trans (hbq.mono S4.out.2.2.size)⟩
            clear la0 lt0 hgd lc0 hbq S4
            generalize Go.Sort.grow (redrawn w4 dq) osq = w5 at S5 ⊢
            go_wp2
            go_roundg (E.length - (xi + 1).toNat)
            case measure => have := X.out.2.2; omega
            case rel =>
              refine ⟨xi + 1, by first | rfl | rw [ra], ⟨by omega, by omega, Nat.le_refl _⟩, S5, ⟨fun j hj => ?_⟩⟩
              by_cases hjx : j < xi.toNat
              · exact HALL.out j hjx
              · obtain rfl : j = xi.toNat := by omega
                exact hent.out
        · have h2a : decide (0 < xi) = false := decide_eq_false h2
          have h0d : Aside0 (decide (xi.toNat = 0) = true) := ⟨decide_eq_true (by omega)⟩
          have hent : Aside0 (entAt E xi.toNat = true) := ⟨by unfold entAt; rw [← HX.out]; rw [hgx, h0d.out]; rfl⟩
          have la0 := fun d os => cell_regrown ((blk_cell S4.out.1 0).trans rfl) d os
          have lt0 := fun d os => cell_regrown ((blk_cell S4.out.2.1 0).trans rfl) d os
          have hgd := fun d os => Calls.regrown_of (HGD.out (Go.Sort.grow (redrawn w4 d) os) (below_regrown w4 d os))
          go_wp2_with fail
          refine wp_region_quiet_below (by assumption) (by kernel_rfl) ?_
          repeat (refine (wpQuiet_step (fun K hK => ?_) : _); go_simp; first | (refine hK _ ?_; clear hK K) | (apply Exists.intro; refine ⟨fun _ => ?_, hK _ ?_⟩; (go_at_call 61; with_reducible exact hgd _ _); clear hK K))
          refine wpQuiet_nil ?_
          intro _ hw'
          obtain ⟨⟨dq, osq⟩, hw''⟩ := hw'
          subst hw''
          have hbq := below_regrown w4 dq osq
          have S5 : Aside0 ((Go.Sort.grow (redrawn w4 dq) osq).heap[gt]? = some (TabCells (some ad) E.length c) ∧ Below w.heap.size w (Go.Sort.grow (redrawn w4 dq) osq)) := ⟨blk_below S4.out.2.1 hbq, S4.out.2.2.trans (hbq.mono S4.out.2.2.size)⟩
          clear la0 lt0 hgd hbq S4
          generalize Go.Sort.grow (redrawn w4 dq) osq = w5 at S5 ⊢
          go_wp2
          go_roundg (E.length - (xi + 1).toNat)
          case measure => have := X.out.2.2; omega
          case rel =>
            refine ⟨xi + 1, by first | rfl | rw [ra], ⟨by omega, by omega, Nat.le_refl _⟩, S5, ⟨fun j hj => ?_⟩⟩
            by_cases hjx : j < xi.toNat
            · exact HALL.out j hjx
            · obtain rfl : j = xi.toNat := by omega
              exact hent.out
    · have hx : xi = (E.length : Int) := by have := X.out.2.1; omega
      have hge := tab_all E (fun i hi => HALL.out i (by omega))
      have d0 := (blk_cell S1.out.1 0).trans rfl
      have SB := Aside0.mk S1.out.2
      have HGE := Aside0.mk hge
      clear S1 HALL hge
      by_cases h3 : E.length ≤ 3
      · have h3a : decide ((E.length : Int) ≤ 3) = true := decide_eq_true (by omega)
        go_wp2
        go_ret
        exact ⟨by rw [HGE.out, decide_eq_true h3]; first | rfl | (simp; done) | (simp [*]; done), SB.out⟩
      · have h3a : decide ((E.length : Int) ≤ 3) = false := decide_eq_false (by omega)
        go_wp2
        go_ret
        exact ⟨by rw [HGE.out, decide_eq_false h3]; first | rfl | (simp; done) | (simp [*]; done), SB.out⟩
end Go.Proofs.YtnghcnkffbjddaaDoorV.Aes
