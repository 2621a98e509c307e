/- (*impl.Entry).good, walked: the set of backends that stand in the map. Conditions: texts of at most 1048576 bytes, at most 1048576 servers. -/
import Derived.Test.YtnghcnkffbjddaaDoorVTab1
import Derived.Lib.QuietBelow
import Derived.BigRegion
import Derived.BigQuiet
import Derived.Deep.QuietTactic
import Derived.Deep.LoopGhost
namespace Go.Proofs.YtnghcnkffbjddaaDoorV.Aes
open Go.RowKit Go.Proofs.YtnghcnkffbjddaaDoorV.PrintWords Go.Proofs.YtnghcnkffbjddaaDoorV.PrintLast Go.Proofs.YtnghcnkffbjddaaDoorV.PrintMore Go.Proofs.YtnghcnkffbjddaaDoorV.Mem
set_option linter.unusedVariables false
set_option linter.unusedSimpArgs false

open Go.Maps Go.WideShapes Go.Proofs.YtnghcnkffbjddaaDoor.PImplG
theorem in_tells (x lo hi : Int) : impl_in.f x lo hi = some (inB lo hi x) := in_both x lo hi
theorem cfg_tells (s0 s1 s2 : Int) (ky : ByteArray) (fb : Bool) : impl_GoodConfig.f s0 s1 s2 ky fb = some (cfgB s0 s1 s2 ky) := by
  unfold impl_GoodConfig.f impl_isKey.f cfgB
  simp only [in_tells, Option.bind_some]
  cases h0 : inB 0 6 s0 with
  | false => rfl
  | true =>
    cases h1 : inB 1 15 s1 with
    | false => rfl
    | true =>
      cases h2 : inB 4 18 s2 with
      | false => rfl
      | true =>
        have e : wrap64 (s1 + s2) = s1 + s2 := by
          unfold inB at h1 h2
          simp only [Bool.and_eq_true, decide_eq_true_iff] at h1 h2
          unfold wrap64; omega
        rw [if_pos rfl, if_pos rfl, if_pos rfl, e]
        by_cases h3 : s1 + s2 ≤ 19
        · rw [if_pos h3, decide_eq_true h3]
          have hl : ky.toList.length = ky.size := by rw [Lib.toList_data]; simp
          by_cases h4 : ky.toList = ([] : List UInt8)
          · have : ky.size = 0 := by rw [h4] at hl; simpa using hl.symm
            rw [if_pos h4]; simp [this]
          · have h5 : ¬ ky.size = 0 := fun q => h4 (List.length_eq_zero_iff.mp (by omega))
            have h6 : ((ky.size : Int) == 16) = decide (ky.size = 16) := by
              rw [Bool.eq_iff_iff, beq_iff_eq, decide_eq_true_iff]; omega
            rw [if_neg h4, h6, decide_eq_false h5]; simp
        · rw [if_neg h3, decide_eq_false h3]; rfl
def EntCells (e : Ent) (A : Option Addr) (c : Nat) : Obj := .cells #[.int .i64 e.s0, .int .i64 e.s1, .int .i64 e.s2, .string e.ky, .bool e.fb, .slice A e.L.length c, .int .i64 e.nx] 68 (0, 0)
def SrvCells (x : ByteArray × ByteArray) : Obj := .cells #[.string x.1, .string x.2] 71 (0, 0)
theorem take_seen (L : List (ByteArray × ByteArray)) (i : Nat) (h : i < L.length) (t : ByteArray) : t ∈ (L.take (i + 1)).map (fun x => x.2) ↔ t = (L.getD i zP).2 ∨ t ∈ (L.take i).map (fun x => x.2) := by
  have e : (L.getD i zP) = L[i]'h := by rw [List.getD_eq_getElem?_getD, List.getElem?_eq_getElem h]; rfl
  rw [List.take_succ_eq_append_getElem h, List.map_append, List.mem_append, e]
  constructor
  · rintro (q | q)
    · exact .inr q
    · exact .inl (by simpa using q)
  · rintro (q | q)
    · exact .inr (by simpa using q)
    · exact .inl q
set_option maxHeartbeats 40000000 in
set_option maxRecDepth 100000 in
theorem good_walk (g : Nat) (e : Ent) (A : Option Addr) (c : Nat) (w : World) (hg : w.heap[g]? = some (EntCells e A c)) (hr : ReadsRow prK 2 w A e.L.length e.L) (hn : e.L.length ≤ 1048576) (hs : ∀ x, x ∈ e.L → x.1.size ≤ 1048576 ∧ x.2.size ≤ 1048576) :
    Calls Tryd.prog 61 #[.pointer (some ⟨g, 0, none⟩)] w fun e' w' => e' = .returned (.bool (goodE e)) ∧ Below w.heap.size w w' := by
  have mixed : Tryd.prog.follows .mixedOrders = true := by kernel_rfl
  have hmm := @run_makeMap Tryd.prog
  have HR := Aside0.mk hr
  have HN := Aside0.mk hn
  have HS := Aside0.mk hs
  have HG := Aside0.mk hg
  have lb5 := (blk_cell hg 5).trans rfl
  have hlt := blk_lt hg
  clear hr hn hs hg
  go_enter Tryd.func61, Tryd.ntmps61
  go_wp2
  have S0 : Aside0 ((w.alloc (.map #[] 0)).heap[g]? = some (EntCells e A c) ∧ SeenIs (w.alloc (.map #[] 0)) w.heap.size 0 [] ∧ Below w.heap.size w (w.alloc (.map #[] 0))) := ⟨blk_alloc HG.out _, seen_made w, (Below.refl _ _).alloc (Nat.le_refl _) _⟩
  have HGB0 : Aside0 (¬ g = w.heap.size) := ⟨by omega⟩
  obtain ⟨b, hb⟩ : ∃ b, b = w.heap.size := ⟨_, rfl⟩
  have HBL : Aside0 (w.heap.size ≤ b) := ⟨by omega⟩
  have S0' : Aside0 ((w.alloc (.map #[] 0)).heap[g]? = some (EntCells e A c) ∧ SeenIs (w.alloc (.map #[] 0)) b (0 : Int).toNat ((e.L.take (0 : Int).toNat).map (fun x => x.2)) ∧ Below w.heap.size w (w.alloc (.map #[] 0))) := ⟨S0.out.1, by rw [hb]; exact S0.out.2.1, S0.out.2.2⟩
  clear S0
  have S0 := S0'
  clear S0'
  have HGB0' : Aside0 (¬ g = b) := ⟨by rw [hb]; exact HGB0.out⟩
  rw [← hb]
  have HGB := HGB0'
  clear HGB0 HGB0' HG hb lb5 hlt
  go_loopg [12] e.L.length (fun g1 vi wr => ∃ xi : Int, vi = .int .i64 xi ∧ Aside0 (0 ≤ xi ∧ xi ≤ e.L.length ∧ e.L.length - xi.toNat ≤ g1) ∧ Aside0 (wr.heap[g]? = some (EntCells e A c) ∧ SeenIs wr b xi.toNat ((e.L.take xi.toNat).map (fun x => x.2)) ∧ Below w.heap.size w wr) ∧ Aside0 (∀ j, j < xi.toNat → srvAt e.s1 e.L j = true))
  case atStart => exact ⟨0, rfl, ⟨by omega, by omega, by simp⟩, S0, ⟨fun j hj => absurd hj (Nat.not_lt_zero _)⟩⟩
  case round =>
    clear S0
    obtain ⟨xi, rfl, X, S1, HALL⟩ := hrel
    have p1 : 0 ≤ xi := X.out.1
    by_cases hlt : xi < (e.L.length : Int)
    · have ra : IntKind.i64.wrap (xi + 1) = xi + 1 := by rw [IntKind.wrap_i64]; have := HN.out; omega
      obtain ⟨ad, rfl, hx0, hx1⟩ := pr_at (pr_below HR.out S1.out.2.2) xi p1 hlt
      obtain ⟨id, hid⟩ : ∃ id, id = (e.L.getD xi.toNat zP).1 := ⟨_, rfl⟩
      obtain ⟨be, hbe⟩ : ∃ be, be = (e.L.getD xi.toNat zP).2 := ⟨_, rfl⟩
      rw [← hid] at hx0
      rw [← hbe] at hx1
      have hmem : e.L.getD xi.toNat zP ∈ e.L := by
        rw [List.getD_eq_getElem?_getD, List.getElem?_eq_getElem (show xi.toNat < e.L.length by omega)]; exact List.getElem_mem _
      have HIZ : Aside0 (id.size ≤ 1048576) := ⟨by rw [hid]; exact (HS.out _ hmem).1⟩
      have HBZ : Aside0 (be.size ≤ 1048576) := ⟨by rw [hbe]; exact (HS.out _ hmem).2⟩
      have HID := Aside0.mk hid
      have HBE := Aside0.mk hbe
      clear hid hbe hmem
      go_upto_region 5 with ((with_reducible refine gate_dst (N := 5) rfl ?_); refine box_event ?hg (N := 5) ?hd (cs := #[.string (⟨#[]⟩ : ByteArray), .string (⟨#[]⟩ : ByteArray)]) (t := 71) ?hr ?_; (case hd => rfl); (case hg => rfl); (case hr => first | (go_simp; done) | (go_simp; rfl)); intro gb hgb w3 hbox hb3; have hcz0 : w3.cell? ⟨gb, 0, none⟩ = some (.string (⟨#[]⟩ : ByteArray)) := (blk_cell hbox 0).trans rfl; have hcz1 : w3.cell? ⟨gb, 1, none⟩ = some (.string (⟨#[]⟩ : ByteArray)) := (blk_cell hbox 1).trans rfl; have hfz0 := blk_frozen hbox 0; have hfz1 := blk_frozen hbox 1; have BX := Aside0.mk hbox; have B3 := Aside0.mk hb3; have GBH := Aside0.mk hgb; clear hbox hb3 hgb)
      have S4 : Aside0 (((w3.setCell ⟨gb, 0, none⟩ (.string id)).setCell ⟨gb, 1, none⟩ (.string be)).heap[gb]? = some (SrvCells (id, be)) ∧ ((w3.setCell ⟨gb, 0, none⟩ (.string id)).setCell ⟨gb, 1, none⟩ (.string be)).heap[g]? = some (EntCells e (some ad) c) ∧ SeenIs ((w3.setCell ⟨gb, 0, none⟩ (.string id)).setCell ⟨gb, 1, none⟩ (.string be)) b xi.toNat ((e.L.take xi.toNat).map (fun x => x.2)) ∧ Below w.heap.size w ((w3.setCell ⟨gb, 0, none⟩ (.string id)).setCell ⟨gb, 1, none⟩ (.string be))) := by
        have hb4 : Below wr.heap.size wr ((w3.setCell ⟨gb, 0, none⟩ (.string id)).setCell ⟨gb, 1, none⟩ (.string be)) := below_set (below_set B3.out (by rw [GBH.out]; exact Nat.le_refl _)) (by rw [GBH.out]; exact Nat.le_refl _)
        exact ⟨blk_put (blk_put BX.out 0 _ rfl) 1 _ rfl, blk_below S1.out.1 hb4, seen_below S1.out.2.1 hb4 (seen_lt S1.out.2.1), S1.out.2.2.trans (hb4.mono S1.out.2.2.size)⟩
      clear hcz0 hcz1 hfz0 hfz1 BX B3 GBH hx0 hx1 S1
      generalize (w3.setCell ⟨gb, 0, none⟩ (.string id)).setCell ⟨gb, 1, none⟩ (.string be) = w4 at S4 ⊢
      have HGD := Aside0.mk (fun W => impl_GoodBackend.calls be (goodS be) W (impl_good be (by have := HBZ.out; omega)))
      by_cases h1 : (id.size : Int) = e.s1
      · have h1a : ((id.size : Int) == e.s1) = true := beq_iff_eq.mpr h1
        have h1b : ((id.size : Int) != e.s1) = false := bne_eq_false_iff_eq.mpr h1
        have H1 := Aside0.mk h1
        clear h1
        by_cases h2 : xi > 0
        · have h2a : decide (0 < xi) = true := decide_eq_true h2
          obtain ⟨ji, hji⟩ : ∃ j : Int, j = xi - 1 := ⟨_, rfl⟩
          have hjw : IntKind.i64.wrap (xi - 1) = ji := by rw [hji, IntKind.wrap_i64]; have := HN.out; omega
          have hj0 : 0 ≤ ji := by omega
          have hj1 : ji < (e.L.length : Int) := by omega
          obtain ⟨ad', e', hp0, _⟩ := pr_at (pr_below HR.out S4.out.2.2.2) ji hj0 hj1
          obtain rfl : ad = ad' := by injection e'
          clear e'
          obtain ⟨pv, hpv⟩ : ∃ pv, pv = (e.L.getD ji.toNat zP).1 := ⟨_, rfl⟩
          rw [← hpv] at hp0
          have HPc := Aside0.mk hp0
          have HPV : Aside0 ((e.L.getD (xi.toNat - 1) zP).1 = pv) := ⟨by rw [hpv, show ji.toNat = xi.toNat - 1 by omega]⟩
          have h0d : Aside0 (decide (xi.toNat = 0) = false) := ⟨decide_eq_false (by omega)⟩
          clear hp0 hpv hji
          cases h3 : Op.bytesLess pv.toList id.toList with
          | false =>
            have hsrv : Aside0 (srvAt e.s1 e.L xi.toNat = false) := ⟨by unfold srvAt; rw [← HBE.out, ← HID.out]; rw [HPV.out, h3, h0d.out]; simp⟩
            have la0 := fun d os => cell_regrown ((blk_cell S4.out.1 0).trans rfl) d os
            have la1 := fun d os => cell_regrown ((blk_cell S4.out.1 1).trans rfl) d os
            have lb1 := fun d os => cell_regrown ((blk_cell S4.out.2.1 1).trans rfl) d os
            have lb5 := fun d os => cell_regrown ((blk_cell S4.out.2.1 5).trans rfl) d os
            have lc0 := fun d os => cell_regrown (HPc.out) d os
            go_wp2_with fail
            refine wp_region_quiet_below (by assumption) (by kernel_rfl) ?_
            repeat (refine (wpQuiet_step (fun K hK => ?_) : _); go_simp; first | (refine hK _ ?_; clear hK K) | (apply Exists.intro; refine ⟨fun _ => ?_, hK _ ?_⟩; (go_at_call 15; with_reducible exact hgd _ _); clear hK K))
            refine wpQuiet_nil ?_
            intro _ hw'
            obtain ⟨⟨dq, osq⟩, hw''⟩ := hw'
            subst hw''
            have hbq := below_regrown w4 dq osq
            have S5 : Aside0 ((Go.Sort.grow (redrawn w4 dq) osq).heap[gb]? = some (SrvCells (id, be)) ∧ (Go.Sort.grow (redrawn w4 dq) osq).heap[g]? = some (EntCells e (some ad) c) ∧ SeenIs (Go.Sort.grow (redrawn w4 dq) osq) b xi.toNat ((e.L.take xi.toNat).map (fun x => x.2)) ∧ Below w.heap.size w (Go.Sort.grow (redrawn w4 dq) osq)) := ⟨blk_below S4.out.1 hbq, blk_below S4.out.2.1 hbq, seen_below S4.out.2.2.1 hbq (seen_lt S4.out.2.2.1), S4.out.2.2.2.trans (hbq.mono S4.out.2.2.2.size)⟩
            clear la0 la1 lb1 lb5 lc0 hbq S4
            generalize Go.Sort.grow (redrawn w4 dq) osq = w5 at S5 ⊢
            go_wp2
            go_ret
            exact ⟨by rw [goodE_no e xi.toNat (by omega) hsrv.out]; rfl, S5.out.2.2.2⟩
          | true =>
            cases hgs : goodS be with
            | false =>
              rw [hgs] at HGD
              have hsrv : Aside0 (srvAt e.s1 e.L xi.toNat = false) := ⟨by unfold srvAt; rw [← HBE.out, ← HID.out]; rw [hgs]; simp⟩
              have la0 := fun d os => cell_regrown ((blk_cell S4.out.1 0).trans rfl) d os
              have la1 := fun d os => cell_regrown ((blk_cell S4.out.1 1).trans rfl) d os
              have lb1 := fun d os => cell_regrown ((blk_cell S4.out.2.1 1).trans rfl) d os
              have lb5 := fun d os => cell_regrown ((blk_cell S4.out.2.1 5).trans rfl) d os
              have lc0 := fun d os => cell_regrown (HPc.out) d os
              have hgd := fun d os => Calls.regrown_of (HGD.out (Go.Sort.grow (redrawn w4 d) os))
              go_wp2_with fail
              refine wp_region_quiet_below (by assumption) (by kernel_rfl) ?_
              repeat (refine (wpQuiet_step (fun K hK => ?_) : _); go_simp; first | (refine hK _ ?_; clear hK K) | (apply Exists.intro; refine ⟨fun _ => ?_, hK _ ?_⟩; (go_at_call 15; with_reducible exact hgd _ _); clear hK K))
              refine wpQuiet_nil ?_
              intro _ hw'
              obtain ⟨⟨dq, osq⟩, hw''⟩ := hw'
              subst hw''
              have hbq := below_regrown w4 dq osq
              have S5 : Aside0 ((Go.Sort.grow (redrawn w4 dq) osq).heap[gb]? = some (SrvCells (id, be)) ∧ (Go.Sort.grow (redrawn w4 dq) osq).heap[g]? = some (EntCells e (some ad) c) ∧ SeenIs (Go.Sort.grow (redrawn w4 dq) osq) b xi.toNat ((e.L.take xi.toNat).map (fun x => x.2)) ∧ Below w.heap.size w (Go.Sort.grow (redrawn w4 dq) osq)) := ⟨blk_below S4.out.1 hbq, blk_below S4.out.2.1 hbq, seen_below S4.out.2.2.1 hbq (seen_lt S4.out.2.2.1), S4.out.2.2.2.trans (hbq.mono S4.out.2.2.2.size)⟩
              clear la0 la1 lb1 lb5 lc0 hgd hbq S4
              generalize Go.Sort.grow (redrawn w4 dq) osq = w5 at S5 ⊢
              go_wp2
              go_ret
              exact ⟨by rw [goodE_no e xi.toNat (by omega) hsrv.out]; rfl, S5.out.2.2.2⟩
            | true =>
              rw [hgs] at HGD
              cases hsn : memS ((e.L.take xi.toNat).map (fun x => x.2)) be with
              | true =>
                have hsrv : Aside0 (srvAt e.s1 e.L xi.toNat = false) := ⟨by unfold srvAt; rw [← HBE.out, ← HID.out]; rw [hsn]; simp⟩
                have la0 := fun d os => cell_regrown ((blk_cell S4.out.1 0).trans rfl) d os
                have la1 := fun d os => cell_regrown ((blk_cell S4.out.1 1).trans rfl) d os
                have lb1 := fun d os => cell_regrown ((blk_cell S4.out.2.1 1).trans rfl) d os
                have lb5 := fun d os => cell_regrown ((blk_cell S4.out.2.1 5).trans rfl) d os
                have lc0 := fun d os => cell_regrown (HPc.out) d os
                have hgd := fun d os => Calls.regrown_of (HGD.out (Go.Sort.grow (redrawn w4 d) os))
                have hlk := fun d os => seen_look (seen_below S4.out.2.2.1 (below_regrown w4 d os) (seen_lt S4.out.2.2.1)) be HBZ.out
                rw [hsn] at hlk
                go_wp2_with fail
                refine wp_region_quiet_below (by assumption) (by kernel_rfl) ?_
                repeat (refine (wpQuiet_step (fun K hK => ?_) : _); go_simp; first | (refine hK _ ?_; clear hK K) | (apply Exists.intro; refine ⟨fun _ => ?_, hK _ ?_⟩; (go_at_call 15; with_reducible exact hgd _ _); clear hK K))
                refine wpQuiet_nil ?_
                intro _ hw'
                obtain ⟨⟨dq, osq⟩, hw''⟩ := hw'
                subst hw''
                have hbq := below_regrown w4 dq osq
                have S5 : Aside0 ((Go.Sort.grow (redrawn w4 dq) osq).heap[gb]? = some (SrvCells (id, be)) ∧ (Go.Sort.grow (redrawn w4 dq) osq).heap[g]? = some (EntCells e (some ad) c) ∧ SeenIs (Go.Sort.grow (redrawn w4 dq) osq) b xi.toNat ((e.L.take xi.toNat).map (fun x => x.2)) ∧ Below w.heap.size w (Go.Sort.grow (redrawn w4 dq) osq)) := ⟨blk_below S4.out.1 hbq, blk_below S4.out.2.1 hbq, seen_below S4.out.2.2.1 hbq (seen_lt S4.out.2.2.1), S4.out.2.2.2.trans (hbq.mono S4.out.2.2.2.size)⟩
                clear la0 la1 lb1 lb5 lc0 hgd hlk hbq S4
                generalize Go.Sort.grow (redrawn w4 dq) osq = w5 at S5 ⊢
                go_wp2
                go_ret
                exact ⟨by rw [goodE_no e xi.toNat (by omega) hsrv.out]; rfl, S5.out.2.2.2⟩
              | false =>
                have hsrv : Aside0 (srvAt e.s1 e.L xi.toNat = true) := ⟨by unfold srvAt; rw [← HBE.out, ← HID.out]; rw [decide_eq_true H1.out, HPV.out, h3, hgs, hsn]; simp⟩
                have la0 := fun d os => cell_regrown ((blk_cell S4.out.1 0).trans rfl) d os
                have la1 := fun d os => cell_regrown ((blk_cell S4.out.1 1).trans rfl) d os
                have lb1 := fun d os => cell_regrown ((blk_cell S4.out.2.1 1).trans rfl) d os
                have lb5 := fun d os => cell_regrown ((blk_cell S4.out.2.1 5).trans rfl) d os
                have lc0 := fun d os => cell_regrown (HPc.out) d os
                have hgd := fun d os => Calls.regrown_of (HGD.out (Go.Sort.grow (redrawn w4 d) os))
                have hlk := fun d os => seen_look (seen_below S4.out.2.2.1 (below_regrown w4 d os) (seen_lt S4.out.2.2.1)) be HBZ.out
                rw [hsn] at hlk
                go_wp2_with fail
                refine wp_region_quiet_below (by assumption) (by kernel_rfl) ?_
                repeat (refine (wpQuiet_step (fun K hK => ?_) : _); go_simp; first | (refine hK _ ?_; clear hK K) | (apply Exists.intro; refine ⟨fun _ => ?_, hK _ ?_⟩; (go_at_call 15; with_reducible exact hgd _ _); clear hK K))
                refine wpQuiet_nil ?_
                intro _ hw'
                obtain ⟨⟨dq, osq⟩, hw''⟩ := hw'
                subst hw''
                have hbq := below_regrown w4 dq osq
                have S5 : Aside0 ((Go.Sort.grow (redrawn w4 dq) osq).heap[gb]? = some (SrvCells (id, be)) ∧ (Go.Sort.grow (redrawn w4 dq) osq).heap[g]? = some (EntCells e (some ad) c) ∧ SeenIs (Go.Sort.grow (redrawn w4 dq) osq) b xi.toNat ((e.L.take xi.toNat).map (fun x => x.2)) ∧ Below w.heap.size w (Go.Sort.grow (redrawn w4 dq) osq)) := ⟨blk_below S4.out.1 hbq, blk_below S4.out.2.1 hbq, seen_below S4.out.2.2.1 hbq (seen_lt S4.out.2.2.1), S4.out.2.2.2.trans (hbq.mono S4.out.2.2.2.size)⟩
                clear la0 la1 lb1 lb5 lc0 hgd hlk hbq S4
                generalize Go.Sort.grow (redrawn w4 dq) osq = w5 at S5 ⊢
                obtain ⟨D, hown, hat⟩ := S5.out.2.2.1
                have lz1 := (blk_cell S5.out.1 1).trans rfl
                go_wp2_with (refine wpList_mapUpdate_own (H := Unit) _ rfl _ _ _ 106 rfl 9 4 keyS Tryd.underlying106 boolEl b xi.toNat D rfl hown (by unfold maxLen; have := HN.out; omega) _ _ (litS be) rfl rfl (keyOfS be HBZ.out) (.lit (.bool true)) [] (boolEl_mk true) ?_; intro w6 ho6 hg6; have S6 : Aside0 (w6.heap[g]? = some (EntCells e (some ad) c) ∧ SeenIs w6 b (xi.toNat + 1) ((e.L.take (xi.toNat + 1)).map (fun x => x.2)) ∧ Below w.heap.size w w6) := ⟨blk_grown S5.out.2.1 hg6 (fun q => HGB.out (Option.some.inj q)), seen_put be hat hown.isMap ho6 (fun t => by rw [take_seen e.L xi.toNat (by omega) t, HBE.out]), S5.out.2.2.2.grown hg6 S5.out.2.2.2.size (fun j hj => by cases hj; exact HBL.out)⟩; clear ho6 hg6 hown hat lz1 S5)
                go_roundg (e.L.length - (xi + 1).toNat)
                case measure => have := X.out.2.2; omega
                case rel =>
                  have e1 : (xi + 1).toNat = xi.toNat + 1 := by omega
                  refine ⟨xi + 1, by first | rfl | rw [ra], ⟨by omega, by omega, Nat.le_refl _⟩, ⟨S6.out.1, by rw [e1]; exact S6.out.2.1, S6.out.2.2⟩, ⟨fun j hj => ?_⟩⟩
                  by_cases hjx : j < xi.toNat
                  · exact HALL.out j hjx
                  · obtain rfl : j = xi.toNat := by omega
                    exact hsrv.out
        · have h2a : decide (0 < xi) = false := decide_eq_false h2
          have h0d : Aside0 (decide (xi.toNat = 0) = true) := ⟨decide_eq_true (by omega)⟩
          cases hgs : goodS be with
          | false =>
            rw [hgs] at HGD
            have hsrv : Aside0 (srvAt e.s1 e.L xi.toNat = false) := ⟨by unfold srvAt; rw [← HBE.out, ← HID.out]; rw [hgs]; simp⟩
            have la0 := fun d os => cell_regrown ((blk_cell S4.out.1 0).trans rfl) d os
            have la1 := fun d os => cell_regrown ((blk_cell S4.out.1 1).trans rfl) d os
            have lb1 := fun d os => cell_regrown ((blk_cell S4.out.2.1 1).trans rfl) d os
            have lb5 := fun d os => cell_regrown ((blk_cell S4.out.2.1 5).trans rfl) d os
            have hgd := fun d os => Calls.regrown_of (HGD.out (Go.Sort.grow (redrawn w4 d) os))
            go_wp2_with fail
            refine wp_region_quiet_below (by assumption) (by kernel_rfl) ?_
            repeat (refine (wpQuiet_step (fun K hK => ?_) : _); go_simp; first | (refine hK _ ?_; clear hK K) | (apply Exists.intro; refine ⟨fun _ => ?_, hK _ ?_⟩; (go_at_call 15; with_reducible exact hgd _ _); clear hK K))
            refine wpQuiet_nil ?_
            intro _ hw'
            obtain ⟨⟨dq, osq⟩, hw''⟩ := hw'
            subst hw''
            have hbq := below_regrown w4 dq osq
            have S5 : Aside0 ((Go.Sort.grow (redrawn w4 dq) osq).heap[gb]? = some (SrvCells (id, be)) ∧ (Go.Sort.grow (redrawn w4 dq) osq).heap[g]? = some (EntCells e (some ad) c) ∧ SeenIs (Go.Sort.grow (redrawn w4 dq) osq) b xi.toNat ((e.L.take xi.toNat).map (fun x => x.2)) ∧ Below w.heap.size w (Go.Sort.grow (redrawn w4 dq) osq)) := ⟨blk_below S4.out.1 hbq, blk_below S4.out.2.1 hbq, seen_below S4.out.2.2.1 hbq (seen_lt S4.out.2.2.1), S4.out.2.2.2.trans (hbq.mono S4.out.2.2.2.size)⟩
            clear la0 la1 lb1 lb5 hgd hbq S4
            generalize Go.Sort.grow (redrawn w4 dq) osq = w5 at S5 ⊢
            go_wp2
            go_ret
            exact ⟨by rw [goodE_no e xi.toNat (by omega) hsrv.out]; rfl, S5.out.2.2.2⟩
          | true =>
            rw [hgs] at HGD
            cases hsn : memS ((e.L.take xi.toNat).map (fun x => x.2)) be with
            | true =>
              have hsrv : Aside0 (srvAt e.s1 e.L xi.toNat = false) := ⟨by unfold srvAt; rw [← HBE.out, ← HID.out]; rw [hsn]; simp⟩
              have la0 := fun d os => cell_regrown ((blk_cell S4.out.1 0).trans rfl) d os
              have la1 := fun d os => cell_regrown ((blk_cell S4.out.1 1).trans rfl) d os
              have lb1 := fun d os => cell_regrown ((blk_cell S4.out.2.1 1).trans rfl) d os
              have lb5 := fun d os => cell_regrown ((blk_cell S4.out.2.1 5).trans rfl) d os
              have hgd := fun d os => Calls.regrown_of (HGD.out (Go.Sort.grow (redrawn w4 d) os))
              have hlk := fun d os => seen_look (seen_below S4.out.2.2.1 (below_regrown w4 d os) (seen_lt S4.out.2.2.1)) be HBZ.out
              rw [hsn] at hlk
              go_wp2_with fail
              refine wp_region_quiet_below (by assumption) (by kernel_rfl) ?_
              repeat (refine (wpQuiet_step (fun K hK => ?_) : _); go_simp; first | (refine hK _ ?_; clear hK K) | (apply Exists.intro; refine ⟨fun _ => ?_, hK _ ?_⟩; (go_at_call 15; with_reducible exact hgd _ _); clear hK K))
              refine wpQuiet_nil ?_
              intro _ hw'
              obtain ⟨⟨dq, osq⟩, hw''⟩ := hw'
              subst hw''
              have hbq := below_regrown w4 dq osq
              have S5 : Aside0 ((Go.Sort.grow (redrawn w4 dq) osq).heap[gb]? = some (SrvCells (id, be)) ∧ (Go.Sort.grow (redrawn w4 dq) osq).heap[g]? = some (EntCells e (some ad) c) ∧ SeenIs (Go.Sort.grow (redrawn w4 dq) osq) b xi.toNat ((e.L.take xi.toNat).map (fun x => x.2)) ∧ Below w.heap.size w (Go.Sort.grow (redrawn w4 dq) osq)) := ⟨blk_below S4.out.1 hbq, blk_below S4.out.2.1 hbq, seen_below S4.out.2.2.1 hbq (seen_lt S4.out.2.2.1), S4.out.2.2.2.trans (hbq.mono S4.out.2.2.2.size)⟩
              clear la0 la1 lb1 lb5 hgd hlk hbq S4
              generalize Go.Sort.grow (redrawn w4 dq) osq = w5 at S5 ⊢
              go_wp2
              go_ret
              exact ⟨by rw [goodE_no e xi.toNat (by omega) hsrv.out]; rfl, S5.out.2.2.2⟩
            | false =>
              have hsrv : Aside0 (srvAt e.s1 e.L xi.toNat = true) := ⟨by unfold srvAt; rw [← HBE.out, ← HID.out]; rw [decide_eq_true H1.out, h0d.out, hgs, hsn]; simp⟩
              have la0 := fun d os => cell_regrown ((blk_cell S4.out.1 0).trans rfl) d os
              have la1 := fun d os => cell_regrown ((blk_cell S4.out.1 1).trans rfl) d os
              have lb1 := fun d os => cell_regrown ((blk_cell S4.out.2.1 1).trans rfl) d os
              have lb5 := fun d os => cell_regrown ((blk_cell S4.out.2.1 5).trans rfl) d os
              have hgd := fun d os => Calls.regrown_of (HGD.out (Go.Sort.grow (redrawn w4 d) os))
              have hlk := fun d os => seen_look (seen_below S4.out.2.2.1 (below_regrown w4 d os) (seen_lt S4.out.2.2.1)) be HBZ.out
              rw [hsn] at hlk
              go_wp2_with fail
              refine wp_region_quiet_below (by assumption) (by kernel_rfl) ?_
              repeat (refine (wpQuiet_step (fun K hK => ?_) : _); go_simp; first | (refine hK _ ?_; clear hK K) | (apply Exists.intro; refine ⟨fun _ => ?_, hK _ ?_⟩; (go_at_call 15; with_reducible exact hgd _ _); clear hK K))
              refine wpQuiet_nil ?_
              intro _ hw'
              obtain ⟨⟨dq, osq⟩, hw''⟩ := hw'
              subst hw''
              have hbq := below_regrown w4 dq osq
              have S5 : Aside0 ((Go.Sort.grow (redrawn w4 dq) osq).heap[gb]? = some (SrvCells (id, be)) ∧ (Go.Sort.grow (redrawn w4 dq) osq).heap[g]? = some (EntCells e (some ad) c) ∧ SeenIs (Go.Sort.grow (redrawn w4 dq) osq) b xi.toNat ((e.L.take xi.toNat).map (fun x => x.2)) ∧ Below w.heap.size w (Go.Sort.grow (redrawn w4 dq) osq)) := ⟨blk_below S4.out.1 hbq, blk_below S4.out.2.1 hbq, seen_below S4.out.2.2.1 hbq (seen_lt S4.out.2.2.1), S4.out.2.2.2.trans (hbq.mono S4.out.2.2.2.size)⟩
              clear la0 la1 lb1 lb5 hgd hlk hbq S4
              generalize Go.Sort.grow (redrawn w4 dq) osq = w5 at S5 ⊢
              obtain ⟨D, hown, hat⟩ := S5.out.2.2.1
              have lz1 := (blk_cell S5.out.1 1).trans rfl
              go_wp2_with (refine wpList_mapUpdate_own (H := Unit) _ rfl _ _ _ 106 rfl 9 4 keyS Tryd.underlying106 boolEl b xi.toNat D rfl hown (by unfold maxLen; have := HN.out; omega) _ _ (litS be) rfl rfl (keyOfS be HBZ.out) (.lit (.bool true)) [] (boolEl_mk true) ?_; intro w6 ho6 hg6; have S6 : Aside0 (w6.heap[g]? = some (EntCells e (some ad) c) ∧ SeenIs w6 b (xi.toNat + 1) ((e.L.take (xi.toNat + 1)).map (fun x => x.2)) ∧ Below w.heap.size w w6) := ⟨blk_grown S5.out.2.1 hg6 (fun q => HGB.out (Option.some.inj q)), seen_put be hat hown.isMap ho6 (fun t => by rw [take_seen e.L xi.toNat (by omega) t, HBE.out]), S5.out.2.2.2.grown hg6 S5.out.2.2.2.size (fun j hj => by cases hj; exact HBL.out)⟩; clear ho6 hg6 hown hat lz1 S5)
              go_roundg (e.L.length - (xi + 1).toNat)
              case measure => have := X.out.2.2; omega
              case rel =>
                have e1 : (xi + 1).toNat = xi.toNat + 1 := by omega
                refine ⟨xi + 1, by first | rfl | rw [ra], ⟨by omega, by omega, Nat.le_refl _⟩, ⟨S6.out.1, by rw [e1]; exact S6.out.2.1, S6.out.2.2⟩, ⟨fun j hj => ?_⟩⟩
                by_cases hjx : j < xi.toNat
                · exact HALL.out j hjx
                · obtain rfl : j = xi.toNat := by omega
                  exact hsrv.out
      · have h1a : ((id.size : Int) == e.s1) = false := beq_eq_false_iff_ne.mpr h1
        have h1b : ((id.size : Int) != e.s1) = true := bne_iff_ne.mpr h1
        have hsrv : Aside0 (srvAt e.s1 e.L xi.toNat = false) := ⟨by unfold srvAt; rw [← HBE.out, ← HID.out]; rw [decide_eq_false h1]; rfl⟩
        have la0 := fun d os => cell_regrown ((blk_cell S4.out.1 0).trans rfl) d os
        have la1 := fun d os => cell_regrown ((blk_cell S4.out.1 1).trans rfl) d os
        have lb1 := fun d os => cell_regrown ((blk_cell S4.out.2.1 1).trans rfl) d os
        have lb5 := fun d os => cell_regrown ((blk_cell S4.out.2.1 5).trans rfl) d os
        go_wp2_with fail
        refine wp_region_quiet_below (by assumption) (by kernel_rfl) ?_
        repeat (refine (wpQuiet_step (fun K hK => ?_) : _); go_simp; first | (refine hK _ ?_; clear hK K) | (apply Exists.intro; refine ⟨fun _ => ?_, hK _ ?_⟩; (go_at_call 15; with_reducible exact hgd _ _); clear hK K))
        refine wpQuiet_nil ?_
        intro _ hw'
        obtain ⟨⟨dq, osq⟩, hw''⟩ := hw'
        subst hw''
        have hbq := below_regrown w4 dq osq
        have S5 : Aside0 ((Go.Sort.grow (redrawn w4 dq) osq).heap[gb]? = some (SrvCells (id, be)) ∧ (Go.Sort.grow (redrawn w4 dq) osq).heap[g]? = some (EntCells e (some ad) c) ∧ SeenIs (Go.Sort.grow (redrawn w4 dq) osq) b xi.toNat ((e.L.take xi.toNat).map (fun x => x.2)) ∧ Below w.heap.size w (Go.Sort.grow (redrawn w4 dq) osq)) := ⟨blk_below S4.out.1 hbq, blk_below S4.out.2.1 hbq, seen_below S4.out.2.2.1 hbq (seen_lt S4.out.2.2.1), S4.out.2.2.2.trans (hbq.mono S4.out.2.2.2.size)⟩
        clear la0 la1 lb1 lb5 hbq S4
        generalize Go.Sort.grow (redrawn w4 dq) osq = w5 at S5 ⊢
        go_wp2
        go_ret
        exact ⟨by rw [goodE_no e xi.toNat (by omega) hsrv.out]; rfl, S5.out.2.2.2⟩
    · have hx : xi = (e.L.length : Int) := by have := X.out.2.1; omega
      have hall : ∀ i, i < e.L.length → srvAt e.s1 e.L i = true := fun i hi => HALL.out i (by omega)
      have hge := goodE_all e hall
      have d0 := (blk_cell S1.out.1 0).trans rfl
      have d1 := (blk_cell S1.out.1 1).trans rfl
      have d2 := (blk_cell S1.out.1 2).trans rfl
      have d3 := (blk_cell S1.out.1 3).trans rfl
      have d4 := (blk_cell S1.out.1 4).trans rfl
      have d5 := (blk_cell S1.out.1 5).trans rfl
      have d6 := (blk_cell S1.out.1 6).trans rfl
      have hcf := fun W => impl_GoodConfig.calls e.s0 e.s1 e.s2 e.ky e.fb (cfgB e.s0 e.s1 e.s2 e.ky) W (cfg_tells e.s0 e.s1 e.s2 e.ky e.fb)
      have hi0 := fun W => impl_in.calls e.s0 0 2 (inB 0 2 e.s0) W (in_tells e.s0 0 2)
      have hi1 := fun W => impl_in.calls e.nx 0 1000000000 (inB 0 1000000000 e.nx) W (in_tells e.nx 0 1000000000)
      have hlen : decide ((e.L.length : Int) ≤ 12) = decide (e.L.length ≤ 12) := decide_eq_decide.mpr (by omega)
      have SB := Aside0.mk S1.out.2.2
      have SG := Aside0.mk S1.out.1
      clear S1 hall HALL
      cases hc : cfgB e.s0 e.s1 e.s2 e.ky with
      | false =>
        rw [hc] at hcf hge
        have HGE := Aside0.mk hge
        clear hge
        go_wp2_with (first
          | (go_at_call 67; refine (hcf _).mono ?_; rintro e1 w1 ⟨rfl, hB1⟩; have hg1 := blk_below SG.out hB1; have q0 := (blk_cell hg1 0).trans rfl; have q5 := (blk_cell hg1 5).trans rfl; have q6 := (blk_cell hg1 6).trans rfl; have SB1 := Aside0.mk (SB.out.trans (hB1.mono SB.out.size)); clear hB1 hg1)
          | (go_at_call 49; with_reducible refine (hi0 _).mono ?_; rintro e2 w2 ⟨rfl, ⟨nd2, rfl⟩⟩)
          | (go_at_call 49; with_reducible refine (hi1 _).mono ?_; rintro e3 w3 ⟨rfl, ⟨nd3, rfl⟩⟩))
        go_ret
        exact ⟨by rw [HGE.out]; first | rfl | (simp; done) | (simp [*]; done), by first | exact SB1.out | (repeat (first | exact SB1.out | apply pw_below_drewN))⟩
      | true =>
        rw [hc] at hcf hge
        cases hz : inB 0 2 e.s0 with
        | false =>
          rw [hz] at hi0 hge
          have HGE := Aside0.mk hge
          clear hge
          go_wp2_with (first
            | (go_at_call 67; refine (hcf _).mono ?_; rintro e1 w1 ⟨rfl, hB1⟩; have hg1 := blk_below SG.out hB1; have q0 := (blk_cell hg1 0).trans rfl; have q5 := (blk_cell hg1 5).trans rfl; have q6 := (blk_cell hg1 6).trans rfl; have SB1 := Aside0.mk (SB.out.trans (hB1.mono SB.out.size)); clear hB1 hg1)
            | (go_at_call 49; with_reducible refine (hi0 _).mono ?_; rintro e2 w2 ⟨rfl, ⟨nd2, rfl⟩⟩)
            | (go_at_call 49; with_reducible refine (hi1 _).mono ?_; rintro e3 w3 ⟨rfl, ⟨nd3, rfl⟩⟩))
          go_ret
          exact ⟨by rw [HGE.out]; first | rfl | (simp; done) | (simp [*]; done), by first | exact SB1.out | (repeat (first | exact SB1.out | apply pw_below_drewN))⟩
        | true =>
          rw [hz] at hi0 hge
          cases hy : inB 0 1000000000 e.nx with
          | false =>
            rw [hy] at hi1 hge
            by_cases h12 : e.L.length ≤ 12
            · rw [decide_eq_true h12] at hlen hge
              have HGE := Aside0.mk hge
              clear hge
              go_wp2_with (first
                | (go_at_call 67; refine (hcf _).mono ?_; rintro e1 w1 ⟨rfl, hB1⟩; have hg1 := blk_below SG.out hB1; have q0 := (blk_cell hg1 0).trans rfl; have q5 := (blk_cell hg1 5).trans rfl; have q6 := (blk_cell hg1 6).trans rfl; have SB1 := Aside0.mk (SB.out.trans (hB1.mono SB.out.size)); clear hB1 hg1)
                | (go_at_call 49; with_reducible refine (hi0 _).mono ?_; rintro e2 w2 ⟨rfl, ⟨nd2, rfl⟩⟩)
                | (go_at_call 49; with_reducible refine (hi1 _).mono ?_; rintro e3 w3 ⟨rfl, ⟨nd3, rfl⟩⟩))
              go_ret
              exact ⟨by rw [HGE.out]; first | rfl | (simp; done) | (simp [*]; done), by first | exact SB1.out | (repeat (first | exact SB1.out | apply pw_below_drewN))⟩
            · rw [decide_eq_false h12] at hlen hge
              have HGE := Aside0.mk hge
              clear hge
              go_wp2_with (first
                | (go_at_call 67; refine (hcf _).mono ?_; rintro e1 w1 ⟨rfl, hB1⟩; have hg1 := blk_below SG.out hB1; have q0 := (blk_cell hg1 0).trans rfl; have q5 := (blk_cell hg1 5).trans rfl; have q6 := (blk_cell hg1 6).trans rfl; have SB1 := Aside0.mk (SB.out.trans (hB1.mono SB.out.size)); clear hB1 hg1)
                | (go_at_call 49; with_reducible refine (hi0 _).mono ?_; rintro e2 w2 ⟨rfl, ⟨nd2, rfl⟩⟩)
                | (go_at_call 49; with_reducible refine (hi1 _).mono ?_; rintro e3 w3 ⟨rfl, ⟨nd3, rfl⟩⟩))
              go_ret
              exact ⟨by rw [HGE.out]; first | rfl | (simp; done) | (simp [*]; done), by first | exact SB1.out | (repeat (first | exact SB1.out | apply pw_below_drewN))⟩
          | true =>
            rw [hy] at hi1 hge
            by_cases h12 : e.L.length ≤ 12
            · rw [decide_eq_true h12] at hlen hge
              have HGE := Aside0.mk hge
              clear hge
              go_wp2_with (first
                | (go_at_call 67; refine (hcf _).mono ?_; rintro e1 w1 ⟨rfl, hB1⟩; have hg1 := blk_below SG.out hB1; have q0 := (blk_cell hg1 0).trans rfl; have q5 := (blk_cell hg1 5).trans rfl; have q6 := (blk_cell hg1 6).trans rfl; have SB1 := Aside0.mk (SB.out.trans (hB1.mono SB.out.size)); clear hB1 hg1)
                | (go_at_call 49; with_reducible refine (hi0 _).mono ?_; rintro e2 w2 ⟨rfl, ⟨nd2, rfl⟩⟩)
                | (go_at_call 49; with_reducible refine (hi1 _).mono ?_; rintro e3 w3 ⟨rfl, ⟨nd3, rfl⟩⟩))
              go_ret
              exact ⟨by rw [HGE.out]; first | rfl | (simp; done) | (simp [*]; done), by first | exact SB1.out | (repeat (first | exact SB1.out | apply pw_below_drewN))⟩
            · rw [decide_eq_false h12] at hlen hge
              have HGE := Aside0.mk hge
              clear hge
              go_wp2_with (first
                | (go_at_call 67; refine (hcf _).mono ?_; rintro e1 w1 ⟨rfl, hB1⟩; have hg1 := blk_below SG.out hB1; have q0 := (blk_cell hg1 0).trans rfl; have q5 := (blk_cell hg1 5).trans rfl; have q6 := (blk_cell hg1 6).trans rfl; have SB1 := Aside0.mk (SB.out.trans (hB1.mono SB.out.size)); clear hB1 hg1)
                | (go_at_call 49; with_reducible refine (hi0 _).mono ?_; rintro e2 w2 ⟨rfl, ⟨nd2, rfl⟩⟩)
                | (go_at_call 49; with_reducible refine (hi1 _).mono ?_; rintro e3 w3 ⟨rfl, ⟨nd3, rfl⟩⟩))
              go_ret
              exact ⟨by rw [HGE.out]; first | rfl | (simp; done) | (simp [*]; done), by first | exact SB1.out | (repeat (first | exact SB1.out | apply pw_below_drewN))⟩
end Go.Proofs.YtnghcnkffbjddaaDoorV.Aes
