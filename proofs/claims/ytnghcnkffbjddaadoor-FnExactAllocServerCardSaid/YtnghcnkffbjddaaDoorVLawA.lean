/- The law AllocServer, walked: two calls of the program's function and one of the reference's that tell the same, rows marked and read again. Conditions: those that the theorem names. -/
import Derived.Test.YtnghcnkffbjddaaDoorVTabJ
import Derived.Deep.Cut
namespace Go.Proofs.YtnghcnkffbjddaaDoorV.Aes
open Go.RowKit Go.Proofs.YtnghcnkffbjddaaDoorV.PrintWords Go.Proofs.YtnghcnkffbjddaaDoorV.PrintLast Go.Proofs.YtnghcnkffbjddaaDoorV.PrintMore Go.Proofs.YtnghcnkffbjddaaDoorV.Mem
set_option linter.unusedVariables false
set_option linter.unusedSimpArgs false

open Go.Maps Go.WideShapes Go.Proofs.YtnghcnkffbjddaaDoor.PImplM
set_option maxHeartbeats 16000000 in
set_option maxRecDepth 100000 in
theorem law_walkA (A0 : Option Addr) (c0 n : Nat) (slot : Int) (sid sbk : ByteArray) (E R : List S68) (code r : Int) (w : World) (mt : Int → ByteArray) (hmt : MarkT mt) (hE : SmallE E) (hR : SmallE R) (heE : EqIs E) (heR : EqIs R) (hr0 : ¬ r < 0) (hid : sid.size ≤ 1048576) (hbk : sbk.size ≤ 1048576)
    (hsz : ∀ W, Below w.heap.size w W → Calls Tryd.prog 27 #[.agg #[.slice A0 n c0], .int .i64 1048576] W fun e w' => e = .returned (.int .i64 r) ∧ Below W.heap.size W w')
    (hto : ∀ W, Below w.heap.size w W → Calls Tryd.prog 29 #[.agg #[.slice A0 n c0]] W fun e w' => ∃ v : Value, e = .returned (.agg #[v]) ∧ sEnt w' W.heap.size (fun _ => True) v E ∧ Below W.heap.size W w')
    (hsp : ∀ (A : Option Addr) (c : Nat) (W : World), Kd.C k68 W A E.length E → E.length ≤ c → Calls Tryd.prog 40 #[.agg #[.slice A E.length c], .int .i64 slot, .string sid, .string sbk] W (SpPost W R code))
    (him : ∀ (A : Option Addr) (c : Nat) (W : World), Kd.C k68 W A E.length E → E.length ≤ c → Calls Tryd.prog 41 #[.agg #[.slice A E.length c], .int .i64 slot, .string sid, .string sbk] W (ChPost W R code)) :
    Calls Tryd.prog 10 #[.agg #[.slice A0 n c0], .int .i64 slot, .string sid, .string sbk] w fun e w' => e = .returned (.bool true) ∧ Below w.heap.size w w' := by
  have hsid1 : decide ((sid.size : Int) > 1048576) = false := decide_eq_false (by omega)
  have hsid2 : decide ((1048576 : Int) < (sid.size : Int)) = false := decide_eq_false (by omega)
  have hsbk1 : decide ((sbk.size : Int) > 1048576) = false := decide_eq_false (by omega)
  have hsbk2 : decide ((1048576 : Int) < (sbk.size : Int)) = false := decide_eq_false (by omega)
  clear hid hbk
  have hrd : decide (r < 0) = false := decide_eq_false hr0
  have hne : (code != code) = false := by simp
  obtain ⟨kx, hkx⟩ : ∃ q, q = nxL 1 E := ⟨_, rfl⟩
  obtain ⟨kg, hkg⟩ : ∃ q, q = nxL 1 R := ⟨_, rfl⟩
  have hkx1 : 1 ≤ kx := by rw [hkx]; exact (nxL_le 1 E 1048576 (fun x hx => by have := hE.2 x hx; omega) (by decide)).1
  have hkg1 : 1 ≤ kg := by rw [hkg]; exact (nxL_le 1 R 1048576 (fun x hx => by have := hR.2 x hx; omega) (by decide)).1
  have hkxd : decide (kx < 0) = false := decide_eq_false (by omega)
  have hkgd : decide (kg < 0) = false := decide_eq_false (by omega)
  have hkgn : (kg != kg) = false := by simp
  have hmx := fun (v : Value) (base : Nat) (ok : Nat → Prop) (W : World) (hS : sEnt W base ok v E) (hb : base ≤ W.heap.size) => markT_walk mt hmt v E base ok W hS hb hE.1 hE.2
  have hmg := fun (v : Value) (base : Nat) (ok : Nat → Prop) (W : World) (hS : sEnt W base ok v R) (hb : base ≤ W.heap.size) => markT_walk mt hmt v R base ok W hS hb hR.1 hR.2
  have hhg := fun (A : Option Addr) (c : Nat) (W : World) (hC : Kd.C k68 W A R.length (mkL mt 1 R)) => heldT_walk mt hmt A c R W hC hR.1 hR.2
  rw [← hkx] at hmx
  rw [← hkg] at hmg hhg
  have HSZ := Lib.hid hsz
  have HTO := Lib.hid hto
  have HSP := Lib.hid hsp
  have HIM := Lib.hid him
  have HEE := Lib.hid heE
  have HER := Lib.hid heR
  have HMX := Lib.hid hmx
  have HMG := Lib.hid hmg
  have HHG := Lib.hid hhg
  clear hsz hto hsp him heE heR hmx hmg hhg hE hR hkx hkg hkx1 hkg1 hr0
  have hbx := heap_alloc_new w (.cells #[.slice A0 n c0] 33)
  have ca := (blk_cell hbx 0).trans rfl
  have hB0 : Below w.heap.size w (w.alloc (.cells #[.slice A0 n c0] 33)) := (Below.refl _ _).alloc (Nat.le_refl _) _
  have F0 : Hid (∀ W', Below (w.alloc (.cells #[.slice A0 n c0] 33)).heap.size (w.alloc (.cells #[.slice A0 n c0] 33)) W' → Below w.heap.size w W' ∧ W'.cell? ⟨w.heap.size, 0, none⟩ = some (.slice A0 n c0)) := Lib.hid (fun W' h => ⟨hB0.trans (h.mono hB0.size), pw_cell_below h ca⟩)
  clear hbx hB0
  go_enter Tryd.func10, Tryd.ntmps10
  go_upto_region 10 with (first
    | (go_at_call 27; refine (HSZ.out _ (F0.out _ (Below.refl _ _)).1).mono ?_; rintro e w1 ⟨rfl, hB1⟩; have F1 : Hid (∀ W', Below w1.heap.size w1 W' → Below w.heap.size w W' ∧ W'.cell? ⟨w.heap.size, 0, none⟩ = some (.slice A0 n c0)) := Lib.hid (fun W' h => F0.out W' (hB1.trans (h.mono hB1.size))); have cb := (F1.out _ (Below.refl _ _)).2; clear hB1 ca F0)
    | (go_at_call 29; refine (HTO.out _ (F1.out _ (Below.refl _ _)).1).mono ?_; rintro e w2 ⟨v2, rfl, hS2, hB2⟩; obtain ⟨A2, c2, e2⟩ := Kd.S_slice hS2; subst e2; have H2 := Lib.hid (And.intro (S_C hS2) hB2); clear hS2 hB2 cb)
    | (go_at_call 40; refine (HSP.out A2 c2 w2 H2.out.1.1 H2.out.1.2).mono ?_; rintro e w3 ⟨A3, c3, rfl, hc3, hC3, hB3⟩; have H3 := Lib.hid (And.intro hC3 (And.intro hc3 hB3)); clear hC3 hc3 hB3)
    | ((with_reducible refine gate_dst (N := 10) rfl ?_); refine box_event ?hg (N := 10) ?hd (cs := #[.slice none 0 0]) (t := 38) ?hr ?_; (case hd => rfl); (case hg => rfl); (case hr => first | (go_simp; done) | (go_simp; rfl)); intro p10 hp w10 hbox hb; have hcz0 := (blk_cell hbox 0).trans rfl; have hfz0 := blk_frozen hbox 0; have BX10 := Lib.hid (And.intro hbox (And.intro hb hp)); clear hbox hb hp))
  have hSt : Below w3.heap.size w3 (w10.setCell ⟨p10, 0, none⟩ (.slice A3 R.length c3)) := below_set BX10.out.2.1 (by rw [BX10.out.2.2]; exact Nat.le_refl _)
  have hK6 := blk_put BX10.out.1 0 (.slice A3 R.length c3) rfl
  have hlt6 : p10 < (w10.setCell ⟨p10, 0, none⟩ (.slice A3 R.length c3)).heap.size := blk_lt hK6
  have F2 : Hid (∀ W', Below (w10.setCell ⟨p10, 0, none⟩ (.slice A3 R.length c3)).heap.size (w10.setCell ⟨p10, 0, none⟩ (.slice A3 R.length c3)) W' → Below w.heap.size w W' ∧ W'.cell? ⟨w.heap.size, 0, none⟩ = some (.slice A0 n c0) ∧ W'.cell? ⟨p10, 0, none⟩ = some (.slice A3 R.length c3) ∧ Kd.C k68 W' A3 R.length R) := Lib.hid (fun W' h => by
    have q3 : Below w3.heap.size w3 W' := hSt.trans (h.mono hSt.size)
    have q2 : Below w2.heap.size w2 W' := H3.out.2.2.trans (q3.mono H3.out.2.2.size)
    have q1 : Below w1.heap.size w1 W' := H2.out.2.trans (q2.mono H2.out.2.size)
    exact ⟨(F1.out W' q1).1, (F1.out W' q1).2, pw_cell_below h ((blk_cell hK6 0).trans rfl), Kd.C_below H3.out.1 q3⟩)
  have HC3 := Lib.hid H3.out.2.1
  have hbp : w.heap.size < (w10.setCell ⟨p10, 0, none⟩ (.slice A3 R.length c3)).heap.size := block_lt_of_cell (F2.out _ (Below.refl _ _)).2.1
  have hsz0 : w.heap.size ≤ (w10.setCell ⟨p10, 0, none⟩ (.slice A3 R.length c3)).heap.size := (F2.out _ (Below.refl _ _)).1.size
  clear hcz0 hfz0 BX10 hSt hK6 H3 H2 F1
  generalize w10.setCell ⟨p10, 0, none⟩ (.slice A3 R.length c3) = q6 at F2 hlt6 hbp hsz0 ⊢
  have HL6 := Lib.hid (And.intro hlt6 (And.intro hbp hsz0))
  have ca := (F2.out _ (Below.refl _ _)).2.1
  clear hlt6 hbp hsz0
  go_upto_region 11 with (first
    | (go_at_call 29; refine (HTO.out _ (F2.out _ (Below.refl _ _)).1).mono ?_; rintro e w4 ⟨v4, rfl, hS4, hB4⟩; obtain ⟨A4, c4, e4⟩ := Kd.S_slice hS4; subst e4; have H4 := Lib.hid (And.intro (Kd.S_bound hS4) hB4); clear hS4 hB4 ca)
    | ((with_reducible refine gate_dst (N := 12) rfl ?_); refine box_event ?hg (N := 12) ?hd (cs := #[.slice none 0 0]) (t := 38) ?hr ?_; (case hd => rfl); (case hg => rfl); (case hr => first | (go_simp; done) | (go_simp; rfl)); intro p12 hp w12 hbox hb; have hcz0 := (blk_cell hbox 0).trans rfl; have hfz0 := blk_frozen hbox 0; have BX12 := Lib.hid (And.intro hbox (And.intro hb hp)); clear hbox hb hp))
  have hSt : Below w4.heap.size w4 (w12.setCell ⟨p12, 0, none⟩ (.slice A4 E.length c4)) := below_set BX12.out.2.1 (by rw [BX12.out.2.2]; exact Nat.le_refl _)
  have hK8 := blk_put BX12.out.1 0 (.slice A4 E.length c4) rfl
  have hlt8 : p12 < (w12.setCell ⟨p12, 0, none⟩ (.slice A4 E.length c4)).heap.size := blk_lt hK8
  have hge8 : w4.heap.size ≤ p12 := by rw [BX12.out.2.2]; exact Nat.le_refl _
  have hSX : sEnt (w12.setCell ⟨p12, 0, none⟩ (.slice A4 E.length c4)) q6.heap.size (fun k => q6.heap.size ≤ k ∧ k < w4.heap.size) (.slice A4 E.length c4) E := Kd.S_mono (Kd.S_below H4.out.1 hSt) (fun k hk => ⟨hk.2.1, hk.2.2.1⟩)
  have F3 : Hid (∀ W', Below (w12.setCell ⟨p12, 0, none⟩ (.slice A4 E.length c4)).heap.size (w12.setCell ⟨p12, 0, none⟩ (.slice A4 E.length c4)) W' → Below q6.heap.size q6 W' ∧ W'.cell? ⟨p12, 0, none⟩ = some (.slice A4 E.length c4) ∧ sEnt W' q6.heap.size (fun k => q6.heap.size ≤ k ∧ k < w4.heap.size) (.slice A4 E.length c4) E) := Lib.hid (fun W' h => by
    have q4 : Below w4.heap.size w4 W' := hSt.trans (h.mono hSt.size)
    exact ⟨H4.out.2.trans (q4.mono H4.out.2.size), pw_cell_below h ((blk_cell hK8 0).trans rfl), Kd.S_below hSX h⟩)
  have h64 := H4.out.2.size
  clear hcz0 hfz0 BX12 hSt hK8 H4 hSX
  generalize (w12.setCell ⟨p12, 0, none⟩ (.slice A4 E.length c4)) = q8 at F3 hlt8 ⊢
  have HL8 := Lib.hid (And.intro hlt8 (And.intro hge8 h64))
  have cx := (F3.out _ (Below.refl _ _)).2.1
  clear hlt8 hge8 h64
  go_upto_region 12 with (first
    | (go_at_call 41; refine (HIM.out A4 c4 q8 (S_C (F3.out _ (Below.refl _ _)).2.2).1 (S_C (F3.out _ (Below.refl _ _)).2.2).2).mono ?_; rintro e w5 ⟨v5, rfl, hS5, hB5⟩; obtain ⟨A5, c5, e5⟩ := Kd.S_slice hS5; subst e5; have H5 := Lib.hid (And.intro (Kd.S_bound hS5) hB5); clear hS5 hB5 cx)
    | ((with_reducible refine gate_dst (N := 13) rfl ?_); refine box_event ?hg (N := 13) ?hd (cs := #[.slice none 0 0]) (t := 38) ?hr ?_; (case hd => rfl); (case hg => rfl); (case hr => first | (go_simp; done) | (go_simp; rfl)); intro p13 hp w13 hbox hb; have hcz0 := (blk_cell hbox 0).trans rfl; have hfz0 := blk_frozen hbox 0; have BX13 := Lib.hid (And.intro hbox (And.intro hb hp)); clear hbox hb hp))
  have hSt : Below w5.heap.size w5 (w13.setCell ⟨p13, 0, none⟩ (.slice A5 R.length c5)) := below_set BX13.out.2.1 (by rw [BX13.out.2.2]; exact Nat.le_refl _)
  have hK9 := blk_put BX13.out.1 0 (.slice A5 R.length c5) rfl
  have hlt9 : p13 < (w13.setCell ⟨p13, 0, none⟩ (.slice A5 R.length c5)).heap.size := blk_lt hK9
  have hge9 : w5.heap.size ≤ p13 := by rw [BX13.out.2.2]; exact Nat.le_refl _
  have hSG : sEnt (w13.setCell ⟨p13, 0, none⟩ (.slice A5 R.length c5)) q8.heap.size (fun k => q8.heap.size ≤ k ∧ k < w5.heap.size) (.slice A5 R.length c5) R := Kd.S_mono (Kd.S_below H5.out.1 hSt) (fun k hk => ⟨hk.2.1, hk.2.2.1⟩)
  have F4 : Hid (∀ W', Below (w13.setCell ⟨p13, 0, none⟩ (.slice A5 R.length c5)).heap.size (w13.setCell ⟨p13, 0, none⟩ (.slice A5 R.length c5)) W' → Below q8.heap.size q8 W' ∧ W'.cell? ⟨p13, 0, none⟩ = some (.slice A5 R.length c5) ∧ sEnt W' q8.heap.size (fun k => q8.heap.size ≤ k ∧ k < w5.heap.size) (.slice A5 R.length c5) R) := Lib.hid (fun W' h => by
    have q5 : Below w5.heap.size w5 W' := hSt.trans (h.mono hSt.size)
    exact ⟨H5.out.2.trans (q5.mono H5.out.2.size), pw_cell_below h ((blk_cell hK9 0).trans rfl), Kd.S_below hSG h⟩)
  have h85 := H5.out.2.size
  clear hcz0 hfz0 BX13 hSt hK9 H5 hSG
  generalize (w13.setCell ⟨p13, 0, none⟩ (.slice A5 R.length c5)) = q9 at F4 hlt9 ⊢
  have HL9 := Lib.hid (And.intro hlt9 (And.intro hge9 h85))
  clear hlt9 hge9 h85
  have G9 : Hid (∀ W', Below q9.heap.size q9 W' → Below w.heap.size w W' ∧ W'.cell? ⟨w.heap.size, 0, none⟩ = some (.slice A0 n c0) ∧ W'.cell? ⟨p10, 0, none⟩ = some (.slice A3 R.length c3) ∧ Kd.C k68 W' A3 R.length R ∧ W'.cell? ⟨p12, 0, none⟩ = some (.slice A4 E.length c4) ∧ sEnt W' q6.heap.size (fun k => q6.heap.size ≤ k ∧ k < w4.heap.size) (.slice A4 E.length c4) E ∧ W'.cell? ⟨p13, 0, none⟩ = some (.slice A5 R.length c5) ∧ sEnt W' q8.heap.size (fun k => q8.heap.size ≤ k ∧ k < w5.heap.size) (.slice A5 R.length c5) R ∧ Below q6.heap.size q6 W' ∧ Below q8.heap.size q8 W') := Lib.hid (fun W' h => by
    obtain ⟨a1, a2, a3⟩ := F4.out W' h
    obtain ⟨d1, d2, d3⟩ := F3.out W' a1
    obtain ⟨e1, e2, e3, e4⟩ := F2.out W' d1
    exact ⟨e1, e2, e3, e4, d2, d3, a2, a3, d1, a1⟩)
  have HQ68 := Lib.hid (F3.out _ (Below.refl _ _)).1.size
  clear F3 F4
  obtain ⟨_, _, cw, _, _, _, cg, _, _, _⟩ := G9.out _ (Below.refl _ _)
  go_upto_region 14 with (first
    | (go_at_call 31; refine (HER.out A5 A3 c5 c3 q9 (S_C (G9.out _ (Below.refl _ _)).2.2.2.2.2.2.2.1).1 (S_C (G9.out _ (Below.refl _ _)).2.2.2.2.2.2.2.1).2 (G9.out _ (Below.refl _ _)).2.2.2.1 HC3.out).mono ?_; rintro e w6 ⟨rfl, hB6⟩; have H6 := Lib.hid hB6; clear hB6 cw cg))
  have hBd : Below q9.heap.size q9 w6.drew := below_drew1 H6.out
  refine start_ (n := 5) (S := fun w' => w'.cell? ⟨p12, 0, none⟩ = some (.slice A4 E.length c4) ∧ w'.cell? ⟨w.heap.size, 0, none⟩ = some (.slice A0 n c0)) (ds := []) #[false, false, false, false, false] (by kernel_rfl) rfl rfl ⟨(G9.out _ hBd).2.2.2.2.1, (G9.out _ hBd).2.1⟩ (fun hHeld => ?_)
  clear H6
  generalize w6.drew = w7 at hBd hHeld ⊢
  have H7 := Lib.hid hBd
  clear hBd
  refine take_ (i := 0) (N := some 59) (v := ?_) (a' := ?_) #[true, false, false, false, false] rfl rfl (by kernel_rfl) (fun _ _ _ h => h) (Or.inl ⟨by rfl, ?_⟩) hHeld ?_ ?_
  rotate_left
  · rintro w' ⟨s0, s1⟩
    go_simp
    with_reducible rfl
  rotate_left
  · simp only [Act.put, List.setIfInBounds_toArray, List.set_cons_zero, List.set_cons_succ, i64_w, i32_w]
    rfl
  refine take_ (i := 1) (N := some 60) (v := ?_) (a' := ?_) #[true, true, false, false, false] rfl rfl (by kernel_rfl) (fun _ _ _ h => h) (Or.inl ⟨by rfl, ?_⟩) hHeld ?_ ?_
  rotate_left
  · rintro w' ⟨s0, s1⟩
    go_simp
    with_reducible rfl
  rotate_left
  · simp only [Act.put, List.setIfInBounds_toArray, List.set_cons_zero, List.set_cons_succ, i64_w, i32_w]
    rfl
  refine one_ (i := 2) (N := some 61) #[true, true, true, false, false] rfl rfl (by kernel_rfl) (by decide) (fun K hK => ?_)
  refine goes_ Tryd.func29 (by kernel_rfl) rfl #[.agg #[.slice A0 n c0]] (by rfl) rfl rfl (by (try simp only [List.map_toArray, List.map_cons, List.map_nil]); first | done | rfl) ?_
  refine (HTO.out _ (G9.out _ H7.out).1).mono ?_
  rintro e w8 ⟨v8, rfl, hS8, hB8⟩
  refine ⟨_, rfl, ?_⟩
  obtain ⟨A8, c8, e8⟩ := Kd.S_slice hS8
  subst e8
  have H8 := Lib.hid (And.intro (S_C hS8) (H7.out.trans (hB8.mono H7.out.size)))
  clear hS8 hB8 H7
  refine hK.out _ _ ⟨(G9.out _ H8.out.2).2.2.2.2.1, (G9.out _ H8.out.2).2.1⟩ (fun hHeld => ?_)
  clear hK K
  refine norm_ (a' := ?_) ?_ ?_
  rotate_left
  · show Act.put _ (some 61) _ = _
    simp only [Act.put, List.setIfInBounds_toArray, List.set_cons_zero, List.set_cons_succ, i64_w, i32_w]
    rfl
  refine one_ (i := 3) (N := some 62) #[true, true, true, true, false] rfl rfl (by kernel_rfl) (by decide) (fun K hK => ?_)
  refine goes_ Tryd.func31 (by kernel_rfl) rfl #[.agg #[.slice A4 E.length c4], .agg #[.slice A8 E.length c8]] (by rfl) rfl rfl (by (try simp only [List.map_toArray, List.map_cons, List.map_nil]); first | done | rfl) ?_
  refine (HEE.out A4 A8 c4 c8 w8 (S_C (G9.out _ H8.out.2).2.2.2.2.2.1).1 (S_C (G9.out _ H8.out.2).2.2.2.2.2.1).2 H8.out.1.1 H8.out.1.2).mono ?_
  rintro e w9 ⟨rfl, hB9⟩
  refine ⟨_, rfl, ?_⟩
  have H9 := Lib.hid (H8.out.2.trans (hB9.mono H8.out.2.size))
  clear hB9 H8
  refine hK.out _ _ ⟨(G9.out _ H9.out).2.2.2.2.1, (G9.out _ H9.out).2.1⟩ (fun hHeld => ?_)
  clear hK K
  refine norm_ (a' := ?_) ?_ ?_
  rotate_left
  · show Act.put _ (some 62) _ = _
    simp only [Act.put, List.setIfInBounds_toArray, List.set_cons_zero, List.set_cons_succ, i64_w, i32_w]
    rfl
  refine pure_ (i := 4) (N := some 63) (v := ?_) (a' := ?_) #[true, true, true, true, true] rfl rfl (by kernel_rfl) (fun _ _ _ h => h) (Or.inl ⟨by rfl, ?_⟩) ?_ ?_
  rotate_left
  · intro w'; go_simp; with_reducible rfl
  rotate_left
  · simp only [Act.put, List.setIfInBounds_toArray, List.set_cons_zero, List.set_cons_succ, i64_w, i32_w]
    rfl
  refine done_ (by kernel_rfl) ?_
  clear hHeld
  have G10 := Lib.hid (fun W' (h : Below w9.heap.size w9 W') => G9.out W' (H9.out.trans (h.mono H9.out.size)))
  have h99 := H9.out.size
  have HL := Lib.hid (And.intro h99 (And.intro HL6.out (And.intro HL8.out HL9.out)))
  clear G9 H9 h99 HL6 HL8 HL9
  obtain ⟨_, cb, cw, _, cx, _, cg, _, _, _⟩ := G10.out _ (Below.refl _ _)
  clear cb cw
  have P1 : True := trivial
  have HL8S := HQ68
  go_upto_region 29 with (first
    | (have _ := P1; go_at_call 36; refine (HMX.out (.slice A4 E.length c4) q6.heap.size (fun k => q6.heap.size ≤ k ∧ k < w4.heap.size) w9 (G10.out _ (Below.refl _ _)).2.2.2.2.2.1 (G10.out _ (Below.refl _ _)).2.2.2.2.2.2.2.2.1.size).mono ?_; rintro e w10 ⟨rfl, _, hB10, hK10⟩; have D10 := (G10.out _ (Below.refl _ _)).2.2.2.2.2.2.2.2.1.trans hB10; have cg2 := cell_kept cg hK10 (fun h => by have h1 : p13 < w4.heap.size := h.2; have h3 := HL.out.2.2.1; have h4 := HL.out.2.2.2.2.2; have h5 := HL.out.2.2.2.2.1; have h6 := HL.out.2.2.1; omega); have SG2 := Kd.S_kept (G10.out _ (Below.refl _ _)).2.2.2.2.2.2.2.1 hK10 (fun k hk h2 => by have h3 : q8.heap.size ≤ k := hk.1; have h4 : k < w4.heap.size := h2.2; have h5 := HL.out.2.2.1; omega); have F10 : Hid (∀ W', Below w10.heap.size w10 W' → Below q6.heap.size q6 W' ∧ W'.cell? ⟨p13, 0, none⟩ = some (.slice A5 R.length c5) ∧ sEnt W' q8.heap.size (fun k => q8.heap.size ≤ k ∧ k < w5.heap.size) (.slice A5 R.length c5) R) := Lib.hid (fun W' h => ⟨(D10).trans (h.mono (D10).size), pw_cell_below h cg2, Kd.S_below SG2 h⟩); have cw2 := (F2.out _ D10).2.2.1; clear cx cg hB10 hK10 D10 SG2; clear P1; have P2 : True := trivial)
    | (go_at_call 31; refine (HER.out A5 A3 c5 c3 w10 (S_C (F10.out _ (Below.refl _ _)).2.2).1 (S_C (F10.out _ (Below.refl _ _)).2.2).2 (F2.out _ (F10.out _ (Below.refl _ _)).1).2.2.2 HC3.out).mono ?_; rintro e w11 ⟨rfl, hB11⟩; have F11 := Lib.hid (fun W' (h : Below w11.heap.size w11 W') => F10.out W' (hB11.trans (h.mono hB11.size))); have cg3 := (F11.out _ (Below.refl _ _)).2.1; clear hB11 cw2 cg2)
    | (have _ := P2; go_at_call 36; refine (HMG.out (.slice A5 R.length c5) q8.heap.size (fun k => q8.heap.size ≤ k ∧ k < w5.heap.size) w11 (F11.out _ (Below.refl _ _)).2.2 (by have h1 := (F10.out _ (Below.refl _ _)).1.size; have h2 := (F11.out _ (Below.refl _ _)).1.size; have h3 := HL.out; have h4 := block_lt_of_cell (F11.out _ (Below.refl _ _)).2.1; have h5 := HL.out.2.2.2.2.1; have h6 := HL.out.2.2.2.2.2; change p13 < w11.heap.size at h4; omega)).mono ?_; rintro e w12 ⟨rfl, hS12, hB12, hK12⟩; have D12 := (F11.out _ (Below.refl _ _)).1.trans (hB12.mono (by have h5 := HL.out.2.2.1; have h6 := HL.out.2.2.2.2.2; have h7 := HL.out.2.2.1; have h8 := HL8S.out; omega)); have cg4 := cell_kept cg3 hK12 (fun h => by have h1 : p13 < w5.heap.size := h.2; have h5 := HL.out.2.2.2.2.1; omega); have F12 : Hid (∀ W', Below w12.heap.size w12 W' → Below q6.heap.size q6 W' ∧ W'.cell? ⟨p13, 0, none⟩ = some (.slice A5 R.length c5) ∧ sEnt W' q8.heap.size (fun k => q8.heap.size ≤ k ∧ k < w5.heap.size) (.slice A5 R.length c5) (mkL mt 1 R)) := Lib.hid (fun W' h => ⟨(D12).trans (h.mono (D12).size), pw_cell_below h cg4, Kd.S_below hS12 h⟩); clear cg3 hS12 hB12 hK12 D12; clear P2)
    | (go_at_call 37; refine (HHG.out A5 c5 w12 (S_C (F12.out _ (Below.refl _ _)).2.2).1).mono ?_; rintro e w13 ⟨rfl, hB13⟩; have F13 := Lib.hid (fun W' (h : Below w13.heap.size w13 W') => F12.out W' (hB13.trans (h.mono hB13.size))); have cb3 := (F2.out _ (F13.out _ (Below.refl _ _)).1).2.1; clear hB13 cg4)
    | (go_at_call 29; refine (HTO.out _ (F2.out _ (F13.out _ (Below.refl _ _)).1).1).mono ?_; rintro e w14 ⟨v14, rfl, hS14, hB14⟩; obtain ⟨A14, c14, e14⟩ := Kd.S_slice hS14; subst e14; have H14 := Lib.hid (S_C hS14); have F14 := Lib.hid (fun W' (h : Below w14.heap.size w14 W') => F13.out W' (hB14.trans (h.mono hB14.size))); clear hS14 hB14 cb3)
    | (go_at_call 41; refine (HIM.out A14 c14 w14 H14.out.1 H14.out.2).mono ?_; rintro e w15 ⟨v15, rfl, hS15, hB15⟩; obtain ⟨A15, c15, e15⟩ := Kd.S_slice hS15; subst e15; have H15 := Lib.hid (S_C hS15); have F15 := Lib.hid (fun W' (h : Below w15.heap.size w15 W') => F14.out W' (hB15.trans (h.mono hB15.size))); clear hS15 hB15)
    | ((with_reducible refine gate_dst (N := 18) rfl ?_); refine box_event ?hg (N := 18) ?hd (cs := #[.slice none 0 0]) (t := 38) ?hr ?_; (case hd => rfl); (case hg => rfl); (case hr => first | (go_simp; done) | (go_simp; rfl)); intro p18 hp w18 hbox hb; have hcz0 := (blk_cell hbox 0).trans rfl; have hfz0 := blk_frozen hbox 0; have BX18 := Lib.hid (And.intro hbox (And.intro hb hp)); clear hbox hb hp))
  have hSt : Below w15.heap.size w15 (w18.setCell ⟨p18, 0, none⟩ (.slice A15 R.length c15)) := below_set BX18.out.2.1 (by rw [BX18.out.2.2]; exact Nat.le_refl _)
  have hK14 := blk_put BX18.out.1 0 (.slice A15 R.length c15) rfl
  have ch := (blk_cell hK14 0).trans rfl
  have F16 := Lib.hid (fun W' (h : Below (w18.setCell ⟨p18, 0, none⟩ (.slice A15 R.length c15)).heap.size (w18.setCell ⟨p18, 0, none⟩ (.slice A15 R.length c15)) W') => F15.out W' (hSt.trans (h.mono hSt.size)))
  have HC15 := Lib.hid (And.intro (Kd.C_below H15.out.1 hSt) H15.out.2)
  clear hcz0 hfz0 BX18 hSt hK14 H15 F15
  generalize (w18.setCell ⟨p18, 0, none⟩ (.slice A15 R.length c15)) = q14 at F16 HC15 ch ⊢
  have cw5 := (F2.out _ (F16.out _ (Below.refl _ _)).1).2.2.1
  go_wp2_with (first
    | (go_at_call 31; refine (HER.out A15 A3 c15 c3 q14 HC15.out.1 HC15.out.2 (F2.out _ (F16.out _ (Below.refl _ _)).1).2.2.2 HC3.out).mono ?_; rintro e w16 ⟨rfl, hB16⟩; have F17 := Lib.hid (fun W' (h : Below w16.heap.size w16 W') => F16.out W' (hB16.trans (h.mono hB16.size))); have cg5 := (F17.out _ (Below.refl _ _)).2.1; clear hB16 cw5 ch)
    | (go_at_call 37; refine (HHG.out A5 c5 w16 (S_C (F17.out _ (Below.refl _ _)).2.2).1).mono ?_; rintro e w17 ⟨rfl, hB17⟩; have F18 := Lib.hid (fun W' (h : Below w17.heap.size w17 W') => F17.out W' (hB17.trans (h.mono hB17.size))); clear hB17 cg5))
  go_ret
  exact ⟨by first | rfl | (simp; done), (F2.out _ (F18.out _ (Below.refl _ _)).1).1⟩
end Go.Proofs.YtnghcnkffbjddaaDoorV.Aes
