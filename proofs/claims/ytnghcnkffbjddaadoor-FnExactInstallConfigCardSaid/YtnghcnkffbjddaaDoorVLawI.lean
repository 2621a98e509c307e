/- The law InstallConfig, walked: two calls of the program's function and one of the reference's that tell the same, rows marked and read again. Conditions: those that the theorem names. -/
import Derived.Test.YtnghcnkffbjddaaDoorVTabVI
import Derived.Deep.Cut
namespace Go.Proofs.YtnghcnkffbjddaaDoorV.Aes
open Go.RowKit Go.Proofs.YtnghcnkffbjddaaDoorV.PrintWords Go.Proofs.YtnghcnkffbjddaaDoorV.PrintLast Go.Proofs.YtnghcnkffbjddaaDoorV.PrintMore Go.Proofs.YtnghcnkffbjddaaDoorV.Mem
set_option linter.unusedVariables false
set_option linter.unusedSimpArgs false

open Go.Maps Go.WideShapes Go.Proofs.YtnghcnkffbjddaaDoor.PImplM
theorem cut_ {T G : Prop} (main : T → G) (pf : T) : G := main pf
set_option maxHeartbeats 40000000 in
set_option maxRecDepth 100000 in
theorem law_walkI (A0 : Option Addr) (c0 n : Nat) (s0 s1 s2 : Int) (ky : ByteArray) (fb : Bool) (E R : List S68) (code r r' : Int) (w : World) (mt : Int → ByteArray) (hmt : MarkT mt) (hE : SmallE E) (hR : SmallE R) (heE : EqIs E) (heR : EqIs R) (hr0 : ¬ r < 0) (hr1 : ¬ r' < 0)
    (hsz : ∀ W, Below w.heap.size w W → Calls Tryd.prog 27 #[.agg #[.slice A0 n c0], .int .i64 1048576] W fun e w' => e = .returned (.int .i64 r) ∧ Below W.heap.size W w')
    (hsc : ∀ W, Calls Tryd.prog 32 #[.agg #[.int .i64 s0, .int .i64 s1, .int .i64 s2, .string ky, .bool fb], .int .i64 r] W fun e w' => e = .returned (.int .i64 r') ∧ Below W.heap.size W w')
    (htc : ∀ W, Calls Tryd.prog 34 #[.agg #[.int .i64 s0, .int .i64 s1, .int .i64 s2, .string ky, .bool fb]] W fun e w' => e = .returned (.agg #[.int .i64 s0, .int .i64 s1, .int .i64 s2, .string ky, .bool fb]) ∧ Below W.heap.size W w')
    (hto : ∀ W, Below w.heap.size w W → Calls Tryd.prog 29 #[.agg #[.slice A0 n c0]] W fun e w' => ∃ v : Value, e = .returned (.agg #[v]) ∧ sEnt w' W.heap.size (fun _ => True) v E ∧ Below W.heap.size W w')
    (hsp : ∀ (A : Option Addr) (c : Nat) (W : World), Kd.C k68 W A E.length E → E.length ≤ c → Calls Tryd.prog 33 #[.agg #[.slice A E.length c], .agg #[.int .i64 s0, .int .i64 s1, .int .i64 s2, .string ky, .bool fb]] W (SpPost2 W R code))
    (him : ∀ (A : Option Addr) (c : Nat) (W : World), Kd.C k68 W A E.length E → E.length ≤ c → Calls Tryd.prog 35 #[.agg #[.slice A E.length c], .agg #[.int .i64 s0, .int .i64 s1, .int .i64 s2, .string ky, .bool fb]] W (ChPost W R code)) :
    Calls Tryd.prog 8 #[.agg #[.slice A0 n c0], .agg #[.int .i64 s0, .int .i64 s1, .int .i64 s2, .string ky, .bool fb]] w fun e w' => e = .returned (.bool true) ∧ Below w.heap.size w w' := by
  have hrd : decide (r < 0) = false := decide_eq_false hr0
  have hrd' : decide (r' < 0) = false := decide_eq_false hr1
  have hne : (code != code) = false := by simp
  obtain ⟨kx, hkx⟩ : ∃ q, q = nxL 1 E := ⟨_, rfl⟩
  obtain ⟨kg, hkg⟩ : ∃ q, q = nxL 1 R := ⟨_, rfl⟩
  have hkx1 : 1 ≤ kx := by rw [hkx]; exact (nxL_le 1 E 1048576 (fun x hx => by have := hE.2 x hx; omega) (by decide)).1
  have hkg1 : 1 ≤ kg := by rw [hkg]; exact (nxL_le 1 R 1048576 (fun x hx => by have := hR.2 x hx; omega) (by decide)).1
  have hkxd : decide (kx < 0) = false := decide_eq_false (by omega)
  have hkgd : decide (kg < 0) = false := decide_eq_false (by omega)
  have hkgn : (kg != kg) = false := by simp
  have hmx := fun (v : Value) (base : Nat) (ok : Nat → Prop) (W : World) (hS : sEnt W base ok v E) (hb : base ≤ W.heap.size) => markT_walk mt hmt v E base ok W hS hb hE.1 hE.2
  have hmg := fun (v : Value) (base : Nat) (ok : Nat → Prop) (W : World) (hS : sEnt W base ok v R) (hb : base ≤ W.heap.size) => markT_walk mt hmt v R base ok W hS hb hR.1 hR.2
  have hhg := fun (A : Option Addr) (c : Nat) (W : World) (hC : Kd.C k68 W A R.length (mkL mt 1 R)) => heldT_walk mt hmt A c R W hC hR.1 hR.2
  rw [← hkx] at hmx
  rw [← hkg] at hmg hhg
  have HSZ := Lib.hid hsz
  have HSC := Lib.hid hsc
  have HTC := Lib.hid htc
  have HTO := Lib.hid hto
  have HSPC := Lib.hid hsp
  have HIM := Lib.hid him
  have HEE := Lib.hid heE
  have HER := Lib.hid heR
  have HMX := Lib.hid hmx
  have HMG := Lib.hid hmg
  have HHG := Lib.hid hhg
  clear hsz hsc htc hto hsp him heE heR hmx hmg hhg hE hR hkx hkg hkx1 hkg1 hr0 hr1
  have q1 : (w.alloc (.cells #[.slice A0 n c0] 33)).heap.size = w.heap.size + 1 := by simp
  have b1 := blk_alloc (heap_alloc_new w (.cells #[.slice A0 n c0] 33)) (.cells #[.int .i64 s0, .int .i64 s1, .int .i64 s2, .string ky, .bool fb] 43)
  have b2 := heap_alloc_new (w.alloc (.cells #[.slice A0 n c0] 33)) (.cells #[.int .i64 s0, .int .i64 s1, .int .i64 s2, .string ky, .bool fb] 43)
  rw [q1] at b2
  have ca := (blk_cell b1 0).trans rfl
  have hB0 : Below w.heap.size w ((w.alloc (.cells #[.slice A0 n c0] 33)).alloc (.cells #[.int .i64 s0, .int .i64 s1, .int .i64 s2, .string ky, .bool fb] 43)) := ((Below.refl _ _).alloc (Nat.le_refl _) _).alloc (by rw [q1]; omega) _
  have F0 : Hid (∀ W', Below ((w.alloc (.cells #[.slice A0 n c0] 33)).alloc (.cells #[.int .i64 s0, .int .i64 s1, .int .i64 s2, .string ky, .bool fb] 43)).heap.size ((w.alloc (.cells #[.slice A0 n c0] 33)).alloc (.cells #[.int .i64 s0, .int .i64 s1, .int .i64 s2, .string ky, .bool fb] 43)) W' → Below w.heap.size w W' ∧ W'.cell? ⟨w.heap.size, 0, none⟩ = some (.slice A0 n c0) ∧ W'.cell? ⟨w.heap.size + 1, 0, none⟩ = some (.int .i64 s0) ∧ W'.cell? ⟨w.heap.size + 1, 1, none⟩ = some (.int .i64 s1) ∧ W'.cell? ⟨w.heap.size + 1, 2, none⟩ = some (.int .i64 s2) ∧ W'.cell? ⟨w.heap.size + 1, 3, none⟩ = some (.string ky) ∧ W'.cell? ⟨w.heap.size + 1, 4, none⟩ = some (.bool fb)) := Lib.hid (fun W' h => ⟨hB0.trans (h.mono hB0.size), pw_cell_below h ca, pw_cell_below h ((blk_cell b2 0).trans rfl), pw_cell_below h ((blk_cell b2 1).trans rfl), pw_cell_below h ((blk_cell b2 2).trans rfl), pw_cell_below h ((blk_cell b2 3).trans rfl), pw_cell_below h ((blk_cell b2 4).trans rfl)⟩)
  clear b1 b2 q1 hB0
  go_enter Tryd.func8, Tryd.ntmps8
  go_upto_region 8 with (first
    | (go_at_call 27; refine (HSZ.out _ (F0.out _ (Below.refl _ _)).1).mono ?_; rintro e w0 ⟨rfl, hB1⟩; have Fz : Hid (∀ W', Below w0.heap.size w0 W' → Below w.heap.size w W' ∧ W'.cell? ⟨w.heap.size, 0, none⟩ = some (.slice A0 n c0) ∧ W'.cell? ⟨w.heap.size + 1, 0, none⟩ = some (.int .i64 s0) ∧ W'.cell? ⟨w.heap.size + 1, 1, none⟩ = some (.int .i64 s1) ∧ W'.cell? ⟨w.heap.size + 1, 2, none⟩ = some (.int .i64 s2) ∧ W'.cell? ⟨w.heap.size + 1, 3, none⟩ = some (.string ky) ∧ W'.cell? ⟨w.heap.size + 1, 4, none⟩ = some (.bool fb)) := Lib.hid (fun W' h => F0.out W' (hB1.trans (h.mono hB1.size))); obtain ⟨_, _, ck0, ck1, ck2, ck3, ck4⟩ := Fz.out _ (Below.refl _ _); clear hB1 ca F0)
    | (go_at_call 32; refine (HSC.out _).mono ?_; rintro e w1 ⟨rfl, hB2⟩; have F1 : Hid (∀ W', Below w1.heap.size w1 W' → Below w.heap.size w W' ∧ W'.cell? ⟨w.heap.size, 0, none⟩ = some (.slice A0 n c0) ∧ W'.cell? ⟨w.heap.size + 1, 0, none⟩ = some (.int .i64 s0) ∧ W'.cell? ⟨w.heap.size + 1, 1, none⟩ = some (.int .i64 s1) ∧ W'.cell? ⟨w.heap.size + 1, 2, none⟩ = some (.int .i64 s2) ∧ W'.cell? ⟨w.heap.size + 1, 3, none⟩ = some (.string ky) ∧ W'.cell? ⟨w.heap.size + 1, 4, none⟩ = some (.bool fb)) := Lib.hid (fun W' h => Fz.out W' (hB2.trans (h.mono hB2.size))); clear hB2 ck0 ck1 ck2 ck3 ck4 Fz))
  apply cut_
  · intro TAIL
    have hy1 : Below w1.heap.size w1 w1.drew := below_drew1 (Below.refl _ _)
    have HY := Lib.hid hy1
    clear hy1
    refine start_ (n := 11) (S := fun w' => w'.cell? ⟨w.heap.size, 0, none⟩ = some (.slice A0 n c0) ∧ w'.cell? ⟨w.heap.size + 1, 0, none⟩ = some (.int .i64 s0) ∧ w'.cell? ⟨w.heap.size + 1, 1, none⟩ = some (.int .i64 s1) ∧ w'.cell? ⟨w.heap.size + 1, 2, none⟩ = some (.int .i64 s2) ∧ w'.cell? ⟨w.heap.size + 1, 3, none⟩ = some (.string ky) ∧ w'.cell? ⟨w.heap.size + 1, 4, none⟩ = some (.bool fb)) (ds := []) #[false, false, false, false, false, false, false, false, false, false, false] (by kernel_rfl) rfl rfl ⟨(F1.out _ HY.out).2.1, (F1.out _ HY.out).2.2.1, (F1.out _ HY.out).2.2.2.1, (F1.out _ HY.out).2.2.2.2.1, (F1.out _ HY.out).2.2.2.2.2.1, (F1.out _ HY.out).2.2.2.2.2.2⟩ (fun hHeld => ?_)
    generalize w1.drew = wd at HY hHeld ⊢
    refine take_ (i := 0) (N := some 27) (v := ?_) (a' := ?_) #[true, false, false, false, false, false, false, false, false, false, false] rfl rfl (by kernel_rfl) (fun _ _ _ h => h) (Or.inl ⟨by rfl, ?_⟩) hHeld ?_ ?_
    rotate_left
    · rintro w' ⟨s0, s1, s2, s3, s4, s5⟩
      go_simp
      with_reducible rfl
    rotate_left
    · simp only [Act.put, List.setIfInBounds_toArray, List.set_cons_zero, List.set_cons_succ, i64_w, i32_w]
      rfl
    refine take_ (i := 2) (N := some 29) (v := ?_) (a' := ?_) #[true, false, true, false, false, false, false, false, false, false, false] rfl rfl (by kernel_rfl) (fun _ _ _ h => h) (Or.inl ⟨by rfl, ?_⟩) hHeld ?_ ?_
    rotate_left
    · rintro w' ⟨s0, s1, s2, s3, s4, s5⟩
      go_simp
      with_reducible rfl
    rotate_left
    · simp only [Act.put, List.setIfInBounds_toArray, List.set_cons_zero, List.set_cons_succ, i64_w, i32_w]
      rfl
    refine two_ (i := 1) (j := 8) (Ni := some 28) (Nj := some 6) #[true, true, true, false, false, false, false, false, false, false, false] #[true, false, true, false, false, false, false, false, true, false, false] rfl rfl rfl rfl (by kernel_rfl) (by decide) (by decide) (fun K hK => ?_) (fun K hK => ?_)
    · refine goes_ Tryd.func29 (by kernel_rfl) rfl #[.agg #[.slice A0 n c0]] (by rfl) rfl rfl (by (try simp only [List.map_toArray, List.map_cons, List.map_nil]); first | done | rfl) ?_
      refine (HTO.out _ (F1.out _ HY.out).1).mono ?_
      rintro e w2 ⟨v_, rfl, hS_, hB_⟩
      refine ⟨_, rfl, ?_⟩
      have HY := Lib.hid (HY.out.trans (hB_.mono HY.out.size))
      have D2 := Lib.hid (Below.refl w2.heap.size w2)
      obtain ⟨A2, c2, e_⟩ := Kd.S_slice hS_
      subst e_
      have H2 := Lib.hid (S_C hS_)
      clear hS_
      clear hB_
      refine hK.out _ _ ⟨(F1.out _ HY.out).2.1, (F1.out _ HY.out).2.2.1, (F1.out _ HY.out).2.2.2.1, (F1.out _ HY.out).2.2.2.2.1, (F1.out _ HY.out).2.2.2.2.2.1, (F1.out _ HY.out).2.2.2.2.2.2⟩ (fun hHeld => ?_)
      clear hK K
      refine norm_ (a' := ?_) ?_ ?_
      rotate_left
      · show Act.put _ (some 28) _ = _
        simp only [Act.put, List.setIfInBounds_toArray, List.set_cons_zero, List.set_cons_succ, i64_w, i32_w]
        rfl
      refine two_ (i := 3) (j := 8) (Ni := some 30) (Nj := some 6) #[true, true, true, true, false, false, false, false, false, false, false] #[true, true, true, false, false, false, false, false, true, false, false] rfl rfl rfl rfl (by kernel_rfl) (by decide) (by decide) (fun K hK => ?_) (fun K hK => ?_)
      · refine goes_ Tryd.func34 (by kernel_rfl) rfl #[.agg #[.int .i64 s0, .int .i64 s1, .int .i64 s2, .string ky, .bool fb]] (by rfl) rfl rfl (by (try simp only [List.map_toArray, List.map_cons, List.map_nil]); first | done | rfl) ?_
        refine (HTC.out _).mono ?_
        rintro e w3 ⟨rfl, hB_⟩
        refine ⟨_, rfl, ?_⟩
        have HY := Lib.hid (HY.out.trans (hB_.mono HY.out.size))
        have D2 := Lib.hid (D2.out.trans (hB_.mono D2.out.size))
        skip
        clear hB_
        refine hK.out _ _ ⟨(F1.out _ HY.out).2.1, (F1.out _ HY.out).2.2.1, (F1.out _ HY.out).2.2.2.1, (F1.out _ HY.out).2.2.2.2.1, (F1.out _ HY.out).2.2.2.2.2.1, (F1.out _ HY.out).2.2.2.2.2.2⟩ (fun hHeld => ?_)
        clear hK K
        refine norm_ (a' := ?_) ?_ ?_
        rotate_left
        · show Act.put _ (some 30) _ = _
          simp only [Act.put, List.setIfInBounds_toArray, List.set_cons_zero, List.set_cons_succ, i64_w, i32_w]
          rfl
        refine two_ (i := 4) (j := 8) (Ni := some 31) (Nj := some 6) #[true, true, true, true, true, false, false, false, false, false, false] #[true, true, true, true, false, false, false, false, true, false, false] rfl rfl rfl rfl (by kernel_rfl) (by decide) (by decide) (fun K hK => ?_) (fun K hK => ?_)
        · refine goes_ Tryd.func33 (by kernel_rfl) rfl #[.agg #[.slice A2 E.length c2], .agg #[.int .i64 s0, .int .i64 s1, .int .i64 s2, .string ky, .bool fb]] (by rfl) rfl rfl (by (try simp only [List.map_toArray, List.map_cons, List.map_nil]); first | done | rfl) ?_
          refine (HSPC.out A2 c2 _ (Kd.C_below H2.out.1 D2.out) H2.out.2).mono ?_
          rintro e w4 ⟨A3, c3, rfl, hc3, hC3, hB_⟩
          refine ⟨_, rfl, ?_⟩
          have HY := Lib.hid (HY.out.trans (hB_.mono HY.out.size))
          have D2 := Lib.hid (D2.out.trans (hB_.mono D2.out.size))
          have D4 := Lib.hid (Below.refl w4.heap.size w4)
          obtain ⟨wS, hwS⟩ : ∃ q, q = w3 := ⟨_, rfl⟩
          have HST := Lib.hid (And.intro hC3 hc3)
          rw [← hwS] at HST
          clear hC3 hc3 hwS
          clear hB_
          refine hK.out _ _ ⟨(F1.out _ HY.out).2.1, (F1.out _ HY.out).2.2.1, (F1.out _ HY.out).2.2.2.1, (F1.out _ HY.out).2.2.2.2.1, (F1.out _ HY.out).2.2.2.2.2.1, (F1.out _ HY.out).2.2.2.2.2.2⟩ (fun hHeld => ?_)
          clear hK K
          refine norm_ (a' := ?_) ?_ ?_
          rotate_left
          · show Act.put _ (some 31) _ = _
            simp only [Act.put, List.setIfInBounds_toArray, List.set_cons_zero, List.set_cons_succ, i64_w, i32_w]
            rfl
          refine pure_ (i := 5) (N := some 26) (v := ?_) (a' := ?_) #[true, true, true, true, true, true, false, false, false, false, false] rfl rfl (by kernel_rfl) (fun _ _ _ h => h) (Or.inl ⟨by rfl, ?_⟩) ?_ ?_
          rotate_left
          · intro w'
            go_simp
            with_reducible rfl
          rotate_left
          · simp only [Act.put, List.setIfInBounds_toArray, List.set_cons_zero, List.set_cons_succ, i64_w, i32_w]
            rfl
          refine pure_ (i := 6) (N := some 32) (v := ?_) (a' := ?_) #[true, true, true, true, true, true, true, false, false, false, false] rfl rfl (by kernel_rfl) (fun _ _ _ h => h) (Or.inl ⟨by rfl, ?_⟩) ?_ ?_
          rotate_left
          · intro w'
            go_simp
            with_reducible rfl
          rotate_left
          · simp only [Act.put, List.setIfInBounds_toArray, List.set_cons_zero, List.set_cons_succ, i64_w, i32_w]
            rfl
          refine pure_ (i := 7) (N := some 33) (v := ?_) (a' := ?_) #[true, true, true, true, true, true, true, true, false, false, false] rfl rfl (by kernel_rfl) (fun _ _ _ h => h) (Or.inl ⟨by rfl, ?_⟩) ?_ ?_
          rotate_left
          · intro w'
            go_simp
            with_reducible rfl
          rotate_left
          · simp only [Act.put, List.setIfInBounds_toArray, List.set_cons_zero, List.set_cons_succ, i64_w, i32_w]
            rfl
          refine one_ (i := 8) (N := some 6) #[true, true, true, true, true, true, true, true, true, false, false] rfl rfl (by kernel_rfl) (by decide) (fun K hK => ?_)
          refine value_ (w1 := ?_) (v := ?_) (by rfl) rfl ?_ ?_
          rotate_left 2
          · go_simp
            constructor
            · rfl
            · rfl
          refine hK.out _ _ ⟨(F1.out _ (show Below w1.heap.size w1 (w4.alloc (.cells #[.slice none 0 0] 38)) from HY.out.alloc HY.out.size _)).2.1, (F1.out _ (show Below w1.heap.size w1 (w4.alloc (.cells #[.slice none 0 0] 38)) from HY.out.alloc HY.out.size _)).2.2.1, (F1.out _ (show Below w1.heap.size w1 (w4.alloc (.cells #[.slice none 0 0] 38)) from HY.out.alloc HY.out.size _)).2.2.2.1, (F1.out _ (show Below w1.heap.size w1 (w4.alloc (.cells #[.slice none 0 0] 38)) from HY.out.alloc HY.out.size _)).2.2.2.2.1, (F1.out _ (show Below w1.heap.size w1 (w4.alloc (.cells #[.slice none 0 0] 38)) from HY.out.alloc HY.out.size _)).2.2.2.2.2.1, (F1.out _ (show Below w1.heap.size w1 (w4.alloc (.cells #[.slice none 0 0] 38)) from HY.out.alloc HY.out.size _)).2.2.2.2.2.2⟩ (fun hHeld => ?_)
          clear hK K
          refine norm_ (a' := ?_) ?_ ?_
          rotate_left
          · show Act.put _ (some 6) _ = _
            simp only [Act.put, List.setIfInBounds_toArray, List.set_cons_zero, List.set_cons_succ, i64_w, i32_w]
            rfl
          have hB_ : Below w4.heap.size w4 (w4.alloc (.cells #[.slice none 0 0] 38)) := (Below.refl _ _).alloc (Nat.le_refl _) _
          have hbx_ : (w4.alloc (.cells #[.slice none 0 0] 38)).heap[w4.heap.size]? = some (.cells #[.slice none 0 0] 38) := heap_alloc_new w4 _
          obtain ⟨p6, hp_⟩ : ∃ q, q = w4.heap.size := ⟨_, rfl⟩
          rw [← hp_] at hbx_
          have hlt_ : p6 < (w4.alloc (.cells #[.slice none 0 0] 38)).heap.size := blk_lt hbx_
          have hge_ : w1.heap.size ≤ p6 := by rw [hp_]; exact HY.out.size
          clear hHeld
          generalize (w4.alloc (.cells #[.slice none 0 0] 38)) = wb at hB_ hbx_ hlt_ ⊢
          rw [← hp_]
          have HY := Lib.hid (HY.out.trans (hB_.mono HY.out.size))
          have D2 := Lib.hid (D2.out.trans (hB_.mono D2.out.size))
          have D4 := Lib.hid (D4.out.trans (hB_.mono D4.out.size))
          have HBX := Lib.hid hbx_
          have HP := Lib.hid (And.intro hge_ hlt_)
          have HSP := Lib.hid (Or.inr (by rw [hp_]; exact Nat.le_refl _) : p6 < wS.heap.size ∨ w4.heap.size ≤ p6)
          clear hB_ hbx_ hlt_ hge_ hp_
          refine one_ (i := 9) (N := none) #[true, true, true, true, true, true, true, true, true, true, false] rfl rfl (by kernel_rfl) (by decide) (fun K hK => ?_)
          have hs_ : wb.cell? ⟨p6, 0, none⟩ = some (.slice none 0 0) := (blk_cell HBX.out 0).trans rfl
          have hf_ := blk_frozen HBX.out 0
          refine skip_ (w1 := ?_) (by rfl) rfl ?_ ?_
          rotate_left
          · go_simp
            rfl
          refine hK.out _ _ ⟨(F1.out _ (show Below w1.heap.size w1 (wb.setCell ⟨p6, 0, none⟩ (.slice A3 R.length c3)) from Below.setCell (p := ⟨p6, 0, none⟩) HY.out HP.out.1 _)).2.1, (F1.out _ (show Below w1.heap.size w1 (wb.setCell ⟨p6, 0, none⟩ (.slice A3 R.length c3)) from Below.setCell (p := ⟨p6, 0, none⟩) HY.out HP.out.1 _)).2.2.1, (F1.out _ (show Below w1.heap.size w1 (wb.setCell ⟨p6, 0, none⟩ (.slice A3 R.length c3)) from Below.setCell (p := ⟨p6, 0, none⟩) HY.out HP.out.1 _)).2.2.2.1, (F1.out _ (show Below w1.heap.size w1 (wb.setCell ⟨p6, 0, none⟩ (.slice A3 R.length c3)) from Below.setCell (p := ⟨p6, 0, none⟩) HY.out HP.out.1 _)).2.2.2.2.1, (F1.out _ (show Below w1.heap.size w1 (wb.setCell ⟨p6, 0, none⟩ (.slice A3 R.length c3)) from Below.setCell (p := ⟨p6, 0, none⟩) HY.out HP.out.1 _)).2.2.2.2.2.1, (F1.out _ (show Below w1.heap.size w1 (wb.setCell ⟨p6, 0, none⟩ (.slice A3 R.length c3)) from Below.setCell (p := ⟨p6, 0, none⟩) HY.out HP.out.1 _)).2.2.2.2.2.2⟩ (fun hHeld => ?_)
          clear hK K
          refine pure_ (i := 10) (N := some 7) (v := ?_) (a' := ?_) #[true, true, true, true, true, true, true, true, true, true, true] rfl rfl (by kernel_rfl) (fun _ _ _ h => h) (Or.inl ⟨by rfl, ?_⟩) ?_ ?_
          rotate_left
          · intro w'
            go_simp
            with_reducible rfl
          rotate_left
          · simp only [Act.put, List.setIfInBounds_toArray, List.set_cons_zero, List.set_cons_succ, i64_w, i32_w]
            rfl
          refine done_ (by kernel_rfl) ?_
          clear hHeld hs_ hf_
          have hq1 : Below w1.heap.size w1 (wb.setCell ⟨p6, 0, none⟩ (.slice A3 R.length c3)) := Below.setCell (p := ⟨p6, 0, none⟩) HY.out HP.out.1 _
          have hqb : (wb.setCell ⟨p6, 0, none⟩ (.slice A3 R.length c3)).heap[p6]? = some (T1 (.slice A3 R.length c3)) := blk_put HBX.out 0 _ rfl
          have hlt6 : p6 < (wb.setCell ⟨p6, 0, none⟩ (.slice A3 R.length c3)).heap.size := blk_lt hqb
          have hszq : (wb.setCell ⟨p6, 0, none⟩ (.slice A3 R.length c3)).heap.size = wb.heap.size := by simp [World.setCell]
          have F2 : Hid (∀ W', Below (wb.setCell ⟨p6, 0, none⟩ (.slice A3 R.length c3)).heap.size (wb.setCell ⟨p6, 0, none⟩ (.slice A3 R.length c3)) W' → Below w.heap.size w W' ∧ W'.cell? ⟨w.heap.size, 0, none⟩ = some (.slice A0 n c0) ∧ W'.cell? ⟨p6, 0, none⟩ = some (.slice A3 R.length c3) ∧ Kd.C k68 W' A3 R.length R ∧ W'.cell? ⟨w.heap.size + 1, 0, none⟩ = some (.int .i64 s0) ∧ W'.cell? ⟨w.heap.size + 1, 1, none⟩ = some (.int .i64 s1) ∧ W'.cell? ⟨w.heap.size + 1, 2, none⟩ = some (.int .i64 s2) ∧ W'.cell? ⟨w.heap.size + 1, 3, none⟩ = some (.string ky) ∧ W'.cell? ⟨w.heap.size + 1, 4, none⟩ = some (.bool fb)) := Lib.hid (fun W' h => by
            have a := F1.out W' (hq1.trans (h.mono hq1.size))
            refine ⟨a.1, a.2.1, pw_cell_below h ((blk_cell hqb 0).trans rfl), HST.out.1 W' (fun k hk1 hk2 => ?_), a.2.2⟩
            have h4 := D4.out.size
            have hne : k ≠ p6 := by have h5 := HSP.out; omega
            exact (h.block k (by rw [hszq]; omega)).trans ((Below.heap_setCell wb ⟨p6, 0, none⟩ _ k hne).trans (D4.out.block k hk2)))
          have HC3 := Lib.hid HST.out.2
          have hbp : w.heap.size < (wb.setCell ⟨p6, 0, none⟩ (.slice A3 R.length c3)).heap.size := block_lt_of_cell (F2.out _ (Below.refl _ _)).2.1
          have hsz0 : w.heap.size ≤ (wb.setCell ⟨p6, 0, none⟩ (.slice A3 R.length c3)).heap.size := (F2.out _ (Below.refl _ _)).1.size
          have HL6 := Lib.hid (And.intro hlt6 (And.intro hbp hsz0))
          clear hq1 hqb hlt6 hszq hbp hsz0 HBX HP HSP HST H2 HY D2 D4
          generalize (wb.setCell ⟨p6, 0, none⟩ (.slice A3 R.length c3)) = q6 at F2 HL6 ⊢
          generalize p6 = x1 at F2 HL6 ⊢
          generalize A2 = x2
          generalize c2 = x3
          generalize A3 = x4 at F2 ⊢
          generalize c3 = x5 at F2 HC3 ⊢
          revert HL6
          revert HC3
          revert F2
          revert q6
          revert x5
          revert x4
          revert x3
          revert x2
          revert x1
          exact TAIL
        · refine value_ (w1 := ?_) (v := ?_) (by rfl) rfl ?_ ?_
          rotate_left 2
          · go_simp
            constructor
            · rfl
            · rfl
          refine hK.out _ _ ⟨(F1.out _ (show Below w1.heap.size w1 (w3.alloc (.cells #[.slice none 0 0] 38)) from HY.out.alloc HY.out.size _)).2.1, (F1.out _ (show Below w1.heap.size w1 (w3.alloc (.cells #[.slice none 0 0] 38)) from HY.out.alloc HY.out.size _)).2.2.1, (F1.out _ (show Below w1.heap.size w1 (w3.alloc (.cells #[.slice none 0 0] 38)) from HY.out.alloc HY.out.size _)).2.2.2.1, (F1.out _ (show Below w1.heap.size w1 (w3.alloc (.cells #[.slice none 0 0] 38)) from HY.out.alloc HY.out.size _)).2.2.2.2.1, (F1.out _ (show Below w1.heap.size w1 (w3.alloc (.cells #[.slice none 0 0] 38)) from HY.out.alloc HY.out.size _)).2.2.2.2.2.1, (F1.out _ (show Below w1.heap.size w1 (w3.alloc (.cells #[.slice none 0 0] 38)) from HY.out.alloc HY.out.size _)).2.2.2.2.2.2⟩ (fun hHeld => ?_)
          clear hK K
          refine norm_ (a' := ?_) ?_ ?_
          rotate_left
          · show Act.put _ (some 6) _ = _
            simp only [Act.put, List.setIfInBounds_toArray, List.set_cons_zero, List.set_cons_succ, i64_w, i32_w]
            rfl
          have hB_ : Below w3.heap.size w3 (w3.alloc (.cells #[.slice none 0 0] 38)) := (Below.refl _ _).alloc (Nat.le_refl _) _
          have hbx_ : (w3.alloc (.cells #[.slice none 0 0] 38)).heap[w3.heap.size]? = some (.cells #[.slice none 0 0] 38) := heap_alloc_new w3 _
          obtain ⟨p6, hp_⟩ : ∃ q, q = w3.heap.size := ⟨_, rfl⟩
          rw [← hp_] at hbx_
          have hlt_ : p6 < (w3.alloc (.cells #[.slice none 0 0] 38)).heap.size := blk_lt hbx_
          have hge_ : w1.heap.size ≤ p6 := by rw [hp_]; exact HY.out.size
          clear hHeld
          generalize (w3.alloc (.cells #[.slice none 0 0] 38)) = wb at hB_ hbx_ hlt_ ⊢
          rw [← hp_]
          have HY := Lib.hid (HY.out.trans (hB_.mono HY.out.size))
          have D2 := Lib.hid (D2.out.trans (hB_.mono D2.out.size))
          have HBX := Lib.hid hbx_
          have HP := Lib.hid (And.intro hge_ hlt_)
          clear hB_ hbx_ hlt_ hge_ hp_
          refine one_ (i := 4) (N := some 31) #[true, true, true, true, true, false, false, false, true, false, false] rfl rfl (by kernel_rfl) (by decide) (fun K hK => ?_)
          have HPO := Lib.hid HP.out.2
          refine goes_ Tryd.func33 (by kernel_rfl) rfl #[.agg #[.slice A2 E.length c2], .agg #[.int .i64 s0, .int .i64 s1, .int .i64 s2, .string ky, .bool fb]] (by rfl) rfl rfl (by (try simp only [List.map_toArray, List.map_cons, List.map_nil]); first | done | rfl) ?_
          refine (HSPC.out A2 c2 _ (Kd.C_below H2.out.1 D2.out) H2.out.2).mono ?_
          rintro e w4 ⟨A3, c3, rfl, hc3, hC3, hB_⟩
          refine ⟨_, rfl, ?_⟩
          have HY := Lib.hid (HY.out.trans (hB_.mono HY.out.size))
          have D2 := Lib.hid (D2.out.trans (hB_.mono D2.out.size))
          have HBX := Lib.hid (blk_below HBX.out hB_)
          have HP := Lib.hid (And.intro HP.out.1 (Nat.lt_of_lt_of_le HP.out.2 hB_.size))
          have D4 := Lib.hid (Below.refl w4.heap.size w4)
          obtain ⟨wS, hwS⟩ : ∃ q, q = wb := ⟨_, rfl⟩
          have HST := Lib.hid (And.intro hC3 hc3)
          rw [← hwS] at HST
          have HSP : Hid (p6 < wS.heap.size ∨ w4.heap.size ≤ p6) := Lib.hid (Or.inl (by rw [hwS]; exact HPO.out))
          clear hC3 hc3 hwS
          clear hB_ HPO
          refine hK.out _ _ ⟨(F1.out _ HY.out).2.1, (F1.out _ HY.out).2.2.1, (F1.out _ HY.out).2.2.2.1, (F1.out _ HY.out).2.2.2.2.1, (F1.out _ HY.out).2.2.2.2.2.1, (F1.out _ HY.out).2.2.2.2.2.2⟩ (fun hHeld => ?_)
          clear hK K
          refine norm_ (a' := ?_) ?_ ?_
          rotate_left
          · show Act.put _ (some 31) _ = _
            simp only [Act.put, List.setIfInBounds_toArray, List.set_cons_zero, List.set_cons_succ, i64_w, i32_w]
            rfl
          refine pure_ (i := 5) (N := some 26) (v := ?_) (a' := ?_) #[true, true, true, true, true, true, false, false, true, false, false] rfl rfl (by kernel_rfl) (fun _ _ _ h => h) (Or.inl ⟨by rfl, ?_⟩) ?_ ?_
          rotate_left
          · intro w'
            go_simp
            with_reducible rfl
          rotate_left
          · simp only [Act.put, List.setIfInBounds_toArray, List.set_cons_zero, List.set_cons_succ, i64_w, i32_w]
            rfl
          refine pure_ (i := 6) (N := some 32) (v := ?_) (a' := ?_) #[true, true, true, true, true, true, true, false, true, false, false] rfl rfl (by kernel_rfl) (fun _ _ _ h => h) (Or.inl ⟨by rfl, ?_⟩) ?_ ?_
          rotate_left
          · intro w'
            go_simp
            with_reducible rfl
          rotate_left
          · simp only [Act.put, List.setIfInBounds_toArray, List.set_cons_zero, List.set_cons_succ, i64_w, i32_w]
            rfl
          refine pure_ (i := 7) (N := some 33) (v := ?_) (a' := ?_) #[true, true, true, true, true, true, true, true, true, false, false] rfl rfl (by kernel_rfl) (fun _ _ _ h => h) (Or.inl ⟨by rfl, ?_⟩) ?_ ?_
          rotate_left
          · intro w'
            go_simp
            with_reducible rfl
          rotate_left
          · simp only [Act.put, List.setIfInBounds_toArray, List.set_cons_zero, List.set_cons_succ, i64_w, i32_w]
            rfl
          refine one_ (i := 9) (N := none) #[true, true, true, true, true, true, true, true, true, true, false] rfl rfl (by kernel_rfl) (by decide) (fun K hK => ?_)
          have hs_ : w4.cell? ⟨p6, 0, none⟩ = some (.slice none 0 0) := (blk_cell HBX.out 0).trans rfl
          have hf_ := blk_frozen HBX.out 0
          refine skip_ (w1 := ?_) (by rfl) rfl ?_ ?_
          rotate_left
          · go_simp
            rfl
          refine hK.out _ _ ⟨(F1.out _ (show Below w1.heap.size w1 (w4.setCell ⟨p6, 0, none⟩ (.slice A3 R.length c3)) from Below.setCell (p := ⟨p6, 0, none⟩) HY.out HP.out.1 _)).2.1, (F1.out _ (show Below w1.heap.size w1 (w4.setCell ⟨p6, 0, none⟩ (.slice A3 R.length c3)) from Below.setCell (p := ⟨p6, 0, none⟩) HY.out HP.out.1 _)).2.2.1, (F1.out _ (show Below w1.heap.size w1 (w4.setCell ⟨p6, 0, none⟩ (.slice A3 R.length c3)) from Below.setCell (p := ⟨p6, 0, none⟩) HY.out HP.out.1 _)).2.2.2.1, (F1.out _ (show Below w1.heap.size w1 (w4.setCell ⟨p6, 0, none⟩ (.slice A3 R.length c3)) from Below.setCell (p := ⟨p6, 0, none⟩) HY.out HP.out.1 _)).2.2.2.2.1, (F1.out _ (show Below w1.heap.size w1 (w4.setCell ⟨p6, 0, none⟩ (.slice A3 R.length c3)) from Below.setCell (p := ⟨p6, 0, none⟩) HY.out HP.out.1 _)).2.2.2.2.2.1, (F1.out _ (show Below w1.heap.size w1 (w4.setCell ⟨p6, 0, none⟩ (.slice A3 R.length c3)) from Below.setCell (p := ⟨p6, 0, none⟩) HY.out HP.out.1 _)).2.2.2.2.2.2⟩ (fun hHeld => ?_)
          clear hK K
          refine pure_ (i := 10) (N := some 7) (v := ?_) (a' := ?_) #[true, true, true, true, true, true, true, true, true, true, true] rfl rfl (by kernel_rfl) (fun _ _ _ h => h) (Or.inl ⟨by rfl, ?_⟩) ?_ ?_
          rotate_left
          · intro w'
            go_simp
            with_reducible rfl
          rotate_left
          · simp only [Act.put, List.setIfInBounds_toArray, List.set_cons_zero, List.set_cons_succ, i64_w, i32_w]
            rfl
          refine done_ (by kernel_rfl) ?_
          clear hHeld hs_ hf_
          have hq1 : Below w1.heap.size w1 (w4.setCell ⟨p6, 0, none⟩ (.slice A3 R.length c3)) := Below.setCell (p := ⟨p6, 0, none⟩) HY.out HP.out.1 _
          have hqb : (w4.setCell ⟨p6, 0, none⟩ (.slice A3 R.length c3)).heap[p6]? = some (T1 (.slice A3 R.length c3)) := blk_put HBX.out 0 _ rfl
          have hlt6 : p6 < (w4.setCell ⟨p6, 0, none⟩ (.slice A3 R.length c3)).heap.size := blk_lt hqb
          have hszq : (w4.setCell ⟨p6, 0, none⟩ (.slice A3 R.length c3)).heap.size = w4.heap.size := by simp [World.setCell]
          have F2 : Hid (∀ W', Below (w4.setCell ⟨p6, 0, none⟩ (.slice A3 R.length c3)).heap.size (w4.setCell ⟨p6, 0, none⟩ (.slice A3 R.length c3)) W' → Below w.heap.size w W' ∧ W'.cell? ⟨w.heap.size, 0, none⟩ = some (.slice A0 n c0) ∧ W'.cell? ⟨p6, 0, none⟩ = some (.slice A3 R.length c3) ∧ Kd.C k68 W' A3 R.length R ∧ W'.cell? ⟨w.heap.size + 1, 0, none⟩ = some (.int .i64 s0) ∧ W'.cell? ⟨w.heap.size + 1, 1, none⟩ = some (.int .i64 s1) ∧ W'.cell? ⟨w.heap.size + 1, 2, none⟩ = some (.int .i64 s2) ∧ W'.cell? ⟨w.heap.size + 1, 3, none⟩ = some (.string ky) ∧ W'.cell? ⟨w.heap.size + 1, 4, none⟩ = some (.bool fb)) := Lib.hid (fun W' h => by
            have a := F1.out W' (hq1.trans (h.mono hq1.size))
            refine ⟨a.1, a.2.1, pw_cell_below h ((blk_cell hqb 0).trans rfl), HST.out.1 W' (fun k hk1 hk2 => ?_), a.2.2⟩
            have h4 := D4.out.size
            have hne : k ≠ p6 := by have h5 := HSP.out; omega
            exact (h.block k (by rw [hszq]; omega)).trans ((Below.heap_setCell w4 ⟨p6, 0, none⟩ _ k hne).trans (D4.out.block k hk2)))
          have HC3 := Lib.hid HST.out.2
          have hbp : w.heap.size < (w4.setCell ⟨p6, 0, none⟩ (.slice A3 R.length c3)).heap.size := block_lt_of_cell (F2.out _ (Below.refl _ _)).2.1
          have hsz0 : w.heap.size ≤ (w4.setCell ⟨p6, 0, none⟩ (.slice A3 R.length c3)).heap.size := (F2.out _ (Below.refl _ _)).1.size
          have HL6 := Lib.hid (And.intro hlt6 (And.intro hbp hsz0))
          clear hq1 hqb hlt6 hszq hbp hsz0 HBX HP HSP HST H2 HY D2 D4
          generalize (w4.setCell ⟨p6, 0, none⟩ (.slice A3 R.length c3)) = q6 at F2 HL6 ⊢
          generalize p6 = x1 at F2 HL6 ⊢
          generalize A2 = x2
          generalize c2 = x3
          generalize A3 = x4 at F2 ⊢
          generalize c3 = x5 at F2 HC3 ⊢
          revert HL6
          revert HC3
          revert F2
          revert q6
          revert x5
          revert x4
          revert x3
          revert x2
          revert x1
          exact TAIL
      · refine value_ (w1 := ?_) (v := ?_) (by rfl) rfl ?_ ?_
        rotate_left 2
        · go_simp
          constructor
          · rfl
          · rfl
        refine hK.out _ _ ⟨(F1.out _ (show Below w1.heap.size w1 (w2.alloc (.cells #[.slice none 0 0] 38)) from HY.out.alloc HY.out.size _)).2.1, (F1.out _ (show Below w1.heap.size w1 (w2.alloc (.cells #[.slice none 0 0] 38)) from HY.out.alloc HY.out.size _)).2.2.1, (F1.out _ (show Below w1.heap.size w1 (w2.alloc (.cells #[.slice none 0 0] 38)) from HY.out.alloc HY.out.size _)).2.2.2.1, (F1.out _ (show Below w1.heap.size w1 (w2.alloc (.cells #[.slice none 0 0] 38)) from HY.out.alloc HY.out.size _)).2.2.2.2.1, (F1.out _ (show Below w1.heap.size w1 (w2.alloc (.cells #[.slice none 0 0] 38)) from HY.out.alloc HY.out.size _)).2.2.2.2.2.1, (F1.out _ (show Below w1.heap.size w1 (w2.alloc (.cells #[.slice none 0 0] 38)) from HY.out.alloc HY.out.size _)).2.2.2.2.2.2⟩ (fun hHeld => ?_)
        clear hK K
        refine norm_ (a' := ?_) ?_ ?_
        rotate_left
        · show Act.put _ (some 6) _ = _
          simp only [Act.put, List.setIfInBounds_toArray, List.set_cons_zero, List.set_cons_succ, i64_w, i32_w]
          rfl
        have hB_ : Below w2.heap.size w2 (w2.alloc (.cells #[.slice none 0 0] 38)) := (Below.refl _ _).alloc (Nat.le_refl _) _
        have hbx_ : (w2.alloc (.cells #[.slice none 0 0] 38)).heap[w2.heap.size]? = some (.cells #[.slice none 0 0] 38) := heap_alloc_new w2 _
        obtain ⟨p6, hp_⟩ : ∃ q, q = w2.heap.size := ⟨_, rfl⟩
        rw [← hp_] at hbx_
        have hlt_ : p6 < (w2.alloc (.cells #[.slice none 0 0] 38)).heap.size := blk_lt hbx_
        have hge_ : w1.heap.size ≤ p6 := by rw [hp_]; exact HY.out.size
        clear hHeld
        generalize (w2.alloc (.cells #[.slice none 0 0] 38)) = wb at hB_ hbx_ hlt_ ⊢
        rw [← hp_]
        have HY := Lib.hid (HY.out.trans (hB_.mono HY.out.size))
        have D2 := Lib.hid (D2.out.trans (hB_.mono D2.out.size))
        have HBX := Lib.hid hbx_
        have HP := Lib.hid (And.intro hge_ hlt_)
        clear hB_ hbx_ hlt_ hge_ hp_
        refine one_ (i := 3) (N := some 30) #[true, true, true, true, false, false, false, false, true, false, false] rfl rfl (by kernel_rfl) (by decide) (fun K hK => ?_)
        have HPO := Lib.hid HP.out.2
        refine goes_ Tryd.func34 (by kernel_rfl) rfl #[.agg #[.int .i64 s0, .int .i64 s1, .int .i64 s2, .string ky, .bool fb]] (by rfl) rfl rfl (by (try simp only [List.map_toArray, List.map_cons, List.map_nil]); first | done | rfl) ?_
        refine (HTC.out _).mono ?_
        rintro e w3 ⟨rfl, hB_⟩
        refine ⟨_, rfl, ?_⟩
        have HY := Lib.hid (HY.out.trans (hB_.mono HY.out.size))
        have D2 := Lib.hid (D2.out.trans (hB_.mono D2.out.size))
        have HBX := Lib.hid (blk_below HBX.out hB_)
        have HP := Lib.hid (And.intro HP.out.1 (Nat.lt_of_lt_of_le HP.out.2 hB_.size))
        skip
        clear hB_ HPO
        refine hK.out _ _ ⟨(F1.out _ HY.out).2.1, (F1.out _ HY.out).2.2.1, (F1.out _ HY.out).2.2.2.1, (F1.out _ HY.out).2.2.2.2.1, (F1.out _ HY.out).2.2.2.2.2.1, (F1.out _ HY.out).2.2.2.2.2.2⟩ (fun hHeld => ?_)
        clear hK K
        refine norm_ (a' := ?_) ?_ ?_
        rotate_left
        · show Act.put _ (some 30) _ = _
          simp only [Act.put, List.setIfInBounds_toArray, List.set_cons_zero, List.set_cons_succ, i64_w, i32_w]
          rfl
        refine one_ (i := 4) (N := some 31) #[true, true, true, true, true, false, false, false, true, false, false] rfl rfl (by kernel_rfl) (by decide) (fun K hK => ?_)
        have HPO := Lib.hid HP.out.2
        refine goes_ Tryd.func33 (by kernel_rfl) rfl #[.agg #[.slice A2 E.length c2], .agg #[.int .i64 s0, .int .i64 s1, .int .i64 s2, .string ky, .bool fb]] (by rfl) rfl rfl (by (try simp only [List.map_toArray, List.map_cons, List.map_nil]); first | done | rfl) ?_
        refine (HSPC.out A2 c2 _ (Kd.C_below H2.out.1 D2.out) H2.out.2).mono ?_
        rintro e w4 ⟨A3, c3, rfl, hc3, hC3, hB_⟩
        refine ⟨_, rfl, ?_⟩
        have HY := Lib.hid (HY.out.trans (hB_.mono HY.out.size))
        have D2 := Lib.hid (D2.out.trans (hB_.mono D2.out.size))
        have HBX := Lib.hid (blk_below HBX.out hB_)
        have HP := Lib.hid (And.intro HP.out.1 (Nat.lt_of_lt_of_le HP.out.2 hB_.size))
        have D4 := Lib.hid (Below.refl w4.heap.size w4)
        obtain ⟨wS, hwS⟩ : ∃ q, q = w3 := ⟨_, rfl⟩
        have HST := Lib.hid (And.intro hC3 hc3)
        rw [← hwS] at HST
        have HSP : Hid (p6 < wS.heap.size ∨ w4.heap.size ≤ p6) := Lib.hid (Or.inl (by rw [hwS]; exact HPO.out))
        clear hC3 hc3 hwS
        clear hB_ HPO
        refine hK.out _ _ ⟨(F1.out _ HY.out).2.1, (F1.out _ HY.out).2.2.1, (F1.out _ HY.out).2.2.2.1, (F1.out _ HY.out).2.2.2.2.1, (F1.out _ HY.out).2.2.2.2.2.1, (F1.out _ HY.out).2.2.2.2.2.2⟩ (fun hHeld => ?_)
        clear hK K
        refine norm_ (a' := ?_) ?_ ?_
        rotate_left
        · show Act.put _ (some 31) _ = _
          simp only [Act.put, List.setIfInBounds_toArray, List.set_cons_zero, List.set_cons_succ, i64_w, i32_w]
          rfl
        refine pure_ (i := 5) (N := some 26) (v := ?_) (a' := ?_) #[true, true, true, true, true, true, false, false, true, false, false] rfl rfl (by kernel_rfl) (fun _ _ _ h => h) (Or.inl ⟨by rfl, ?_⟩) ?_ ?_
        rotate_left
        · intro w'
          go_simp
          with_reducible rfl
        rotate_left
        · simp only [Act.put, List.setIfInBounds_toArray, List.set_cons_zero, List.set_cons_succ, i64_w, i32_w]
          rfl
        refine pure_ (i := 6) (N := some 32) (v := ?_) (a' := ?_) #[true, true, true, true, true, true, true, false, true, false, false] rfl rfl (by kernel_rfl) (fun _ _ _ h => h) (Or.inl ⟨by rfl, ?_⟩) ?_ ?_
        rotate_left
        · intro w'
          go_simp
          with_reducible rfl
        rotate_left
        · simp only [Act.put, List.setIfInBounds_toArray, List.set_cons_zero, List.set_cons_succ, i64_w, i32_w]
          rfl
        refine pure_ (i := 7) (N := some 33) (v := ?_) (a' := ?_) #[true, true, true, true, true, true, true, true, true, false, false] rfl rfl (by kernel_rfl) (fun _ _ _ h => h) (Or.inl ⟨by rfl, ?_⟩) ?_ ?_
        rotate_left
        · intro w'
          go_simp
          with_reducible rfl
        rotate_left
        · simp only [Act.put, List.setIfInBounds_toArray, List.set_cons_zero, List.set_cons_succ, i64_w, i32_w]
          rfl
        refine one_ (i := 9) (N := none) #[true, true, true, true, true, true, true, true, true, true, false] rfl rfl (by kernel_rfl) (by decide) (fun K hK => ?_)
        have hs_ : w4.cell? ⟨p6, 0, none⟩ = some (.slice none 0 0) := (blk_cell HBX.out 0).trans rfl
        have hf_ := blk_frozen HBX.out 0
        refine skip_ (w1 := ?_) (by rfl) rfl ?_ ?_
        rotate_left
        · go_simp
          rfl
        refine hK.out _ _ ⟨(F1.out _ (show Below w1.heap.size w1 (w4.setCell ⟨p6, 0, none⟩ (.slice A3 R.length c3)) from Below.setCell (p := ⟨p6, 0, none⟩) HY.out HP.out.1 _)).2.1, (F1.out _ (show Below w1.heap.size w1 (w4.setCell ⟨p6, 0, none⟩ (.slice A3 R.length c3)) from Below.setCell (p := ⟨p6, 0, none⟩) HY.out HP.out.1 _)).2.2.1, (F1.out _ (show Below w1.heap.size w1 (w4.setCell ⟨p6, 0, none⟩ (.slice A3 R.length c3)) from Below.setCell (p := ⟨p6, 0, none⟩) HY.out HP.out.1 _)).2.2.2.1, (F1.out _ (show Below w1.heap.size w1 (w4.setCell ⟨p6, 0, none⟩ (.slice A3 R.length c3)) from Below.setCell (p := ⟨p6, 0, none⟩) HY.out HP.out.1 _)).2.2.2.2.1, (F1.out _ (show Below w1.heap.size w1 (w4.setCell ⟨p6, 0, none⟩ (.slice A3 R.length c3)) from Below.setCell (p := ⟨p6, 0, none⟩) HY.out HP.out.1 _)).2.2.2.2.2.1, (F1.out _ (show Below w1.heap.size w1 (w4.setCell ⟨p6, 0, none⟩ (.slice A3 R.length c3)) from Below.setCell (p := ⟨p6, 0, none⟩) HY.out HP.out.1 _)).2.2.2.2.2.2⟩ (fun hHeld => ?_)
        clear hK K
        refine pure_ (i := 10) (N := some 7) (v := ?_) (a' := ?_) #[true, true, true, true, true, true, true, true, true, true, true] rfl rfl (by kernel_rfl) (fun _ _ _ h => h) (Or.inl ⟨by rfl, ?_⟩) ?_ ?_
        rotate_left
        · intro w'
          go_simp
          with_reducible rfl
        rotate_left
        · simp only [Act.put, List.setIfInBounds_toArray, List.set_cons_zero, List.set_cons_succ, i64_w, i32_w]
          rfl
        refine done_ (by kernel_rfl) ?_
        clear hHeld hs_ hf_
        have hq1 : Below w1.heap.size w1 (w4.setCell ⟨p6, 0, none⟩ (.slice A3 R.length c3)) := Below.setCell (p := ⟨p6, 0, none⟩) HY.out HP.out.1 _
        have hqb : (w4.setCell ⟨p6, 0, none⟩ (.slice A3 R.length c3)).heap[p6]? = some (T1 (.slice A3 R.length c3)) := blk_put HBX.out 0 _ rfl
        have hlt6 : p6 < (w4.setCell ⟨p6, 0, none⟩ (.slice A3 R.length c3)).heap.size := blk_lt hqb
        have hszq : (w4.setCell ⟨p6, 0, none⟩ (.slice A3 R.length c3)).heap.size = w4.heap.size := by simp [World.setCell]
        have F2 : Hid (∀ W', Below (w4.setCell ⟨p6, 0, none⟩ (.slice A3 R.length c3)).heap.size (w4.setCell ⟨p6, 0, none⟩ (.slice A3 R.length c3)) W' → Below w.heap.size w W' ∧ W'.cell? ⟨w.heap.size, 0, none⟩ = some (.slice A0 n c0) ∧ W'.cell? ⟨p6, 0, none⟩ = some (.slice A3 R.length c3) ∧ Kd.C k68 W' A3 R.length R ∧ W'.cell? ⟨w.heap.size + 1, 0, none⟩ = some (.int .i64 s0) ∧ W'.cell? ⟨w.heap.size + 1, 1, none⟩ = some (.int .i64 s1) ∧ W'.cell? ⟨w.heap.size + 1, 2, none⟩ = some (.int .i64 s2) ∧ W'.cell? ⟨w.heap.size + 1, 3, none⟩ = some (.string ky) ∧ W'.cell? ⟨w.heap.size + 1, 4, none⟩ = some (.bool fb)) := Lib.hid (fun W' h => by
          have a := F1.out W' (hq1.trans (h.mono hq1.size))
          refine ⟨a.1, a.2.1, pw_cell_below h ((blk_cell hqb 0).trans rfl), HST.out.1 W' (fun k hk1 hk2 => ?_), a.2.2⟩
          have h4 := D4.out.size
          have hne : k ≠ p6 := by have h5 := HSP.out; omega
          exact (h.block k (by rw [hszq]; omega)).trans ((Below.heap_setCell w4 ⟨p6, 0, none⟩ _ k hne).trans (D4.out.block k hk2)))
        have HC3 := Lib.hid HST.out.2
        have hbp : w.heap.size < (w4.setCell ⟨p6, 0, none⟩ (.slice A3 R.length c3)).heap.size := block_lt_of_cell (F2.out _ (Below.refl _ _)).2.1
        have hsz0 : w.heap.size ≤ (w4.setCell ⟨p6, 0, none⟩ (.slice A3 R.length c3)).heap.size := (F2.out _ (Below.refl _ _)).1.size
        have HL6 := Lib.hid (And.intro hlt6 (And.intro hbp hsz0))
        clear hq1 hqb hlt6 hszq hbp hsz0 HBX HP HSP HST H2 HY D2 D4
        generalize (w4.setCell ⟨p6, 0, none⟩ (.slice A3 R.length c3)) = q6 at F2 HL6 ⊢
        generalize p6 = x1 at F2 HL6 ⊢
        generalize A2 = x2
        generalize c2 = x3
        generalize A3 = x4 at F2 ⊢
        generalize c3 = x5 at F2 HC3 ⊢
        revert HL6
        revert HC3
        revert F2
        revert q6
        revert x5
        revert x4
        revert x3
        revert x2
        revert x1
        exact TAIL
    · refine value_ (w1 := ?_) (v := ?_) (by rfl) rfl ?_ ?_
      rotate_left 2
      · go_simp
        constructor
        · rfl
        · rfl
      refine hK.out _ _ ⟨(F1.out _ (show Below w1.heap.size w1 (wd.alloc (.cells #[.slice none 0 0] 38)) from HY.out.alloc HY.out.size _)).2.1, (F1.out _ (show Below w1.heap.size w1 (wd.alloc (.cells #[.slice none 0 0] 38)) from HY.out.alloc HY.out.size _)).2.2.1, (F1.out _ (show Below w1.heap.size w1 (wd.alloc (.cells #[.slice none 0 0] 38)) from HY.out.alloc HY.out.size _)).2.2.2.1, (F1.out _ (show Below w1.heap.size w1 (wd.alloc (.cells #[.slice none 0 0] 38)) from HY.out.alloc HY.out.size _)).2.2.2.2.1, (F1.out _ (show Below w1.heap.size w1 (wd.alloc (.cells #[.slice none 0 0] 38)) from HY.out.alloc HY.out.size _)).2.2.2.2.2.1, (F1.out _ (show Below w1.heap.size w1 (wd.alloc (.cells #[.slice none 0 0] 38)) from HY.out.alloc HY.out.size _)).2.2.2.2.2.2⟩ (fun hHeld => ?_)
      clear hK K
      refine norm_ (a' := ?_) ?_ ?_
      rotate_left
      · show Act.put _ (some 6) _ = _
        simp only [Act.put, List.setIfInBounds_toArray, List.set_cons_zero, List.set_cons_succ, i64_w, i32_w]
        rfl
      have hB_ : Below wd.heap.size wd (wd.alloc (.cells #[.slice none 0 0] 38)) := (Below.refl _ _).alloc (Nat.le_refl _) _
      have hbx_ : (wd.alloc (.cells #[.slice none 0 0] 38)).heap[wd.heap.size]? = some (.cells #[.slice none 0 0] 38) := heap_alloc_new wd _
      obtain ⟨p6, hp_⟩ : ∃ q, q = wd.heap.size := ⟨_, rfl⟩
      rw [← hp_] at hbx_
      have hlt_ : p6 < (wd.alloc (.cells #[.slice none 0 0] 38)).heap.size := blk_lt hbx_
      have hge_ : w1.heap.size ≤ p6 := by rw [hp_]; exact HY.out.size
      clear hHeld
      generalize (wd.alloc (.cells #[.slice none 0 0] 38)) = wb at hB_ hbx_ hlt_ ⊢
      rw [← hp_]
      have HY := Lib.hid (HY.out.trans (hB_.mono HY.out.size))
      have HBX := Lib.hid hbx_
      have HP := Lib.hid (And.intro hge_ hlt_)
      clear hB_ hbx_ hlt_ hge_ hp_
      refine one_ (i := 1) (N := some 28) #[true, true, true, false, false, false, false, false, true, false, false] rfl rfl (by kernel_rfl) (by decide) (fun K hK => ?_)
      have HPO := Lib.hid HP.out.2
      refine goes_ Tryd.func29 (by kernel_rfl) rfl #[.agg #[.slice A0 n c0]] (by rfl) rfl rfl (by (try simp only [List.map_toArray, List.map_cons, List.map_nil]); first | done | rfl) ?_
      refine (HTO.out _ (F1.out _ HY.out).1).mono ?_
      rintro e w2 ⟨v_, rfl, hS_, hB_⟩
      refine ⟨_, rfl, ?_⟩
      have HY := Lib.hid (HY.out.trans (hB_.mono HY.out.size))
      have HBX := Lib.hid (blk_below HBX.out hB_)
      have HP := Lib.hid (And.intro HP.out.1 (Nat.lt_of_lt_of_le HP.out.2 hB_.size))
      have D2 := Lib.hid (Below.refl w2.heap.size w2)
      obtain ⟨A2, c2, e_⟩ := Kd.S_slice hS_
      subst e_
      have H2 := Lib.hid (S_C hS_)
      clear hS_
      clear hB_ HPO
      refine hK.out _ _ ⟨(F1.out _ HY.out).2.1, (F1.out _ HY.out).2.2.1, (F1.out _ HY.out).2.2.2.1, (F1.out _ HY.out).2.2.2.2.1, (F1.out _ HY.out).2.2.2.2.2.1, (F1.out _ HY.out).2.2.2.2.2.2⟩ (fun hHeld => ?_)
      clear hK K
      refine norm_ (a' := ?_) ?_ ?_
      rotate_left
      · show Act.put _ (some 28) _ = _
        simp only [Act.put, List.setIfInBounds_toArray, List.set_cons_zero, List.set_cons_succ, i64_w, i32_w]
        rfl
      refine one_ (i := 3) (N := some 30) #[true, true, true, true, false, false, false, false, true, false, false] rfl rfl (by kernel_rfl) (by decide) (fun K hK => ?_)
      have HPO := Lib.hid HP.out.2
      refine goes_ Tryd.func34 (by kernel_rfl) rfl #[.agg #[.int .i64 s0, .int .i64 s1, .int .i64 s2, .string ky, .bool fb]] (by rfl) rfl rfl (by (try simp only [List.map_toArray, List.map_cons, List.map_nil]); first | done | rfl) ?_
      refine (HTC.out _).mono ?_
      rintro e w3 ⟨rfl, hB_⟩
      refine ⟨_, rfl, ?_⟩
      have HY := Lib.hid (HY.out.trans (hB_.mono HY.out.size))
      have D2 := Lib.hid (D2.out.trans (hB_.mono D2.out.size))
      have HBX := Lib.hid (blk_below HBX.out hB_)
      have HP := Lib.hid (And.intro HP.out.1 (Nat.lt_of_lt_of_le HP.out.2 hB_.size))
      skip
      clear hB_ HPO
      refine hK.out _ _ ⟨(F1.out _ HY.out).2.1, (F1.out _ HY.out).2.2.1, (F1.out _ HY.out).2.2.2.1, (F1.out _ HY.out).2.2.2.2.1, (F1.out _ HY.out).2.2.2.2.2.1, (F1.out _ HY.out).2.2.2.2.2.2⟩ (fun hHeld => ?_)
      clear hK K
      refine norm_ (a' := ?_) ?_ ?_
      rotate_left
      · show Act.put _ (some 30) _ = _
        simp only [Act.put, List.setIfInBounds_toArray, List.set_cons_zero, List.set_cons_succ, i64_w, i32_w]
        rfl
      refine one_ (i := 4) (N := some 31) #[true, true, true, true, true, false, false, false, true, false, false] rfl rfl (by kernel_rfl) (by decide) (fun K hK => ?_)
      have HPO := Lib.hid HP.out.2
      refine goes_ Tryd.func33 (by kernel_rfl) rfl #[.agg #[.slice A2 E.length c2], .agg #[.int .i64 s0, .int .i64 s1, .int .i64 s2, .string ky, .bool fb]] (by rfl) rfl rfl (by (try simp only [List.map_toArray, List.map_cons, List.map_nil]); first | done | rfl) ?_
      refine (HSPC.out A2 c2 _ (Kd.C_below H2.out.1 D2.out) H2.out.2).mono ?_
      rintro e w4 ⟨A3, c3, rfl, hc3, hC3, hB_⟩
      refine ⟨_, rfl, ?_⟩
      have HY := Lib.hid (HY.out.trans (hB_.mono HY.out.size))
      have D2 := Lib.hid (D2.out.trans (hB_.mono D2.out.size))
      have HBX := Lib.hid (blk_below HBX.out hB_)
      have HP := Lib.hid (And.intro HP.out.1 (Nat.lt_of_lt_of_le HP.out.2 hB_.size))
      have D4 := Lib.hid (Below.refl w4.heap.size w4)
      obtain ⟨wS, hwS⟩ : ∃ q, q = w3 := ⟨_, rfl⟩
      have HST := Lib.hid (And.intro hC3 hc3)
      rw [← hwS] at HST
      have HSP : Hid (p6 < wS.heap.size ∨ w4.heap.size ≤ p6) := Lib.hid (Or.inl (by rw [hwS]; exact HPO.out))
      clear hC3 hc3 hwS
      clear hB_ HPO
      refine hK.out _ _ ⟨(F1.out _ HY.out).2.1, (F1.out _ HY.out).2.2.1, (F1.out _ HY.out).2.2.2.1, (F1.out _ HY.out).2.2.2.2.1, (F1.out _ HY.out).2.2.2.2.2.1, (F1.out _ HY.out).2.2.2.2.2.2⟩ (fun hHeld => ?_)
      clear hK K
      refine norm_ (a' := ?_) ?_ ?_
      rotate_left
      · show Act.put _ (some 31) _ = _
        simp only [Act.put, List.setIfInBounds_toArray, List.set_cons_zero, List.set_cons_succ, i64_w, i32_w]
        rfl
      refine pure_ (i := 5) (N := some 26) (v := ?_) (a' := ?_) #[true, true, true, true, true, true, false, false, true, false, false] rfl rfl (by kernel_rfl) (fun _ _ _ h => h) (Or.inl ⟨by rfl, ?_⟩) ?_ ?_
      rotate_left
      · intro w'
        go_simp
        with_reducible rfl
      rotate_left
      · simp only [Act.put, List.setIfInBounds_toArray, List.set_cons_zero, List.set_cons_succ, i64_w, i32_w]
        rfl
      refine pure_ (i := 6) (N := some 32) (v := ?_) (a' := ?_) #[true, true, true, true, true, true, true, false, true, false, false] rfl rfl (by kernel_rfl) (fun _ _ _ h => h) (Or.inl ⟨by rfl, ?_⟩) ?_ ?_
      rotate_left
      · intro w'
        go_simp
        with_reducible rfl
      rotate_left
      · simp only [Act.put, List.setIfInBounds_toArray, List.set_cons_zero, List.set_cons_succ, i64_w, i32_w]
        rfl
      refine pure_ (i := 7) (N := some 33) (v := ?_) (a' := ?_) #[true, true, true, true, true, true, true, true, true, false, false] rfl rfl (by kernel_rfl) (fun _ _ _ h => h) (Or.inl ⟨by rfl, ?_⟩) ?_ ?_
      rotate_left
      · intro w'
        go_simp
        with_reducible rfl
      rotate_left
      · simp only [Act.put, List.setIfInBounds_toArray, List.set_cons_zero, List.set_cons_succ, i64_w, i32_w]
        rfl
      refine one_ (i := 9) (N := none) #[true, true, true, true, true, true, true, true, true, true, false] rfl rfl (by kernel_rfl) (by decide) (fun K hK => ?_)
      have hs_ : w4.cell? ⟨p6, 0, none⟩ = some (.slice none 0 0) := (blk_cell HBX.out 0).trans rfl
      have hf_ := blk_frozen HBX.out 0
      refine skip_ (w1 := ?_) (by rfl) rfl ?_ ?_
      rotate_left
      · go_simp
        rfl
      refine hK.out _ _ ⟨(F1.out _ (show Below w1.heap.size w1 (w4.setCell ⟨p6, 0, none⟩ (.slice A3 R.length c3)) from Below.setCell (p := ⟨p6, 0, none⟩) HY.out HP.out.1 _)).2.1, (F1.out _ (show Below w1.heap.size w1 (w4.setCell ⟨p6, 0, none⟩ (.slice A3 R.length c3)) from Below.setCell (p := ⟨p6, 0, none⟩) HY.out HP.out.1 _)).2.2.1, (F1.out _ (show Below w1.heap.size w1 (w4.setCell ⟨p6, 0, none⟩ (.slice A3 R.length c3)) from Below.setCell (p := ⟨p6, 0, none⟩) HY.out HP.out.1 _)).2.2.2.1, (F1.out _ (show Below w1.heap.size w1 (w4.setCell ⟨p6, 0, none⟩ (.slice A3 R.length c3)) from Below.setCell (p := ⟨p6, 0, none⟩) HY.out HP.out.1 _)).2.2.2.2.1, (F1.out _ (show Below w1.heap.size w1 (w4.setCell ⟨p6, 0, none⟩ (.slice A3 R.length c3)) from Below.setCell (p := ⟨p6, 0, none⟩) HY.out HP.out.1 _)).2.2.2.2.2.1, (F1.out _ (show Below w1.heap.size w1 (w4.setCell ⟨p6, 0, none⟩ (.slice A3 R.length c3)) from Below.setCell (p := ⟨p6, 0, none⟩) HY.out HP.out.1 _)).2.2.2.2.2.2⟩ (fun hHeld => ?_)
      clear hK K
      refine pure_ (i := 10) (N := some 7) (v := ?_) (a' := ?_) #[true, true, true, true, true, true, true, true, true, true, true] rfl rfl (by kernel_rfl) (fun _ _ _ h => h) (Or.inl ⟨by rfl, ?_⟩) ?_ ?_
      rotate_left
      · intro w'
        go_simp
        with_reducible rfl
      rotate_left
      · simp only [Act.put, List.setIfInBounds_toArray, List.set_cons_zero, List.set_cons_succ, i64_w, i32_w]
        rfl
      refine done_ (by kernel_rfl) ?_
      clear hHeld hs_ hf_
      have hq1 : Below w1.heap.size w1 (w4.setCell ⟨p6, 0, none⟩ (.slice A3 R.length c3)) := Below.setCell (p := ⟨p6, 0, none⟩) HY.out HP.out.1 _
      have hqb : (w4.setCell ⟨p6, 0, none⟩ (.slice A3 R.length c3)).heap[p6]? = some (T1 (.slice A3 R.length c3)) := blk_put HBX.out 0 _ rfl
      have hlt6 : p6 < (w4.setCell ⟨p6, 0, none⟩ (.slice A3 R.length c3)).heap.size := blk_lt hqb
      have hszq : (w4.setCell ⟨p6, 0, none⟩ (.slice A3 R.length c3)).heap.size = w4.heap.size := by simp [World.setCell]
      have F2 : Hid (∀ W', Below (w4.setCell ⟨p6, 0, none⟩ (.slice A3 R.length c3)).heap.size (w4.setCell ⟨p6, 0, none⟩ (.slice A3 R.length c3)) W' → Below w.heap.size w W' ∧ W'.cell? ⟨w.heap.size, 0, none⟩ = some (.slice A0 n c0) ∧ W'.cell? ⟨p6, 0, none⟩ = some (.slice A3 R.length c3) ∧ Kd.C k68 W' A3 R.length R ∧ W'.cell? ⟨w.heap.size + 1, 0, none⟩ = some (.int .i64 s0) ∧ W'.cell? ⟨w.heap.size + 1, 1, none⟩ = some (.int .i64 s1) ∧ W'.cell? ⟨w.heap.size + 1, 2, none⟩ = some (.int .i64 s2) ∧ W'.cell? ⟨w.heap.size + 1, 3, none⟩ = some (.string ky) ∧ W'.cell? ⟨w.heap.size + 1, 4, none⟩ = some (.bool fb)) := Lib.hid (fun W' h => by
        have a := F1.out W' (hq1.trans (h.mono hq1.size))
        refine ⟨a.1, a.2.1, pw_cell_below h ((blk_cell hqb 0).trans rfl), HST.out.1 W' (fun k hk1 hk2 => ?_), a.2.2⟩
        have h4 := D4.out.size
        have hne : k ≠ p6 := by have h5 := HSP.out; omega
        exact (h.block k (by rw [hszq]; omega)).trans ((Below.heap_setCell w4 ⟨p6, 0, none⟩ _ k hne).trans (D4.out.block k hk2)))
      have HC3 := Lib.hid HST.out.2
      have hbp : w.heap.size < (w4.setCell ⟨p6, 0, none⟩ (.slice A3 R.length c3)).heap.size := block_lt_of_cell (F2.out _ (Below.refl _ _)).2.1
      have hsz0 : w.heap.size ≤ (w4.setCell ⟨p6, 0, none⟩ (.slice A3 R.length c3)).heap.size := (F2.out _ (Below.refl _ _)).1.size
      have HL6 := Lib.hid (And.intro hlt6 (And.intro hbp hsz0))
      clear hq1 hqb hlt6 hszq hbp hsz0 HBX HP HSP HST H2 HY D2 D4
      generalize (w4.setCell ⟨p6, 0, none⟩ (.slice A3 R.length c3)) = q6 at F2 HL6 ⊢
      generalize p6 = x1 at F2 HL6 ⊢
      generalize A2 = x2
      generalize c2 = x3
      generalize A3 = x4 at F2 ⊢
      generalize c3 = x5 at F2 HC3 ⊢
      revert HL6
      revert HC3
      revert F2
      revert q6
      revert x5
      revert x4
      revert x3
      revert x2
      revert x1
      exact TAIL
  intro p6 A2 c2 A3 c3 q6 F2 HC3 HL6
  clear F1
  have ca := (F2.out _ (Below.refl _ _)).2.1
  go_upto_region 10 with (first
    | (go_at_call 29; refine (HTO.out _ (F2.out _ (Below.refl _ _)).1).mono ?_; rintro e w4 ⟨v4, rfl, hS4, hB4⟩; obtain ⟨A4, c4, e4⟩ := Kd.S_slice hS4; subst e4; have H4 := Lib.hid (And.intro (Kd.S_bound hS4) hB4); clear hS4 hB4 ca)
    | ((with_reducible refine gate_dst (N := 8) rfl ?_); refine box_event ?hg (N := 8) ?hd (cs := #[.slice none 0 0]) (t := 38) ?hr ?_; (case hd => rfl); (case hg => rfl); (case hr => first | (go_simp; done) | (go_simp; rfl)); intro p8 hp w8 hbox hb; have hcz0 := (blk_cell hbox 0).trans rfl; have hfz0 := blk_frozen hbox 0; have BX8 := Lib.hid (And.intro hbox (And.intro hb hp)); clear hbox hb hp))
  have hSt : Below w4.heap.size w4 (w8.setCell ⟨p8, 0, none⟩ (.slice A4 E.length c4)) := below_set BX8.out.2.1 (by rw [BX8.out.2.2]; exact Nat.le_refl _)
  have hK8 := blk_put BX8.out.1 0 (.slice A4 E.length c4) rfl
  have hlt8 : p8 < (w8.setCell ⟨p8, 0, none⟩ (.slice A4 E.length c4)).heap.size := blk_lt hK8
  have hge8 : w4.heap.size ≤ p8 := by rw [BX8.out.2.2]; exact Nat.le_refl _
  have hSX : sEnt (w8.setCell ⟨p8, 0, none⟩ (.slice A4 E.length c4)) q6.heap.size (fun k => q6.heap.size ≤ k ∧ k < w4.heap.size) (.slice A4 E.length c4) E := Kd.S_mono (Kd.S_below H4.out.1 hSt) (fun k hk => ⟨hk.2.1, hk.2.2.1⟩)
  have F3 : Hid (∀ W', Below (w8.setCell ⟨p8, 0, none⟩ (.slice A4 E.length c4)).heap.size (w8.setCell ⟨p8, 0, none⟩ (.slice A4 E.length c4)) W' → Below q6.heap.size q6 W' ∧ W'.cell? ⟨p8, 0, none⟩ = some (.slice A4 E.length c4) ∧ sEnt W' q6.heap.size (fun k => q6.heap.size ≤ k ∧ k < w4.heap.size) (.slice A4 E.length c4) E ∧ W'.cell? ⟨w.heap.size + 1, 0, none⟩ = some (.int .i64 s0) ∧ W'.cell? ⟨w.heap.size + 1, 1, none⟩ = some (.int .i64 s1) ∧ W'.cell? ⟨w.heap.size + 1, 2, none⟩ = some (.int .i64 s2) ∧ W'.cell? ⟨w.heap.size + 1, 3, none⟩ = some (.string ky) ∧ W'.cell? ⟨w.heap.size + 1, 4, none⟩ = some (.bool fb)) := Lib.hid (fun W' h => by
    have q4 : Below w4.heap.size w4 W' := hSt.trans (h.mono hSt.size)
    have q6' : Below q6.heap.size q6 W' := H4.out.2.trans (q4.mono H4.out.2.size)
    exact ⟨q6', pw_cell_below h ((blk_cell hK8 0).trans rfl), Kd.S_below hSX h, (F2.out W' q6').2.2.2.2⟩)
  have h64 := H4.out.2.size
  clear hcz0 hfz0 BX8 hSt hK8 H4 hSX
  generalize (w8.setCell ⟨p8, 0, none⟩ (.slice A4 E.length c4)) = q8 at F3 hlt8 ⊢
  have HL8 := Lib.hid (And.intro hlt8 (And.intro hge8 h64))
  clear hlt8 hge8 h64
  apply cut_
  · intro TAIL
    have hy1 : Below q8.heap.size q8 q8.drew := below_drew1 (Below.refl _ _)
    have HY := Lib.hid hy1
    clear hy1
    refine start_ (n := 10) (S := fun w' => w'.cell? ⟨p8, 0, none⟩ = some (.slice A4 E.length c4) ∧ w'.cell? ⟨w.heap.size + 1, 0, none⟩ = some (.int .i64 s0) ∧ w'.cell? ⟨w.heap.size + 1, 1, none⟩ = some (.int .i64 s1) ∧ w'.cell? ⟨w.heap.size + 1, 2, none⟩ = some (.int .i64 s2) ∧ w'.cell? ⟨w.heap.size + 1, 3, none⟩ = some (.string ky) ∧ w'.cell? ⟨w.heap.size + 1, 4, none⟩ = some (.bool fb)) (ds := []) #[false, false, false, false, false, false, false, false, false, false] (by kernel_rfl) rfl rfl ⟨(F3.out _ HY.out).2.1, (F3.out _ HY.out).2.2.2.1, (F3.out _ HY.out).2.2.2.2.1, (F3.out _ HY.out).2.2.2.2.2.1, (F3.out _ HY.out).2.2.2.2.2.2.1, (F3.out _ HY.out).2.2.2.2.2.2.2⟩ (fun hHeld => ?_)
    generalize q8.drew = wd at HY hHeld ⊢
    refine take_ (i := 0) (N := some 37) (v := ?_) (a' := ?_) #[true, false, false, false, false, false, false, false, false, false] rfl rfl (by kernel_rfl) (fun _ _ _ h => h) (Or.inl ⟨by rfl, ?_⟩) hHeld ?_ ?_
    rotate_left
    · rintro w' ⟨s0, s1, s2, s3, s4, s5⟩
      go_simp
      with_reducible rfl
    rotate_left
    · simp only [Act.put, List.setIfInBounds_toArray, List.set_cons_zero, List.set_cons_succ, i64_w, i32_w]
      rfl
    refine take_ (i := 1) (N := some 38) (v := ?_) (a' := ?_) #[true, true, false, false, false, false, false, false, false, false] rfl rfl (by kernel_rfl) (fun _ _ _ h => h) (Or.inl ⟨by rfl, ?_⟩) hHeld ?_ ?_
    rotate_left
    · rintro w' ⟨s0, s1, s2, s3, s4, s5⟩
      go_simp
      with_reducible rfl
    rotate_left
    · simp only [Act.put, List.setIfInBounds_toArray, List.set_cons_zero, List.set_cons_succ, i64_w, i32_w]
      rfl
    refine two_ (i := 2) (j := 7) (Ni := some 39) (Nj := some 9) #[true, true, true, false, false, false, false, false, false, false] #[true, true, false, false, false, false, false, true, false, false] rfl rfl rfl rfl (by kernel_rfl) (by decide) (by decide) (fun K hK => ?_) (fun K hK => ?_)
    · refine goes_ Tryd.func34 (by kernel_rfl) rfl #[.agg #[.int .i64 s0, .int .i64 s1, .int .i64 s2, .string ky, .bool fb]] (by rfl) rfl rfl (by (try simp only [List.map_toArray, List.map_cons, List.map_nil]); first | done | rfl) ?_
      refine (HTC.out _).mono ?_
      rintro e wz2 ⟨rfl, hB_⟩
      refine ⟨_, rfl, ?_⟩
      have HY := Lib.hid (HY.out.trans (hB_.mono HY.out.size))
      skip
      clear hB_
      refine hK.out _ _ ⟨(F3.out _ HY.out).2.1, (F3.out _ HY.out).2.2.2.1, (F3.out _ HY.out).2.2.2.2.1, (F3.out _ HY.out).2.2.2.2.2.1, (F3.out _ HY.out).2.2.2.2.2.2.1, (F3.out _ HY.out).2.2.2.2.2.2.2⟩ (fun hHeld => ?_)
      clear hK K
      refine norm_ (a' := ?_) ?_ ?_
      rotate_left
      · show Act.put _ (some 39) _ = _
        simp only [Act.put, List.setIfInBounds_toArray, List.set_cons_zero, List.set_cons_succ, i64_w, i32_w]
        rfl
      refine two_ (i := 3) (j := 7) (Ni := some 40) (Nj := some 9) #[true, true, true, true, false, false, false, false, false, false] #[true, true, true, false, false, false, false, true, false, false] rfl rfl rfl rfl (by kernel_rfl) (by decide) (by decide) (fun K hK => ?_) (fun K hK => ?_)
      · have HYO := Lib.hid HY.out.size
        refine goes_ Tryd.func35 (by kernel_rfl) rfl #[.agg #[.slice A4 E.length c4], .agg #[.int .i64 s0, .int .i64 s1, .int .i64 s2, .string ky, .bool fb]] (by rfl) rfl rfl (by (try simp only [List.map_toArray, List.map_cons, List.map_nil]); first | done | rfl) ?_
        refine (HIM.out A4 c4 _ (S_C (F3.out _ HY.out).2.2.1).1 (S_C (F3.out _ HY.out).2.2.1).2).mono ?_
        rintro e w5 ⟨v5, rfl, hS_, hB_⟩
        refine ⟨_, rfl, ?_⟩
        have HY := Lib.hid (HY.out.trans (hB_.mono HY.out.size))
        have D5 := Lib.hid (Below.refl w5.heap.size w5)
        obtain ⟨A5, c5, e_⟩ := Kd.S_slice hS_
        subst e_
        obtain ⟨wS, hwS⟩ : ∃ q, q = wz2 := ⟨_, rfl⟩
        have HST := Lib.hid (And.intro (Kd.S_bound hS_) HYO.out)
        rw [← hwS] at HST
        clear hS_ hwS HYO
        clear hB_
        refine hK.out _ _ ⟨(F3.out _ HY.out).2.1, (F3.out _ HY.out).2.2.2.1, (F3.out _ HY.out).2.2.2.2.1, (F3.out _ HY.out).2.2.2.2.2.1, (F3.out _ HY.out).2.2.2.2.2.2.1, (F3.out _ HY.out).2.2.2.2.2.2.2⟩ (fun hHeld => ?_)
        clear hK K
        refine norm_ (a' := ?_) ?_ ?_
        rotate_left
        · show Act.put _ (some 40) _ = _
          simp only [Act.put, List.setIfInBounds_toArray, List.set_cons_zero, List.set_cons_succ, i64_w, i32_w]
          rfl
        refine pure_ (i := 4) (N := some 36) (v := ?_) (a' := ?_) #[true, true, true, true, true, false, false, false, false, false] rfl rfl (by kernel_rfl) (fun _ _ _ h => h) (Or.inl ⟨by rfl, ?_⟩) ?_ ?_
        rotate_left
        · intro w'
          go_simp
          with_reducible rfl
        rotate_left
        · simp only [Act.put, List.setIfInBounds_toArray, List.set_cons_zero, List.set_cons_succ, i64_w, i32_w]
          rfl
        refine pure_ (i := 5) (N := some 41) (v := ?_) (a' := ?_) #[true, true, true, true, true, true, false, false, false, false] rfl rfl (by kernel_rfl) (fun _ _ _ h => h) (Or.inl ⟨by rfl, ?_⟩) ?_ ?_
        rotate_left
        · intro w'
          go_simp
          with_reducible rfl
        rotate_left
        · simp only [Act.put, List.setIfInBounds_toArray, List.set_cons_zero, List.set_cons_succ, i64_w, i32_w]
          rfl
        refine pure_ (i := 6) (N := some 42) (v := ?_) (a' := ?_) #[true, true, true, true, true, true, true, false, false, false] rfl rfl (by kernel_rfl) (fun _ _ _ h => h) (Or.inl ⟨by rfl, ?_⟩) ?_ ?_
        rotate_left
        · intro w'
          go_simp
          with_reducible rfl
        rotate_left
        · simp only [Act.put, List.setIfInBounds_toArray, List.set_cons_zero, List.set_cons_succ, i64_w, i32_w]
          rfl
        refine one_ (i := 7) (N := some 9) #[true, true, true, true, true, true, true, true, false, false] rfl rfl (by kernel_rfl) (by decide) (fun K hK => ?_)
        refine value_ (w1 := ?_) (v := ?_) (by rfl) rfl ?_ ?_
        rotate_left 2
        · go_simp
          constructor
          · rfl
          · rfl
        refine hK.out _ _ ⟨(F3.out _ (show Below q8.heap.size q8 (w5.alloc (.cells #[.slice none 0 0] 38)) from HY.out.alloc HY.out.size _)).2.1, (F3.out _ (show Below q8.heap.size q8 (w5.alloc (.cells #[.slice none 0 0] 38)) from HY.out.alloc HY.out.size _)).2.2.2.1, (F3.out _ (show Below q8.heap.size q8 (w5.alloc (.cells #[.slice none 0 0] 38)) from HY.out.alloc HY.out.size _)).2.2.2.2.1, (F3.out _ (show Below q8.heap.size q8 (w5.alloc (.cells #[.slice none 0 0] 38)) from HY.out.alloc HY.out.size _)).2.2.2.2.2.1, (F3.out _ (show Below q8.heap.size q8 (w5.alloc (.cells #[.slice none 0 0] 38)) from HY.out.alloc HY.out.size _)).2.2.2.2.2.2.1, (F3.out _ (show Below q8.heap.size q8 (w5.alloc (.cells #[.slice none 0 0] 38)) from HY.out.alloc HY.out.size _)).2.2.2.2.2.2.2⟩ (fun hHeld => ?_)
        clear hK K
        refine norm_ (a' := ?_) ?_ ?_
        rotate_left
        · show Act.put _ (some 9) _ = _
          simp only [Act.put, List.setIfInBounds_toArray, List.set_cons_zero, List.set_cons_succ, i64_w, i32_w]
          rfl
        have hB_ : Below w5.heap.size w5 (w5.alloc (.cells #[.slice none 0 0] 38)) := (Below.refl _ _).alloc (Nat.le_refl _) _
        have hbx_ : (w5.alloc (.cells #[.slice none 0 0] 38)).heap[w5.heap.size]? = some (.cells #[.slice none 0 0] 38) := heap_alloc_new w5 _
        obtain ⟨p9, hp_⟩ : ∃ q, q = w5.heap.size := ⟨_, rfl⟩
        rw [← hp_] at hbx_
        have hlt_ : p9 < (w5.alloc (.cells #[.slice none 0 0] 38)).heap.size := blk_lt hbx_
        have hge_ : q8.heap.size ≤ p9 := by rw [hp_]; exact HY.out.size
        clear hHeld
        generalize (w5.alloc (.cells #[.slice none 0 0] 38)) = wb at hB_ hbx_ hlt_ ⊢
        rw [← hp_]
        have HY := Lib.hid (HY.out.trans (hB_.mono HY.out.size))
        have D5 := Lib.hid (D5.out.trans (hB_.mono D5.out.size))
        have HBX := Lib.hid hbx_
        have HP := Lib.hid (And.intro hge_ hlt_)
        have HSP := Lib.hid (Or.inr (by rw [hp_]; exact Nat.le_refl _) : p9 < wS.heap.size ∨ w5.heap.size ≤ p9)
        clear hB_ hbx_ hlt_ hge_ hp_
        refine one_ (i := 8) (N := none) #[true, true, true, true, true, true, true, true, true, false] rfl rfl (by kernel_rfl) (by decide) (fun K hK => ?_)
        have hs_ : wb.cell? ⟨p9, 0, none⟩ = some (.slice none 0 0) := (blk_cell HBX.out 0).trans rfl
        have hf_ := blk_frozen HBX.out 0
        refine skip_ (w1 := ?_) (by rfl) rfl ?_ ?_
        rotate_left
        · go_simp
          rfl
        refine hK.out _ _ ⟨(F3.out _ (show Below q8.heap.size q8 (wb.setCell ⟨p9, 0, none⟩ (.slice A5 R.length c5)) from Below.setCell (p := ⟨p9, 0, none⟩) HY.out HP.out.1 _)).2.1, (F3.out _ (show Below q8.heap.size q8 (wb.setCell ⟨p9, 0, none⟩ (.slice A5 R.length c5)) from Below.setCell (p := ⟨p9, 0, none⟩) HY.out HP.out.1 _)).2.2.2.1, (F3.out _ (show Below q8.heap.size q8 (wb.setCell ⟨p9, 0, none⟩ (.slice A5 R.length c5)) from Below.setCell (p := ⟨p9, 0, none⟩) HY.out HP.out.1 _)).2.2.2.2.1, (F3.out _ (show Below q8.heap.size q8 (wb.setCell ⟨p9, 0, none⟩ (.slice A5 R.length c5)) from Below.setCell (p := ⟨p9, 0, none⟩) HY.out HP.out.1 _)).2.2.2.2.2.1, (F3.out _ (show Below q8.heap.size q8 (wb.setCell ⟨p9, 0, none⟩ (.slice A5 R.length c5)) from Below.setCell (p := ⟨p9, 0, none⟩) HY.out HP.out.1 _)).2.2.2.2.2.2.1, (F3.out _ (show Below q8.heap.size q8 (wb.setCell ⟨p9, 0, none⟩ (.slice A5 R.length c5)) from Below.setCell (p := ⟨p9, 0, none⟩) HY.out HP.out.1 _)).2.2.2.2.2.2.2⟩ (fun hHeld => ?_)
        clear hK K
        refine pure_ (i := 9) (N := some 10) (v := ?_) (a' := ?_) #[true, true, true, true, true, true, true, true, true, true] rfl rfl (by kernel_rfl) (fun _ _ _ h => h) (Or.inl ⟨by rfl, ?_⟩) ?_ ?_
        rotate_left
        · intro w'
          go_simp
          with_reducible rfl
        rotate_left
        · simp only [Act.put, List.setIfInBounds_toArray, List.set_cons_zero, List.set_cons_succ, i64_w, i32_w]
          rfl
        refine done_ (by kernel_rfl) ?_
        clear hHeld hs_ hf_
        have hq1 : Below q8.heap.size q8 (wb.setCell ⟨p9, 0, none⟩ (.slice A5 R.length c5)) := Below.setCell (p := ⟨p9, 0, none⟩) HY.out HP.out.1 _
        have hqb : (wb.setCell ⟨p9, 0, none⟩ (.slice A5 R.length c5)).heap[p9]? = some (T1 (.slice A5 R.length c5)) := blk_put HBX.out 0 _ rfl
        have hlt9 : p9 < (wb.setCell ⟨p9, 0, none⟩ (.slice A5 R.length c5)).heap.size := blk_lt hqb
        have hSG : sEnt (wb.setCell ⟨p9, 0, none⟩ (.slice A5 R.length c5)) q8.heap.size (fun k => wS.heap.size ≤ k ∧ k < w5.heap.size) (.slice A5 R.length c5) R := Kd.S_far (p := ⟨p9, 0, none⟩) (Kd.S_lower (Kd.S_mono (Kd.S_below HST.out.1 D5.out) (fun k hk => ⟨hk.2.1, hk.2.2.1⟩)) HST.out.2) (fun k hk => by have h5 := HSP.out; have h6 : wS.heap.size ≤ k := hk.1; have h7 : k < w5.heap.size := hk.2; show k ≠ p9; omega) _
        have F4 : Hid (∀ W', Below (wb.setCell ⟨p9, 0, none⟩ (.slice A5 R.length c5)).heap.size (wb.setCell ⟨p9, 0, none⟩ (.slice A5 R.length c5)) W' → Below q8.heap.size q8 W' ∧ W'.cell? ⟨p9, 0, none⟩ = some (.slice A5 R.length c5) ∧ sEnt W' q8.heap.size (fun k => wS.heap.size ≤ k ∧ k < w5.heap.size) (.slice A5 R.length c5) R) := Lib.hid (fun W' h => ⟨hq1.trans (h.mono hq1.size), pw_cell_below h ((blk_cell hqb 0).trans rfl), Kd.S_below hSG h⟩)
        have HL9 : Hid (p9 < (wb.setCell ⟨p9, 0, none⟩ (.slice A5 R.length c5)).heap.size ∧ q8.heap.size ≤ p9 ∧ q8.heap.size ≤ wS.heap.size ∧ (p9 < wS.heap.size ∨ w5.heap.size ≤ p9)) := Lib.hid ⟨hlt9, HP.out.1, HST.out.2, HSP.out⟩
        clear hq1 hqb hlt9 hSG HBX HP HSP HST HY D5
        generalize (wb.setCell ⟨p9, 0, none⟩ (.slice A5 R.length c5)) = q9 at F4 HL9 ⊢
        generalize wS.heap.size = g1 at F4 HL9
        generalize w5.heap.size = g2 at F4 HL9
        generalize p9 = x1 at F4 HL9 ⊢
        generalize A5 = x2 at F4 ⊢
        generalize c5 = x3 at F4 ⊢
        revert HL9
        revert F4
        revert g2
        revert g1
        revert q9
        revert x3
        revert x2
        revert x1
        exact TAIL
      · refine value_ (w1 := ?_) (v := ?_) (by rfl) rfl ?_ ?_
        rotate_left 2
        · go_simp
          constructor
          · rfl
          · rfl
        refine hK.out _ _ ⟨(F3.out _ (show Below q8.heap.size q8 (wz2.alloc (.cells #[.slice none 0 0] 38)) from HY.out.alloc HY.out.size _)).2.1, (F3.out _ (show Below q8.heap.size q8 (wz2.alloc (.cells #[.slice none 0 0] 38)) from HY.out.alloc HY.out.size _)).2.2.2.1, (F3.out _ (show Below q8.heap.size q8 (wz2.alloc (.cells #[.slice none 0 0] 38)) from HY.out.alloc HY.out.size _)).2.2.2.2.1, (F3.out _ (show Below q8.heap.size q8 (wz2.alloc (.cells #[.slice none 0 0] 38)) from HY.out.alloc HY.out.size _)).2.2.2.2.2.1, (F3.out _ (show Below q8.heap.size q8 (wz2.alloc (.cells #[.slice none 0 0] 38)) from HY.out.alloc HY.out.size _)).2.2.2.2.2.2.1, (F3.out _ (show Below q8.heap.size q8 (wz2.alloc (.cells #[.slice none 0 0] 38)) from HY.out.alloc HY.out.size _)).2.2.2.2.2.2.2⟩ (fun hHeld => ?_)
        clear hK K
        refine norm_ (a' := ?_) ?_ ?_
        rotate_left
        · show Act.put _ (some 9) _ = _
          simp only [Act.put, List.setIfInBounds_toArray, List.set_cons_zero, List.set_cons_succ, i64_w, i32_w]
          rfl
        have hB_ : Below wz2.heap.size wz2 (wz2.alloc (.cells #[.slice none 0 0] 38)) := (Below.refl _ _).alloc (Nat.le_refl _) _
        have hbx_ : (wz2.alloc (.cells #[.slice none 0 0] 38)).heap[wz2.heap.size]? = some (.cells #[.slice none 0 0] 38) := heap_alloc_new wz2 _
        obtain ⟨p9, hp_⟩ : ∃ q, q = wz2.heap.size := ⟨_, rfl⟩
        rw [← hp_] at hbx_
        have hlt_ : p9 < (wz2.alloc (.cells #[.slice none 0 0] 38)).heap.size := blk_lt hbx_
        have hge_ : q8.heap.size ≤ p9 := by rw [hp_]; exact HY.out.size
        clear hHeld
        generalize (wz2.alloc (.cells #[.slice none 0 0] 38)) = wb at hB_ hbx_ hlt_ ⊢
        rw [← hp_]
        have HY := Lib.hid (HY.out.trans (hB_.mono HY.out.size))
        have HBX := Lib.hid hbx_
        have HP := Lib.hid (And.intro hge_ hlt_)
        clear hB_ hbx_ hlt_ hge_ hp_
        refine one_ (i := 3) (N := some 40) #[true, true, true, true, false, false, false, true, false, false] rfl rfl (by kernel_rfl) (by decide) (fun K hK => ?_)
        have HPO := Lib.hid HP.out.2
        have HYO := Lib.hid HY.out.size
        refine goes_ Tryd.func35 (by kernel_rfl) rfl #[.agg #[.slice A4 E.length c4], .agg #[.int .i64 s0, .int .i64 s1, .int .i64 s2, .string ky, .bool fb]] (by rfl) rfl rfl (by (try simp only [List.map_toArray, List.map_cons, List.map_nil]); first | done | rfl) ?_
        refine (HIM.out A4 c4 _ (S_C (F3.out _ HY.out).2.2.1).1 (S_C (F3.out _ HY.out).2.2.1).2).mono ?_
        rintro e w5 ⟨v5, rfl, hS_, hB_⟩
        refine ⟨_, rfl, ?_⟩
        have HY := Lib.hid (HY.out.trans (hB_.mono HY.out.size))
        have HBX := Lib.hid (blk_below HBX.out hB_)
        have HP := Lib.hid (And.intro HP.out.1 (Nat.lt_of_lt_of_le HP.out.2 hB_.size))
        have D5 := Lib.hid (Below.refl w5.heap.size w5)
        obtain ⟨A5, c5, e_⟩ := Kd.S_slice hS_
        subst e_
        obtain ⟨wS, hwS⟩ : ∃ q, q = wb := ⟨_, rfl⟩
        have HST := Lib.hid (And.intro (Kd.S_bound hS_) HYO.out)
        rw [← hwS] at HST
        have HSP : Hid (p9 < wS.heap.size ∨ w5.heap.size ≤ p9) := Lib.hid (Or.inl (by rw [hwS]; exact HPO.out))
        clear hS_ hwS HYO
        clear hB_ HPO
        refine hK.out _ _ ⟨(F3.out _ HY.out).2.1, (F3.out _ HY.out).2.2.2.1, (F3.out _ HY.out).2.2.2.2.1, (F3.out _ HY.out).2.2.2.2.2.1, (F3.out _ HY.out).2.2.2.2.2.2.1, (F3.out _ HY.out).2.2.2.2.2.2.2⟩ (fun hHeld => ?_)
        clear hK K
        refine norm_ (a' := ?_) ?_ ?_
        rotate_left
        · show Act.put _ (some 40) _ = _
          simp only [Act.put, List.setIfInBounds_toArray, List.set_cons_zero, List.set_cons_succ, i64_w, i32_w]
          rfl
        refine pure_ (i := 4) (N := some 36) (v := ?_) (a' := ?_) #[true, true, true, true, true, false, false, true, false, false] rfl rfl (by kernel_rfl) (fun _ _ _ h => h) (Or.inl ⟨by rfl, ?_⟩) ?_ ?_
        rotate_left
        · intro w'
          go_simp
          with_reducible rfl
        rotate_left
        · simp only [Act.put, List.setIfInBounds_toArray, List.set_cons_zero, List.set_cons_succ, i64_w, i32_w]
          rfl
        refine pure_ (i := 5) (N := some 41) (v := ?_) (a' := ?_) #[true, true, true, true, true, true, false, true, false, false] rfl rfl (by kernel_rfl) (fun _ _ _ h => h) (Or.inl ⟨by rfl, ?_⟩) ?_ ?_
        rotate_left
        · intro w'
          go_simp
          with_reducible rfl
        rotate_left
        · simp only [Act.put, List.setIfInBounds_toArray, List.set_cons_zero, List.set_cons_succ, i64_w, i32_w]
          rfl
        refine pure_ (i := 6) (N := some 42) (v := ?_) (a' := ?_) #[true, true, true, true, true, true, true, true, false, false] rfl rfl (by kernel_rfl) (fun _ _ _ h => h) (Or.inl ⟨by rfl, ?_⟩) ?_ ?_
        rotate_left
        · intro w'
          go_simp
          with_reducible rfl
        rotate_left
        · simp only [Act.put, List.setIfInBounds_toArray, List.set_cons_zero, List.set_cons_succ, i64_w, i32_w]
          rfl
        refine one_ (i := 8) (N := none) #[true, true, true, true, true, true, true, true, true, false] rfl rfl (by kernel_rfl) (by decide) (fun K hK => ?_)
        have hs_ : w5.cell? ⟨p9, 0, none⟩ = some (.slice none 0 0) := (blk_cell HBX.out 0).trans rfl
        have hf_ := blk_frozen HBX.out 0
        refine skip_ (w1 := ?_) (by rfl) rfl ?_ ?_
        rotate_left
        · go_simp
          rfl
        refine hK.out _ _ ⟨(F3.out _ (show Below q8.heap.size q8 (w5.setCell ⟨p9, 0, none⟩ (.slice A5 R.length c5)) from Below.setCell (p := ⟨p9, 0, none⟩) HY.out HP.out.1 _)).2.1, (F3.out _ (show Below q8.heap.size q8 (w5.setCell ⟨p9, 0, none⟩ (.slice A5 R.length c5)) from Below.setCell (p := ⟨p9, 0, none⟩) HY.out HP.out.1 _)).2.2.2.1, (F3.out _ (show Below q8.heap.size q8 (w5.setCell ⟨p9, 0, none⟩ (.slice A5 R.length c5)) from Below.setCell (p := ⟨p9, 0, none⟩) HY.out HP.out.1 _)).2.2.2.2.1, (F3.out _ (show Below q8.heap.size q8 (w5.setCell ⟨p9, 0, none⟩ (.slice A5 R.length c5)) from Below.setCell (p := ⟨p9, 0, none⟩) HY.out HP.out.1 _)).2.2.2.2.2.1, (F3.out _ (show Below q8.heap.size q8 (w5.setCell ⟨p9, 0, none⟩ (.slice A5 R.length c5)) from Below.setCell (p := ⟨p9, 0, none⟩) HY.out HP.out.1 _)).2.2.2.2.2.2.1, (F3.out _ (show Below q8.heap.size q8 (w5.setCell ⟨p9, 0, none⟩ (.slice A5 R.length c5)) from Below.setCell (p := ⟨p9, 0, none⟩) HY.out HP.out.1 _)).2.2.2.2.2.2.2⟩ (fun hHeld => ?_)
        clear hK K
        refine pure_ (i := 9) (N := some 10) (v := ?_) (a' := ?_) #[true, true, true, true, true, true, true, true, true, true] rfl rfl (by kernel_rfl) (fun _ _ _ h => h) (Or.inl ⟨by rfl, ?_⟩) ?_ ?_
        rotate_left
        · intro w'
          go_simp
          with_reducible rfl
        rotate_left
        · simp only [Act.put, List.setIfInBounds_toArray, List.set_cons_zero, List.set_cons_succ, i64_w, i32_w]
          rfl
        refine done_ (by kernel_rfl) ?_
        clear hHeld hs_ hf_
        have hq1 : Below q8.heap.size q8 (w5.setCell ⟨p9, 0, none⟩ (.slice A5 R.length c5)) := Below.setCell (p := ⟨p9, 0, none⟩) HY.out HP.out.1 _
        have hqb : (w5.setCell ⟨p9, 0, none⟩ (.slice A5 R.length c5)).heap[p9]? = some (T1 (.slice A5 R.length c5)) := blk_put HBX.out 0 _ rfl
        have hlt9 : p9 < (w5.setCell ⟨p9, 0, none⟩ (.slice A5 R.length c5)).heap.size := blk_lt hqb
        have hSG : sEnt (w5.setCell ⟨p9, 0, none⟩ (.slice A5 R.length c5)) q8.heap.size (fun k => wS.heap.size ≤ k ∧ k < w5.heap.size) (.slice A5 R.length c5) R := Kd.S_far (p := ⟨p9, 0, none⟩) (Kd.S_lower (Kd.S_mono (Kd.S_below HST.out.1 D5.out) (fun k hk => ⟨hk.2.1, hk.2.2.1⟩)) HST.out.2) (fun k hk => by have h5 := HSP.out; have h6 : wS.heap.size ≤ k := hk.1; have h7 : k < w5.heap.size := hk.2; show k ≠ p9; omega) _
        have F4 : Hid (∀ W', Below (w5.setCell ⟨p9, 0, none⟩ (.slice A5 R.length c5)).heap.size (w5.setCell ⟨p9, 0, none⟩ (.slice A5 R.length c5)) W' → Below q8.heap.size q8 W' ∧ W'.cell? ⟨p9, 0, none⟩ = some (.slice A5 R.length c5) ∧ sEnt W' q8.heap.size (fun k => wS.heap.size ≤ k ∧ k < w5.heap.size) (.slice A5 R.length c5) R) := Lib.hid (fun W' h => ⟨hq1.trans (h.mono hq1.size), pw_cell_below h ((blk_cell hqb 0).trans rfl), Kd.S_below hSG h⟩)
        have HL9 : Hid (p9 < (w5.setCell ⟨p9, 0, none⟩ (.slice A5 R.length c5)).heap.size ∧ q8.heap.size ≤ p9 ∧ q8.heap.size ≤ wS.heap.size ∧ (p9 < wS.heap.size ∨ w5.heap.size ≤ p9)) := Lib.hid ⟨hlt9, HP.out.1, HST.out.2, HSP.out⟩
        clear hq1 hqb hlt9 hSG HBX HP HSP HST HY D5
        generalize (w5.setCell ⟨p9, 0, none⟩ (.slice A5 R.length c5)) = q9 at F4 HL9 ⊢
        generalize wS.heap.size = g1 at F4 HL9
        generalize w5.heap.size = g2 at F4 HL9
        generalize p9 = x1 at F4 HL9 ⊢
        generalize A5 = x2 at F4 ⊢
        generalize c5 = x3 at F4 ⊢
        revert HL9
        revert F4
        revert g2
        revert g1
        revert q9
        revert x3
        revert x2
        revert x1
        exact TAIL
    · refine value_ (w1 := ?_) (v := ?_) (by rfl) rfl ?_ ?_
      rotate_left 2
      · go_simp
        constructor
        · rfl
        · rfl
      refine hK.out _ _ ⟨(F3.out _ (show Below q8.heap.size q8 (wd.alloc (.cells #[.slice none 0 0] 38)) from HY.out.alloc HY.out.size _)).2.1, (F3.out _ (show Below q8.heap.size q8 (wd.alloc (.cells #[.slice none 0 0] 38)) from HY.out.alloc HY.out.size _)).2.2.2.1, (F3.out _ (show Below q8.heap.size q8 (wd.alloc (.cells #[.slice none 0 0] 38)) from HY.out.alloc HY.out.size _)).2.2.2.2.1, (F3.out _ (show Below q8.heap.size q8 (wd.alloc (.cells #[.slice none 0 0] 38)) from HY.out.alloc HY.out.size _)).2.2.2.2.2.1, (F3.out _ (show Below q8.heap.size q8 (wd.alloc (.cells #[.slice none 0 0] 38)) from HY.out.alloc HY.out.size _)).2.2.2.2.2.2.1, (F3.out _ (show Below q8.heap.size q8 (wd.alloc (.cells #[.slice none 0 0] 38)) from HY.out.alloc HY.out.size _)).2.2.2.2.2.2.2⟩ (fun hHeld => ?_)
      clear hK K
      refine norm_ (a' := ?_) ?_ ?_
      rotate_left
      · show Act.put _ (some 9) _ = _
        simp only [Act.put, List.setIfInBounds_toArray, List.set_cons_zero, List.set_cons_succ, i64_w, i32_w]
        rfl
      have hB_ : Below wd.heap.size wd (wd.alloc (.cells #[.slice none 0 0] 38)) := (Below.refl _ _).alloc (Nat.le_refl _) _
      have hbx_ : (wd.alloc (.cells #[.slice none 0 0] 38)).heap[wd.heap.size]? = some (.cells #[.slice none 0 0] 38) := heap_alloc_new wd _
      obtain ⟨p9, hp_⟩ : ∃ q, q = wd.heap.size := ⟨_, rfl⟩
      rw [← hp_] at hbx_
      have hlt_ : p9 < (wd.alloc (.cells #[.slice none 0 0] 38)).heap.size := blk_lt hbx_
      have hge_ : q8.heap.size ≤ p9 := by rw [hp_]; exact HY.out.size
      clear hHeld
      generalize (wd.alloc (.cells #[.slice none 0 0] 38)) = wb at hB_ hbx_ hlt_ ⊢
      rw [← hp_]
      have HY := Lib.hid (HY.out.trans (hB_.mono HY.out.size))
      have HBX := Lib.hid hbx_
      have HP := Lib.hid (And.intro hge_ hlt_)
      clear hB_ hbx_ hlt_ hge_ hp_
      refine one_ (i := 2) (N := some 39) #[true, true, true, false, false, false, false, true, false, false] rfl rfl (by kernel_rfl) (by decide) (fun K hK => ?_)
      have HPO := Lib.hid HP.out.2
      refine goes_ Tryd.func34 (by kernel_rfl) rfl #[.agg #[.int .i64 s0, .int .i64 s1, .int .i64 s2, .string ky, .bool fb]] (by rfl) rfl rfl (by (try simp only [List.map_toArray, List.map_cons, List.map_nil]); first | done | rfl) ?_
      refine (HTC.out _).mono ?_
      rintro e wz2 ⟨rfl, hB_⟩
      refine ⟨_, rfl, ?_⟩
      have HY := Lib.hid (HY.out.trans (hB_.mono HY.out.size))
      have HBX := Lib.hid (blk_below HBX.out hB_)
      have HP := Lib.hid (And.intro HP.out.1 (Nat.lt_of_lt_of_le HP.out.2 hB_.size))
      skip
      clear hB_ HPO
      refine hK.out _ _ ⟨(F3.out _ HY.out).2.1, (F3.out _ HY.out).2.2.2.1, (F3.out _ HY.out).2.2.2.2.1, (F3.out _ HY.out).2.2.2.2.2.1, (F3.out _ HY.out).2.2.2.2.2.2.1, (F3.out _ HY.out).2.2.2.2.2.2.2⟩ (fun hHeld => ?_)
      clear hK K
      refine norm_ (a' := ?_) ?_ ?_
      rotate_left
      · show Act.put _ (some 39) _ = _
        simp only [Act.put, List.setIfInBounds_toArray, List.set_cons_zero, List.set_cons_succ, i64_w, i32_w]
        rfl
      refine one_ (i := 3) (N := some 40) #[true, true, true, true, false, false, false, true, false, false] rfl rfl (by kernel_rfl) (by decide) (fun K hK => ?_)
      have HPO := Lib.hid HP.out.2
      have HYO := Lib.hid HY.out.size
      refine goes_ Tryd.func35 (by kernel_rfl) rfl #[.agg #[.slice A4 E.length c4], .agg #[.int .i64 s0, .int .i64 s1, .int .i64 s2, .string ky, .bool fb]] (by rfl) rfl rfl (by (try simp only [List.map_toArray, List.map_cons, List.map_nil]); first | done | rfl) ?_
      refine (HIM.out A4 c4 _ (S_C (F3.out _ HY.out).2.2.1).1 (S_C (F3.out _ HY.out).2.2.1).2).mono ?_
      rintro e w5 ⟨v5, rfl, hS_, hB_⟩
      refine ⟨_, rfl, ?_⟩
      have HY := Lib.hid (HY.out.trans (hB_.mono HY.out.size))
      have HBX := Lib.hid (blk_below HBX.out hB_)
      have HP := Lib.hid (And.intro HP.out.1 (Nat.lt_of_lt_of_le HP.out.2 hB_.size))
      have D5 := Lib.hid (Below.refl w5.heap.size w5)
      obtain ⟨A5, c5, e_⟩ := Kd.S_slice hS_
      subst e_
      obtain ⟨wS, hwS⟩ : ∃ q, q = wz2 := ⟨_, rfl⟩
      have HST := Lib.hid (And.intro (Kd.S_bound hS_) HYO.out)
      rw [← hwS] at HST
      have HSP : Hid (p9 < wS.heap.size ∨ w5.heap.size ≤ p9) := Lib.hid (Or.inl (by rw [hwS]; exact HPO.out))
      clear hS_ hwS HYO
      clear hB_ HPO
      refine hK.out _ _ ⟨(F3.out _ HY.out).2.1, (F3.out _ HY.out).2.2.2.1, (F3.out _ HY.out).2.2.2.2.1, (F3.out _ HY.out).2.2.2.2.2.1, (F3.out _ HY.out).2.2.2.2.2.2.1, (F3.out _ HY.out).2.2.2.2.2.2.2⟩ (fun hHeld => ?_)
      clear hK K
      refine norm_ (a' := ?_) ?_ ?_
      rotate_left
      · show Act.put _ (some 40) _ = _
        simp only [Act.put, List.setIfInBounds_toArray, List.set_cons_zero, List.set_cons_succ, i64_w, i32_w]
        rfl
      refine pure_ (i := 4) (N := some 36) (v := ?_) (a' := ?_) #[true, true, true, true, true, false, false, true, false, false] rfl rfl (by kernel_rfl) (fun _ _ _ h => h) (Or.inl ⟨by rfl, ?_⟩) ?_ ?_
      rotate_left
      · intro w'
        go_simp
        with_reducible rfl
      rotate_left
      · simp only [Act.put, List.setIfInBounds_toArray, List.set_cons_zero, List.set_cons_succ, i64_w, i32_w]
        rfl
      refine pure_ (i := 5) (N := some 41) (v := ?_) (a' := ?_) #[true, true, true, true, true, true, false, true, false, false] rfl rfl (by kernel_rfl) (fun _ _ _ h => h) (Or.inl ⟨by rfl, ?_⟩) ?_ ?_
      rotate_left
      · intro w'
        go_simp
        with_reducible rfl
      rotate_left
      · simp only [Act.put, List.setIfInBounds_toArray, List.set_cons_zero, List.set_cons_succ, i64_w, i32_w]
        rfl
      refine pure_ (i := 6) (N := some 42) (v := ?_) (a' := ?_) #[true, true, true, true, true, true, true, true, false, false] rfl rfl (by kernel_rfl) (fun _ _ _ h => h) (Or.inl ⟨by rfl, ?_⟩) ?_ ?_
      rotate_left
      · intro w'
        go_simp
        with_reducible rfl
      rotate_left
      · simp only [Act.put, List.setIfInBounds_toArray, List.set_cons_zero, List.set_cons_succ, i64_w, i32_w]
        rfl
      refine one_ (i := 8) (N := none) #[true, true, true, true, true, true, true, true, true, false] rfl rfl (by kernel_rfl) (by decide) (fun K hK => ?_)
      have hs_ : w5.cell? ⟨p9, 0, none⟩ = some (.slice none 0 0) := (blk_cell HBX.out 0).trans rfl
      have hf_ := blk_frozen HBX.out 0
      refine skip_ (w1 := ?_) (by rfl) rfl ?_ ?_
      rotate_left
      · go_simp
        rfl
      refine hK.out _ _ ⟨(F3.out _ (show Below q8.heap.size q8 (w5.setCell ⟨p9, 0, none⟩ (.slice A5 R.length c5)) from Below.setCell (p := ⟨p9, 0, none⟩) HY.out HP.out.1 _)).2.1, (F3.out _ (show Below q8.heap.size q8 (w5.setCell ⟨p9, 0, none⟩ (.slice A5 R.length c5)) from Below.setCell (p := ⟨p9, 0, none⟩) HY.out HP.out.1 _)).2.2.2.1, (F3.out _ (show Below q8.heap.size q8 (w5.setCell ⟨p9, 0, none⟩ (.slice A5 R.length c5)) from Below.setCell (p := ⟨p9, 0, none⟩) HY.out HP.out.1 _)).2.2.2.2.1, (F3.out _ (show Below q8.heap.size q8 (w5.setCell ⟨p9, 0, none⟩ (.slice A5 R.length c5)) from Below.setCell (p := ⟨p9, 0, none⟩) HY.out HP.out.1 _)).2.2.2.2.2.1, (F3.out _ (show Below q8.heap.size q8 (w5.setCell ⟨p9, 0, none⟩ (.slice A5 R.length c5)) from Below.setCell (p := ⟨p9, 0, none⟩) HY.out HP.out.1 _)).2.2.2.2.2.2.1, (F3.out _ (show Below q8.heap.size q8 (w5.setCell ⟨p9, 0, none⟩ (.slice A5 R.length c5)) from Below.setCell (p := ⟨p9, 0, none⟩) HY.out HP.out.1 _)).2.2.2.2.2.2.2⟩ (fun hHeld => ?_)
      clear hK K
      refine pure_ (i := 9) (N := some 10) (v := ?_) (a' := ?_) #[true, true, true, true, true, true, true, true, true, true] rfl rfl (by kernel_rfl) (fun _ _ _ h => h) (Or.inl ⟨by rfl, ?_⟩) ?_ ?_
      rotate_left
      · intro w'
        go_simp
        with_reducible rfl
      rotate_left
      · simp only [Act.put, List.setIfInBounds_toArray, List.set_cons_zero, List.set_cons_succ, i64_w, i32_w]
        rfl
      refine done_ (by kernel_rfl) ?_
      clear hHeld hs_ hf_
      have hq1 : Below q8.heap.size q8 (w5.setCell ⟨p9, 0, none⟩ (.slice A5 R.length c5)) := Below.setCell (p := ⟨p9, 0, none⟩) HY.out HP.out.1 _
      have hqb : (w5.setCell ⟨p9, 0, none⟩ (.slice A5 R.length c5)).heap[p9]? = some (T1 (.slice A5 R.length c5)) := blk_put HBX.out 0 _ rfl
      have hlt9 : p9 < (w5.setCell ⟨p9, 0, none⟩ (.slice A5 R.length c5)).heap.size := blk_lt hqb
      have hSG : sEnt (w5.setCell ⟨p9, 0, none⟩ (.slice A5 R.length c5)) q8.heap.size (fun k => wS.heap.size ≤ k ∧ k < w5.heap.size) (.slice A5 R.length c5) R := Kd.S_far (p := ⟨p9, 0, none⟩) (Kd.S_lower (Kd.S_mono (Kd.S_below HST.out.1 D5.out) (fun k hk => ⟨hk.2.1, hk.2.2.1⟩)) HST.out.2) (fun k hk => by have h5 := HSP.out; have h6 : wS.heap.size ≤ k := hk.1; have h7 : k < w5.heap.size := hk.2; show k ≠ p9; omega) _
      have F4 : Hid (∀ W', Below (w5.setCell ⟨p9, 0, none⟩ (.slice A5 R.length c5)).heap.size (w5.setCell ⟨p9, 0, none⟩ (.slice A5 R.length c5)) W' → Below q8.heap.size q8 W' ∧ W'.cell? ⟨p9, 0, none⟩ = some (.slice A5 R.length c5) ∧ sEnt W' q8.heap.size (fun k => wS.heap.size ≤ k ∧ k < w5.heap.size) (.slice A5 R.length c5) R) := Lib.hid (fun W' h => ⟨hq1.trans (h.mono hq1.size), pw_cell_below h ((blk_cell hqb 0).trans rfl), Kd.S_below hSG h⟩)
      have HL9 : Hid (p9 < (w5.setCell ⟨p9, 0, none⟩ (.slice A5 R.length c5)).heap.size ∧ q8.heap.size ≤ p9 ∧ q8.heap.size ≤ wS.heap.size ∧ (p9 < wS.heap.size ∨ w5.heap.size ≤ p9)) := Lib.hid ⟨hlt9, HP.out.1, HST.out.2, HSP.out⟩
      clear hq1 hqb hlt9 hSG HBX HP HSP HST HY D5
      generalize (w5.setCell ⟨p9, 0, none⟩ (.slice A5 R.length c5)) = q9 at F4 HL9 ⊢
      generalize wS.heap.size = g1 at F4 HL9
      generalize w5.heap.size = g2 at F4 HL9
      generalize p9 = x1 at F4 HL9 ⊢
      generalize A5 = x2 at F4 ⊢
      generalize c5 = x3 at F4 ⊢
      revert HL9
      revert F4
      revert g2
      revert g1
      revert q9
      revert x3
      revert x2
      revert x1
      exact TAIL
  intro p9 A5 c5 q9 g1 g2 F4 HL9
  have G9 : Hid (∀ W', Below q9.heap.size q9 W' → Below w.heap.size w W' ∧ W'.cell? ⟨w.heap.size, 0, none⟩ = some (.slice A0 n c0) ∧ W'.cell? ⟨p6, 0, none⟩ = some (.slice A3 R.length c3) ∧ Kd.C k68 W' A3 R.length R ∧ W'.cell? ⟨p8, 0, none⟩ = some (.slice A4 E.length c4) ∧ sEnt W' q6.heap.size (fun k => q6.heap.size ≤ k ∧ k < w4.heap.size) (.slice A4 E.length c4) E ∧ W'.cell? ⟨p9, 0, none⟩ = some (.slice A5 R.length c5) ∧ sEnt W' q8.heap.size (fun k => g1 ≤ k ∧ k < g2) (.slice A5 R.length c5) R ∧ Below q6.heap.size q6 W' ∧ Below q8.heap.size q8 W') := Lib.hid (fun W' h => by
    obtain ⟨a1, a2, a3⟩ := F4.out W' h
    obtain ⟨d1, d2, d3, _⟩ := F3.out W' a1
    obtain ⟨e1, e2, e3, e4, _⟩ := F2.out W' d1
    exact ⟨e1, e2, e3, e4, d2, d3, a2, a3, d1, a1⟩)
  have HQ68 := Lib.hid (F3.out _ (Below.refl _ _)).1.size
  clear F3 F4
  obtain ⟨_, _, cw, _, _, _, cg, _, _, _⟩ := G9.out _ (Below.refl _ _)
  go_upto_region 13 with (first
    | (go_at_call 31; refine (HER.out A5 A3 c5 c3 q9 (S_C (G9.out _ (Below.refl _ _)).2.2.2.2.2.2.2.1).1 (S_C (G9.out _ (Below.refl _ _)).2.2.2.2.2.2.2.1).2 (G9.out _ (Below.refl _ _)).2.2.2.1 HC3.out).mono ?_; rintro e w6 ⟨rfl, hB6⟩; have H6 := Lib.hid hB6; clear hB6 cw cg))
  have hy1 : Below q9.heap.size q9 w6.drew := below_drew1 H6.out
  have H7 := Lib.hid hy1
  clear hy1 H6
  refine start_ (n := 5) (S := fun w' => w'.cell? ⟨p8, 0, none⟩ = some (.slice A4 E.length c4) ∧ w'.cell? ⟨w.heap.size, 0, none⟩ = some (.slice A0 n c0)) (ds := []) #[false, false, false, false, false] (by kernel_rfl) rfl rfl ⟨(G9.out _ H7.out).2.2.2.2.1, (G9.out _ H7.out).2.1⟩ (fun hHeld => ?_)
  refine take_ (i := 0) (N := some 52) (v := ?_) (a' := ?_) #[true, false, false, false, false] rfl rfl (by kernel_rfl) (fun _ _ _ h => h) (Or.inl ⟨by rfl, ?_⟩) hHeld ?_ ?_
  rotate_left
  · rintro w' ⟨s0, s1⟩
    go_simp
    with_reducible rfl
  rotate_left
  · simp only [Act.put, List.setIfInBounds_toArray, List.set_cons_zero, List.set_cons_succ, i64_w, i32_w]
    rfl
  refine take_ (i := 1) (N := some 53) (v := ?_) (a' := ?_) #[true, true, false, false, false] rfl rfl (by kernel_rfl) (fun _ _ _ h => h) (Or.inl ⟨by rfl, ?_⟩) hHeld ?_ ?_
  rotate_left
  · rintro w' ⟨s0, s1⟩
    go_simp
    with_reducible rfl
  rotate_left
  · simp only [Act.put, List.setIfInBounds_toArray, List.set_cons_zero, List.set_cons_succ, i64_w, i32_w]
    rfl
  refine one_ (i := 2) (N := some 54) #[true, true, true, false, false] rfl rfl (by kernel_rfl) (by decide) (fun K hK => ?_)
  refine goes_ Tryd.func29 (by kernel_rfl) rfl #[.agg #[.slice A0 n c0]] (by rfl) rfl rfl (by (try simp only [List.map_toArray, List.map_cons, List.map_nil]); first | done | rfl) ?_
  refine (HTO.out _ (G9.out _ H7.out).1).mono ?_
  rintro e w8 ⟨v8, rfl, hS8, hB8⟩
  refine ⟨_, rfl, ?_⟩
  obtain ⟨A8, c8, e8⟩ := Kd.S_slice hS8
  subst e8
  have H8 := Lib.hid (And.intro (S_C hS8) (H7.out.trans (hB8.mono H7.out.size)))
  clear hS8 hB8 H7
  refine hK.out _ _ ⟨(G9.out _ H8.out.2).2.2.2.2.1, (G9.out _ H8.out.2).2.1⟩ (fun hHeld => ?_)
  clear hK K
  refine norm_ (a' := ?_) ?_ ?_
  rotate_left
  · show Act.put _ (some 54) _ = _
    simp only [Act.put, List.setIfInBounds_toArray, List.set_cons_zero, List.set_cons_succ, i64_w, i32_w]
    rfl
  refine one_ (i := 3) (N := some 55) #[true, true, true, true, false] rfl rfl (by kernel_rfl) (by decide) (fun K hK => ?_)
  refine goes_ Tryd.func31 (by kernel_rfl) rfl #[.agg #[.slice A4 E.length c4], .agg #[.slice A8 E.length c8]] (by rfl) rfl rfl (by (try simp only [List.map_toArray, List.map_cons, List.map_nil]); first | done | rfl) ?_
  refine (HEE.out A4 A8 c4 c8 w8 (S_C (G9.out _ H8.out.2).2.2.2.2.2.1).1 (S_C (G9.out _ H8.out.2).2.2.2.2.2.1).2 H8.out.1.1 H8.out.1.2).mono ?_
  rintro e w9 ⟨rfl, hB9⟩
  refine ⟨_, rfl, ?_⟩
  have H9 := Lib.hid (H8.out.2.trans (hB9.mono H8.out.2.size))
  clear hB9 H8
  refine hK.out _ _ ⟨(G9.out _ H9.out).2.2.2.2.1, (G9.out _ H9.out).2.1⟩ (fun hHeld => ?_)
  clear hK K
  refine norm_ (a' := ?_) ?_ ?_
  rotate_left
  · show Act.put _ (some 55) _ = _
    simp only [Act.put, List.setIfInBounds_toArray, List.set_cons_zero, List.set_cons_succ, i64_w, i32_w]
    rfl
  refine pure_ (i := 4) (N := some 56) (v := ?_) (a' := ?_) #[true, true, true, true, true] rfl rfl (by kernel_rfl) (fun _ _ _ h => h) (Or.inl ⟨by rfl, ?_⟩) ?_ ?_
  rotate_left
  · intro w'
    go_simp
    with_reducible rfl
  rotate_left
  · simp only [Act.put, List.setIfInBounds_toArray, List.set_cons_zero, List.set_cons_succ, i64_w, i32_w]
    rfl
  refine done_ (by kernel_rfl) ?_
  clear hHeld
  have G10 := Lib.hid (fun W' (h : Below w9.heap.size w9 W') => G9.out W' (H9.out.trans (h.mono H9.out.size)))
  have h99 := H9.out.size
  have HL := Lib.hid (And.intro h99 (And.intro HL6.out (And.intro HL8.out HL9.out)))
  clear G9 H9 h99 HL6 HL8 HL9
  obtain ⟨_, cb, cw, _, cx, _, cg, _, _, _⟩ := G10.out _ (Below.refl _ _)
  clear cb cw
  have P1 : True := trivial
  go_upto_region 27 with (first
    | (have _ := P1; go_at_call 36; refine (HMX.out (.slice A4 E.length c4) q6.heap.size (fun k => q6.heap.size ≤ k ∧ k < w4.heap.size) w9 (G10.out _ (Below.refl _ _)).2.2.2.2.2.1 (G10.out _ (Below.refl _ _)).2.2.2.2.2.2.2.2.1.size).mono ?_; rintro e w10 ⟨rfl, _, hB10, hK10⟩; have D10 := (G10.out _ (Below.refl _ _)).2.2.2.2.2.2.2.2.1.trans hB10; have cg2 := cell_kept cg hK10 (fun h => by have h1 : p9 < w4.heap.size := h.2; have h3 := HL.out.2.2.1; have h5 := HL.out.2.2.2; omega); have SG2 := Kd.S_kept (G10.out _ (Below.refl _ _)).2.2.2.2.2.2.2.1 hK10 (fun k hk h2 => by have h3 : g1 ≤ k := hk.1; have h4 : k < w4.heap.size := h2.2; have h5 := HL.out.2.2.1; have h6 := HL.out.2.2.2; omega); have F10 : Hid (∀ W', Below w10.heap.size w10 W' → Below q6.heap.size q6 W' ∧ W'.cell? ⟨p9, 0, none⟩ = some (.slice A5 R.length c5) ∧ sEnt W' q8.heap.size (fun k => g1 ≤ k ∧ k < g2) (.slice A5 R.length c5) R) := Lib.hid (fun W' h => ⟨(D10).trans (h.mono (D10).size), pw_cell_below h cg2, Kd.S_below SG2 h⟩); have cw2 := (F2.out _ D10).2.2.1; clear cx cg hB10 hK10 D10 SG2; clear P1; have P2 : True := trivial)
    | (go_at_call 31; refine (HER.out A5 A3 c5 c3 w10 (S_C (F10.out _ (Below.refl _ _)).2.2).1 (S_C (F10.out _ (Below.refl _ _)).2.2).2 (F2.out _ (F10.out _ (Below.refl _ _)).1).2.2.2.1 HC3.out).mono ?_; rintro e w11 ⟨rfl, hB11⟩; have F11 := Lib.hid (fun W' (h : Below w11.heap.size w11 W') => F10.out W' (hB11.trans (h.mono hB11.size))); have cg3 := (F11.out _ (Below.refl _ _)).2.1; clear hB11 cw2 cg2)
    | (have _ := P2; go_at_call 36; refine (HMG.out (.slice A5 R.length c5) q8.heap.size (fun k => g1 ≤ k ∧ k < g2) w11 (F11.out _ (Below.refl _ _)).2.2 (by have h4 := block_lt_of_cell (F11.out _ (Below.refl _ _)).2.1; have h5 := HL.out.2.2.2; change p9 < w11.heap.size at h4; omega)).mono ?_; rintro e w12 ⟨rfl, hS12, hB12, hK12⟩; have D12 := (F11.out _ (Below.refl _ _)).1.trans (hB12.mono (by have h8 := HQ68.out; omega)); have cg4 := cell_kept cg3 hK12 (fun h => by have h1 : g1 ≤ p9 := h.1; have h2 : p9 < g2 := h.2; have h5 := HL.out.2.2.2.2.2.2; omega); have F12 : Hid (∀ W', Below w12.heap.size w12 W' → Below q6.heap.size q6 W' ∧ W'.cell? ⟨p9, 0, none⟩ = some (.slice A5 R.length c5) ∧ sEnt W' q8.heap.size (fun k => g1 ≤ k ∧ k < g2) (.slice A5 R.length c5) (mkL mt 1 R)) := Lib.hid (fun W' h => ⟨(D12).trans (h.mono (D12).size), pw_cell_below h cg4, Kd.S_below hS12 h⟩); clear cg3 hS12 hB12 hK12 D12; clear P2)
    | (go_at_call 37; refine (HHG.out A5 c5 w12 (S_C (F12.out _ (Below.refl _ _)).2.2).1).mono ?_; rintro e w13 ⟨rfl, hB13⟩; have F13 := Lib.hid (fun W' (h : Below w13.heap.size w13 W') => F12.out W' (hB13.trans (h.mono hB13.size))); clear hB13 cg4))
  apply cut_
  · intro TAIL
    have hy1 : Below w13.heap.size w13 w13.drew := below_drew1 (Below.refl _ _)
    have HY := Lib.hid hy1
    clear hy1
    refine start_ (n := 11) (S := fun w' => w'.cell? ⟨w.heap.size, 0, none⟩ = some (.slice A0 n c0) ∧ w'.cell? ⟨w.heap.size + 1, 0, none⟩ = some (.int .i64 s0) ∧ w'.cell? ⟨w.heap.size + 1, 1, none⟩ = some (.int .i64 s1) ∧ w'.cell? ⟨w.heap.size + 1, 2, none⟩ = some (.int .i64 s2) ∧ w'.cell? ⟨w.heap.size + 1, 3, none⟩ = some (.string ky) ∧ w'.cell? ⟨w.heap.size + 1, 4, none⟩ = some (.bool fb)) (ds := []) #[false, false, false, false, false, false, false, false, false, false, false] (by kernel_rfl) rfl rfl ⟨(F2.out _ (F13.out _ HY.out).1).2.1, (F2.out _ (F13.out _ HY.out).1).2.2.2.2.1, (F2.out _ (F13.out _ HY.out).1).2.2.2.2.2.1, (F2.out _ (F13.out _ HY.out).1).2.2.2.2.2.2.1, (F2.out _ (F13.out _ HY.out).1).2.2.2.2.2.2.2.1, (F2.out _ (F13.out _ HY.out).1).2.2.2.2.2.2.2.2⟩ (fun hHeld => ?_)
    generalize w13.drew = wd at HY hHeld ⊢
    refine take_ (i := 0) (N := some 85) (v := ?_) (a' := ?_) #[true, false, false, false, false, false, false, false, false, false, false] rfl rfl (by kernel_rfl) (fun _ _ _ h => h) (Or.inl ⟨by rfl, ?_⟩) hHeld ?_ ?_
    rotate_left
    · rintro w' ⟨s0, s1, s2, s3, s4, s5⟩
      go_simp
      with_reducible rfl
    rotate_left
    · simp only [Act.put, List.setIfInBounds_toArray, List.set_cons_zero, List.set_cons_succ, i64_w, i32_w]
      rfl
    refine take_ (i := 2) (N := some 87) (v := ?_) (a' := ?_) #[true, false, true, false, false, false, false, false, false, false, false] rfl rfl (by kernel_rfl) (fun _ _ _ h => h) (Or.inl ⟨by rfl, ?_⟩) hHeld ?_ ?_
    rotate_left
    · rintro w' ⟨s0, s1, s2, s3, s4, s5⟩
      go_simp
      with_reducible rfl
    rotate_left
    · simp only [Act.put, List.setIfInBounds_toArray, List.set_cons_zero, List.set_cons_succ, i64_w, i32_w]
      rfl
    refine two_ (i := 1) (j := 8) (Ni := some 86) (Nj := some 14) #[true, true, true, false, false, false, false, false, false, false, false] #[true, false, true, false, false, false, false, false, true, false, false] rfl rfl rfl rfl (by kernel_rfl) (by decide) (by decide) (fun K hK => ?_) (fun K hK => ?_)
    · refine goes_ Tryd.func29 (by kernel_rfl) rfl #[.agg #[.slice A0 n c0]] (by rfl) rfl rfl (by (try simp only [List.map_toArray, List.map_cons, List.map_nil]); first | done | rfl) ?_
      refine (HTO.out _ (F2.out _ (F13.out _ HY.out).1).1).mono ?_
      rintro e w14 ⟨v_, rfl, hS_, hB_⟩
      refine ⟨_, rfl, ?_⟩
      have HY := Lib.hid (HY.out.trans (hB_.mono HY.out.size))
      have D14 := Lib.hid (Below.refl w14.heap.size w14)
      obtain ⟨A14, c14, e_⟩ := Kd.S_slice hS_
      subst e_
      have H14 := Lib.hid (S_C hS_)
      clear hS_
      clear hB_
      refine hK.out _ _ ⟨(F2.out _ (F13.out _ HY.out).1).2.1, (F2.out _ (F13.out _ HY.out).1).2.2.2.2.1, (F2.out _ (F13.out _ HY.out).1).2.2.2.2.2.1, (F2.out _ (F13.out _ HY.out).1).2.2.2.2.2.2.1, (F2.out _ (F13.out _ HY.out).1).2.2.2.2.2.2.2.1, (F2.out _ (F13.out _ HY.out).1).2.2.2.2.2.2.2.2⟩ (fun hHeld => ?_)
      clear hK K
      refine norm_ (a' := ?_) ?_ ?_
      rotate_left
      · show Act.put _ (some 86) _ = _
        simp only [Act.put, List.setIfInBounds_toArray, List.set_cons_zero, List.set_cons_succ, i64_w, i32_w]
        rfl
      refine two_ (i := 3) (j := 8) (Ni := some 88) (Nj := some 14) #[true, true, true, true, false, false, false, false, false, false, false] #[true, true, true, false, false, false, false, false, true, false, false] rfl rfl rfl rfl (by kernel_rfl) (by decide) (by decide) (fun K hK => ?_) (fun K hK => ?_)
      · refine goes_ Tryd.func34 (by kernel_rfl) rfl #[.agg #[.int .i64 s0, .int .i64 s1, .int .i64 s2, .string ky, .bool fb]] (by rfl) rfl rfl (by (try simp only [List.map_toArray, List.map_cons, List.map_nil]); first | done | rfl) ?_
        refine (HTC.out _).mono ?_
        rintro e wv3 ⟨rfl, hB_⟩
        refine ⟨_, rfl, ?_⟩
        have HY := Lib.hid (HY.out.trans (hB_.mono HY.out.size))
        have D14 := Lib.hid (D14.out.trans (hB_.mono D14.out.size))
        skip
        clear hB_
        refine hK.out _ _ ⟨(F2.out _ (F13.out _ HY.out).1).2.1, (F2.out _ (F13.out _ HY.out).1).2.2.2.2.1, (F2.out _ (F13.out _ HY.out).1).2.2.2.2.2.1, (F2.out _ (F13.out _ HY.out).1).2.2.2.2.2.2.1, (F2.out _ (F13.out _ HY.out).1).2.2.2.2.2.2.2.1, (F2.out _ (F13.out _ HY.out).1).2.2.2.2.2.2.2.2⟩ (fun hHeld => ?_)
        clear hK K
        refine norm_ (a' := ?_) ?_ ?_
        rotate_left
        · show Act.put _ (some 88) _ = _
          simp only [Act.put, List.setIfInBounds_toArray, List.set_cons_zero, List.set_cons_succ, i64_w, i32_w]
          rfl
        refine two_ (i := 4) (j := 8) (Ni := some 89) (Nj := some 14) #[true, true, true, true, true, false, false, false, false, false, false] #[true, true, true, true, false, false, false, false, true, false, false] rfl rfl rfl rfl (by kernel_rfl) (by decide) (by decide) (fun K hK => ?_) (fun K hK => ?_)
        · refine goes_ Tryd.func35 (by kernel_rfl) rfl #[.agg #[.slice A14 E.length c14], .agg #[.int .i64 s0, .int .i64 s1, .int .i64 s2, .string ky, .bool fb]] (by rfl) rfl rfl (by (try simp only [List.map_toArray, List.map_cons, List.map_nil]); first | done | rfl) ?_
          refine (HIM.out A14 c14 _ (Kd.C_below H14.out.1 D14.out) H14.out.2).mono ?_
          rintro e w15 ⟨v15, rfl, hS_, hB_⟩
          refine ⟨_, rfl, ?_⟩
          have HY := Lib.hid (HY.out.trans (hB_.mono HY.out.size))
          have D14 := Lib.hid (D14.out.trans (hB_.mono D14.out.size))
          have D15 := Lib.hid (Below.refl w15.heap.size w15)
          obtain ⟨A15, c15, e_⟩ := Kd.S_slice hS_
          subst e_
          obtain ⟨wS, hwS⟩ : ∃ q, q = wv3 := ⟨_, rfl⟩
          have HST := Lib.hid (Kd.S_bound hS_)
          rw [← hwS] at HST
          clear hS_ hwS
          clear hB_
          refine hK.out _ _ ⟨(F2.out _ (F13.out _ HY.out).1).2.1, (F2.out _ (F13.out _ HY.out).1).2.2.2.2.1, (F2.out _ (F13.out _ HY.out).1).2.2.2.2.2.1, (F2.out _ (F13.out _ HY.out).1).2.2.2.2.2.2.1, (F2.out _ (F13.out _ HY.out).1).2.2.2.2.2.2.2.1, (F2.out _ (F13.out _ HY.out).1).2.2.2.2.2.2.2.2⟩ (fun hHeld => ?_)
          clear hK K
          refine norm_ (a' := ?_) ?_ ?_
          rotate_left
          · show Act.put _ (some 89) _ = _
            simp only [Act.put, List.setIfInBounds_toArray, List.set_cons_zero, List.set_cons_succ, i64_w, i32_w]
            rfl
          refine pure_ (i := 5) (N := some 84) (v := ?_) (a' := ?_) #[true, true, true, true, true, true, false, false, false, false, false] rfl rfl (by kernel_rfl) (fun _ _ _ h => h) (Or.inl ⟨by rfl, ?_⟩) ?_ ?_
          rotate_left
          · intro w'
            go_simp
            with_reducible rfl
          rotate_left
          · simp only [Act.put, List.setIfInBounds_toArray, List.set_cons_zero, List.set_cons_succ, i64_w, i32_w]
            rfl
          refine pure_ (i := 6) (N := some 90) (v := ?_) (a' := ?_) #[true, true, true, true, true, true, true, false, false, false, false] rfl rfl (by kernel_rfl) (fun _ _ _ h => h) (Or.inl ⟨by rfl, ?_⟩) ?_ ?_
          rotate_left
          · intro w'
            go_simp
            with_reducible rfl
          rotate_left
          · simp only [Act.put, List.setIfInBounds_toArray, List.set_cons_zero, List.set_cons_succ, i64_w, i32_w]
            rfl
          refine pure_ (i := 7) (N := some 91) (v := ?_) (a' := ?_) #[true, true, true, true, true, true, true, true, false, false, false] rfl rfl (by kernel_rfl) (fun _ _ _ h => h) (Or.inl ⟨by rfl, ?_⟩) ?_ ?_
          rotate_left
          · intro w'
            go_simp
            with_reducible rfl
          rotate_left
          · simp only [Act.put, List.setIfInBounds_toArray, List.set_cons_zero, List.set_cons_succ, i64_w, i32_w]
            rfl
          refine one_ (i := 8) (N := some 14) #[true, true, true, true, true, true, true, true, true, false, false] rfl rfl (by kernel_rfl) (by decide) (fun K hK => ?_)
          refine value_ (w1 := ?_) (v := ?_) (by rfl) rfl ?_ ?_
          rotate_left 2
          · go_simp
            constructor
            · rfl
            · rfl
          refine hK.out _ _ ⟨(F2.out _ (F13.out _ (show Below w13.heap.size w13 (w15.alloc (.cells #[.slice none 0 0] 38)) from HY.out.alloc HY.out.size _)).1).2.1, (F2.out _ (F13.out _ (show Below w13.heap.size w13 (w15.alloc (.cells #[.slice none 0 0] 38)) from HY.out.alloc HY.out.size _)).1).2.2.2.2.1, (F2.out _ (F13.out _ (show Below w13.heap.size w13 (w15.alloc (.cells #[.slice none 0 0] 38)) from HY.out.alloc HY.out.size _)).1).2.2.2.2.2.1, (F2.out _ (F13.out _ (show Below w13.heap.size w13 (w15.alloc (.cells #[.slice none 0 0] 38)) from HY.out.alloc HY.out.size _)).1).2.2.2.2.2.2.1, (F2.out _ (F13.out _ (show Below w13.heap.size w13 (w15.alloc (.cells #[.slice none 0 0] 38)) from HY.out.alloc HY.out.size _)).1).2.2.2.2.2.2.2.1, (F2.out _ (F13.out _ (show Below w13.heap.size w13 (w15.alloc (.cells #[.slice none 0 0] 38)) from HY.out.alloc HY.out.size _)).1).2.2.2.2.2.2.2.2⟩ (fun hHeld => ?_)
          clear hK K
          refine norm_ (a' := ?_) ?_ ?_
          rotate_left
          · show Act.put _ (some 14) _ = _
            simp only [Act.put, List.setIfInBounds_toArray, List.set_cons_zero, List.set_cons_succ, i64_w, i32_w]
            rfl
          have hB_ : Below w15.heap.size w15 (w15.alloc (.cells #[.slice none 0 0] 38)) := (Below.refl _ _).alloc (Nat.le_refl _) _
          have hbx_ : (w15.alloc (.cells #[.slice none 0 0] 38)).heap[w15.heap.size]? = some (.cells #[.slice none 0 0] 38) := heap_alloc_new w15 _
          obtain ⟨p14, hp_⟩ : ∃ q, q = w15.heap.size := ⟨_, rfl⟩
          rw [← hp_] at hbx_
          have hlt_ : p14 < (w15.alloc (.cells #[.slice none 0 0] 38)).heap.size := blk_lt hbx_
          have hge_ : w13.heap.size ≤ p14 := by rw [hp_]; exact HY.out.size
          clear hHeld
          generalize (w15.alloc (.cells #[.slice none 0 0] 38)) = wb at hB_ hbx_ hlt_ ⊢
          rw [← hp_]
          have HY := Lib.hid (HY.out.trans (hB_.mono HY.out.size))
          have D14 := Lib.hid (D14.out.trans (hB_.mono D14.out.size))
          have D15 := Lib.hid (D15.out.trans (hB_.mono D15.out.size))
          have HBX := Lib.hid hbx_
          have HP := Lib.hid (And.intro hge_ hlt_)
          have HSP := Lib.hid (Or.inr (by rw [hp_]; exact Nat.le_refl _) : p14 < wS.heap.size ∨ w15.heap.size ≤ p14)
          clear hB_ hbx_ hlt_ hge_ hp_
          refine one_ (i := 9) (N := none) #[true, true, true, true, true, true, true, true, true, true, false] rfl rfl (by kernel_rfl) (by decide) (fun K hK => ?_)
          have hs_ : wb.cell? ⟨p14, 0, none⟩ = some (.slice none 0 0) := (blk_cell HBX.out 0).trans rfl
          have hf_ := blk_frozen HBX.out 0
          refine skip_ (w1 := ?_) (by rfl) rfl ?_ ?_
          rotate_left
          · go_simp
            rfl
          refine hK.out _ _ ⟨(F2.out _ (F13.out _ (show Below w13.heap.size w13 (wb.setCell ⟨p14, 0, none⟩ (.slice A15 R.length c15)) from Below.setCell (p := ⟨p14, 0, none⟩) HY.out HP.out.1 _)).1).2.1, (F2.out _ (F13.out _ (show Below w13.heap.size w13 (wb.setCell ⟨p14, 0, none⟩ (.slice A15 R.length c15)) from Below.setCell (p := ⟨p14, 0, none⟩) HY.out HP.out.1 _)).1).2.2.2.2.1, (F2.out _ (F13.out _ (show Below w13.heap.size w13 (wb.setCell ⟨p14, 0, none⟩ (.slice A15 R.length c15)) from Below.setCell (p := ⟨p14, 0, none⟩) HY.out HP.out.1 _)).1).2.2.2.2.2.1, (F2.out _ (F13.out _ (show Below w13.heap.size w13 (wb.setCell ⟨p14, 0, none⟩ (.slice A15 R.length c15)) from Below.setCell (p := ⟨p14, 0, none⟩) HY.out HP.out.1 _)).1).2.2.2.2.2.2.1, (F2.out _ (F13.out _ (show Below w13.heap.size w13 (wb.setCell ⟨p14, 0, none⟩ (.slice A15 R.length c15)) from Below.setCell (p := ⟨p14, 0, none⟩) HY.out HP.out.1 _)).1).2.2.2.2.2.2.2.1, (F2.out _ (F13.out _ (show Below w13.heap.size w13 (wb.setCell ⟨p14, 0, none⟩ (.slice A15 R.length c15)) from Below.setCell (p := ⟨p14, 0, none⟩) HY.out HP.out.1 _)).1).2.2.2.2.2.2.2.2⟩ (fun hHeld => ?_)
          clear hK K
          refine pure_ (i := 10) (N := some 15) (v := ?_) (a' := ?_) #[true, true, true, true, true, true, true, true, true, true, true] rfl rfl (by kernel_rfl) (fun _ _ _ h => h) (Or.inl ⟨by rfl, ?_⟩) ?_ ?_
          rotate_left
          · intro w'
            go_simp
            with_reducible rfl
          rotate_left
          · simp only [Act.put, List.setIfInBounds_toArray, List.set_cons_zero, List.set_cons_succ, i64_w, i32_w]
            rfl
          refine done_ (by kernel_rfl) ?_
          clear hHeld hs_ hf_
          have hq1 : Below w13.heap.size w13 (wb.setCell ⟨p14, 0, none⟩ (.slice A15 R.length c15)) := Below.setCell (p := ⟨p14, 0, none⟩) HY.out HP.out.1 _
          have hqb : (wb.setCell ⟨p14, 0, none⟩ (.slice A15 R.length c15)).heap[p14]? = some (T1 (.slice A15 R.length c15)) := blk_put HBX.out 0 _ rfl
          have hSG := Kd.S_far (p := ⟨p14, 0, none⟩) (Kd.S_mono (Kd.S_below HST.out D15.out) (fun k hk => (⟨hk.2.1, hk.2.2.1⟩ : wS.heap.size ≤ k ∧ k < w15.heap.size))) (fun k hk => by have h5 := HSP.out; have h6 : wS.heap.size ≤ k := hk.1; have h7 : k < w15.heap.size := hk.2; show k ≠ p14; omega) (.slice A15 R.length c15)
          have HC15 := Lib.hid (S_C hSG)
          have ch : (wb.setCell ⟨p14, 0, none⟩ (.slice A15 R.length c15)).cell? ⟨p14, 0, none⟩ = some (.slice A15 R.length c15) := (blk_cell hqb 0).trans rfl
          have F16 : Hid (∀ W', Below (wb.setCell ⟨p14, 0, none⟩ (.slice A15 R.length c15)).heap.size (wb.setCell ⟨p14, 0, none⟩ (.slice A15 R.length c15)) W' → Below q6.heap.size q6 W' ∧ W'.cell? ⟨p9, 0, none⟩ = some (.slice A5 R.length c5) ∧ sEnt W' q8.heap.size (fun k => g1 ≤ k ∧ k < g2) (.slice A5 R.length c5) (mkL mt 1 R)) := Lib.hid (fun W' h => F13.out W' (hq1.trans (h.mono hq1.size)))
          clear hq1 hqb hSG HBX HP HSP HST HY D15 D14 H14
          generalize (wb.setCell ⟨p14, 0, none⟩ (.slice A15 R.length c15)) = q14 at F16 HC15 ch ⊢
          generalize p14 = x1 at ch ⊢
          generalize A14 = x2
          generalize c14 = x3
          generalize A15 = x4 at HC15 ch ⊢
          generalize c15 = x5 at HC15 ch ⊢
          revert ch
          revert HC15
          revert F16
          revert q14
          revert x5
          revert x4
          revert x3
          revert x2
          revert x1
          exact TAIL
        · refine value_ (w1 := ?_) (v := ?_) (by rfl) rfl ?_ ?_
          rotate_left 2
          · go_simp
            constructor
            · rfl
            · rfl
          refine hK.out _ _ ⟨(F2.out _ (F13.out _ (show Below w13.heap.size w13 (wv3.alloc (.cells #[.slice none 0 0] 38)) from HY.out.alloc HY.out.size _)).1).2.1, (F2.out _ (F13.out _ (show Below w13.heap.size w13 (wv3.alloc (.cells #[.slice none 0 0] 38)) from HY.out.alloc HY.out.size _)).1).2.2.2.2.1, (F2.out _ (F13.out _ (show Below w13.heap.size w13 (wv3.alloc (.cells #[.slice none 0 0] 38)) from HY.out.alloc HY.out.size _)).1).2.2.2.2.2.1, (F2.out _ (F13.out _ (show Below w13.heap.size w13 (wv3.alloc (.cells #[.slice none 0 0] 38)) from HY.out.alloc HY.out.size _)).1).2.2.2.2.2.2.1, (F2.out _ (F13.out _ (show Below w13.heap.size w13 (wv3.alloc (.cells #[.slice none 0 0] 38)) from HY.out.alloc HY.out.size _)).1).2.2.2.2.2.2.2.1, (F2.out _ (F13.out _ (show Below w13.heap.size w13 (wv3.alloc (.cells #[.slice none 0 0] 38)) from HY.out.alloc HY.out.size _)).1).2.2.2.2.2.2.2.2⟩ (fun hHeld => ?_)
          clear hK K
          refine norm_ (a' := ?_) ?_ ?_
          rotate_left
          · show Act.put _ (some 14) _ = _
            simp only [Act.put, List.setIfInBounds_toArray, List.set_cons_zero, List.set_cons_succ, i64_w, i32_w]
            rfl
          have hB_ : Below wv3.heap.size wv3 (wv3.alloc (.cells #[.slice none 0 0] 38)) := (Below.refl _ _).alloc (Nat.le_refl _) _
          have hbx_ : (wv3.alloc (.cells #[.slice none 0 0] 38)).heap[wv3.heap.size]? = some (.cells #[.slice none 0 0] 38) := heap_alloc_new wv3 _
          obtain ⟨p14, hp_⟩ : ∃ q, q = wv3.heap.size := ⟨_, rfl⟩
          rw [← hp_] at hbx_
          have hlt_ : p14 < (wv3.alloc (.cells #[.slice none 0 0] 38)).heap.size := blk_lt hbx_
          have hge_ : w13.heap.size ≤ p14 := by rw [hp_]; exact HY.out.size
          clear hHeld
          generalize (wv3.alloc (.cells #[.slice none 0 0] 38)) = wb at hB_ hbx_ hlt_ ⊢
          rw [← hp_]
          have HY := Lib.hid (HY.out.trans (hB_.mono HY.out.size))
          have D14 := Lib.hid (D14.out.trans (hB_.mono D14.out.size))
          have HBX := Lib.hid hbx_
          have HP := Lib.hid (And.intro hge_ hlt_)
          clear hB_ hbx_ hlt_ hge_ hp_
          refine one_ (i := 4) (N := some 89) #[true, true, true, true, true, false, false, false, true, false, false] rfl rfl (by kernel_rfl) (by decide) (fun K hK => ?_)
          have HPO := Lib.hid HP.out.2
          refine goes_ Tryd.func35 (by kernel_rfl) rfl #[.agg #[.slice A14 E.length c14], .agg #[.int .i64 s0, .int .i64 s1, .int .i64 s2, .string ky, .bool fb]] (by rfl) rfl rfl (by (try simp only [List.map_toArray, List.map_cons, List.map_nil]); first | done | rfl) ?_
          refine (HIM.out A14 c14 _ (Kd.C_below H14.out.1 D14.out) H14.out.2).mono ?_
          rintro e w15 ⟨v15, rfl, hS_, hB_⟩
          refine ⟨_, rfl, ?_⟩
          have HY := Lib.hid (HY.out.trans (hB_.mono HY.out.size))
          have D14 := Lib.hid (D14.out.trans (hB_.mono D14.out.size))
          have HBX := Lib.hid (blk_below HBX.out hB_)
          have HP := Lib.hid (And.intro HP.out.1 (Nat.lt_of_lt_of_le HP.out.2 hB_.size))
          have D15 := Lib.hid (Below.refl w15.heap.size w15)
          obtain ⟨A15, c15, e_⟩ := Kd.S_slice hS_
          subst e_
          obtain ⟨wS, hwS⟩ : ∃ q, q = wb := ⟨_, rfl⟩
          have HST := Lib.hid (Kd.S_bound hS_)
          rw [← hwS] at HST
          have HSP : Hid (p14 < wS.heap.size ∨ w15.heap.size ≤ p14) := Lib.hid (Or.inl (by rw [hwS]; exact HPO.out))
          clear hS_ hwS
          clear hB_ HPO
          refine hK.out _ _ ⟨(F2.out _ (F13.out _ HY.out).1).2.1, (F2.out _ (F13.out _ HY.out).1).2.2.2.2.1, (F2.out _ (F13.out _ HY.out).1).2.2.2.2.2.1, (F2.out _ (F13.out _ HY.out).1).2.2.2.2.2.2.1, (F2.out _ (F13.out _ HY.out).1).2.2.2.2.2.2.2.1, (F2.out _ (F13.out _ HY.out).1).2.2.2.2.2.2.2.2⟩ (fun hHeld => ?_)
          clear hK K
          refine norm_ (a' := ?_) ?_ ?_
          rotate_left
          · show Act.put _ (some 89) _ = _
            simp only [Act.put, List.setIfInBounds_toArray, List.set_cons_zero, List.set_cons_succ, i64_w, i32_w]
            rfl
          refine pure_ (i := 5) (N := some 84) (v := ?_) (a' := ?_) #[true, true, true, true, true, true, false, false, true, false, false] rfl rfl (by kernel_rfl) (fun _ _ _ h => h) (Or.inl ⟨by rfl, ?_⟩) ?_ ?_
          rotate_left
          · intro w'
            go_simp
            with_reducible rfl
          rotate_left
          · simp only [Act.put, List.setIfInBounds_toArray, List.set_cons_zero, List.set_cons_succ, i64_w, i32_w]
            rfl
          refine pure_ (i := 6) (N := some 90) (v := ?_) (a' := ?_) #[true, true, true, true, true, true, true, false, true, false, false] rfl rfl (by kernel_rfl) (fun _ _ _ h => h) (Or.inl ⟨by rfl, ?_⟩) ?_ ?_
          rotate_left
          · intro w'
            go_simp
            with_reducible rfl
          rotate_left
          · simp only [Act.put, List.setIfInBounds_toArray, List.set_cons_zero, List.set_cons_succ, i64_w, i32_w]
            rfl
          refine pure_ (i := 7) (N := some 91) (v := ?_) (a' := ?_) #[true, true, true, true, true, true, true, true, true, false, false] rfl rfl (by kernel_rfl) (fun _ _ _ h => h) (Or.inl ⟨by rfl, ?_⟩) ?_ ?_
          rotate_left
          · intro w'
            go_simp
            with_reducible rfl
          rotate_left
          · simp only [Act.put, List.setIfInBounds_toArray, List.set_cons_zero, List.set_cons_succ, i64_w, i32_w]
            rfl
          refine one_ (i := 9) (N := none) #[true, true, true, true, true, true, true, true, true, true, false] rfl rfl (by kernel_rfl) (by decide) (fun K hK => ?_)
          have hs_ : w15.cell? ⟨p14, 0, none⟩ = some (.slice none 0 0) := (blk_cell HBX.out 0).trans rfl
          have hf_ := blk_frozen HBX.out 0
          refine skip_ (w1 := ?_) (by rfl) rfl ?_ ?_
          rotate_left
          · go_simp
            rfl
          refine hK.out _ _ ⟨(F2.out _ (F13.out _ (show Below w13.heap.size w13 (w15.setCell ⟨p14, 0, none⟩ (.slice A15 R.length c15)) from Below.setCell (p := ⟨p14, 0, none⟩) HY.out HP.out.1 _)).1).2.1, (F2.out _ (F13.out _ (show Below w13.heap.size w13 (w15.setCell ⟨p14, 0, none⟩ (.slice A15 R.length c15)) from Below.setCell (p := ⟨p14, 0, none⟩) HY.out HP.out.1 _)).1).2.2.2.2.1, (F2.out _ (F13.out _ (show Below w13.heap.size w13 (w15.setCell ⟨p14, 0, none⟩ (.slice A15 R.length c15)) from Below.setCell (p := ⟨p14, 0, none⟩) HY.out HP.out.1 _)).1).2.2.2.2.2.1, (F2.out _ (F13.out _ (show Below w13.heap.size w13 (w15.setCell ⟨p14, 0, none⟩ (.slice A15 R.length c15)) from Below.setCell (p := ⟨p14, 0, none⟩) HY.out HP.out.1 _)).1).2.2.2.2.2.2.1, (F2.out _ (F13.out _ (show Below w13.heap.size w13 (w15.setCell ⟨p14, 0, none⟩ (.slice A15 R.length c15)) from Below.setCell (p := ⟨p14, 0, none⟩) HY.out HP.out.1 _)).1).2.2.2.2.2.2.2.1, (F2.out _ (F13.out _ (show Below w13.heap.size w13 (w15.setCell ⟨p14, 0, none⟩ (.slice A15 R.length c15)) from Below.setCell (p := ⟨p14, 0, none⟩) HY.out HP.out.1 _)).1).2.2.2.2.2.2.2.2⟩ (fun hHeld => ?_)
          clear hK K
          refine pure_ (i := 10) (N := some 15) (v := ?_) (a' := ?_) #[true, true, true, true, true, true, true, true, true, true, true] rfl rfl (by kernel_rfl) (fun _ _ _ h => h) (Or.inl ⟨by rfl, ?_⟩) ?_ ?_
          rotate_left
          · intro w'
            go_simp
            with_reducible rfl
          rotate_left
          · simp only [Act.put, List.setIfInBounds_toArray, List.set_cons_zero, List.set_cons_succ, i64_w, i32_w]
            rfl
          refine done_ (by kernel_rfl) ?_
          clear hHeld hs_ hf_
          have hq1 : Below w13.heap.size w13 (w15.setCell ⟨p14, 0, none⟩ (.slice A15 R.length c15)) := Below.setCell (p := ⟨p14, 0, none⟩) HY.out HP.out.1 _
          have hqb : (w15.setCell ⟨p14, 0, none⟩ (.slice A15 R.length c15)).heap[p14]? = some (T1 (.slice A15 R.length c15)) := blk_put HBX.out 0 _ rfl
          have hSG := Kd.S_far (p := ⟨p14, 0, none⟩) (Kd.S_mono (Kd.S_below HST.out D15.out) (fun k hk => (⟨hk.2.1, hk.2.2.1⟩ : wS.heap.size ≤ k ∧ k < w15.heap.size))) (fun k hk => by have h5 := HSP.out; have h6 : wS.heap.size ≤ k := hk.1; have h7 : k < w15.heap.size := hk.2; show k ≠ p14; omega) (.slice A15 R.length c15)
          have HC15 := Lib.hid (S_C hSG)
          have ch : (w15.setCell ⟨p14, 0, none⟩ (.slice A15 R.length c15)).cell? ⟨p14, 0, none⟩ = some (.slice A15 R.length c15) := (blk_cell hqb 0).trans rfl
          have F16 : Hid (∀ W', Below (w15.setCell ⟨p14, 0, none⟩ (.slice A15 R.length c15)).heap.size (w15.setCell ⟨p14, 0, none⟩ (.slice A15 R.length c15)) W' → Below q6.heap.size q6 W' ∧ W'.cell? ⟨p9, 0, none⟩ = some (.slice A5 R.length c5) ∧ sEnt W' q8.heap.size (fun k => g1 ≤ k ∧ k < g2) (.slice A5 R.length c5) (mkL mt 1 R)) := Lib.hid (fun W' h => F13.out W' (hq1.trans (h.mono hq1.size)))
          clear hq1 hqb hSG HBX HP HSP HST HY D15 D14 H14
          generalize (w15.setCell ⟨p14, 0, none⟩ (.slice A15 R.length c15)) = q14 at F16 HC15 ch ⊢
          generalize p14 = x1 at ch ⊢
          generalize A14 = x2
          generalize c14 = x3
          generalize A15 = x4 at HC15 ch ⊢
          generalize c15 = x5 at HC15 ch ⊢
          revert ch
          revert HC15
          revert F16
          revert q14
          revert x5
          revert x4
          revert x3
          revert x2
          revert x1
          exact TAIL
      · refine value_ (w1 := ?_) (v := ?_) (by rfl) rfl ?_ ?_
        rotate_left 2
        · go_simp
          constructor
          · rfl
          · rfl
        refine hK.out _ _ ⟨(F2.out _ (F13.out _ (show Below w13.heap.size w13 (w14.alloc (.cells #[.slice none 0 0] 38)) from HY.out.alloc HY.out.size _)).1).2.1, (F2.out _ (F13.out _ (show Below w13.heap.size w13 (w14.alloc (.cells #[.slice none 0 0] 38)) from HY.out.alloc HY.out.size _)).1).2.2.2.2.1, (F2.out _ (F13.out _ (show Below w13.heap.size w13 (w14.alloc (.cells #[.slice none 0 0] 38)) from HY.out.alloc HY.out.size _)).1).2.2.2.2.2.1, (F2.out _ (F13.out _ (show Below w13.heap.size w13 (w14.alloc (.cells #[.slice none 0 0] 38)) from HY.out.alloc HY.out.size _)).1).2.2.2.2.2.2.1, (F2.out _ (F13.out _ (show Below w13.heap.size w13 (w14.alloc (.cells #[.slice none 0 0] 38)) from HY.out.alloc HY.out.size _)).1).2.2.2.2.2.2.2.1, (F2.out _ (F13.out _ (show Below w13.heap.size w13 (w14.alloc (.cells #[.slice none 0 0] 38)) from HY.out.alloc HY.out.size _)).1).2.2.2.2.2.2.2.2⟩ (fun hHeld => ?_)
        clear hK K
        refine norm_ (a' := ?_) ?_ ?_
        rotate_left
        · show Act.put _ (some 14) _ = _
          simp only [Act.put, List.setIfInBounds_toArray, List.set_cons_zero, List.set_cons_succ, i64_w, i32_w]
          rfl
        have hB_ : Below w14.heap.size w14 (w14.alloc (.cells #[.slice none 0 0] 38)) := (Below.refl _ _).alloc (Nat.le_refl _) _
        have hbx_ : (w14.alloc (.cells #[.slice none 0 0] 38)).heap[w14.heap.size]? = some (.cells #[.slice none 0 0] 38) := heap_alloc_new w14 _
        obtain ⟨p14, hp_⟩ : ∃ q, q = w14.heap.size := ⟨_, rfl⟩
        rw [← hp_] at hbx_
        have hlt_ : p14 < (w14.alloc (.cells #[.slice none 0 0] 38)).heap.size := blk_lt hbx_
        have hge_ : w13.heap.size ≤ p14 := by rw [hp_]; exact HY.out.size
        clear hHeld
        generalize (w14.alloc (.cells #[.slice none 0 0] 38)) = wb at hB_ hbx_ hlt_ ⊢
        rw [← hp_]
        have HY := Lib.hid (HY.out.trans (hB_.mono HY.out.size))
        have D14 := Lib.hid (D14.out.trans (hB_.mono D14.out.size))
        have HBX := Lib.hid hbx_
        have HP := Lib.hid (And.intro hge_ hlt_)
        clear hB_ hbx_ hlt_ hge_ hp_
        refine one_ (i := 3) (N := some 88) #[true, true, true, true, false, false, false, false, true, false, false] rfl rfl (by kernel_rfl) (by decide) (fun K hK => ?_)
        have HPO := Lib.hid HP.out.2
        refine goes_ Tryd.func34 (by kernel_rfl) rfl #[.agg #[.int .i64 s0, .int .i64 s1, .int .i64 s2, .string ky, .bool fb]] (by rfl) rfl rfl (by (try simp only [List.map_toArray, List.map_cons, List.map_nil]); first | done | rfl) ?_
        refine (HTC.out _).mono ?_
        rintro e wv3 ⟨rfl, hB_⟩
        refine ⟨_, rfl, ?_⟩
        have HY := Lib.hid (HY.out.trans (hB_.mono HY.out.size))
        have D14 := Lib.hid (D14.out.trans (hB_.mono D14.out.size))
        have HBX := Lib.hid (blk_below HBX.out hB_)
        have HP := Lib.hid (And.intro HP.out.1 (Nat.lt_of_lt_of_le HP.out.2 hB_.size))
        skip
        clear hB_ HPO
        refine hK.out _ _ ⟨(F2.out _ (F13.out _ HY.out).1).2.1, (F2.out _ (F13.out _ HY.out).1).2.2.2.2.1, (F2.out _ (F13.out _ HY.out).1).2.2.2.2.2.1, (F2.out _ (F13.out _ HY.out).1).2.2.2.2.2.2.1, (F2.out _ (F13.out _ HY.out).1).2.2.2.2.2.2.2.1, (F2.out _ (F13.out _ HY.out).1).2.2.2.2.2.2.2.2⟩ (fun hHeld => ?_)
        clear hK K
        refine norm_ (a' := ?_) ?_ ?_
        rotate_left
        · show Act.put _ (some 88) _ = _
          simp only [Act.put, List.setIfInBounds_toArray, List.set_cons_zero, List.set_cons_succ, i64_w, i32_w]
          rfl
        refine one_ (i := 4) (N := some 89) #[true, true, true, true, true, false, false, false, true, false, false] rfl rfl (by kernel_rfl) (by decide) (fun K hK => ?_)
        have HPO := Lib.hid HP.out.2
        refine goes_ Tryd.func35 (by kernel_rfl) rfl #[.agg #[.slice A14 E.length c14], .agg #[.int .i64 s0, .int .i64 s1, .int .i64 s2, .string ky, .bool fb]] (by rfl) rfl rfl (by (try simp only [List.map_toArray, List.map_cons, List.map_nil]); first | done | rfl) ?_
        refine (HIM.out A14 c14 _ (Kd.C_below H14.out.1 D14.out) H14.out.2).mono ?_
        rintro e w15 ⟨v15, rfl, hS_, hB_⟩
        refine ⟨_, rfl, ?_⟩
        have HY := Lib.hid (HY.out.trans (hB_.mono HY.out.size))
        have D14 := Lib.hid (D14.out.trans (hB_.mono D14.out.size))
        have HBX := Lib.hid (blk_below HBX.out hB_)
        have HP := Lib.hid (And.intro HP.out.1 (Nat.lt_of_lt_of_le HP.out.2 hB_.size))
        have D15 := Lib.hid (Below.refl w15.heap.size w15)
        obtain ⟨A15, c15, e_⟩ := Kd.S_slice hS_
        subst e_
        obtain ⟨wS, hwS⟩ : ∃ q, q = wv3 := ⟨_, rfl⟩
        have HST := Lib.hid (Kd.S_bound hS_)
        rw [← hwS] at HST
        have HSP : Hid (p14 < wS.heap.size ∨ w15.heap.size ≤ p14) := Lib.hid (Or.inl (by rw [hwS]; exact HPO.out))
        clear hS_ hwS
        clear hB_ HPO
        refine hK.out _ _ ⟨(F2.out _ (F13.out _ HY.out).1).2.1, (F2.out _ (F13.out _ HY.out).1).2.2.2.2.1, (F2.out _ (F13.out _ HY.out).1).2.2.2.2.2.1, (F2.out _ (F13.out _ HY.out).1).2.2.2.2.2.2.1, (F2.out _ (F13.out _ HY.out).1).2.2.2.2.2.2.2.1, (F2.out _ (F13.out _ HY.out).1).2.2.2.2.2.2.2.2⟩ (fun hHeld => ?_)
        clear hK K
        refine norm_ (a' := ?_) ?_ ?_
        rotate_left
        · show Act.put _ (some 89) _ = _
          simp only [Act.put, List.setIfInBounds_toArray, List.set_cons_zero, List.set_cons_succ, i64_w, i32_w]
          rfl
        refine pure_ (i := 5) (N := some 84) (v := ?_) (a' := ?_) #[true, true, true, true, true, true, false, false, true, false, false] rfl rfl (by kernel_rfl) (fun _ _ _ h => h) (Or.inl ⟨by rfl, ?_⟩) ?_ ?_
        rotate_left
        · intro w'
          go_simp
          with_reducible rfl
        rotate_left
        · simp only [Act.put, List.setIfInBounds_toArray, List.set_cons_zero, List.set_cons_succ, i64_w, i32_w]
          rfl
        refine pure_ (i := 6) (N := some 90) (v := ?_) (a' := ?_) #[true, true, true, true, true, true, true, false, true, false, false] rfl rfl (by kernel_rfl) (fun _ _ _ h => h) (Or.inl ⟨by rfl, ?_⟩) ?_ ?_
        rotate_left
        · intro w'
          go_simp
          with_reducible rfl
        rotate_left
        · simp only [Act.put, List.setIfInBounds_toArray, List.set_cons_zero, List.set_cons_succ, i64_w, i32_w]
          rfl
        refine pure_ (i := 7) (N := some 91) (v := ?_) (a' := ?_) #[true, true, true, true, true, true, true, true, true, false, false] rfl rfl (by kernel_rfl) (fun _ _ _ h => h) (Or.inl ⟨by rfl, ?_⟩) ?_ ?_
        rotate_left
        · intro w'
          go_simp
          with_reducible rfl
        rotate_left
        · simp only [Act.put, List.setIfInBounds_toArray, List.set_cons_zero, List.set_cons_succ, i64_w, i32_w]
          rfl
        refine one_ (i := 9) (N := none) #[true, true, true, true, true, true, true, true, true, true, false] rfl rfl (by kernel_rfl) (by decide) (fun K hK => ?_)
        have hs_ : w15.cell? ⟨p14, 0, none⟩ = some (.slice none 0 0) := (blk_cell HBX.out 0).trans rfl
        have hf_ := blk_frozen HBX.out 0
        refine skip_ (w1 := ?_) (by rfl) rfl ?_ ?_
        rotate_left
        · go_simp
          rfl
        refine hK.out _ _ ⟨(F2.out _ (F13.out _ (show Below w13.heap.size w13 (w15.setCell ⟨p14, 0, none⟩ (.slice A15 R.length c15)) from Below.setCell (p := ⟨p14, 0, none⟩) HY.out HP.out.1 _)).1).2.1, (F2.out _ (F13.out _ (show Below w13.heap.size w13 (w15.setCell ⟨p14, 0, none⟩ (.slice A15 R.length c15)) from Below.setCell (p := ⟨p14, 0, none⟩) HY.out HP.out.1 _)).1).2.2.2.2.1, (F2.out _ (F13.out _ (show Below w13.heap.size w13 (w15.setCell ⟨p14, 0, none⟩ (.slice A15 R.length c15)) from Below.setCell (p := ⟨p14, 0, none⟩) HY.out HP.out.1 _)).1).2.2.2.2.2.1, (F2.out _ (F13.out _ (show Below w13.heap.size w13 (w15.setCell ⟨p14, 0, none⟩ (.slice A15 R.length c15)) from Below.setCell (p := ⟨p14, 0, none⟩) HY.out HP.out.1 _)).1).2.2.2.2.2.2.1, (F2.out _ (F13.out _ (show Below w13.heap.size w13 (w15.setCell ⟨p14, 0, none⟩ (.slice A15 R.length c15)) from Below.setCell (p := ⟨p14, 0, none⟩) HY.out HP.out.1 _)).1).2.2.2.2.2.2.2.1, (F2.out _ (F13.out _ (show Below w13.heap.size w13 (w15.setCell ⟨p14, 0, none⟩ (.slice A15 R.length c15)) from Below.setCell (p := ⟨p14, 0, none⟩) HY.out HP.out.1 _)).1).2.2.2.2.2.2.2.2⟩ (fun hHeld => ?_)
        clear hK K
        refine pure_ (i := 10) (N := some 15) (v := ?_) (a' := ?_) #[true, true, true, true, true, true, true, true, true, true, true] rfl rfl (by kernel_rfl) (fun _ _ _ h => h) (Or.inl ⟨by rfl, ?_⟩) ?_ ?_
        rotate_left
        · intro w'
          go_simp
          with_reducible rfl
        rotate_left
        · simp only [Act.put, List.setIfInBounds_toArray, List.set_cons_zero, List.set_cons_succ, i64_w, i32_w]
          rfl
        refine done_ (by kernel_rfl) ?_
        clear hHeld hs_ hf_
        have hq1 : Below w13.heap.size w13 (w15.setCell ⟨p14, 0, none⟩ (.slice A15 R.length c15)) := Below.setCell (p := ⟨p14, 0, none⟩) HY.out HP.out.1 _
        have hqb : (w15.setCell ⟨p14, 0, none⟩ (.slice A15 R.length c15)).heap[p14]? = some (T1 (.slice A15 R.length c15)) := blk_put HBX.out 0 _ rfl
        have hSG := Kd.S_far (p := ⟨p14, 0, none⟩) (Kd.S_mono (Kd.S_below HST.out D15.out) (fun k hk => (⟨hk.2.1, hk.2.2.1⟩ : wS.heap.size ≤ k ∧ k < w15.heap.size))) (fun k hk => by have h5 := HSP.out; have h6 : wS.heap.size ≤ k := hk.1; have h7 : k < w15.heap.size := hk.2; show k ≠ p14; omega) (.slice A15 R.length c15)
        have HC15 := Lib.hid (S_C hSG)
        have ch : (w15.setCell ⟨p14, 0, none⟩ (.slice A15 R.length c15)).cell? ⟨p14, 0, none⟩ = some (.slice A15 R.length c15) := (blk_cell hqb 0).trans rfl
        have F16 : Hid (∀ W', Below (w15.setCell ⟨p14, 0, none⟩ (.slice A15 R.length c15)).heap.size (w15.setCell ⟨p14, 0, none⟩ (.slice A15 R.length c15)) W' → Below q6.heap.size q6 W' ∧ W'.cell? ⟨p9, 0, none⟩ = some (.slice A5 R.length c5) ∧ sEnt W' q8.heap.size (fun k => g1 ≤ k ∧ k < g2) (.slice A5 R.length c5) (mkL mt 1 R)) := Lib.hid (fun W' h => F13.out W' (hq1.trans (h.mono hq1.size)))
        clear hq1 hqb hSG HBX HP HSP HST HY D15 D14 H14
        generalize (w15.setCell ⟨p14, 0, none⟩ (.slice A15 R.length c15)) = q14 at F16 HC15 ch ⊢
        generalize p14 = x1 at ch ⊢
        generalize A14 = x2
        generalize c14 = x3
        generalize A15 = x4 at HC15 ch ⊢
        generalize c15 = x5 at HC15 ch ⊢
        revert ch
        revert HC15
        revert F16
        revert q14
        revert x5
        revert x4
        revert x3
        revert x2
        revert x1
        exact TAIL
    · refine value_ (w1 := ?_) (v := ?_) (by rfl) rfl ?_ ?_
      rotate_left 2
      · go_simp
        constructor
        · rfl
        · rfl
      refine hK.out _ _ ⟨(F2.out _ (F13.out _ (show Below w13.heap.size w13 (wd.alloc (.cells #[.slice none 0 0] 38)) from HY.out.alloc HY.out.size _)).1).2.1, (F2.out _ (F13.out _ (show Below w13.heap.size w13 (wd.alloc (.cells #[.slice none 0 0] 38)) from HY.out.alloc HY.out.size _)).1).2.2.2.2.1, (F2.out _ (F13.out _ (show Below w13.heap.size w13 (wd.alloc (.cells #[.slice none 0 0] 38)) from HY.out.alloc HY.out.size _)).1).2.2.2.2.2.1, (F2.out _ (F13.out _ (show Below w13.heap.size w13 (wd.alloc (.cells #[.slice none 0 0] 38)) from HY.out.alloc HY.out.size _)).1).2.2.2.2.2.2.1, (F2.out _ (F13.out _ (show Below w13.heap.size w13 (wd.alloc (.cells #[.slice none 0 0] 38)) from HY.out.alloc HY.out.size _)).1).2.2.2.2.2.2.2.1, (F2.out _ (F13.out _ (show Below w13.heap.size w13 (wd.alloc (.cells #[.slice none 0 0] 38)) from HY.out.alloc HY.out.size _)).1).2.2.2.2.2.2.2.2⟩ (fun hHeld => ?_)
      clear hK K
      refine norm_ (a' := ?_) ?_ ?_
      rotate_left
      · show Act.put _ (some 14) _ = _
        simp only [Act.put, List.setIfInBounds_toArray, List.set_cons_zero, List.set_cons_succ, i64_w, i32_w]
        rfl
      have hB_ : Below wd.heap.size wd (wd.alloc (.cells #[.slice none 0 0] 38)) := (Below.refl _ _).alloc (Nat.le_refl _) _
      have hbx_ : (wd.alloc (.cells #[.slice none 0 0] 38)).heap[wd.heap.size]? = some (.cells #[.slice none 0 0] 38) := heap_alloc_new wd _
      obtain ⟨p14, hp_⟩ : ∃ q, q = wd.heap.size := ⟨_, rfl⟩
      rw [← hp_] at hbx_
      have hlt_ : p14 < (wd.alloc (.cells #[.slice none 0 0] 38)).heap.size := blk_lt hbx_
      have hge_ : w13.heap.size ≤ p14 := by rw [hp_]; exact HY.out.size
      clear hHeld
      generalize (wd.alloc (.cells #[.slice none 0 0] 38)) = wb at hB_ hbx_ hlt_ ⊢
      rw [← hp_]
      have HY := Lib.hid (HY.out.trans (hB_.mono HY.out.size))
      have HBX := Lib.hid hbx_
      have HP := Lib.hid (And.intro hge_ hlt_)
      clear hB_ hbx_ hlt_ hge_ hp_
      refine one_ (i := 1) (N := some 86) #[true, true, true, false, false, false, false, false, true, false, false] rfl rfl (by kernel_rfl) (by decide) (fun K hK => ?_)
      have HPO := Lib.hid HP.out.2
      refine goes_ Tryd.func29 (by kernel_rfl) rfl #[.agg #[.slice A0 n c0]] (by rfl) rfl rfl (by (try simp only [List.map_toArray, List.map_cons, List.map_nil]); first | done | rfl) ?_
      refine (HTO.out _ (F2.out _ (F13.out _ HY.out).1).1).mono ?_
      rintro e w14 ⟨v_, rfl, hS_, hB_⟩
      refine ⟨_, rfl, ?_⟩
      have HY := Lib.hid (HY.out.trans (hB_.mono HY.out.size))
      have HBX := Lib.hid (blk_below HBX.out hB_)
      have HP := Lib.hid (And.intro HP.out.1 (Nat.lt_of_lt_of_le HP.out.2 hB_.size))
      have D14 := Lib.hid (Below.refl w14.heap.size w14)
      obtain ⟨A14, c14, e_⟩ := Kd.S_slice hS_
      subst e_
      have H14 := Lib.hid (S_C hS_)
      clear hS_
      clear hB_ HPO
      refine hK.out _ _ ⟨(F2.out _ (F13.out _ HY.out).1).2.1, (F2.out _ (F13.out _ HY.out).1).2.2.2.2.1, (F2.out _ (F13.out _ HY.out).1).2.2.2.2.2.1, (F2.out _ (F13.out _ HY.out).1).2.2.2.2.2.2.1, (F2.out _ (F13.out _ HY.out).1).2.2.2.2.2.2.2.1, (F2.out _ (F13.out _ HY.out).1).2.2.2.2.2.2.2.2⟩ (fun hHeld => ?_)
      clear hK K
      refine norm_ (a' := ?_) ?_ ?_
      rotate_left
      · show Act.put _ (some 86) _ = _
        simp only [Act.put, List.setIfInBounds_toArray, List.set_cons_zero, List.set_cons_succ, i64_w, i32_w]
        rfl
      refine one_ (i := 3) (N := some 88) #[true, true, true, true, false, false, false, false, true, false, false] rfl rfl (by kernel_rfl) (by decide) (fun K hK => ?_)
      have HPO := Lib.hid HP.out.2
      refine goes_ Tryd.func34 (by kernel_rfl) rfl #[.agg #[.int .i64 s0, .int .i64 s1, .int .i64 s2, .string ky, .bool fb]] (by rfl) rfl rfl (by (try simp only [List.map_toArray, List.map_cons, List.map_nil]); first | done | rfl) ?_
      refine (HTC.out _).mono ?_
      rintro e wv3 ⟨rfl, hB_⟩
      refine ⟨_, rfl, ?_⟩
      have HY := Lib.hid (HY.out.trans (hB_.mono HY.out.size))
      have D14 := Lib.hid (D14.out.trans (hB_.mono D14.out.size))
      have HBX := Lib.hid (blk_below HBX.out hB_)
      have HP := Lib.hid (And.intro HP.out.1 (Nat.lt_of_lt_of_le HP.out.2 hB_.size))
      skip
      clear hB_ HPO
      refine hK.out _ _ ⟨(F2.out _ (F13.out _ HY.out).1).2.1, (F2.out _ (F13.out _ HY.out).1).2.2.2.2.1, (F2.out _ (F13.out _ HY.out).1).2.2.2.2.2.1, (F2.out _ (F13.out _ HY.out).1).2.2.2.2.2.2.1, (F2.out _ (F13.out _ HY.out).1).2.2.2.2.2.2.2.1, (F2.out _ (F13.out _ HY.out).1).2.2.2.2.2.2.2.2⟩ (fun hHeld => ?_)
      clear hK K
      refine norm_ (a' := ?_) ?_ ?_
      rotate_left
      · show Act.put _ (some 88) _ = _
        simp only [Act.put, List.setIfInBounds_toArray, List.set_cons_zero, List.set_cons_succ, i64_w, i32_w]
        rfl
      refine one_ (i := 4) (N := some 89) #[true, true, true, true, true, false, false, false, true, false, false] rfl rfl (by kernel_rfl) (by decide) (fun K hK => ?_)
      have HPO := Lib.hid HP.out.2
      refine goes_ Tryd.func35 (by kernel_rfl) rfl #[.agg #[.slice A14 E.length c14], .agg #[.int .i64 s0, .int .i64 s1, .int .i64 s2, .string ky, .bool fb]] (by rfl) rfl rfl (by (try simp only [List.map_toArray, List.map_cons, List.map_nil]); first | done | rfl) ?_
      refine (HIM.out A14 c14 _ (Kd.C_below H14.out.1 D14.out) H14.out.2).mono ?_
      rintro e w15 ⟨v15, rfl, hS_, hB_⟩
      refine ⟨_, rfl, ?_⟩
      have HY := Lib.hid (HY.out.trans (hB_.mono HY.out.size))
      have D14 := Lib.hid (D14.out.trans (hB_.mono D14.out.size))
      have HBX := Lib.hid (blk_below HBX.out hB_)
      have HP := Lib.hid (And.intro HP.out.1 (Nat.lt_of_lt_of_le HP.out.2 hB_.size))
      have D15 := Lib.hid (Below.refl w15.heap.size w15)
      obtain ⟨A15, c15, e_⟩ := Kd.S_slice hS_
      subst e_
      obtain ⟨wS, hwS⟩ : ∃ q, q = wv3 := ⟨_, rfl⟩
      have HST := Lib.hid (Kd.S_bound hS_)
      rw [← hwS] at HST
      have HSP : Hid (p14 < wS.heap.size ∨ w15.heap.size ≤ p14) := Lib.hid (Or.inl (by rw [hwS]; exact HPO.out))
      clear hS_ hwS
      clear hB_ HPO
      refine hK.out _ _ ⟨(F2.out _ (F13.out _ HY.out).1).2.1, (F2.out _ (F13.out _ HY.out).1).2.2.2.2.1, (F2.out _ (F13.out _ HY.out).1).2.2.2.2.2.1, (F2.out _ (F13.out _ HY.out).1).2.2.2.2.2.2.1, (F2.out _ (F13.out _ HY.out).1).2.2.2.2.2.2.2.1, (F2.out _ (F13.out _ HY.out).1).2.2.2.2.2.2.2.2⟩ (fun hHeld => ?_)
      clear hK K
      refine norm_ (a' := ?_) ?_ ?_
      rotate_left
      · show Act.put _ (some 89) _ = _
        simp only [Act.put, List.setIfInBounds_toArray, List.set_cons_zero, List.set_cons_succ, i64_w, i32_w]
        rfl
      refine pure_ (i := 5) (N := some 84) (v := ?_) (a' := ?_) #[true, true, true, true, true, true, false, false, true, false, false] rfl rfl (by kernel_rfl) (fun _ _ _ h => h) (Or.inl ⟨by rfl, ?_⟩) ?_ ?_
      rotate_left
      · intro w'
        go_simp
        with_reducible rfl
      rotate_left
      · simp only [Act.put, List.setIfInBounds_toArray, List.set_cons_zero, List.set_cons_succ, i64_w, i32_w]
        rfl
      refine pure_ (i := 6) (N := some 90) (v := ?_) (a' := ?_) #[true, true, true, true, true, true, true, false, true, false, false] rfl rfl (by kernel_rfl) (fun _ _ _ h => h) (Or.inl ⟨by rfl, ?_⟩) ?_ ?_
      rotate_left
      · intro w'
        go_simp
        with_reducible rfl
      rotate_left
      · simp only [Act.put, List.setIfInBounds_toArray, List.set_cons_zero, List.set_cons_succ, i64_w, i32_w]
        rfl
      refine pure_ (i := 7) (N := some 91) (v := ?_) (a' := ?_) #[true, true, true, true, true, true, true, true, true, false, false] rfl rfl (by kernel_rfl) (fun _ _ _ h => h) (Or.inl ⟨by rfl, ?_⟩) ?_ ?_
      rotate_left
      · intro w'
        go_simp
        with_reducible rfl
      rotate_left
      · simp only [Act.put, List.setIfInBounds_toArray, List.set_cons_zero, List.set_cons_succ, i64_w, i32_w]
        rfl
      refine one_ (i := 9) (N := none) #[true, true, true, true, true, true, true, true, true, true, false] rfl rfl (by kernel_rfl) (by decide) (fun K hK => ?_)
      have hs_ : w15.cell? ⟨p14, 0, none⟩ = some (.slice none 0 0) := (blk_cell HBX.out 0).trans rfl
      have hf_ := blk_frozen HBX.out 0
      refine skip_ (w1 := ?_) (by rfl) rfl ?_ ?_
      rotate_left
      · go_simp
        rfl
      refine hK.out _ _ ⟨(F2.out _ (F13.out _ (show Below w13.heap.size w13 (w15.setCell ⟨p14, 0, none⟩ (.slice A15 R.length c15)) from Below.setCell (p := ⟨p14, 0, none⟩) HY.out HP.out.1 _)).1).2.1, (F2.out _ (F13.out _ (show Below w13.heap.size w13 (w15.setCell ⟨p14, 0, none⟩ (.slice A15 R.length c15)) from Below.setCell (p := ⟨p14, 0, none⟩) HY.out HP.out.1 _)).1).2.2.2.2.1, (F2.out _ (F13.out _ (show Below w13.heap.size w13 (w15.setCell ⟨p14, 0, none⟩ (.slice A15 R.length c15)) from Below.setCell (p := ⟨p14, 0, none⟩) HY.out HP.out.1 _)).1).2.2.2.2.2.1, (F2.out _ (F13.out _ (show Below w13.heap.size w13 (w15.setCell ⟨p14, 0, none⟩ (.slice A15 R.length c15)) from Below.setCell (p := ⟨p14, 0, none⟩) HY.out HP.out.1 _)).1).2.2.2.2.2.2.1, (F2.out _ (F13.out _ (show Below w13.heap.size w13 (w15.setCell ⟨p14, 0, none⟩ (.slice A15 R.length c15)) from Below.setCell (p := ⟨p14, 0, none⟩) HY.out HP.out.1 _)).1).2.2.2.2.2.2.2.1, (F2.out _ (F13.out _ (show Below w13.heap.size w13 (w15.setCell ⟨p14, 0, none⟩ (.slice A15 R.length c15)) from Below.setCell (p := ⟨p14, 0, none⟩) HY.out HP.out.1 _)).1).2.2.2.2.2.2.2.2⟩ (fun hHeld => ?_)
      clear hK K
      refine pure_ (i := 10) (N := some 15) (v := ?_) (a' := ?_) #[true, true, true, true, true, true, true, true, true, true, true] rfl rfl (by kernel_rfl) (fun _ _ _ h => h) (Or.inl ⟨by rfl, ?_⟩) ?_ ?_
      rotate_left
      · intro w'
        go_simp
        with_reducible rfl
      rotate_left
      · simp only [Act.put, List.setIfInBounds_toArray, List.set_cons_zero, List.set_cons_succ, i64_w, i32_w]
        rfl
      refine done_ (by kernel_rfl) ?_
      clear hHeld hs_ hf_
      have hq1 : Below w13.heap.size w13 (w15.setCell ⟨p14, 0, none⟩ (.slice A15 R.length c15)) := Below.setCell (p := ⟨p14, 0, none⟩) HY.out HP.out.1 _
      have hqb : (w15.setCell ⟨p14, 0, none⟩ (.slice A15 R.length c15)).heap[p14]? = some (T1 (.slice A15 R.length c15)) := blk_put HBX.out 0 _ rfl
      have hSG := Kd.S_far (p := ⟨p14, 0, none⟩) (Kd.S_mono (Kd.S_below HST.out D15.out) (fun k hk => (⟨hk.2.1, hk.2.2.1⟩ : wS.heap.size ≤ k ∧ k < w15.heap.size))) (fun k hk => by have h5 := HSP.out; have h6 : wS.heap.size ≤ k := hk.1; have h7 : k < w15.heap.size := hk.2; show k ≠ p14; omega) (.slice A15 R.length c15)
      have HC15 := Lib.hid (S_C hSG)
      have ch : (w15.setCell ⟨p14, 0, none⟩ (.slice A15 R.length c15)).cell? ⟨p14, 0, none⟩ = some (.slice A15 R.length c15) := (blk_cell hqb 0).trans rfl
      have F16 : Hid (∀ W', Below (w15.setCell ⟨p14, 0, none⟩ (.slice A15 R.length c15)).heap.size (w15.setCell ⟨p14, 0, none⟩ (.slice A15 R.length c15)) W' → Below q6.heap.size q6 W' ∧ W'.cell? ⟨p9, 0, none⟩ = some (.slice A5 R.length c5) ∧ sEnt W' q8.heap.size (fun k => g1 ≤ k ∧ k < g2) (.slice A5 R.length c5) (mkL mt 1 R)) := Lib.hid (fun W' h => F13.out W' (hq1.trans (h.mono hq1.size)))
      clear hq1 hqb hSG HBX HP HSP HST HY D15 D14 H14
      generalize (w15.setCell ⟨p14, 0, none⟩ (.slice A15 R.length c15)) = q14 at F16 HC15 ch ⊢
      generalize p14 = x1 at ch ⊢
      generalize A14 = x2
      generalize c14 = x3
      generalize A15 = x4 at HC15 ch ⊢
      generalize c15 = x5 at HC15 ch ⊢
      revert ch
      revert HC15
      revert F16
      revert q14
      revert x5
      revert x4
      revert x3
      revert x2
      revert x1
      exact TAIL
  intro p14 A14 c14 A15 c15 q14 F16 HC15 ch
  clear F13
  have cw5 := (F2.out _ (F16.out _ (Below.refl _ _)).1).2.2.1
  go_wp2_with (first
    | (go_at_call 31; refine (HER.out A15 A3 c15 c3 q14 HC15.out.1 HC15.out.2 (F2.out _ (F16.out _ (Below.refl _ _)).1).2.2.2.1 HC3.out).mono ?_; rintro e w16 ⟨rfl, hB16⟩; have F17 := Lib.hid (fun W' (h : Below w16.heap.size w16 W') => F16.out W' (hB16.trans (h.mono hB16.size))); have cg5 := (F17.out _ (Below.refl _ _)).2.1; clear hB16 cw5 ch)
    | (go_at_call 37; refine (HHG.out A5 c5 w16 (S_C (F17.out _ (Below.refl _ _)).2.2).1).mono ?_; rintro e w17 ⟨rfl, hB17⟩; have F18 := Lib.hid (fun W' (h : Below w17.heap.size w17 W') => F17.out W' (hB17.trans (h.mono hB17.size))); clear hB17 cg5))
  go_ret
  exact ⟨by first | rfl | (simp; done), (F2.out _ (F18.out _ (Below.refl _ _)).1).1⟩
end Go.Proofs.YtnghcnkffbjddaaDoorV.Aes
