/- Marks read again: heldAllocS, heldEntryS over marked rows; markTable, heldTable. Conditions: those that each theorem names. -/
import Derived.Test.YtnghcnkffbjddaaDoorVTabM
import Derived.Test.YtnghcnkffbjddaaDoorVTab10
import Derived.Lib.QuietBelow
import Derived.BigRegion
import Derived.BigQuiet
import Derived.Deep.QuietTactic
import Derived.Deep.LoopGhost
namespace Go.Proofs.YtnghcnkffbjddaaDoorV.Aes
open Go.RowKit Go.Proofs.YtnghcnkffbjddaaDoorV.PrintWords Go.Proofs.YtnghcnkffbjddaaDoorV.PrintLast Go.Proofs.YtnghcnkffbjddaaDoorV.PrintMore Go.Proofs.YtnghcnkffbjddaaDoorV.Mem
set_option linter.unusedVariables false
set_option linter.unusedSimpArgs false

open Go.Maps Go.WideShapes Go.Proofs.YtnghcnkffbjddaaDoor.PImplM
def prL (l : List S71) : List (ByteArray × ByteArray) := l.map (fun y => (y.f0, y.f1))
theorem prL_at (mt : Int → ByteArray) (k : Int) (n : Nat) (xi : Int) (h0 : 0 ≤ xi) (h1 : xi < n) : (prL (mkP mt k n)).getD xi.toNat zP = (mt (k + 2 * xi), mt (k + 2 * xi + 1)) := by
  have h : xi.toNat < n := by omega
  unfold prL
  rw [List.getD_eq_getElem?_getD, List.getElem?_map, List.getElem?_eq_getElem (by rw [mkP_len]; exact h), mkP_at, show ((xi.toNat : Nat) : Int) = xi by omega]; rfl
set_option maxHeartbeats 8000000 in
set_option maxRecDepth 100000 in
theorem heldA_walk (mt : Int → ByteArray) (hmt : MarkT mt) (A : Option Addr) (c n : Nat) (k : Int) (w : World) (hr : ReadsRow prK 2 w A n (prL (mkP mt k n))) (hn : n ≤ 1048576) (hk : 1 ≤ k) (hk2 : k ≤ 900000000000000) :
    Calls Tryd.prog 104 #[.slice A n c, .int .i64 k] w fun e w' => e = .returned (.int .i64 (k + 2 * (n : Int))) ∧ Below w.heap.size w w' := by
  have mixed : Tryd.prog.follows .mixedOrders = true := by kernel_rfl
  have HR := Lib.hid hr
  have HN := Lib.hid (And.intro hn (And.intro hk hk2))
  have HMT := Lib.hid hmt
  clear hr hn hk hk2 hmt
  go_enter Tryd.func104, Tryd.ntmps104
  go_wp2
  go_loopg [1, 5] n (fun g1 v1 v5 wr => ∃ (xi ki : Int), v1 = .int .i64 ki ∧ v5 = .int .i64 xi ∧ Aside0 (0 ≤ xi ∧ xi ≤ n ∧ n - xi.toNat ≤ g1 ∧ ki = k + 2 * xi) ∧ Aside0 (Below w.heap.size w wr))
  case atStart => exact ⟨0, k, rfl, rfl, ⟨by omega, by omega, by simp, by omega⟩, ⟨Below.refl _ _⟩⟩
  case round =>
    obtain ⟨xi, ki, rfl, rfl, X, B1⟩ := hrel
    have p1 : 0 ≤ xi := X.out.1
    by_cases hlt : xi < (n : Int)
    · have hn := HN.out
      have hki := X.out.2.2.2
      have ra : IntKind.i64.wrap (xi + 1) = xi + 1 := by rw [IntKind.wrap_i64]; omega
      obtain ⟨kj, hkj⟩ : ∃ q : Int, q = ki + 1 := ⟨_, rfl⟩
      obtain ⟨kl, hkl⟩ : ∃ q : Int, q = kj + 1 := ⟨_, rfl⟩
      have rb : IntKind.i64.wrap (ki + 1) = kj := by rw [IntKind.wrap_i64]; omega
      have rc : IntKind.i64.wrap (kj + 1) = kl := by rw [IntKind.wrap_i64]; omega
      obtain ⟨t0, ht0⟩ : ∃ t, t = mt ki := ⟨_, rfl⟩
      obtain ⟨t1, ht1⟩ : ∃ t, t = mt kj := ⟨_, rfl⟩
      have m0 := fun W => laws_markText.calls 40 ki t0 W (by rw [ht0]; exact HMT.out _ (by omega) (by omega))
      have m1 := fun W => laws_markText.calls 40 kj t1 W (by rw [ht1]; exact HMT.out _ (by omega) (by omega))
      obtain ⟨ad, rfl, hx0, hx1⟩ := pr_at (pr_below HR.out B1.out) xi p1 hlt
      rw [prL_at mt k n xi p1 hlt, show k + 2 * xi = ki by omega, ← hkj] at hx0 hx1
      replace hx0 := hx0.trans (show some (Value.string (mt ki, mt kj).1) = some (.string t0) by rw [ht0])
      replace hx1 := hx1.trans (show some (Value.string (mt ki, mt kj).2) = some (.string t1) by rw [ht1])
      have HT := Lib.hid (And.intro hkj hkl)
      clear ht0 ht1 hkj hkl hki hn
      go_wp2_with fail
      have la0 := fun d os => cell_regrown hx0 d os
      have hgd := fun d os => Calls.regrown_of (m0 (Go.Sort.grow (redrawn wr d) os))
      refine wp_region_quiet_below (by assumption) (by kernel_rfl) ?_
      repeat (refine (wpQuiet_step (fun K hK => ?_) : _); go_simp; first | (refine hK _ ?_; clear hK K) | (apply Exists.intro; refine ⟨fun _ => ?_, hK _ ?_⟩; (go_at_call 55; with_reducible exact hgd _ _); clear hK K))
      refine wpQuiet_nil ?_
      intro _ hw'
      obtain ⟨⟨dq, osq⟩, hw''⟩ := hw'
      subst hw''
      have hbq := below_regrown wr dq osq
      have hx1' := pw_cell_below hbq hx1
      have B2 := B1.out.trans (hbq.mono B1.out.size)
      clear la0 hgd hbq hx0 B1 hx1
      generalize Go.Sort.grow (redrawn wr dq) osq = w2 at hx1' B2 ⊢
      go_wp2_with fail
      have la0 := fun d os => cell_regrown hx1' d os
      have hgd := fun d os => Calls.regrown_of (m1 (Go.Sort.grow (redrawn w2 d) os))
      refine wp_region_quiet_below (by assumption) (by kernel_rfl) ?_
      repeat (refine (wpQuiet_step (fun K hK => ?_) : _); go_simp; first | (refine hK _ ?_; clear hK K) | (apply Exists.intro; refine ⟨fun _ => ?_, hK _ ?_⟩; (go_at_call 55; with_reducible exact hgd _ _); clear hK K))
      refine wpQuiet_nil ?_
      intro _ hw'
      obtain ⟨⟨dq, osq⟩, hw''⟩ := hw'
      subst hw''
      have hbq := below_regrown w2 dq osq
      have B3 := B2.trans (hbq.mono B2.size)
      clear la0 hgd hbq hx1' B2
      generalize Go.Sort.grow (redrawn w2 dq) osq = w3 at B3 ⊢
      go_wp2
      go_roundg (n - (xi + 1).toNat)
      case measure => have := X.out.2.2; omega
      case rel => exact ⟨xi + 1, kl, rfl, by first | rfl | rw [ra], ⟨by omega, by omega, Nat.le_refl _, by have := HT.out; have := X.out; omega⟩, ⟨B3⟩⟩
    · have hx : xi = (n : Int) := by have := X.out.2.1; omega
      have HK := Lib.hid X.out.2.2.2
      go_wp2
      go_ret
      exact ⟨by rw [HK.out, hx]; rfl, B1.out⟩
def evL (l : List S68) : List Ent := l.map evM
theorem evL_at (l : List S68) (xi : Int) (h0 : 0 ≤ xi) (h1 : xi.toNat < l.length) : (evL l).getD xi.toNat zE = evM (l[xi.toNat]'h1) := by
  unfold evL
  rw [List.getD_eq_getElem?_getD, List.getElem?_map, List.getElem?_eq_getElem h1]; rfl
theorem mkL_at (mt : Int → ByteArray) : ∀ (l : List S68) (k : Int) (i : Nat) (h : i < l.length) (h' : i < (mkL mt k l).length), (mkL mt k l)[i] = mkE mt (nxL k (l.take i)) (l[i])
  | x :: l, k, 0, _, _ => rfl
  | x :: l, k, i + 1, h, h' => mkL_at mt l (nxE k x) i (by simpa using h) (by rw [mkL_len]; simpa using h)
set_option maxHeartbeats 16000000 in
set_option maxRecDepth 100000 in
theorem heldE_walk (mt : Int → ByteArray) (hmt : MarkT mt) (A : Option Addr) (c : Nat) (l : List S68) (k : Int) (w : World) (hr : ReadsRow (entK w) 7 w A l.length (evL (mkL mt k l))) (hl : l.length ≤ 1048576) (hw : ∀ x ∈ l, x.f1.length ≤ 1048576) (hk : 1 ≤ k) (hk2 : k ≤ 1000) :
    Calls Tryd.prog 73 #[.slice A l.length c, .int .i64 k] w fun e w' => e = .returned (.int .i64 (nxL k l)) ∧ Below w.heap.size w w' := by
  have hnx : ∀ i : Nat, i ≤ l.length → k ≤ nxL k (l.take i) ∧ nxL k (l.take i) ≤ 5000000000000 := fun i hi => by
    have h := nxL_le k (l.take i) 1048576 (fun x hx => by have := hw x (List.mem_of_mem_take hx); omega) (by decide)
    rw [List.length_take, Nat.min_eq_left hi] at h
    omega
  have mixed : Tryd.prog.follows .mixedOrders = true := by kernel_rfl
  have HR := Lib.hid hr
  have HN := Lib.hid (And.intro hl (And.intro hk hw))
  have HNX := Lib.hid hnx
  have HMT := Lib.hid hmt
  clear hr hl hk hk2 hmt hw hnx
  go_enter Tryd.func73, Tryd.ntmps73
  go_wp2
  go_loopg [1, 5] l.length (fun g1 v1 v5 wr => ∃ (xi ki : Int), v1 = .int .i64 ki ∧ v5 = .int .i64 xi ∧ Aside0 (0 ≤ xi ∧ xi ≤ l.length ∧ l.length - xi.toNat ≤ g1 ∧ ki = nxL k (l.take xi.toNat)) ∧ Aside0 (Below w.heap.size w wr))
  case atStart => exact ⟨0, k, rfl, rfl, ⟨by omega, by omega, by simp, by simp [nxL]⟩, ⟨Below.refl _ _⟩⟩
  case round =>
    obtain ⟨xi, ki, rfl, rfl, X, B1⟩ := hrel
    have p1 : 0 ≤ xi := X.out.1
    by_cases hlt : xi < (l.length : Int)
    · have hn := HN.out.1
      have hki := HNX.out xi.toNat (by omega)
      rw [← X.out.2.2.2] at hki
      have hk1 := HN.out.2.1
      have ra : IntKind.i64.wrap (xi + 1) = xi + 1 := by rw [IntKind.wrap_i64]; omega
      have hil : xi.toNat < l.length := by omega
      obtain ⟨y, hy⟩ : ∃ y, y = l[xi.toNat]'hil := ⟨_, rfl⟩
      have hyn : y.f1.length ≤ 1048576 := by rw [hy]; exact HN.out.2.2 _ (List.getElem_mem hil)
      obtain ⟨k0, hk0⟩ : ∃ q : Int, q = ki := ⟨_, rfl⟩
      rw [← hk0]
      obtain ⟨k1, hkd1⟩ : ∃ q : Int, q = k0 + 1 := ⟨_, rfl⟩
      have rk1 : IntKind.i64.wrap (k0 + 1) = k1 := by rw [IntKind.wrap_i64]; omega
      obtain ⟨k2, hkd2⟩ : ∃ q : Int, q = k1 + 1 := ⟨_, rfl⟩
      have rk2 : IntKind.i64.wrap (k1 + 1) = k2 := by rw [IntKind.wrap_i64]; omega
      obtain ⟨k3', hkd3⟩ : ∃ q : Int, q = k2 + 1 := ⟨_, rfl⟩
      have rk3 : IntKind.i64.wrap (k2 + 1) = k3' := by rw [IntKind.wrap_i64]; omega
      obtain ⟨k4, hkd4⟩ : ∃ q : Int, q = k3' + 1 := ⟨_, rfl⟩
      have rk4 : IntKind.i64.wrap (k3' + 1) = k4 := by rw [IntKind.wrap_i64]; omega
      obtain ⟨k5, hkd5⟩ : ∃ q : Int, q = k4 + 1 := ⟨_, rfl⟩
      have rk5 : IntKind.i64.wrap (k4 + 1) = k5 := by rw [IntKind.wrap_i64]; omega
      obtain ⟨k6, hkd6⟩ : ∃ q : Int, q = k5 + 2 * (y.f1.length : Int) := ⟨_, rfl⟩
      obtain ⟨k7, hkd7⟩ : ∃ q : Int, q = k6 + 1 := ⟨_, rfl⟩
      have rk7 : IntKind.i64.wrap (k6 + 1) = k7 := by rw [IntKind.wrap_i64]; omega
      obtain ⟨t3, ht3⟩ : ∃ t, t = mt k3' := ⟨_, rfl⟩
      obtain ⟨b4, hb4⟩ : ∃ t, t = k3 k4 := ⟨_, rfl⟩
      have m0 := fun W => laws_markText.calls 40 k3' t3 W (by rw [ht3]; exact HMT.out _ (by omega) (by omega))
      have hb4' : (Int.tmod k4 3 == 0) = b4 := by rw [hb4]; rfl
      have emk : mkE mt ki y = ⟨⟨k0, k1, k2, t3, b4⟩, mkP mt k5 y.f1.length, k6⟩ := by
        unfold mkE
        rw [show ki + 5 = k5 by omega, show ki + 4 = k4 by omega, show ki + 3 = k3' by omega, show ki + 2 = k2 by omega, show ki + 1 = k1 by omega, ← ht3, ← hb4, ← hk0, hkd6]
      obtain ⟨ad, A5, c5, rfl, hx0, hx1, hx2, hx3, hx4, hx5, hx6, h7⟩ := ent_at (ent_below HR.out B1.out) xi p1 hlt
      have eE : (evL (mkL mt k l)).getD xi.toNat zE = ⟨k0, k1, k2, t3, b4, prL (mkP mt k5 y.f1.length), k6⟩ := by
        rw [evL_at _ xi p1 (by rw [mkL_len]; exact hil), mkL_at mt l k xi.toNat hil, ← hy, ← X.out.2.2.2, emk]; rfl
      have epl : (prL (mkP mt k5 y.f1.length)).length = y.f1.length := by unfold prL; rw [List.length_map, mkP_len]
      rw [eE] at hx0 hx1 hx2 hx3 hx4 hx5 hx6 h7
      replace h7 : ReadsRow prK 2 wr A5 (prL (mkP mt k5 y.f1.length)).length (prL (mkP mt k5 y.f1.length)) := h7
      replace hx5 : wr.cell? ⟨(ad.add (xi.toNat * 7)).block, (ad.add (xi.toNat * 7)).off + 5, none⟩ = some (.slice A5 (prL (mkP mt k5 y.f1.length)).length c5) := hx5
      rw [epl] at hx5 h7
      replace hx0 : wr.cell? (ad.add (xi.toNat * 7)) = some (.int .i64 k0) := hx0
      replace hx1 : wr.cell? ⟨(ad.add (xi.toNat * 7)).block, (ad.add (xi.toNat * 7)).off + 1, none⟩ = some (.int .i64 k1) := hx1
      replace hx2 : wr.cell? ⟨(ad.add (xi.toNat * 7)).block, (ad.add (xi.toNat * 7)).off + 2, none⟩ = some (.int .i64 k2) := hx2
      replace hx3 : wr.cell? ⟨(ad.add (xi.toNat * 7)).block, (ad.add (xi.toNat * 7)).off + 3, none⟩ = some (.string t3) := hx3
      replace hx4 : wr.cell? ⟨(ad.add (xi.toNat * 7)).block, (ad.add (xi.toNat * 7)).off + 4, none⟩ = some (.bool b4) := hx4
      replace hx6 : wr.cell? ⟨(ad.add (xi.toNat * 7)).block, (ad.add (xi.toNat * 7)).off + 6, none⟩ = some (.int .i64 k6) := hx6
      have ma := fun (W : World) (hBW : Below wr.heap.size wr W) => heldA_walk mt HMT.out A5 c5 y.f1.length k5 W (pr_below h7 hBW) hyn (by omega) (by omega)
      have enx : k7 = nxL k (l.take (xi.toNat + 1)) := by rw [nx_take k l _ hil, ← hy, ← X.out.2.2.2]; unfold nxE; omega
      have h60 : decide (k6 < 0) = false := decide_eq_false (by omega)
      have HMA := Lib.hid ma
      have HKK := Lib.hid (And.intro enx hkd6)
      clear ht3 hb4 hn hki hk1 hy hyn ma hk0 hkd1 hkd2 hkd3 hkd4 hkd5 hkd6 hkd7 emk eE epl h7 enx
      go_wp2_with fail
      have la0 := fun d os => cell_regrown hx3 d os
      have hgd := fun d os => Calls.regrown_of (m0 (Go.Sort.grow (redrawn wr d) os))
      refine wp_region_quiet_below (by assumption) (by kernel_rfl) ?_
      repeat (refine (wpQuiet_step (fun K hK => ?_) : _); go_simp; first | (refine hK _ ?_; clear hK K) | (apply Exists.intro; refine ⟨fun _ => ?_, hK _ ?_⟩; (go_at_call 55; with_reducible exact hgd _ _); clear hK K))
      refine wpQuiet_nil ?_
      intro _ hw'
      obtain ⟨⟨dq, osq⟩, hw''⟩ := hw'
      subst hw''
      have hbq := below_regrown wr dq osq
      have hx4' := pw_cell_below hbq hx4
      have hx5' := pw_cell_below hbq hx5
      have hx6' := pw_cell_below hbq hx6
      have Bq' := hbq
      have B2 := B1.out.trans (hbq.mono B1.out.size)
      clear la0 hgd hbq hx0 hx1 hx2 hx3 hx4 hx5 hx6
      generalize Go.Sort.grow (redrawn wr dq) osq = w2 at hx4' hx5' hx6' Bq' B2 ⊢
      have B2r := Bq'
      go_wp2_with (first
        | (go_at_call 104; refine (HMA.out _ B2r).mono ?_; rintro e w4 ⟨rfl, hB4⟩; rw [← HKK.out.2]; have hx6'' := pw_cell_below hB4 hx6'; have B4 := B2.trans (hB4.mono B2.size); clear hx6' hB4))
      go_roundg (l.length - (xi + 1).toNat)
      case measure => have := X.out.2.2; omega
      case rel => exact ⟨xi + 1, k7, rfl, by first | rfl | rw [ra], ⟨by omega, by omega, Nat.le_refl _, by rw [show (xi + 1).toNat = xi.toNat + 1 by omega]; exact HKK.out.1⟩, ⟨B4⟩⟩
    · have hx : xi = (l.length : Int) := by have := X.out.2.1; omega
      have HK : Hid (ki = nxL k l) := Lib.hid (by rw [X.out.2.2.2, show xi.toNat = l.length by omega, List.take_length])
      go_wp2
      go_ret
      exact ⟨by rw [HK.out]; rfl, B1.out⟩
set_option maxHeartbeats 2000000 in
set_option maxRecDepth 100000 in
theorem markT_walk (mt : Int → ByteArray) (hmt : MarkT mt) (v : Value) (l : List S68) (base : Nat) (ok : Nat → Prop) (w : World) (hS : Kd.S k68 68 w base ok v l) (hb : base ≤ w.heap.size) (hl : l.length ≤ 1048576) (hw : ∀ x ∈ l, x.f1.length ≤ 1048576) :
    Calls Tryd.prog 36 #[.agg #[v], .int .i64 1] w fun e w' => e = .returned (.int .i64 (nxL 1 l)) ∧ Kd.S k68 68 w' base ok v (mkL mt 1 l) ∧ Below base w w' ∧ Kept w w' ok := by
  obtain ⟨A, c, rfl⟩ := Kd.S_slice hS
  have hbx := heap_alloc_new w (T1 (.slice A l.length c))
  have hc0 := (blk_cell hbx 0).trans rfl
  have hB0 : Below w.heap.size w (w.alloc (T1 (.slice A l.length c))) := (Below.refl _ _).alloc (Nat.le_refl _) _
  have hm := markE_walk mt hmt (.slice A l.length c) l 1 base ok (w.alloc (T1 (.slice A l.length c))) (Kd.S_alloc hS _) (Nat.le_trans hb hB0.size) hl hw (by decide) (by decide)
  have HB0 := Lib.hid (And.intro hB0 hb)
  unfold T1 at hc0 hm HB0
  obtain ⟨r, hr⟩ : ∃ r, r = nxL 1 l := ⟨_, rfl⟩
  rw [← hr] at hm ⊢
  clear hr hbx hB0 hb hS hl hw
  go_enter Tryd.func36, Tryd.ntmps36
  go_wp2_with (first | (go_at_call 72; refine hm.mono ?_; rintro e w2 ⟨rfl, hS2, hB2, hK2⟩; have H2 := Lib.hid (And.intro hS2 (And.intro hB2 hK2)); clear hS2 hB2 hK2))
  go_ret
  exact ⟨by first | rfl | (simp; done), H2.out.1, (HB0.out.1.mono HB0.out.2).trans H2.out.2.1, (Kept.of_below HB0.out.1 ok).then_ H2.out.2.2 (fun _ h => .inl h)⟩
set_option maxHeartbeats 2000000 in
set_option maxRecDepth 100000 in
theorem heldT_walk (mt : Int → ByteArray) (hmt : MarkT mt) (A : Option Addr) (c : Nat) (l : List S68) (w : World) (hr : Kd.C k68 w A l.length (mkL mt 1 l)) (hl : l.length ≤ 1048576) (hw : ∀ x ∈ l, x.f1.length ≤ 1048576) :
    Calls Tryd.prog 37 #[.agg #[.slice A l.length c], .int .i64 1] w fun e w' => e = .returned (.int .i64 (nxL 1 l)) ∧ Below w.heap.size w w' := by
  have hbx := heap_alloc_new w (T1 (.slice A l.length c))
  have hc0 := (blk_cell hbx 0).trans rfl
  have hB0 : Below w.heap.size w (w.alloc (T1 (.slice A l.length c))) := (Below.refl _ _).alloc (Nat.le_refl _) _
  have hm := heldE_walk mt hmt A c l 1 (w.alloc (T1 (.slice A l.length c))) (c_ent (Kd.C_below hr hB0)) hl hw (by decide) (by decide)
  have HB0 := Lib.hid hB0
  unfold T1 at hc0 hm HB0
  have h1 : 1 ≤ nxL 1 l := (nxL_le 1 l 1048576 (fun x hx => by have := hw x hx; omega) (by decide)).1
  obtain ⟨r, hr⟩ : ∃ r, r = nxL 1 l := ⟨_, rfl⟩
  rw [← hr] at hm h1 ⊢
  have h0 : decide (r < 0) = false := decide_eq_false (by omega)
  clear hr hbx hB0 hl hw h1
  go_enter Tryd.func37, Tryd.ntmps37
  go_wp2_with (first | (go_at_call 73; refine hm.mono ?_; rintro e w2 ⟨rfl, hB2⟩; have H2 := Lib.hid hB2; clear hB2))
  go_ret
  exact ⟨by first | rfl | (simp; done), HB0.out.trans (H2.out.mono HB0.out.size)⟩
end Go.Proofs.YtnghcnkffbjddaaDoorV.Aes
