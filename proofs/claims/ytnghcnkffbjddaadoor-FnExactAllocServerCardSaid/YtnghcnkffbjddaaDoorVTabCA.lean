/- slices.ContainsFunc at servers: one of the id or of the backend. Conditions: at most 1048576 servers. -/
import Derived.Test.YtnghcnkffbjddaaDoorVTab7
import Derived.Laws.Cover1
namespace Go.Proofs.YtnghcnkffbjddaaDoorV.Aes
open Go.RowKit Go.Proofs.YtnghcnkffbjddaaDoorV.PrintWords Go.Proofs.YtnghcnkffbjddaaDoorV.PrintLast Go.Proofs.YtnghcnkffbjddaaDoorV.PrintMore Go.Proofs.YtnghcnkffbjddaaDoorV.Mem
set_option linter.unusedVariables false
set_option linter.unusedSimpArgs false

open Go.Maps Go.WideShapes
def hitA (id bk : ByteArray) (p : ByteArray × ByteArray) : Bool := (p.1.toList == id.toList) || (p.2.toList == bk.toList)
set_option maxHeartbeats 2000000 in
set_option maxRecDepth 100000 in
theorem hit_walk (sid sbk : Addr) (id bk : ByteArray) (p : ByteArray × ByteArray) (w : World) (h1 : w.cell? sid = some (.string id)) (h2 : w.cell? sbk = some (.string bk)) :
    Calls Tryd.prog 78 #[.agg #[.string p.1, .string p.2], .pointer (some sid), .pointer (some sbk)] w fun e w' => e = .returned (.bool (hitA id bk p)) ∧ Below w.heap.size w w' := by
  have hbx : (w.alloc (SrvCells p)).heap[w.heap.size]? = some (SrvCells p) := heap_alloc_new w _
  have l0 := (blk_cell hbx 0).trans rfl
  have l1 := (blk_cell hbx 1).trans rfl
  have hB : Below w.heap.size w (w.alloc (SrvCells p)) := (Below.refl _ _).alloc (Nat.le_refl _) _
  have q1 := pw_cell_below hB h1
  have q2 := pw_cell_below hB h2
  have HB := Aside0.mk hB
  clear hbx hB h1 h2
  unfold SrvCells at l0 l1 q1 q2 HB
  unfold hitA
  cases e1 : (p.1.toList == id.toList) with
  | true =>
    go_enter Tryd.func78, Tryd.ntmps78
    go_wp2
    go_ret
    exact ⟨by first | rfl | (simp; done), HB.out⟩
  | false =>
    cases e2 : (p.2.toList == bk.toList) with
    | true =>
      go_enter Tryd.func78, Tryd.ntmps78
      go_wp2
      go_ret
      exact ⟨by first | rfl | (simp; done), HB.out⟩
    | false =>
      go_enter Tryd.func78, Tryd.ntmps78
      go_wp2
      go_ret
      exact ⟨by first | rfl | (simp; done), HB.out⟩
def IdxIs (b : Bool) (i : Int) : Prop := (b = true → 0 ≤ i) ∧ (b = false → i = -1)
set_option maxHeartbeats 4000000 in
set_option maxRecDepth 100000 in
theorem idxA_walk (sid sbk : Addr) (id bk : ByteArray) (A : Option Addr) (c : Nat) (L : List (ByteArray × ByteArray)) (w : World) (hr : ReadsRow prK 2 w A L.length L) (hn : L.length ≤ 1048576) (h1 : w.cell? sid = some (.string id)) (h2 : w.cell? sbk = some (.string bk)) :
    Calls Tryd.prog 105 #[.slice A L.length c, .func (.func 78) #[] #[.pointer (some sid), .pointer (some sbk)]] w fun e w' => (∃ i : Int, e = .returned (.int .i64 i) ∧ IdxIs (L.any (hitA id bk)) i) ∧ Below w.heap.size w w' := by
  have HR := Aside0.mk hr
  have HN := Aside0.mk hn
  have HS := Aside0.mk (And.intro h1 h2)
  clear hr hn h1 h2
  go_enter Tryd.func105, Tryd.ntmps105
  go_wp2
  go_loopg [8] L.length (fun g1 vi wr => ∃ xi : Int, vi = .int .i64 xi ∧ Aside0 (0 ≤ xi ∧ xi ≤ L.length ∧ L.length - xi.toNat ≤ g1) ∧ Aside0 (Below w.heap.size w wr) ∧ Aside0 (∀ j, j < xi.toNat → hitA id bk (L.getD j zP) = false))
  case atStart => exact ⟨0, rfl, ⟨by omega, by omega, by simp⟩, ⟨Below.refl _ _⟩, ⟨fun j hj => absurd hj (Nat.not_lt_zero _)⟩⟩
  case round =>
    obtain ⟨xi, rfl, X, S1, HALL⟩ := hrel
    have p1 : 0 ≤ xi := X.out.1
    by_cases hlt : xi < (L.length : Int)
    · have ra : IntKind.i64.wrap (xi + 1) = xi + 1 := by rw [IntKind.wrap_i64]; have := HN.out; omega
      obtain ⟨ad, rfl, hx0, hx1⟩ := pr_at (pr_below HR.out S1.out) xi p1 hlt
      obtain ⟨x, hx⟩ : ∃ x, x = L.getD xi.toNat zP := ⟨_, rfl⟩
      rw [← hx] at hx0 hx1
      have HX := Aside0.mk hx
      have HSM := hit_walk sid sbk id bk x wr (pw_cell_below S1.out HS.out.1) (pw_cell_below S1.out HS.out.2)
      clear hx
      by_cases h : hitA id bk x = true
      · rw [h] at HSM
        have HE : Aside0 (L.any (hitA id bk) = true) := ⟨List.any_eq_true.mpr ⟨x, by rw [HX.out, List.getD_eq_getElem?_getD, List.getElem?_eq_getElem (show xi.toNat < L.length by omega)]; exact List.getElem_mem _, h⟩⟩
        clear h
        go_wp2_with (go_at_call 78; refine HSM.mono ?_; rintro e w1 ⟨rfl, hB1⟩; have HB1 := Aside0.mk hB1; clear hB1)
        go_ret
        exact ⟨⟨xi, by first | rfl | (simp; done), ⟨fun _ => p1, fun q => by rw [HE.out] at q; cases q⟩⟩, S1.out.trans (HB1.out.mono S1.out.size)⟩
      · have hb : hitA id bk x = false := Bool.eq_false_iff.mpr h
        rw [hb] at HSM
        have HH := Aside0.mk hb
        clear h hb
        go_wp2_with (go_at_call 78; refine HSM.mono ?_; rintro e w1 ⟨rfl, hB1⟩; have HB1 := Aside0.mk hB1; clear hB1)
        go_roundg (L.length - (xi + 1).toNat)
        case measure => have := X.out.2.2; omega
        case rel =>
          refine ⟨xi + 1, by first | rfl | rw [ra], ⟨by omega, by omega, Nat.le_refl _⟩, ⟨S1.out.trans (HB1.out.mono S1.out.size)⟩, ⟨fun j hj => ?_⟩⟩
          by_cases hjx : j < xi.toNat
          · exact HALL.out j hjx
          · obtain rfl : j = xi.toNat := by omega
            rw [← HX.out]; exact HH.out
    · have HE : Aside0 (L.any (hitA id bk) = false) := ⟨by
        rw [List.any_eq_false]
        intro y hy
        obtain ⟨j, hj, rfl⟩ := List.getElem_of_mem hy
        have := HALL.out j (by have := X.out.2.1; omega)
        rw [List.getD_eq_getElem?_getD, List.getElem?_eq_getElem hj] at this
        exact Bool.eq_false_iff.mp this⟩
      go_wp2
      go_ret
      exact ⟨⟨-1, by first | rfl | (simp; done), ⟨fun q => (by rw [HE.out] at q; cases q), fun _ => rfl⟩⟩, S1.out⟩
set_option maxHeartbeats 2000000 in
set_option maxRecDepth 100000 in
theorem hasA_walk (sid sbk : Addr) (id bk : ByteArray) (A : Option Addr) (c : Nat) (L : List (ByteArray × ByteArray)) (w : World) (hr : ReadsRow prK 2 w A L.length L) (hn : L.length ≤ 1048576) (h1 : w.cell? sid = some (.string id)) (h2 : w.cell? sbk = some (.string bk)) :
    Calls Tryd.prog 77 #[.slice A L.length c, .func (.func 78) #[] #[.pointer (some sid), .pointer (some sbk)]] w fun e w' => e = .returned (.bool (L.any (hitA id bk))) ∧ Below w.heap.size w w' := by
  have hi := idxA_walk sid sbk id bk A c L w hr hn h1 h2
  obtain ⟨b, hb⟩ : ∃ b, b = L.any (hitA id bk) := ⟨_, rfl⟩
  rw [← hb] at hi ⊢
  clear hb hr hn h1 h2
  cases b with
  | true =>
    go_enter Tryd.func77, Tryd.ntmps77
    go_wp2_with (go_at_call 105; refine hi.mono ?_; rintro e w1 ⟨⟨i, rfl, hi0⟩, hB1⟩; have hd : decide (0 ≤ i) = true := decide_eq_true (hi0.1 rfl); have hd2 : decide (i ≥ 0) = true := decide_eq_true (hi0.1 rfl); have HB1 := Aside0.mk hB1; clear hB1)
    go_ret
    exact ⟨by first | rfl | (simp; done), HB1.out⟩
  | false =>
    go_enter Tryd.func77, Tryd.ntmps77
    go_wp2_with (go_at_call 105; refine hi.mono ?_; rintro e w1 ⟨⟨i, rfl, hi0⟩, hB1⟩; obtain rfl := hi0.2 rfl; have HB1 := Aside0.mk hB1; clear hB1)
    go_ret
    exact ⟨by first | rfl | (simp; done), HB1.out⟩
end Go.Proofs.YtnghcnkffbjddaaDoorV.Aes
