/- (*impl.Table).entry, walked: the place of a slot's entry. Conditions: at most 1048576 entries. -/
import Derived.Test.YtnghcnkffbjddaaDoorVTab6
namespace Go.Proofs.YtnghcnkffbjddaaDoorV.Aes
open Go.RowKit Go.Proofs.YtnghcnkffbjddaaDoorV.PrintWords Go.Proofs.YtnghcnkffbjddaaDoorV.PrintLast Go.Proofs.YtnghcnkffbjddaaDoorV.PrintMore Go.Proofs.YtnghcnkffbjddaaDoorV.Mem
set_option linter.unusedVariables false
set_option linter.unusedSimpArgs false

open Go.Maps Go.WideShapes
def entV (x : Ent) (A5 : Option Addr) (c5 : Nat) : Value := .agg #[.int .i64 x.s0, .int .i64 x.s1, .int .i64 x.s2, .string x.ky, .bool x.fb, .slice A5 x.L.length c5, .int .i64 x.nx]
set_option maxHeartbeats 2000000 in
set_option maxRecDepth 100000 in
theorem same_walk (sb : Addr) (slot : Int) (x : Ent) (A5 : Option Addr) (c5 : Nat) (w : World) (hsb : w.cell? sb = some (.int .i64 slot)) :
    Calls Tryd.prog 99 #[entV x A5 c5, .pointer (some sb)] w fun e w' => e = .returned (.bool (x.s0 == slot)) ∧ Below w.heap.size w w' := by
  have hlt := block_lt_of_cell hsb
  have hbx : (w.alloc (EntCells x A5 c5)).heap[w.heap.size]? = some (EntCells x A5 c5) := heap_alloc_new w _
  have l0 := (blk_cell hbx 0).trans rfl
  have hB : Below w.heap.size w (w.alloc (EntCells x A5 c5)) := (Below.refl _ _).alloc (Nat.le_refl _) _
  have hs2 := pw_cell_below hB hsb
  have HB := Aside0.mk hB
  clear hbx hB hsb
  unfold EntCells at l0 hs2 HB
  unfold entV
  go_enter Tryd.func99, Tryd.ntmps99
  go_wp2
  go_ret
  exact ⟨by first | rfl | (simp; done) | (by_cases h : x.s0 = slot <;> simp [h]), HB.out⟩
def idxOf (slot : Int) (E : List Ent) : Int := match E.findIdx? (fun x => x.s0 == slot) with | some i => (i : Int) | none => -1
theorem idx_hit (slot : Int) (E : List Ent) (i : Nat) (hi : i < E.length) (h : (E.getD i zE).s0 = slot) (hb : ∀ j, j < i → ¬ (E.getD j zE).s0 = slot) : idxOf slot E = i := by
  unfold idxOf
  have e : ∀ j (hj : j < E.length), E.getD j zE = E[j]'hj := fun j hj => by rw [List.getD_eq_getElem?_getD, List.getElem?_eq_getElem hj]; rfl
  have : E.findIdx? (fun x => x.s0 == slot) = some i := by
    rw [List.findIdx?_eq_some_iff_getElem]
    refine ⟨hi, by rw [← e i hi]; simpa using h, fun j hj => ?_⟩
    have := hb j hj
    rw [e j (by omega)] at this
    simpa using this
  rw [this]
theorem idx_miss (slot : Int) (E : List Ent) (hb : ∀ j, j < E.length → ¬ (E.getD j zE).s0 = slot) : idxOf slot E = -1 := by
  unfold idxOf
  have : E.findIdx? (fun x => x.s0 == slot) = none := by
    rw [List.findIdx?_eq_none_iff]
    intro x hx
    obtain ⟨j, hj, rfl⟩ := List.getElem_of_mem hx
    have := hb j hj
    rw [List.getD_eq_getElem?_getD, List.getElem?_eq_getElem hj] at this
    simpa using this
  rw [this]
set_option maxHeartbeats 4000000 in
set_option maxRecDepth 100000 in
theorem index_walk (sb : Addr) (slot : Int) (A : Option Addr) (c : Nat) (E : List Ent) (w : World) (hr : ReadsRow (entK w) 7 w A E.length E) (hn : E.length ≤ 1048576) (hsb : w.cell? sb = some (.int .i64 slot)) :
    Calls Tryd.prog 98 #[.slice A E.length c, .func (.func 99) #[] #[.pointer (some sb)]] w fun e w' => e = .returned (.int .i64 (idxOf slot E)) ∧ Below w.heap.size w w' := by
  have HR := Aside0.mk hr
  have HN := Aside0.mk hn
  have HSB := Aside0.mk hsb
  clear hr hn hsb
  go_enter Tryd.func98, Tryd.ntmps98
  go_wp2
  go_loopg [8] E.length (fun g1 vi wr => ∃ xi : Int, vi = .int .i64 xi ∧ Aside0 (0 ≤ xi ∧ xi ≤ E.length ∧ E.length - xi.toNat ≤ g1) ∧ Aside0 (Below w.heap.size w wr) ∧ Aside0 (∀ j, j < xi.toNat → ¬ (E.getD j zE).s0 = slot))
  case atStart => exact ⟨0, rfl, ⟨by omega, by omega, by simp⟩, ⟨Below.refl _ _⟩, ⟨fun j hj => absurd hj (Nat.not_lt_zero _)⟩⟩
  case round =>
    obtain ⟨xi, rfl, X, S1, HALL⟩ := hrel
    have p1 : 0 ≤ xi := X.out.1
    by_cases hlt : xi < (E.length : Int)
    · have ra : IntKind.i64.wrap (xi + 1) = xi + 1 := by rw [IntKind.wrap_i64]; have := HN.out; omega
      obtain ⟨ad, A5, c5, rfl, hx0, hx1, hx2, hx3, hx4, hx5, hx6, _⟩ := ent_at (ent_below HR.out S1.out) xi p1 hlt
      obtain ⟨x, hx⟩ : ∃ x, x = E.getD xi.toNat zE := ⟨_, rfl⟩
      rw [← hx] at hx0 hx1 hx2 hx3 hx4 hx5 hx6
      have HX := Aside0.mk hx
      have HSM := same_walk sb slot x A5 c5 wr (pw_cell_below S1.out HSB.out)
      unfold entV at HSM
      clear hx
      by_cases h : x.s0 = slot
      · have hb : (x.s0 == slot) = true := by simpa using h
        rw [hb] at HSM
        have HE : Aside0 (idxOf slot E = xi) := ⟨by have := idx_hit slot E xi.toNat (by omega) (by rw [← HX.out]; exact h) (fun j hj => HALL.out j hj); omega⟩
        clear h hb
        go_wp2_with (go_at_call 99; refine HSM.mono ?_; rintro e w1 ⟨rfl, hB1⟩; have HB1 := Aside0.mk hB1; clear hB1)
        go_ret
        exact ⟨by rw [HE.out]; first | rfl | (simp; done), S1.out.trans (HB1.out.mono S1.out.size)⟩
      · have hb : (x.s0 == slot) = false := by simpa using h
        rw [hb] at HSM
        have HH := Aside0.mk h
        clear h hb
        go_wp2_with (go_at_call 99; refine HSM.mono ?_; rintro e w1 ⟨rfl, hB1⟩; have HB1 := Aside0.mk hB1; clear hB1)
        go_roundg (E.length - (xi + 1).toNat)
        case measure => have := X.out.2.2; omega
        case rel =>
          refine ⟨xi + 1, by first | rfl | rw [ra], ⟨by omega, by omega, Nat.le_refl _⟩, ⟨S1.out.trans (HB1.out.mono S1.out.size)⟩, ⟨fun j hj => ?_⟩⟩
          by_cases hjx : j < xi.toNat
          · exact HALL.out j hjx
          · obtain rfl : j = xi.toNat := by omega
            rw [← HX.out]; exact HH.out
    · have HE : Aside0 (idxOf slot E = -1) := ⟨idx_miss slot E (fun j hj => HALL.out j (by have := X.out.2.1; omega))⟩
      go_wp2
      go_ret
      exact ⟨by rw [HE.out]; first | rfl | (simp; done), S1.out⟩
set_option maxHeartbeats 2000000 in
set_option maxRecDepth 100000 in
theorem entry_walk (p : Addr) (slot : Int) (A : Option Addr) (c : Nat) (E : List Ent) (w : World) (hp : w.cell? p = some (.slice A E.length c)) (hr : ReadsRow (entK w) 7 w A E.length E) (hn : E.length ≤ 1048576) :
    Calls Tryd.prog 68 #[.pointer (some p), .int .i64 slot] w fun e w' => e = .returned (.int .i64 (idxOf slot E)) ∧ Below w.heap.size w w' := by
  have hB : Below w.heap.size w (w.alloc (.cells #[.int .i64 slot] 3)) := (Below.refl _ _).alloc (Nat.le_refl _) _
  have hsb : (w.alloc (.cells #[.int .i64 slot] 3)).cell? ⟨w.heap.size, 0, none⟩ = some (.int .i64 slot) := by rw [cell_of_row _ _ _ _ _ _ (heap_alloc_new w _)]; rfl
  have hix := index_walk ⟨w.heap.size, 0, none⟩ slot A c E (w.alloc (.cells #[.int .i64 slot] 3)) (ent_below hr hB) hn hsb
  have hp2 := pw_cell_below hB hp
  have HB := Aside0.mk hB
  clear hB hp hr hn
  go_enter Tryd.func68, Tryd.ntmps68
  go_wp2_with (go_at_call 98; refine hix.mono ?_; rintro e w1 ⟨rfl, hB1⟩; have HB1 := Aside0.mk hB1; clear hB1)
  go_ret
  exact ⟨by first | rfl | (simp; done), HB.out.trans (HB1.out.mono HB.out.size)⟩
end Go.Proofs.YtnghcnkffbjddaaDoorV.Aes
