/- slices.SortStableFunc at strings, at most nineteen of them, on a row of the call's own, by a comparison that reads and may lay blocks of its own. Conditions: those that each theorem names. -/
import Derived.Test.YtnghcnkffbjddaaDoorVSo
import Derived.Test.YtnghcnkffbjddaaDoorVIns
import Derived.Lib.QuietBelow
import Derived.BigRegion
import Derived.BigQuiet
import Derived.Shelf.RegionOpenPlain
import Derived.Deep.LoopGhost
import Derived.Deep.QuietTactic
namespace Go.Proofs.YtnghcnkffbjddaaDoorV.Aes
open Go.RowKit Go.Proofs.YtnghcnkffbjddaaDoorV.PrintWords Go.Proofs.YtnghcnkffbjddaaDoorV.PrintLast Go.Proofs.YtnghcnkffbjddaaDoorV.PrintMore Go.Proofs.YtnghcnkffbjddaaDoorV.Mem
set_option linter.unusedVariables false
set_option linter.unusedSimpArgs false

def RowIs (W : World) (g cap : Nat) (l : List ByteArray) : Prop := ∃ cur, RowAt W g cur 9 ∧ cur.size = cap ∧ l.length ≤ cap ∧ cur.toList.take l.length = encs Value.string l
theorem RowIs.lt {W : World} {g cap : Nat} {l : List ByteArray} (h : RowIs W g cap l) : g < W.heap.size := by
  obtain ⟨cur, hr, _⟩ := h
  exact hr.lt
theorem RowIs.cell {W : World} {g cap : Nat} {l : List ByteArray} (h : RowIs W g cap l) (i : Nat) (hi : i < l.length) : W.cell? ⟨g, i, none⟩ = some (.string (l.getD i ByteArray.empty)) := by
  obtain ⟨cur, hr, hs, hn, ht⟩ := h
  rw [hr.cell, ← Array.getElem?_toList, ← List.getElem?_take_of_lt hi, ht]
  simp [encs, hi]
theorem RowIs.frozen {W : World} {g cap : Nat} {l : List ByteArray} (h : RowIs W g cap l) (i : Nat) (hi : i < l.length) : W.frozen? ⟨g, i, none⟩ = false := by
  obtain ⟨cur, hr, hs, hn, ht⟩ := h
  exact hr.frozen i (by omega)
theorem RowIs.below {W W' : World} {B g cap : Nat} {l : List ByteArray} (h : RowIs W g cap l) (hb : Below B W W') (hg : g < B) : RowIs W' g cap l := by
  obtain ⟨cur, hr, h2⟩ := h
  exact ⟨cur, hr.of_heap (hb.block g hg), h2⟩
theorem RowIs.set {W : World} {g cap : Nat} {l : List ByteArray} (h : RowIs W g cap l) (i : Nat) (x : ByteArray) : RowIs (W.setCell ⟨g, i, none⟩ (.string x)) g cap (l.set i x) := by
  obtain ⟨cur, hr, hs, hn, ht⟩ := h
  refine ⟨_, hr.set i _, by simpa using hs, by simpa using hn, ?_⟩
  rw [List.length_set, Array.toList_setIfInBounds, List.take_set, ht]
  simp [encs, List.map_set]
theorem RowIs.drew {W : World} {g cap : Nat} {l : List ByteArray} (h : RowIs W g cap l) : RowIs W.drew g cap l := h
/-- The sort, told over lists. -/
def swapL (l : List ByteArray) (j : Nat) : List ByteArray := (l.set (j + 1) (l.getD j ByteArray.empty)).set j (l.getD (j + 1) ByteArray.empty)
def innerL (cf : ByteArray → ByteArray → Int) : Nat → List ByteArray → List ByteArray
  | 0, l => l
  | j + 1, l => if cf (l.getD (j + 1) ByteArray.empty) (l.getD j ByteArray.empty) < 0 then innerL cf j (swapL l j) else l
def outerL (cf : ByteArray → ByteArray → Int) : Nat → Nat → List ByteArray → List ByteArray
  | 0, _, l => l
  | d + 1, i, l => outerL cf d (i + 1) (innerL cf i l)
theorem swapL_length (l : List ByteArray) (j : Nat) : (swapL l j).length = l.length := by simp [swapL]
theorem getD_mem (l : List ByteArray) (i : Nat) (h : i < l.length) : l.getD i ByteArray.empty ∈ l := by
  rw [List.getD_eq_getElem?_getD, List.getElem?_eq_getElem h]; exact List.getElem_mem h
theorem swapL_mem (l : List ByteArray) (j : Nat) (h : j + 1 < l.length) : ∀ s, s ∈ swapL l j → s ∈ l := by
  intro s hs
  rcases List.mem_or_eq_of_mem_set hs with hs | rfl
  · rcases List.mem_or_eq_of_mem_set hs with hs | rfl
    · exact hs
    · exact getD_mem l j (by omega)
  · exact getD_mem l (j + 1) h
theorem out_eq0 (cf : ByteArray → ByteArray → Int) (n i : Nat) (l : List ByteArray) (hi : i < n) : outerL cf (n - i) i l = outerL cf (n - (i + 1)) (i + 1) (innerL cf i l) := by
  rw [show n - i = (n - (i + 1)) + 1 by omega]; rfl
set_option maxHeartbeats 4000000 in
set_option maxRecDepth 100000 in
/-- slices.insertionSortCmpFunc from 0 on. 'ok': what the comparison asks of a text. -/
theorem ins_walk (cf : ByteArray → ByteArray → Int) (ok : ByteArray → Prop) (kb : Addr) (w0 : World) (g cap : Nat) (l : List ByteArray) (w : World) (hg : w0.heap.size ≤ g)
    (hcmp : ∀ W, Below w0.heap.size w0 W → ∀ x y, ok x → ok y → Calls Tryd.prog 114 #[.string x, .string y, .pointer (some kb)] W fun e w' => e = .returned (.int .i64 (cf x y)) ∧ Below W.heap.size W w')
    (hB : Below w0.heap.size w0 w) (hR : RowIs w g cap l) (hok : ∀ s, s ∈ l → ok s) (n : Nat) (hn : n = l.length) (hl : n ≤ 1000) :
    Calls Tryd.prog 185 #[.slice (some ⟨g, 0, none⟩) n cap, .int .i64 0, .int .i64 (n : Int), .func (.func 114) #[] #[.pointer (some kb)]] w fun e w' =>
      e = .returned (.tuple #[]) ∧ RowIs w' g cap (outerL cf (n - 1) 1 l) ∧ Below w0.heap.size w0 w' := by
  have mixed : Tryd.prog.follows .mixedOrders = true := by kernel_rfl
  have HC := Aside0.mk hcmp
  have S0 := Aside0.mk (And.intro hR (And.intro hok hB))
  have HN := Aside0.mk hn
  have HL := Aside0.mk hl
  have HG := Aside0.mk hg
  clear hcmp hR hok hB hn hl hg
  go_enter Tryd.func185, Tryd.ntmps185
  go_wp2
  go_loopg [8] n (fun g1 vi wr => ∃ (i : Nat) (lk : List ByteArray), vi = .int .i64 i ∧ 0 < i ∧ i ≤ n + 1 ∧ n + 1 - i ≤ g1 + 1 ∧ Aside0 (lk.length = n) ∧ Aside0 (RowIs wr g cap lk ∧ (∀ s, s ∈ lk → ok s) ∧ Below w0.heap.size w0 wr) ∧ Aside0 (outerL cf (n - i) i lk = outerL cf (n - 1) 1 l))
  case atStart => exact ⟨1, l, by go_num, by omega, by omega, by omega, ⟨HN.out.symm⟩, S0, ⟨rfl⟩⟩
  case round =>
    clear S0
    obtain ⟨i, lk, rfl, hai, hib, hg1, HK, S1, HO⟩ := hrel
    by_cases hlt : i < n
    · have hltz : (i : Int) < (n : Int) := by omega
      have hi1000 : i < 1000 := by have := HL.out; omega
      go_wp2
      go_loopg [9] i (fun g2 vj wr2 => ∃ (j : Nat) (lj : List ByteArray), vj = .int .i64 j ∧ j ≤ i ∧ j ≤ g2 ∧ Aside0 (lj.length = n) ∧ Aside0 (RowIs wr2 g cap lj ∧ (∀ s, s ∈ lj → ok s) ∧ Below w0.heap.size w0 wr2) ∧ Aside0 (innerL cf j lj = innerL cf i lk))
      case atStart => exact ⟨i, lk, rfl, Nat.le_refl _, Nat.le_refl _, HK, S1, ⟨rfl⟩⟩
      case round =>
        clear S1
        obtain ⟨j, lj, rfl, hji, hg2, HJ, SJ, HI⟩ := hrel
        by_cases hja : 0 < j
        · obtain ⟨jp, rfl⟩ : ∃ q, j = q + 1 := ⟨j - 1, by omega⟩
          have zj : ((jp + 1 : Nat) : Int) = (jp : Int) + 1 := by omega
          rw [zj]
          have hjad : decide ((jp : Int) + 1 > 0) = true := decide_eq_true (by omega)
          have hjaz : 0 < (jp : Int) + 1 := by omega
          have hj1 : jp + 1 < lj.length := by have := HJ.out; omega
          have hjn : (jp : Int) + 1 < (n : Int) := by have := HJ.out; omega
          have hjn2 : (jp : Int) < (n : Int) := by omega
          have pa : (0 : Int) ≤ (jp : Int) + 1 := by omega
          have ra : IntKind.i64.wrap ((jp : Int) + 1) = (jp : Int) + 1 := by rw [IntKind.wrap_i64]; have := HL.out; omega
          have pc : (0 : Int) ≤ (jp : Int) := by omega
          have rc : IntKind.i64.wrap ((jp : Int)) = (jp : Int) := by rw [IntKind.wrap_i64]; have := HL.out; omega
          obtain ⟨x, hx⟩ : ∃ x, x = lj.getD (jp + 1) ByteArray.empty := ⟨_, rfl⟩
          obtain ⟨y, hy⟩ : ∃ y, y = lj.getD jp ByteArray.empty := ⟨_, rfl⟩
          have ox : ok x := by rw [hx]; exact SJ.out.2.1 _ (getD_mem lj (jp + 1) hj1)
          have oy : ok y := by rw [hy]; exact SJ.out.2.1 _ (getD_mem lj jp (by omega))
          have la := fun d os => cell_regrown (SJ.out.1.cell (jp + 1) hj1) d os
          have lb := fun d os => cell_regrown (SJ.out.1.cell jp (by omega)) d os
          rw [← hx] at la
          rw [← hy] at lb
          have hc := fun d os => Calls.regrown_of (HC.out (Go.Sort.grow (redrawn wr d) os) (SJ.out.2.2.trans ((below_regrown wr d os).mono SJ.out.2.2.size)) x y ox oy)
          have HX := Aside0.mk hx
          have HY := Aside0.mk hy
          clear hx hy
          by_cases hlv : cf x y < 0
          · have hd : decide (cf x y < 0) = true := decide_eq_true hlv
            go_wp2_with fail
            refine wp_region_quiet_below (by assumption) (by kernel_rfl) ?_
            repeat (quiet_step (first | (go_at_call 114; exact hc _ _)))
            refine wpQuiet_nil ?_
            intro _ hw'
            obtain ⟨⟨dq, osq⟩, hw''⟩ := hw'
            subst hw''
            have hbq := below_regrown wr dq osq
            have S2 : Aside0 (RowIs (Go.Sort.grow (redrawn wr dq) osq) g cap lj ∧ (∀ s, s ∈ lj → ok s) ∧ Below w0.heap.size w0 (Go.Sort.grow (redrawn wr dq) osq)) := ⟨SJ.out.1.below hbq SJ.out.1.lt, SJ.out.2.1, SJ.out.2.2.trans (hbq.mono SJ.out.2.2.size)⟩
            clear la lb hc SJ hbq
            generalize Go.Sort.grow (redrawn wr dq) osq = w2 at S2 ⊢
            go_wp2_with fail
            have c1 := S2.out.1.cell (jp + 1) hj1
            have c2 := S2.out.1.cell jp (by omega)
            have f1 := S2.out.1.frozen (jp + 1) hj1
            have f2 := S2.out.1.frozen jp (by omega)
            obtain ⟨u, c3⟩ : ∃ u, (w2.setCell ⟨g, jp + 1, none⟩ (.string y)).cell? ⟨g, jp, none⟩ = some u := ⟨_, (S2.out.1.set (jp + 1) y).cell jp (by rw [List.length_set]; omega)⟩
            rw [← HX.out] at c1
            rw [← HY.out] at c2
            have S3 : Aside0 (RowIs ((w2.setCell ⟨g, jp + 1, none⟩ (.string y)).setCell ⟨g, jp, none⟩ (.string x)).drew g cap (swapL lj jp) ∧ (∀ s, s ∈ swapL lj jp → ok s) ∧ Below w0.heap.size w0 ((w2.setCell ⟨g, jp + 1, none⟩ (.string y)).setCell ⟨g, jp, none⟩ (.string x)).drew) := by
              refine ⟨?_, fun s hs => S2.out.2.1 s (swapL_mem lj jp hj1 s hs), ((S2.out.2.2.setCell (p := ⟨g, jp + 1, none⟩) HG.out _).setCell (p := ⟨g, jp, none⟩) HG.out _).drew⟩
              have h := (S2.out.1.set (jp + 1) y).set jp x
              unfold swapL
              rw [← HX.out, ← HY.out]
              exact h
            clear S2
            go_big_region
            clear c1 c2 c3 f1 f2
            generalize ((w2.setCell ⟨g, jp + 1, none⟩ (.string y)).setCell ⟨g, jp, none⟩ (.string x)).drew = w3 at S3 ⊢
            go_wp2
            go_roundg jp
            case measure => omega
            case rel => exact ⟨jp, swapL lj jp, by first | rfl | go_num, by omega, Nat.le_refl _, ⟨by rw [swapL_length]; exact HJ.out⟩, S3, ⟨by rw [← HI.out, innerL, if_pos (by rw [← HX.out, ← HY.out]; omega)]⟩⟩
          · have hd : decide (cf x y < 0) = false := decide_eq_false hlv
            go_wp2_with fail
            refine wp_region_quiet_below (by assumption) (by kernel_rfl) ?_
            repeat (quiet_step (first | (go_at_call 114; exact hc _ _)))
            refine wpQuiet_nil ?_
            intro _ hw'
            obtain ⟨⟨dq, osq⟩, hw''⟩ := hw'
            subst hw''
            have hbq := below_regrown wr dq osq
            have S2 : Aside0 (RowIs (Go.Sort.grow (redrawn wr dq) osq) g cap lj ∧ (∀ s, s ∈ lj → ok s) ∧ Below w0.heap.size w0 (Go.Sort.grow (redrawn wr dq) osq)) := ⟨SJ.out.1.below hbq SJ.out.1.lt, SJ.out.2.1, SJ.out.2.2.trans (hbq.mono SJ.out.2.2.size)⟩
            clear la lb hc SJ hbq
            generalize Go.Sort.grow (redrawn wr dq) osq = w2 at S2 ⊢
            go_wp2
            go_roundg (n - (i + 1))
            case measure => omega
            case rel => exact ⟨i + 1, lj, by go_num, by omega, by omega, by omega, HJ, S2, ⟨by rw [← HO.out, out_eq0 cf n i lk hlt, ← HI.out, innerL, if_neg (by rw [← HX.out, ← HY.out]; omega)]⟩⟩
        · obtain rfl : j = 0 := by omega
          have hjad : decide (((0 : Nat) : Int) > 0) = false := decide_eq_false (by decide)
          go_wp2_with fail
          go_big_region
          have S2 : Aside0 (RowIs wr.drew g cap lj ∧ (∀ s, s ∈ lj → ok s) ∧ Below w0.heap.size w0 wr.drew) := ⟨SJ.out.1.drew, SJ.out.2.1, SJ.out.2.2.drew⟩
          clear SJ
          generalize wr.drew = w2 at S2 ⊢
          go_wp2
          go_roundg (n - (i + 1))
          case measure => omega
          case rel => exact ⟨i + 1, lj, by go_num, by omega, by omega, by omega, HJ, S2, ⟨by rw [← HO.out, out_eq0 cf n i lk hlt, ← HI.out]; rfl⟩⟩
    · have hltz : ¬ (i : Int) < (n : Int) := by omega
      go_wp2
      go_end0
      have e : n - i = 0 := by omega
      rw [e] at HO
      exact ⟨rfl, by rw [← HO.out]; exact S1.out.1, S1.out.2.2⟩
end Go.Proofs.YtnghcnkffbjddaaDoorV.Aes
