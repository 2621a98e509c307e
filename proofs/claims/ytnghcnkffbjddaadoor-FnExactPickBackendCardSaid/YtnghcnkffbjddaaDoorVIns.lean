/- slices.Insert of one string, on a row of the call's own. Conditions: at most 1048576 elements. -/
import Derived.Test.YtnghcnkffbjddaaDoorVIShelf
import Derived.Test.YtnghcnkffbjddaaDoorVDrop
import Derived.Test.YtnghcnkffbjddaaDoorVWb
namespace Go.Proofs.YtnghcnkffbjddaaDoorV.Aes
open Go.RowKit Go.Proofs.YtnghcnkffbjddaaDoorV.PrintWords Go.Proofs.YtnghcnkffbjddaaDoorV.PrintLast Go.Proofs.YtnghcnkffbjddaaDoorV.PrintMore Go.Proofs.YtnghcnkffbjddaaDoorV.Mem
set_option linter.unusedVariables false
set_option linter.unusedSimpArgs false

theorem below_sets {B g : Nat} {a : World} (hg : B ≤ g) : ∀ (vs : List Value) (o : Nat) (w : World), Below B a w → Below B a (w.setCells g o vs)
  | [], _, _, h => h
  | v :: r, o, w, h => below_sets hg r (o + 1) _ (h.setCell (p := ⟨g, o, none⟩) hg v)
theorem rowR {w : World} {base g cap n : Nat} {cur : Array Value} {l : List ByteArray} (hn : n = l.length) (hr : RowAt w g cur 9) (hb : base ≤ g) (h1 : n ≤ cap) (h2 : cap ≤ maxLen) (h3 : cur.size = cap) (h4 : cur.toList.take n = encs Value.string l) :
    Kd.R Kd.string 9 w base (fun _ => True) (.slice (some ⟨g, 0, none⟩) n cap) l := by
  subst hn
  exact Kd.R_of_own ⟨by simp [encs], .inr ⟨g, cap, cur, rfl, hb, hr, h1, h2, by simpa using h3, by simpa using h4⟩⟩ (fun _ _ => trivial)
theorem rowAt_drew {w : World} {g : Nat} {cur : Array Value} {e : TypeId} (h : RowAt w g cur e) : RowAt w.drew g cur e := h.of_heap rfl
theorem zeros_size (k : Nat) : (Builtin.zeroCells (Value.string ⟨#[]⟩).cells k).size = k := by simp [Builtin.zeroCells, Value.cells]
theorem new_row (base : Nat) (W : World) (l : List ByteArray) (n c : Nat) (hn : n = l.length) (hb : base ≤ W.heap.size) (hl : n ≤ maxLen) (cs : List Value) (hcs : cs = encs Value.string l) :
    Kd.R Kd.string 9 (W.drew.alloc (.cells (cs.toArray ++ Builtin.zeroCells (Value.string ⟨#[]⟩).cells (grownCap W n c 9 - n)) 9)) base (fun _ => True) (.slice (some ⟨W.heap.size, 0, none⟩) n (grownCap W n c 9)) l := by
  have hge := grownCap_ge W n c 9
  have hlen : cs.length = n := by rw [hcs, hn]; simp [encs]
  refine rowR hn (RowAt.plain (heap_alloc_new W.drew _)) hb hge (grownCap_le_maxLen W n c 9 hl) ?_ ?_
  · rw [Array.size_append, zeros_size, List.size_toArray, hlen]; omega
  · rw [Array.toList_append, List.take_left' (by simpa using hlen)]; exact hcs
theorem shift_list (c0 cs c1 c2 r1 : List Value) (x : Value) (i n : Nat) (hc : c0.take n = cs) (hi : i < n) (hcl : cs.length = n) (h1 : c1 = c0.take (i + 1) ++ cs.drop i ++ r1) (h2 : c2 = c1.take i ++ [x] ++ c1.drop (i + 1)) : c2.take (n + 1) = cs.take i ++ x :: cs.drop i := by
  have hn : n ≤ c0.length := by have := hcl; rw [← hc, List.length_take] at this; omega
  have e1 : c1.take i = cs.take i := by
    rw [h1, List.append_assoc, List.take_append_of_le_length (by rw [List.length_take]; omega), List.take_take, ← hc, List.take_take, Nat.min_eq_left (by omega), Nat.min_eq_left (by omega)]
  have e2 : c1.drop (i + 1) = cs.drop i ++ r1 := by
    rw [h1, List.append_assoc, List.drop_left' (by rw [List.length_take]; omega)]
  rw [h2, e1, e2, show cs.take i ++ [x] ++ (cs.drop i ++ r1) = (cs.take i ++ x :: cs.drop i) ++ r1 by simp]
  exact List.take_left' (by simp; omega)
theorem grow_list (c0 cs c1 c2 r0 r1 r2 : List Value) (x : Value) (i n : Nat) (hi : i < n) (hcl : cs.length = n) (h0 : c0 = cs.take i ++ r0) (h1 : c1 = c0.take i ++ [x] ++ r1) (h2 : c2 = c1.take (i + 1) ++ cs.drop i ++ r2) : c2.take (n + 1) = cs.take i ++ x :: cs.drop i := by
  have hl : (cs.take i).length = i := by rw [List.length_take]; omega
  have e0 : c0.take i = cs.take i := by rw [h0]; exact List.take_left' hl
  have e1 : c1.take (i + 1) = cs.take i ++ [x] := by
    rw [h1, e0]
    exact List.take_left' (by simp; omega)
  rw [h2, e1, show cs.take i ++ [x] ++ cs.drop i ++ r2 = (cs.take i ++ x :: cs.drop i) ++ r2 by simp]
  exact List.take_left' (by simp; omega)
theorem encs_ins (l : List ByteArray) (s : ByteArray) (i : Nat) : encs Value.string (l.take i ++ s :: l.drop i) = (encs Value.string l).take i ++ Value.string s :: (encs Value.string l).drop i := by
  simp [encs, List.map_take, List.map_drop]
set_option maxHeartbeats 2000000 in
/-- slices.Insert of one element, on a row of the call's own; the element stands in a block of its own. -/
theorem insertS_walk (w0 w : World) (v : Value) (l : List ByteArray) (i : Nat) (s : ByteArray) (hB : Below w0.heap.size w0 w) (hR : Kd.R Kd.string 9 w w0.heap.size (fun _ => True) v l) (hi : i ≤ l.length) (hl : l.length ≤ 1048576) :
    Calls Tryd.prog 56 #[v, .int .i64 (i : Int), .slice (some ⟨w.heap.size, 0, none⟩) 1 1] (w.alloc (.cells #[.string s] 9)) fun e w' => ∃ v' : Value, e = .returned v' ∧ Kd.R Kd.string 9 w' w0.heap.size (fun _ => True) v' (l.take i ++ s :: l.drop i) ∧ Below w0.heap.size w0 w' := by
  have hBW : Below w0.heap.size w0 (w.alloc (.cells #[.string s] 9)) := hB.alloc hB.size _
  have hnew := heap_alloc_new w (.cells #[.string s] 9)
  have hws : (w.alloc (.cells #[.string s] 9)).heap.size = w.heap.size + 1 := by simp
  have hold : ∀ g, g < w.heap.size → (w.alloc (.cells #[.string s] 9)).heap[g]? = w.heap[g]? := fun g hg => Below.heap_alloc w _ g hg
  have hsize := hB.size
  generalize w.alloc (.cells #[.string s] 9) = W at hBW hnew hws hold
  have hvs : ∀ j u, [Value.string s][j]? = some u → W.cell? ⟨w.heap.size, 0 + j, none⟩ = some u := by
    intro j u hu
    rw [cell_of_row W _ _ _ _ _ hnew, Nat.zero_add]
    simpa using hu
  have h1v : ∀ v ∈ [Value.string s], v.oneCell' = true := by intro v hv; rw [List.mem_singleton.mp hv]; rfl
  have h1c : ∀ v ∈ encs Value.string l, v.oneCell' = true := by
    intro v hv
    obtain ⟨x, _, rfl⟩ := List.mem_map.mp hv
    rfl
  have hcl : (encs Value.string l).length = l.length := by simp [encs]
  have hll : (l.take i ++ s :: l.drop i).length = l.length + 1 := by simp; omega
  have hbase : w0.heap.size ≤ W.heap.size := by omega
  have hmax : l.length + 1 ≤ maxLen := by unfold maxLen; omega
  rcases (Kd.own_of_R hR).2 with ⟨rfl, h0⟩ | ⟨g, cap, cur, rfl, hb, hr, h1, h2, h3, h4⟩
  · have hlen : l = [] := List.length_eq_zero_iff.mp h0
    subst hlen
    have hi0 : i = 0 := by simpa using hi
    subst hi0
    refine (Any2.slices_Insert_string_end_grow Tryd.lays22 none 0 0 w.heap.size 0 1 1 [] [.string s] W (by decide) (Nat.le_refl _) (by decide) (by decide) rfl rfl (fun _ => rfl) (fun a h => by cases h) hvs h1v).mono ?_
    rintro e w' ⟨rfl, rfl⟩
    exact ⟨_, rfl, new_row w0.heap.size W [s] 1 0 rfl hbase (by decide) _ rfl, (hBW.drew).alloc hbase _⟩
  · have hg : g < w.heap.size := hr.lt
    have hrW : RowAt W g cur 9 := hr.of_heap (hold g hg)
    rw [Nat.mul_one] at h3 h4
    have hcs : ∀ j v, (encs Value.string l)[j]? = some v → W.cell? ⟨g, 0 + j, none⟩ = some v := by
      intro j v hj
      rw [Nat.zero_add, hrW.cell j, ← Array.getElem?_toList]
      rw [← h4, List.getElem?_take] at hj
      split at hj
      · exact hj
      · cases hj
    have hm : cap ≤ 9223372036854775807 := by have := h2; unfold maxLen at this; exact this
    by_cases hend : i = l.length
    · subst hend
      have hins : l.take l.length ++ s :: l.drop l.length = l ++ [s] := by simp
      rw [hins]
      by_cases hroom : l.length + 1 ≤ cap
      · refine (Any2.slices_Insert_string_end_room Tryd.lays22 g 0 l.length cap w.heap.size 0 1 1 [.string s] W (by decide) hroom hm rfl (fun j hj => ?_) (fun j hj => ?_) hvs h1v).mono ?_
        · rw [hrW.cell, Array.getElem?_eq_getElem (by omega)]; rfl
        · exact hrW.frozen _ (by omega)
        · rintro e w' ⟨rfl, rfl⟩
          obtain ⟨cur', hr', hs', hc'⟩ := RowAt.sets [.string s] (0 + l.length) W cur hrW (by simp; omega)
          refine ⟨_, rfl, rowR (by simp) hr' hb hroom h2 (by omega) ?_, below_sets hb _ _ _ hBW⟩
          rw [hc', Nat.zero_add, h4, List.take_left' (by simp [encs])]
          simp [encs]
      · refine (Any2.slices_Insert_string_end_grow Tryd.lays22 (some ⟨g, 0, none⟩) l.length cap w.heap.size 0 1 1 (encs Value.string l) [.string s] W (by decide) h1 (by omega) (by omega) hcl rfl (fun h => by cases h) (fun a h j v hj => by cases h; rw [Addr.add_lit]; exact hcs j v hj) hvs h1v).mono ?_
        rintro e w' ⟨rfl, rfl⟩
        exact ⟨_, rfl, new_row w0.heap.size W (l ++ [s]) (l.length + 1) cap (by simp) hbase hmax _ (by simp [encs]), (hBW.drew).alloc hbase _⟩
    · have hlt : i < l.length := by omega
      by_cases hroom : l.length + 1 ≤ cap
      · have hshape : W.shape? g = some (9, cur.size) := by
          obtain ⟨fr, hh, _⟩ := hrW
          simp [World.shape?, hh]
        refine (Any2.slices_Insert_string_shift Tryd.lays22 g 0 l.length cap i w.heap.size 0 1 1 (encs Value.string l) [.string s] W hlt (by decide) hroom hm (by omega) hcl rfl hcs (fun j hj => ?_) (fun j hj => ?_) hvs h1c h1v 9 9 1 cur.size ?_ hshape (by omega) ?_ ?_).mono ?_
        · rw [hrW.cell, Array.getElem?_eq_getElem (by omega)]; rfl
        · exact hrW.frozen _ (by omega)
        · simp [World.shape?, hnew]
        · simp [World.frozen?, hnew]
        · simp [World.frozen?, hnew]
        · rintro e w' ⟨rfl, rfl⟩
          obtain ⟨cur1, hr1, hs1, hc1⟩ := RowAt.sets ((encs Value.string l).drop i) (0 + (i + 1)) W.drew cur (hrW.of_heap rfl) (by rw [List.length_drop, hcl]; omega)
          obtain ⟨cur2, hr2, hs2, hc2⟩ := RowAt.sets [.string s] (0 + i) _ cur1 hr1 (by simp; omega)
          rw [Nat.zero_add] at hc1 hc2
          refine ⟨_, rfl, rowR hll.symm hr2 hb hroom h2 (by omega) ?_, below_sets hb _ _ _ (below_sets hb _ _ _ hBW.drew)⟩
          rw [encs_ins]
          exact shift_list cur.toList (encs Value.string l) cur1.toList cur2.toList _ (.string s) i l.length h4 hlt hcl hc1 (by simpa using hc2)
      · refine (Any2.slices_Insert_string_grow Tryd.lays22 g 0 l.length cap i w.heap.size 0 1 1 (encs Value.string l) [.string s] W hlt (by decide) h1 (by omega) (by omega) hcl rfl hcs hvs h1c h1v).mono ?_
        rintro e w' ⟨rfl, rfl⟩
        have hge := grownCap_ge W (l.length + 1) cap 9
        have hrow := RowAt.plain (heap_alloc_new W (.cells (((encs Value.string l).take i).toArray ++ Builtin.zeroCells (Value.string ⟨#[]⟩).cells (l.length + 1 - i) ++ Builtin.zeroCells (Value.string ⟨#[]⟩).cells (grownCap W (l.length + 1) cap 9 - (l.length + 1))) 9))
        have hasz : (((encs Value.string l).take i).toArray ++ Builtin.zeroCells (Value.string ⟨#[]⟩).cells (l.length + 1 - i) ++ Builtin.zeroCells (Value.string ⟨#[]⟩).cells (grownCap W (l.length + 1) cap 9 - (l.length + 1))).size = grownCap W (l.length + 1) cap 9 := by
          rw [Array.size_append, Array.size_append, zeros_size, zeros_size, List.size_toArray, List.length_take, hcl]; omega
        obtain ⟨cur1, hr1, hs1, hc1⟩ := RowAt.sets [.string s] i _ _ (rowAt_drew hrow) (by rw [hasz]; simp; omega)
        obtain ⟨cur2, hr2, hs2, hc2⟩ := RowAt.sets ((encs Value.string l).drop i) (i + 1) _ cur1 (rowAt_drew hr1) (by rw [List.length_drop, hcl, hs1, hasz]; omega)
        refine ⟨_, rfl, rowR hll.symm hr2 hbase hge (grownCap_le_maxLen W (l.length + 1) cap 9 hmax) (hs2.trans (hs1.trans hasz)) ?_, below_sets hbase _ _ _ (below_sets hbase _ _ _ ((hBW.alloc hbase _).drew)).drew⟩
        rw [encs_ins]
        exact grow_list _ (encs Value.string l) cur1.toList cur2.toList _ _ _ (.string s) i l.length hlt hcl (by simp only [Array.toList_append, List.append_assoc]; rfl) hc1 hc2
end Go.Proofs.YtnghcnkffbjddaaDoorV.Aes
