/- slices.Clone and slices.Delete at strings, on rows of the call's own. Conditions: at most 1048576 elements. -/
import Derived.Test.YtnghcnkffbjddaaDoorVDShelf
import Derived.Test.YtnghcnkffbjddaaDoorVWb
import Derived.WalkSpells
import Derived.Sort.OwnSorted
namespace Go.Proofs.YtnghcnkffbjddaaDoorV.Aes
open Go.RowKit Go.Proofs.YtnghcnkffbjddaaDoorV.PrintWords Go.Proofs.YtnghcnkffbjddaaDoorV.PrintLast Go.Proofs.YtnghcnkffbjddaaDoorV.PrintMore Go.Proofs.YtnghcnkffbjddaaDoorV.Mem
set_option linter.unusedVariables false
set_option linter.unusedSimpArgs false

open Go.Sort
set_option maxHeartbeats 2000000 in
set_option maxRecDepth 100000 in
theorem cloneS_walk (A : Option Addr) (c : Nat) (l : List ByteArray) (w : World) (hr : Kd.C Kd.string w A l.length l) (hl : l.length ≤ 1048576) (h1 : 0 < l.length) :
    Calls Tryd.prog 54 #[.slice A l.length c] w fun e w' => ∃ v : Value, e = .returned v ∧ Kd.R Kd.string 9 w' w.heap.size (fun _ => True) v l ∧ Below w.heap.size w w' := by
  obtain ⟨ad, rfl, _⟩ := Kd.at_string hr 0 (by omega) (by omega)
  have q39 := fun (w : World) (a : Option Addr) (n c n' c' : Nat) => Lib.run_eql_slice_nil (P := Tryd.prog) w _ _ a n c n' c' Tryd.underlying23
  have HR := Aside0.mk hr
  have HL := Aside0.mk hl
  clear hr hl h1
  go_enter Tryd.func54, Tryd.ntmps54
  go_wp2_with (at_builtin; refine Kd.R_append_rows Kd.string (w0 := w) w.heap.size rfl _ _ 23 9 (.string ⟨#[]⟩) 16 rfl Tryd.underlying23 (by kernel_rfl) rfl (by decide) (by decide) _ [] l _ _ _ (fun _ => True) (fun _ => False) rfl rfl (Kd.R_of_own (ownsRowM.of (World.ownsRow_made w #[] 0 (Nat.le_refl _) (Nat.zero_le _) (by simp))) (fun _ _ => trivial)) (Kd.C_alloc HR.out _) (fun _ _ h => h) (fun _ h => h.elim) (fun _ _ => trivial) ((Below.refl _ _).alloc (Nat.le_refl _) _) (by simp) (by have := HL.out; simp only [List.length_nil]; omega) ?_; intro v1 w1 hR hB _ _; clear q39)
  go_ret
  exact ⟨v1, rfl, hR, hB⟩
def bytesS (l : List ByteArray) : List (List UInt8) := l.map fun s => s.data.toList
theorem enc_bytes (s : ByteArray) : encStr s.data.toList = .string s := rfl
theorem encs_bytes (l : List ByteArray) : (bytesS l).map encStr = encs Value.string l := by
  simp [bytesS, encs, enc_bytes]
/-- A row of strings of the call's own, laid open. -/
theorem rowS_open {w : World} {base : Nat} {ok : Nat → Prop} {v : Value} {l : List ByteArray} (h : Kd.R Kd.string 9 w base ok v l) (hn : 0 < l.length) :
    ∃ g cap cur, v = .slice (some ⟨g, 0, none⟩) l.length cap ∧ base ≤ g ∧ ok g ∧ RowAt w g cur 9 ∧ l.length ≤ cap ∧ cap ≤ maxLen ∧ cur.size = cap ∧ cur.toList.take l.length = encs Value.string l := by
  have ho : ownsRowM w base 9 1 v l.length (encs Value.string l) := Kd.own_of_R h
  rcases ho.2 with ⟨_, h0⟩ | ⟨g, cap, cur, rfl, hb, hr, h1, h2, h3, h4⟩
  · omega
  · exact ⟨g, cap, cur, rfl, hb, h.1 g rfl, hr, h1, h2, by simpa using h3, by simpa using h4⟩
theorem rowS_holds {w : World} {g cap : Nat} {cur : Array Value} {l : List ByteArray} (hr : RowAt w g cur 9) (h1 : l.length ≤ cap) (h3 : cur.size = cap) (h4 : cur.toList.take l.length = encs Value.string l) :
    Holds encStr w g 0 (bytesS l).toArray := by
  intro j hj
  have hj' : j < l.length := by simpa [bytesS] using hj
  rw [Nat.zero_add]
  refine ⟨?_, hr.frozen j (by omega)⟩
  rw [hr.cell j, ← Array.getElem?_toList, ← List.getElem?_take_of_lt hj', h4, ← encs_bytes]
  simp [bytesS, hj']
theorem rowAt_put {w : World} {g q : Nat} {cur : Array Value} {e : TypeId} (d : Array (List UInt8)) (hr : RowAt w g cur e) : RowAt (putRow encStr (Sort.ahead w q) g 0 d) g (putCells encStr 0 d cur) e := by
  obtain ⟨fr, hh, hf⟩ := hr
  refine ⟨fr, ?_, ?_⟩
  · simp [putRow, mapBlock, Sort.ahead, Array.getElem?_modify, hh, onCells]
  · rcases hf with hf | hf
    · exact .inl hf
    · exact .inr (by simpa [putCells] using hf)
theorem below_put {w0 w : World} {g q : Nat} (d : Array (List UInt8)) (hB : Below w0.heap.size w0 w) (hg : w0.heap.size ≤ g) : Below w0.heap.size w0 (putRow encStr (Sort.ahead w q) g 0 d) := by
  have h := grownBy_sorted (w := w) (g := g) (n := q) (os := #[]) d
  rw [grow_empty] at h
  exact hB.grown h hB.size (fun j hj => by cases hj; exact hg)
set_option maxHeartbeats 2000000 in
/-- slices.Delete of one element, on a row of the call's own. -/
theorem deleteS_walk (w0 w : World) (v : Value) (l : List ByteArray) (i : Nat) (hB : Below w0.heap.size w0 w) (hR : Kd.R Kd.string 9 w w0.heap.size (fun _ => True) v l) (hi : i < l.length) (hl : l.length ≤ 1048576) :
    Calls Tryd.prog 53 #[v, .int .i64 (i : Int), .int .i64 ((i : Int) + 1)] w fun e w' => ∃ v' : Value, e = .returned v' ∧ Kd.R Kd.string 9 w' w0.heap.size (fun _ => True) v' (l.take i ++ l.drop (i + 1)) ∧ Below w0.heap.size w0 w' := by
  obtain ⟨g, cap, cur, rfl, hb, _, hr, h1, h2, h3, h4⟩ := rowS_open hR (by omega)
  have hH := rowS_holds hr h1 h3 h4
  have hlen : (bytesS l).length = l.length := by simp [bytesS]
  have hm : cap ≤ 9223372036854775807 := by have := h2; unfold maxLen at this; exact this
  have hcon := Tryd.slices_Delete_calls g 0 cap i (i + 1) (bytesS l) w hH (by rw [hlen]; exact h1) hm (by omega) (by rw [hlen]; omega)
  rw [hlen] at hcon
  refine Calls.mono hcon ?_
  rintro e w' ⟨rfl, q, rfl⟩
  have hnew : (bytesS l).take i ++ (bytesS l).drop (i + 1) ++ List.replicate (i + 1 - i) [] = bytesS (l.take i ++ l.drop (i + 1) ++ [⟨#[]⟩]) := by
    rw [show i + 1 - i = 1 by omega]
    simp [bytesS, List.map_take, List.map_drop]
  rw [hnew]
  refine ⟨_, rfl, Kd.R_of_own ?_ (fun _ _ => trivial), below_put _ hB hb⟩
  have hl2 : (l.take i ++ l.drop (i + 1)).length = l.length - (i + 1 - i) := by simp; omega
  rw [hl2]
  refine ⟨by rw [← hl2]; simp [encs], .inr ⟨g, cap, _, rfl, hb, rowAt_put _ hr, by omega, h2, by simp [putCells, h3], ?_⟩⟩
  have ht := take_putCells cur (bytesS (l.take i ++ l.drop (i + 1) ++ [⟨#[]⟩])) (by simp [bytesS]; omega)
  rw [encs_bytes] at ht
  have hlf : (bytesS (l.take i ++ l.drop (i + 1) ++ [⟨#[]⟩])).length = l.length := by simp [bytesS]; omega
  rw [hlf] at ht
  have := congrArg (List.take (l.length - 1)) ht
  rw [List.take_take, Nat.min_eq_left (by omega)] at this
  rw [Nat.mul_one, show l.length - (i + 1 - i) = l.length - 1 by omega, this]
  unfold encs
  rw [List.map_append, List.take_left' (by simp; omega)]
end Go.Proofs.YtnghcnkffbjddaaDoorV.Aes
