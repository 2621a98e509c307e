/- Arrays of bytes in memory: what a block of bytes holds, as a list of numbers; what leaves all older blocks but one alone. Plain theorems over the model's worlds; no walk. -/
import Derived.WalkKit
import Derived.Laws.IdiomCopy
import Derived.Test.YtimokakcdmcnnaaVWords
namespace Go.Proofs.YtimokakcdmcnnaaV.Mem
open Go.RowKit Go.Proofs.YtimokakcdmcnnaaV.PrintWords
/-- The cells of bytes. -/
def u8s (l : List Int) : Array Value := (l.map fun n => Value.int .u8 n).toArray
/-- Block g is one of bytes, told as numbers; no cell of it is frozen. -/
def At (w : World) (g : Nat) (t : TypeId) (l : List Int) : Prop := ∃ fz : Nat × Nat, w.heap[g]? = some (.cells (u8s l) t fz) ∧ ∀ i, i < l.length → ¬ (fz.1 ≤ i ∧ i < fz.2)
variable {w w' w'' : World} {g i k B : Nat} {t : TypeId} {l : List Int} {x : Int}
theorem At.lt (h : At w g t l) : g < w.heap.size := by
  obtain ⟨fz, h, _⟩ := h
  exact (Array.getElem?_eq_some_iff.mp h).1
theorem At.cell (h : At w g t l) (hi : i < l.length) : w.cell? ⟨g, i, none⟩ = some (.int .u8 (rd l (i : Int))) := by
  obtain ⟨fz, h, _⟩ := h
  simp only [World.cell?, h, u8s]
  simp [rd, List.getElem?_eq_getElem hi]
theorem At.frozen (h : At w g t l) (hi : i < l.length) : w.frozen? ⟨g, i, none⟩ = false := by
  obtain ⟨fz, h, hf⟩ := h
  have := hf i hi
  simp only [World.frozen?, h]
  simp only [Bool.and_eq_false_iff, decide_eq_false_iff_not]
  omega
theorem At.set (h : At w g t l) : At (w.setCell ⟨g, i, none⟩ (.int .u8 x)) g t (l.set i x) := by
  obtain ⟨fz, h, hf⟩ := h
  refine ⟨fz, ?_, fun j hj => hf j (by simpa using hj)⟩
  unfold World.setCell
  rw [Array.getElem?_modify, if_pos rfl, h]
  simp [u8s, List.map_set]
theorem At.other {a : Addr} {v : Value} (h : At w g t l) (hg : g ≠ a.block) : At (w.setCell a v) g t l := by
  obtain ⟨fz, h, hf⟩ := h
  exact ⟨fz, by rw [Below.heap_setCell w a v g hg, h], hf⟩
theorem At.alloc (h : At w g t l) (o : Obj) : At (w.alloc o) g t l := by
  have hl := h.lt
  obtain ⟨fz, h, hf⟩ := h
  exact ⟨fz, by rw [Below.heap_alloc w o g hl]; exact h, hf⟩
theorem At.drew (h : At w g t l) (n : Nat) : At (w.drewN n) g t l := h
theorem At.made (w : World) (t : TypeId) (l : List Int) : At (w.alloc (.cells (u8s l) t (0, 0))) w.heap.size t l :=
  ⟨(0, 0), heap_alloc_new w _, fun i _ => by omega⟩
theorem At.bytes (w : World) (t : TypeId) (s : ByteArray) : At (Lib.bytesWorld w t s) w.heap.size t (bytesOf s ++ List.replicate (grownCap w s.size 0 t - s.size) 0) := by
  refine ⟨((Lib.bytesCells w t s).size, (Lib.bytesCells w t s).size + 1), ?_, fun i hi h => ?_⟩
  · unfold Lib.bytesWorld World.freeze
    rw [if_neg (by decide)]
    dsimp only
    rw [Array.getElem?_modify, if_pos rfl, show (w.drew.alloc (.cells (Lib.bytesCells w t s) t)).heap[w.heap.size]? = some (.cells (Lib.bytesCells w t s) t (0, 0)) from heap_alloc_new w.drew _]
    have e : Lib.bytesCells w t s = u8s (bytesOf s ++ List.replicate (grownCap w s.size 0 t - s.size) 0) := by
      apply Array.toList_inj.mp
      simp [Lib.bytesCells, u8s, bytesOf]
    rw [← e]
    rfl
  · have e : (Lib.bytesCells w t s).size = (bytesOf s ++ List.replicate (grownCap w s.size 0 t - s.size) 0).length := by
      simp [Lib.bytesCells, bytesOf]
    omega
theorem At.below (h : At w g t l) (hb : Below B w w') (hg : g < B) : At w' g t l := by
  obtain ⟨fz, h, hf⟩ := h
  exact ⟨fz, by rw [hb.block g hg]; exact h, hf⟩
/-- w' is w, turned in what is new since B, and in block g. -/
structure But (B g : Nat) (w w' : World) : Prop where
  os : w'.os = w.os
  tape : w'.tape = w.tape
  output : w'.output = w.output
  size : w.heap.size ≤ w'.heap.size
  block : ∀ k, k < B → k ≠ g → w'.heap[k]? = w.heap[k]?
theorem But.refl (B g : Nat) (w : World) : But B g w w := ⟨rfl, rfl, rfl, Nat.le_refl _, fun _ _ _ => rfl⟩
theorem But.trans (h : But B g w w') (k : But B g w' w'') : But B g w w'' :=
  ⟨k.os.trans h.os, k.tape.trans h.tape, k.output.trans h.output, Nat.le_trans h.size k.size, fun i hi hg => (k.block i hi hg).trans (h.block i hi hg)⟩
theorem But.of (g : Nat) (h : Below B w w') : But B g w w' := ⟨h.os, h.tape, h.output, h.size, fun k hk _ => h.block k hk⟩
theorem But.below (h : But B g w w') (hg : B ≤ g) : Below B w w' := ⟨h.os, h.tape, h.output, h.size, fun k hk => h.block k hk (by omega)⟩
theorem But.mono {B' : Nat} (h : But B g w w') (hB : B' ≤ B) : But B' g w w' := ⟨h.os, h.tape, h.output, h.size, fun k hk => h.block k (Nat.lt_of_lt_of_le hk hB)⟩
theorem But.setCell (h : But B g w w') (a : Addr) (hp : a.block = g ∨ B ≤ a.block) (u : Value) : But B g w (w'.setCell a u) :=
  ⟨h.os, h.tape, h.output, by simpa using h.size, fun k hk hg => by rw [Below.heap_setCell w' a u k (by omega)]; exact h.block k hk hg⟩
theorem But.drew (h : But B g w w') (n : Nat) : But B g w (w'.drewN n) := ⟨h.os, h.tape, h.output, h.size, h.block⟩
theorem But.alloc (h : But B g w w') (hB : B ≤ w'.heap.size) (o : Obj) : But B g w (w'.alloc o) :=
  ⟨h.os, h.tape, h.output, Nat.le_trans h.size ((Below.refl 0 w').alloc (Nat.zero_le _) o).size, fun k hk hg => by rw [Below.heap_alloc w' o k (by omega)]; exact h.block k hk hg⟩
theorem At.but {g' : Nat} (h : At w g t l) (hb : But B g' w w') (hg : g < B) (hn : g ≠ g') : At w' g t l := by
  obtain ⟨fz, h, hf⟩ := h
  exact ⟨fz, by rw [hb.block g hg hn]; exact h, hf⟩
theorem At.setCells : ∀ (xs l : List Int) (o : Nat) (w : World), At w g t l → o + xs.length ≤ l.length → At (w.setCells g o (xs.map fun n => Value.int .u8 n)) g t (l.take o ++ xs ++ l.drop (o + xs.length))
  | [], l, o, w, h, _ => by simpa [World.setCells] using h
  | x :: xs, l, o, w, h, hl => by
    have ho : o < l.length := by simp at hl; omega
    have h1 : At (w.setCell ⟨g, o, none⟩ (.int .u8 x)) g t (l.set o x) := h.set
    have h2 := At.setCells xs (l.set o x) (o + 1) _ h1 (by simp at hl ⊢; omega)
    have e : (l.set o x).take (o + 1) ++ xs ++ (l.set o x).drop (o + 1 + xs.length) = l.take o ++ (x :: xs) ++ l.drop (o + (x :: xs).length) := by
      rw [List.take_succ_eq_append_getElem (by simpa using ho), List.take_set, List.set_eq_of_length_le (by rw [List.length_take]; omega), List.drop_set_of_lt (by omega)]
      simp [Nat.add_assoc, Nat.add_comm 1]
    rw [e] at h2
    exact h2
theorem But.setCells : ∀ (xs : List Value) (o : Nat) (w' : World), But B g w w' → But B g w (w'.setCells g o xs)
  | [], _, _, h => h
  | v :: xs, o, _, h => But.setCells xs (o + 1) _ (h.setCell ⟨g, o, none⟩ (.inl rfl) v)
end Go.Proofs.YtimokakcdmcnnaaV.Mem
