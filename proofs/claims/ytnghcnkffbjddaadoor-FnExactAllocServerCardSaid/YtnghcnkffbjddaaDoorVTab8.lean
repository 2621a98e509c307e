/- impl.changed at RemoveConfig's function, walked: what is told of the check, of the copy and of the function gives what it tells. Conditions: those that each theorem names. -/
import Derived.Test.YtnghcnkffbjddaaDoorVTab7
import Derived.Test.YtnghcnkffbjddaaDoorPImplMx1
import Derived.Lib.Hide
namespace Go.Proofs.YtnghcnkffbjddaaDoorV.Aes
open Go.RowKit Go.Proofs.YtnghcnkffbjddaaDoorV.PrintWords Go.Proofs.YtnghcnkffbjddaaDoorV.PrintLast Go.Proofs.YtnghcnkffbjddaaDoorV.PrintMore Go.Proofs.YtnghcnkffbjddaaDoorV.Mem
set_option linter.unusedVariables false
set_option linter.unusedSimpArgs false

open Go.Maps Go.WideShapes Go.Proofs.YtnghcnkffbjddaaDoor.PImplM
theorem results_cell_tmp {P : Program} {fn : Func} {p u : Tmp} {ty : TypeId} (h : fn.results = #[.cell p ty, .tmp u]) (tmps : Array Value) (w : World) (g : Nat) (t : TypeId) (cs : Array Value) (fr : Nat × Nat) (d : TypeDesc)
    (hp : tmps.getD p undef = .pointer (some ⟨g, 0, none⟩)) (hg : w.heap[g]? = some (.cells cs t fr))
    (hu : P.underlying ty = some d) (hd : (match d with | .struct _ | .array _ _ => true | _ => false) = true) (hi : (P.info? ty).map (·.size) = some cs.size) :
    (results fn tmps).run P w = .ok (.tuple #[.agg cs, tmps.getD u undef]) w := by
  have hp' : tmps[p]?.getD undef = .pointer (some ⟨g, 0, none⟩) := by simpa using hp
  simp [results, h, hp', asAddr, run_loadVar_row w g t ty cs fr d hg hu hd hi]
abbrev sEnt (w : World) (base : Nat) (ok : Nat → Prop) (v : Value) (r : List S68) : Prop := Kd.S k68 68 w base ok v r
def ChPost (w : World) (r : List S68) (code : Int) (e : Ending) (w' : World) : Prop :=
  ∃ v : Value, e = .returned (.tuple #[.agg #[v], .int .i64 code]) ∧ sEnt w' w.heap.size (fun _ => True) v r ∧ Below w.heap.size w w'
def T1 (v : Value) : Obj := .cells #[v] 38 (0, 0)
/-- Two boxes: the argument's, and the result's. -/
theorem two_boxes (w : World) (v : Value) : ((w.alloc (T1 v)).alloc (T1 (.slice none 0 0))).heap[w.heap.size]? = some (T1 v) ∧ ((w.alloc (T1 v)).alloc (T1 (.slice none 0 0))).heap[w.heap.size + 1]? = some (T1 (.slice none 0 0)) ∧ Below w.heap.size w ((w.alloc (T1 v)).alloc (T1 (.slice none 0 0))) ∧ ((w.alloc (T1 v)).alloc (T1 (.slice none 0 0))).heap.size = w.heap.size + 2 := by
  have h1 : (w.alloc (T1 v)).heap.size = w.heap.size + 1 := by simp
  refine ⟨blk_alloc (heap_alloc_new w _) _, ?_, ((Below.refl _ _).alloc (Nat.le_refl _) _).alloc (by rw [h1]; omega) _, by simp⟩
  rw [← h1]; exact heap_alloc_new _ _
theorem blk_below' {w w1 : World} {g B : Nat} {o : Obj} (h : w.heap[g]? = some o) (hb : Below B w w1) (hg : g < B) : w1.heap[g]? = some o := (hb.block g hg).trans h
end Go.Proofs.YtnghcnkffbjddaaDoorV.Aes
