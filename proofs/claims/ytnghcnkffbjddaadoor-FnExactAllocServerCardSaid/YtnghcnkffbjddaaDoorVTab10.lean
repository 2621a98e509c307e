/- impl.RemoveConfig and its function, walked. Conditions: at most 1048576 entries. -/
import Derived.Test.YtnghcnkffbjddaaDoorVTab9
import Derived.Test.YtnghcnkffbjddaaDoorVTab7
namespace Go.Proofs.YtnghcnkffbjddaaDoorV.Aes
open Go.RowKit Go.Proofs.YtnghcnkffbjddaaDoorV.PrintWords Go.Proofs.YtnghcnkffbjddaaDoorV.PrintLast Go.Proofs.YtnghcnkffbjddaaDoorV.PrintMore Go.Proofs.YtnghcnkffbjddaaDoorV.Mem
set_option linter.unusedVariables false
set_option linter.unusedSimpArgs false

open Go.Maps Go.WideShapes Go.Proofs.YtnghcnkffbjddaaDoor.PImplM
def evM (x : S68) : Ent := ⟨x.f0.f0, x.f0.f1, x.f0.f2, x.f0.f3, x.f0.f4, x.f1.map (fun y => (y.f0, y.f1)), x.f2⟩
theorem c_ent {w : World} {A : Option Addr} {n : Nat} {l : List S68} (h : Kd.C k68 w A n l) : ReadsRow (entK w) 7 w A n (l.map evM) := by
  refine reads_map (R' := entK w) evM h (fun x cs hx => ?_)
  obtain ⟨A5, c5, e, h5, h6⟩ := k68_open hx
  have hx5 : (x.f1.map (fun y => (y.f0, y.f1))).length = x.f1.length := List.length_map ..
  refine ⟨A5, c5, ?_, ?_, ?_⟩
  · show cs = [.int .i64 x.f0.f0, .int .i64 x.f0.f1, .int .i64 x.f0.f2, .string x.f0.f3, .bool x.f0.f4, .slice A5 (x.f1.map (fun y => (y.f0, y.f1))).length c5, .int .i64 x.f2]
    rw [hx5]; exact e
  · show (x.f1.map (fun y => (y.f0, y.f1))).length ≤ c5
    rw [hx5]; exact h5
  · show ReadsRow prK 2 w A5 (x.f1.map (fun y => (y.f0, y.f1))).length (x.f1.map (fun y => (y.f0, y.f1)))
    rw [hx5]
    exact reads_map (R' := prK) (fun y : S71 => (y.f0, y.f1)) h6 (fun y cs hy => k71_open hy)
theorem idx_lt (slot : Int) (E : List Ent) (h : ¬ idxOf slot E < 0) : ∃ i : Nat, idxOf slot E = i ∧ i < E.length := by
  unfold idxOf at h ⊢
  cases q : E.findIdx? (fun x => x.s0 == slot) with
  | none => rw [q] at h; exact absurd (by decide) h
  | some i =>
    rw [List.findIdx?_eq_some_iff_getElem] at q
    exact ⟨i, rfl, q.1⟩
end Go.Proofs.YtnghcnkffbjddaaDoorV.Aes
