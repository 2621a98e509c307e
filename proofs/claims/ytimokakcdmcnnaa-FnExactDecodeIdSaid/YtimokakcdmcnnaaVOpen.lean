/- An argument of whatever kind, opened: what it reads as data, and that its numbers fit. Conditions: none; plain lemmas over whatever program. -/
import Derived.Test.YtimokakcdmcnnaaVWb
import Derived.ProofKit
import Derived.OpenShut
import Derived.ShutString
import Derived.Deep.Slices
import Derived.Deep.Fields
import Derived.ChangeSame
namespace Go.Proofs.YtimokakcdmcnnaaV.PrintWords
open Go.RowKit Go.ChangeShapes Go.WideShapes Go.Deep
/-- What reads as data at type t, reads as a value of kind d, whose numbers fit. -/
def RdK {α : Type} (d : Kd α) (wf : α → Prop) (P : Program) (t : TypeId) : Prop :=
  ∀ {H : Type} {enc : TypeId × Value → H} {w : World} {base : Nat} {spare : Nat → Bool} {held : Bool} {fuel : Nat} {cs : List Value} {x : DataW H × List MemPlace},
    DataW.trod enc P w base spare held fuel t cs = some x → ∃ v, d.K w v cs ∧ wf v
section
variable {P : Program} {t e : TypeId}
theorem rdk_int {k : IntKind} (hu : P.underlying t = some (.int k)) : RdK (Kd.int k) (fun n => (Lit.int k n).wf = true) P t := by
  intro H enc w base spare held fuel cs x h
  obtain ⟨n, hc, _, hw⟩ := DataW.trod_int hu h
  exact ⟨n, hc, hw⟩
theorem rdk_bool (hu : P.underlying t = some .bool) : RdK Kd.bool (fun _ => True) P t := by
  intro H enc w base spare held fuel cs x h
  obtain ⟨n, hc, _⟩ := DataW.trod_bool hu h
  exact ⟨n, hc, trivial⟩
theorem rdk_string (hu : P.underlying t = some .string) : RdK Kd.string (fun s => s.size ≤ 9223372036854775807) P t := by
  intro H enc w base spare held fuel cs x h
  obtain ⟨n, hc, _, hw⟩ := DataW.trod_string hu h
  exact ⟨n, hc, by simpa [maxLen] using hw⟩
theorem rd_field {α : Type} {d : Kd α} {wf : α → Prop} {H : Type} {enc : TypeId × Value → H} {w : World} {base : Nat} {spare : Nat → Bool} {held : Bool} {n : Nat} {cs : List Value} {fs : Array Field} {xs : List (DataW H × List MemPlace)}
    (hf : ∀ (i : Nat) (f : Field), fs[i]? = some f → DataW.trod enc P w base spare held n f.type ((cs.drop f.offset).take (P.cellsOf f.type)) = xs[i]?) (hxl : xs.length = fs.size)
    (i : Nat) (f : Field) (hi : fs[i]? = some f) (o sz : Nat) (ho : f.offset = o) (hs : P.cellsOf f.type = sz) (r : RdK d wf P f.type) : ∃ v, d.K w v ((cs.drop o).take sz) ∧ wf v := by
  have h := hf i f hi
  rw [ho, hs] at h
  have hlt : i < xs.length := by rw [hxl]; exact (Array.getElem?_eq_some_iff.1 hi).1
  rw [List.getElem?_eq_getElem hlt] at h
  exact r h
theorem seg_split {α : Type} (cs : List α) (o s o2 : Nat) (h : o + s = o2) : cs.drop o = (cs.drop o).take s ++ cs.drop o2 := by
  subst h
  rw [← List.drop_drop]
  exact (List.take_append_drop _ _).symm
theorem seg_last {α : Type} (cs : List α) (o s : Nat) (h : cs.length = o + s) : (cs.drop o).take s = cs.drop o := List.take_of_length_le (by rw [List.length_drop]; omega)
end
end Go.Proofs.YtimokakcdmcnnaaV.PrintWords
