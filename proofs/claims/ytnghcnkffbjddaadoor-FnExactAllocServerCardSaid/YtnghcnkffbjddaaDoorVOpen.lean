/- An argument of whatever kind, opened: what it reads as data, and that its numbers fit. Conditions: none; plain lemmas over whatever program. -/
import Derived.Test.YtnghcnkffbjddaaDoorVWb
import Derived.ProofKit
import Derived.OpenShut
import Derived.ShutString
import Derived.Deep.Slices
import Derived.Deep.Fields
import Derived.ChangeSame
namespace Go.Proofs.YtnghcnkffbjddaaDoorV.PrintWords
open Go.RowKit Go.ChangeShapes Go.WideShapes Go.Deep
/-- What reads as data at type t, reads as a value of kind d, whose numbers fit. -/
def RdK {α : Type} (d : Kd α) (wf : α → Prop) (P : Program) (t : TypeId) : Prop :=
  ∀ {H : Type} {enc : TypeId × Value → H} {w : World} {base : Nat} {spare : Nat → Bool} {held : Bool} {fuel : Nat} {cs : List Value} {x : DataW H × List MemPlace},
    DataW.trod enc P w base spare held fuel t cs = some x → ∃ v, d.K w v cs ∧ wf v
section
variable {P : Program} {t e : TypeId}
theorem rdk_int {k : IntKind} (hu : P.underlying t = some (.int k)) : RdK (Kd.int k) (fun n => (Lit.int k n).wf = true) P t := by
  intro H enc w base spare held fuel cs x h
  obtain ⟨n, hc, _, hw⟩ := DataW.trod_int hu h
  exact ⟨n, hc, hw⟩
theorem rdk_bool (hu : P.underlying t = some .bool) : RdK Kd.bool (fun _ => True) P t := by
  intro H enc w base spare held fuel cs x h
  obtain ⟨n, hc, _⟩ := DataW.trod_bool hu h
  exact ⟨n, hc, trivial⟩
theorem rdk_string (hu : P.underlying t = some .string) : RdK Kd.string (fun s => s.size ≤ 9223372036854775807) P t := by
  intro H enc w base spare held fuel cs x h
  obtain ⟨n, hc, _, hw⟩ := DataW.trod_string hu h
  exact ⟨n, hc, by simpa [maxLen] using hw⟩
theorem list_of_all {α : Type} {Q : Nat → α → Prop} : ∀ (n : Nat), (∀ i, i < n → ∃ v, Q i v) → ∃ l : List α, l.length = n ∧ ∀ i v, l[i]? = some v → Q i v
  | 0, _ => ⟨[], rfl, fun i v h => by simp at h⟩
  | n + 1, h => by
    obtain ⟨l, hl, hq⟩ := list_of_all n (fun i hi => h i (by omega))
    obtain ⟨v, hv⟩ := h n (by omega)
    refine ⟨l ++ [v], by simp [hl], fun i u hu => ?_⟩
    rw [List.getElem?_append] at hu
    split at hu
    · exact hq i u hu
    · rename_i hi
      have hlt := (List.getElem?_eq_some_iff.1 hu).1
      simp at hlt
      have e0 : i = n := by omega
      subst e0
      rw [hl, Nat.sub_self] at hu
      simp at hu
      subst hu
      exact hv
theorem rdk_slice {α : Type} {d : Kd α} {wf : α → Prop} (hu : P.underlying t = some (.slice e)) (hC : P.cellsOf e = d.sz) (hE : RdK d wf P e) : RdK (Kd.slice e d) (fun l => ∀ x, x ∈ l → wf x) P t := by
  intro H enc w base spare held fuel cs x h
  rcases open_slice hu h with ⟨hcs, _⟩ | ⟨a, len, cap, m, n, D, Pl, hcs, _, hl, hm, hmm, _, hi⟩
  · exact ⟨[], ⟨none, 0, hcs, Nat.le_refl _, rfl, by simp, fun h0 => absurd h0 (by simp)⟩, by simp⟩
  · have hlm : len ≤ m := by
      rw [hmm]
      split <;> omega
    have hall : ∀ i, i < len → ∃ v, ∃ c, c.length = d.sz ∧ d.K w v c ∧ wf v ∧ ∀ j u, c[j]? = some u → w.cell? (a.add (i * d.sz + j)) = some u := by
      intro i hil
      obtain ⟨c, hc, ht⟩ := hi i (by omega)
      obtain ⟨v, hK, hw⟩ := hE ht
      rw [hC] at hc
      obtain ⟨_, hcl, hat⟩ := World.cells?_some hc
      refine ⟨v, c, hcl, hK, hw, fun j u hu' => ?_⟩
      have hj : j < d.sz := by rw [← hcl]; exact (List.getElem?_eq_some_iff.1 hu').1
      have h2 := hat j hj
      rw [← add_add, h2]
      exact hu'
    obtain ⟨l, hll, hq⟩ := list_of_all (Q := fun i v => ∃ c, c.length = d.sz ∧ d.K w v c ∧ wf v ∧ ∀ j u, c[j]? = some u → w.cell? (a.add (i * d.sz + j)) = some u) len hall
    refine ⟨l, ⟨some a, cap, by rw [hll]; exact hcs, by omega, rfl, by rw [hll]; simp only [maxLen] at hm; omega, fun _ => ⟨a, rfl, fun j p hj => ?_⟩⟩, fun v hv => ?_⟩
    · obtain ⟨c, h1, h2, _, h4⟩ := hq j p hj
      exact ⟨c, h1, h2, h4⟩
    · obtain ⟨i, hi'⟩ := List.mem_iff_getElem?.1 hv
      obtain ⟨_, _, _, h3, _⟩ := hq i v hi'
      exact h3
theorem rd_field {α : Type} {d : Kd α} {wf : α → Prop} {H : Type} {enc : TypeId × Value → H} {w : World} {base : Nat} {spare : Nat → Bool} {held : Bool} {n : Nat} {cs : List Value} {fs : Array Field} {xs : List (DataW H × List MemPlace)}
    (hf : ∀ (i : Nat) (f : Field), fs[i]? = some f → DataW.trod enc P w base spare held n f.type ((cs.drop f.offset).take (P.cellsOf f.type)) = xs[i]?) (hxl : xs.length = fs.size)
    (i : Nat) (f : Field) (hi : fs[i]? = some f) (o sz : Nat) (ho : f.offset = o) (hs : P.cellsOf f.type = sz) (r : RdK d wf P f.type) : ∃ v, d.K w v ((cs.drop o).take sz) ∧ wf v := by
  have h := hf i f hi
  rw [ho, hs] at h
  have hlt : i < xs.length := by rw [hxl]; exact (Array.getElem?_eq_some_iff.1 hi).1
  rw [List.getElem?_eq_getElem hlt] at h
  exact r h
theorem seg_split {α : Type} (cs : List α) (o s o2 : Nat) (h : o + s = o2) : cs.drop o = (cs.drop o).take s ++ cs.drop o2 := by
  subst h
  rw [← List.drop_drop]
  exact (List.take_append_drop _ _).symm
theorem seg_last {α : Type} (cs : List α) (o s : Nat) (h : cs.length = o + s) : (cs.drop o).take s = cs.drop o := List.take_of_length_le (by rw [List.length_drop]; omega)
end
end Go.Proofs.YtnghcnkffbjddaaDoorV.PrintWords
