/- What a good table is, in its rows: slots rise, ids rise. Conditions: none. -/
import Derived.Test.YtnghcnkffbjddaaDoorVTab10
import Derived.Test.YtnghcnkffbjddaaDoorVTabP
namespace Go.Proofs.YtnghcnkffbjddaaDoorV.Aes
open Go.RowKit Go.Proofs.YtnghcnkffbjddaaDoorV.PrintWords Go.Proofs.YtnghcnkffbjddaaDoorV.PrintLast Go.Proofs.YtnghcnkffbjddaaDoorV.PrintMore Go.Proofs.YtnghcnkffbjddaaDoorV.Mem
set_option linter.unusedVariables false
set_option linter.unusedSimpArgs false

open Go.Proofs.YtnghcnkffbjddaaDoor.PImplM
def ltE (x y : S68) : Bool := decide (x.f0.f0 < y.f0.f0)
theorem ltE_tr (a b c : S68) : ltE a b = true → ltE b c = true → ltE a c = true := by simp only [ltE, decide_eq_true_eq]; omega
theorem ltE_asy (a b : S68) : ltE a b = true → ltE b a = false := by simp only [ltE, decide_eq_true_eq, decide_eq_false_iff_not]; omega
theorem evs_at (l : List S68) (i : Nat) (h : i < l.length) : (l.map evM).getD i zE = evM (l[i]'h) := by
  rw [List.getD_eq_getElem?_getD, List.getElem?_map, List.getElem?_eq_getElem h]; rfl
theorem tab_facts {E : List S68} (h : tabOk (E.map evM) = true) : E.length ≤ 3 ∧ E.Pairwise (fun a b => ltE a b = true) ∧ ∀ x ∈ E, goodE (evM x) = true := by
  unfold tabOk at h
  rw [Bool.and_eq_true, List.all_eq_true, decide_eq_true_iff, List.length_map] at h
  obtain ⟨h1, h2⟩ := h
  have hat : ∀ i (hi : i < E.length), goodE (evM (E[i]'hi)) = true ∧ (i = 0 ∨ ((E.map evM).getD (i - 1) zE).s0 < (evM (E[i]'hi)).s0) := fun i hi => by
    have q := h1 i (List.mem_range.mpr hi)
    unfold entAt at q
    rw [evs_at E i hi, Bool.and_eq_true, Bool.or_eq_true, decide_eq_true_iff, decide_eq_true_iff] at q
    exact q
  refine ⟨h2, pair_of_adj ltE ltE_tr E (fun i hi => ?_), fun x hx => ?_⟩
  · have q := (hat (i + 1) hi).2.resolve_left (by omega)
    rw [Nat.add_sub_cancel, evs_at E i (by omega)] at q
    exact decide_eq_true q
  · obtain ⟨i, hi, rfl⟩ := List.getElem_of_mem hx
    exact (hat i hi).1
theorem idx_none {slot : Int} {E : List S68} (h : idxOf slot (E.map evM) < 0) : ∀ x ∈ E, x.f0.f0 ≠ slot := by
  unfold idxOf at h
  cases q : (E.map evM).findIdx? (fun x => x.s0 == slot) with
  | some i => rw [q] at h; exact absurd h (by simp)
  | none =>
    rw [List.findIdx?_eq_none_iff] at q
    intro x hx e
    have := q (evM x) (List.mem_map.mpr ⟨x, hx, rfl⟩)
    have e2 : (evM x).s0 = slot := e
    rw [e2] at this
    simp at this
end Go.Proofs.YtnghcnkffbjddaaDoorV.Aes
