/- What a good table is, in its rows: slots rise, ids rise. Conditions: none. -/
import Derived.Test.YtnghcnkffbjddaaDoorVTab10
import Derived.Test.YtnghcnkffbjddaaDoorVTabP
namespace Go.Proofs.YtnghcnkffbjddaaDoorV.Aes
open Go.RowKit Go.Proofs.YtnghcnkffbjddaaDoorV.PrintWords Go.Proofs.YtnghcnkffbjddaaDoorV.PrintLast Go.Proofs.YtnghcnkffbjddaaDoorV.PrintMore Go.Proofs.YtnghcnkffbjddaaDoorV.Mem
set_option linter.unusedVariables false
set_option linter.unusedSimpArgs false

open Go.Proofs.YtnghcnkffbjddaaDoor.PImplM
def ltE (x y : S68) : Bool := decide (x.f0.f0 < y.f0.f0)
def ltA (x y : S71) : Bool := Op.bytesLess x.f0.toList y.f0.toList
theorem ltE_tr (a b c : S68) : ltE a b = true → ltE b c = true → ltE a c = true := by simp only [ltE, decide_eq_true_eq]; omega
theorem ltA_tr (a b c : S71) : ltA a b = true → ltA b c = true → ltA a c = true := bl_tr _ _ _
theorem ltA_asy (a b : S71) : ltA a b = true → ltA b a = false := bl_asy _ _
theorem prs_at (l : List S71) (i : Nat) (h : i < l.length) : (l.map (fun y => (y.f0, y.f1))).getD i zP = ((l[i]'h).f0, (l[i]'h).f1) := by
  rw [List.getD_eq_getElem?_getD, List.getElem?_map, List.getElem?_eq_getElem h]; rfl
theorem evs_at (l : List S68) (i : Nat) (h : i < l.length) : (l.map evM).getD i zE = evM (l[i]'h) := by
  rw [List.getD_eq_getElem?_getD, List.getElem?_map, List.getElem?_eq_getElem h]; rfl
theorem tab_facts {E : List S68} (h : tabOk (E.map evM) = true) : E.length ≤ 3 ∧ E.Pairwise (fun a b => ltE a b = true) ∧ ∀ x ∈ E, goodE (evM x) = true := by
  unfold tabOk at h
  rw [Bool.and_eq_true, List.all_eq_true, decide_eq_true_iff, List.length_map] at h
  obtain ⟨h1, h2⟩ := h
  have hat : ∀ i (hi : i < E.length), goodE (evM (E[i]'hi)) = true ∧ (i = 0 ∨ ((E.map evM).getD (i - 1) zE).s0 < (evM (E[i]'hi)).s0) := fun i hi => by
    have q := h1 i (List.mem_range.mpr hi)
    unfold entAt at q
    rw [evs_at E i hi, Bool.and_eq_true, Bool.or_eq_true, decide_eq_true_iff, decide_eq_true_iff] at q
    exact q
  refine ⟨h2, pair_of_adj ltE ltE_tr E (fun i hi => ?_), fun x hx => ?_⟩
  · have q := (hat (i + 1) hi).2.resolve_left (by omega)
    rw [Nat.add_sub_cancel, evs_at E i (by omega)] at q
    exact decide_eq_true q
  · obtain ⟨i, hi, rfl⟩ := List.getElem_of_mem hx
    exact (hat i hi).1
theorem ent_facts {x : S68} (h : goodE (evM x) = true) : x.f1.length ≤ 12 ∧ x.f1.Pairwise (fun a b => ltA a b = true) ∧ inB 0 2 x.f0.f0 = true ∧ ∀ y ∈ x.f1, (y.f0.size : Int) = x.f0.f1 := by
  unfold goodE at h
  simp only [Bool.and_eq_true] at h
  obtain ⟨h1, _, h3, h4, _⟩ := h
  have hl : (evM x).L.length = x.f1.length := List.length_map ..
  rw [hl] at h1 h4
  rw [List.all_eq_true] at h1
  have hat : ∀ i (hi : i < x.f1.length), (((x.f1[i]'hi).f0.size : Int) = x.f0.f1) ∧ (i = 0 ∨ Op.bytesLess ((x.f1.map (fun y => (y.f0, y.f1))).getD (i - 1) zP).1.toList (x.f1[i]'hi).f0.toList = true) := fun i hi => by
    have q := h1 i (List.mem_range.mpr hi)
    unfold srvAt at q
    have e : (evM x).L = x.f1.map (fun y => (y.f0, y.f1)) := rfl
    rw [e, prs_at x.f1 i hi, Bool.and_eq_true, Bool.and_eq_true, Bool.or_eq_true, decide_eq_true_iff, decide_eq_true_iff] at q
    exact ⟨q.1, q.2.1⟩
  refine ⟨by simpa using h4, pair_of_adj ltA ltA_tr x.f1 (fun i hi => ?_), h3, fun y hy => ?_⟩
  · have q := (hat (i + 1) hi).2.resolve_left (by omega)
    rw [Nat.add_sub_cancel, prs_at x.f1 i (by omega)] at q
    exact q
  · obtain ⟨i, hi, rfl⟩ := List.getElem_of_mem hy
    exact (hat i hi).1
end Go.Proofs.YtnghcnkffbjddaaDoorV.Aes
