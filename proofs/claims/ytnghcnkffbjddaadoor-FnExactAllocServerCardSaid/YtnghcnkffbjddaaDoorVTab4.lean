/- The program's GoodTable: what it tells, in one. Conditions: none beyond the sizes that it names. -/
import Derived.Test.YtnghcnkffbjddaaDoorVTab3
namespace Go.Proofs.YtnghcnkffbjddaaDoorV.Aes
open Go.RowKit Go.Proofs.YtnghcnkffbjddaaDoorV.PrintWords Go.Proofs.YtnghcnkffbjddaaDoorV.PrintLast Go.Proofs.YtnghcnkffbjddaaDoorV.PrintMore Go.Proofs.YtnghcnkffbjddaaDoorV.Mem
set_option linter.unusedVariables false
set_option linter.unusedSimpArgs false

def okEB (x : Ent) : Bool := decide (x.L.length ≤ 1048576) && x.L.all (fun p => decide (p.1.size ≤ 1048576) && decide (p.2.size ≤ 1048576))
def okTab (E : List Ent) : Bool := decide (E.length ≤ 1048576) && E.all okEB
theorem okEB_iff (x : Ent) : okEB x = true ↔ okE x := by
  unfold okEB okE
  rw [Bool.and_eq_true, decide_eq_true_iff, List.all_eq_true]
  constructor
  · rintro ⟨h1, h2⟩
    refine ⟨h1, fun p hp => ?_⟩
    have := h2 p hp
    rw [Bool.and_eq_true, decide_eq_true_iff, decide_eq_true_iff] at this
    exact this
  · rintro ⟨h1, h2⟩
    refine ⟨h1, fun p hp => ?_⟩
    rw [Bool.and_eq_true, decide_eq_true_iff, decide_eq_true_iff]
    exact h2 p hp
theorem okTab_iff (E : List Ent) : okTab E = true ↔ E.length ≤ 1048576 ∧ ∀ x, x ∈ E → okE x := by
  unfold okTab
  rw [Bool.and_eq_true, decide_eq_true_iff, List.all_eq_true]
  exact ⟨fun h => ⟨h.1, fun x hx => (okEB_iff x).mp (h.2 x hx)⟩, fun h => ⟨h.1, fun x hx => (okEB_iff x).mpr (h.2 x hx)⟩⟩
def tableA (E : List Ent) : Option Bool := if okTab E = true then some (tabOk E) else none
theorem tableA_calls (A : Option Addr) (c : Nat) (E : List Ent) (r : Bool) (w : World) (hr : ReadsRow (entK w) 7 w A E.length E) (h : tableA E = some r) :
    Calls Tryd.prog 30 #[.agg #[.slice A E.length c]] w fun e' w' => e' = .returned (.bool r) ∧ Below w.heap.size w w' := by
  unfold tableA at h
  by_cases hok : okTab E = true
  · rw [if_pos hok] at h
    injection h with h
    subst h
    obtain ⟨h1, h2⟩ := (okTab_iff E).mp hok
    exact table_walk A c E w hr h1 h2
  · rw [if_neg hok] at h; cases h
theorem reads_map {α β : Type} {R : α → List Value → Prop} {R' : β → List Value → Prop} {sz : Nat} {w : World} {A : Option Addr} {n : Nat} {xs : List α} (f : α → β) (h : ReadsRow R sz w A n xs) (hf : ∀ x cs, R x cs → R' (f x) cs) : ReadsRow R' sz w A n (xs.map f) := by
  refine ⟨by rw [List.length_map]; exact h.1, h.2.1, fun hn => ?_⟩
  obtain ⟨ad, e, hc⟩ := h.2.2 hn
  refine ⟨ad, e, fun j p hp => ?_⟩
  rw [List.getElem?_map] at hp
  obtain ⟨x, hx, rfl⟩ := Option.map_eq_some_iff.mp hp
  obtain ⟨c, h1, h2, h3⟩ := hc j x hx
  exact ⟨c, h1, hf _ _ h2, h3⟩
end Go.Proofs.YtnghcnkffbjddaaDoorV.Aes
