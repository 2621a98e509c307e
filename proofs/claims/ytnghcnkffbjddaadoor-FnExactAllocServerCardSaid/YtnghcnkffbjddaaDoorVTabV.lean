/- What the reference's own helpers over tables tell. Conditions: at most 1048576 entries and servers. -/
import Derived.Test.YtnghcnkffbjddaaDoorVTab11
import Derived.Test.YtnghcnkffbjddaaDoorPImplMx4
namespace Go.Proofs.YtnghcnkffbjddaaDoorV.Aes
open Go.RowKit Go.Proofs.YtnghcnkffbjddaaDoorV.PrintWords Go.Proofs.YtnghcnkffbjddaaDoorV.PrintLast Go.Proofs.YtnghcnkffbjddaaDoorV.PrintMore Go.Proofs.YtnghcnkffbjddaaDoorV.Mem
set_option linter.unusedVariables false
set_option linter.unusedSimpArgs false

open Go.Proofs.YtnghcnkffbjddaaDoor.PImplM
theorem own_loop (l : List S68) (hl : l.length ≤ 1048576) (hw : ∀ y, y ∈ l → y.f1.length ≤ 1048576) : ∀ (m k i : Nat), l.length = i + m → m < k → spec_l8Own.l0 k (l.take i) l (l.length : Int) (i : Int) = some l
  | 0, k, i, hd, hk => by
    obtain ⟨k, rfl⟩ : ∃ m, k = m + 1 := ⟨k - 1, by omega⟩
    rw [spec_l8Own.l0, if_neg (by omega), List.take_of_length_le (by omega)]
  | m + 1, k, i, hd, hk => by
    obtain ⟨k, rfl⟩ : ∃ m, k = m + 1 := ⟨k - 1, by omega⟩
    have hi : i < l.length := by omega
    have e : wrap64 ((i : Int) + 1) = ((i + 1 : Nat) : Int) := by unfold wrap64; omega
    have h1 := hw _ (List.getElem_mem hi)
    rw [spec_l8Own.l0, if_pos (by omega), if_pos (by omega), if_pos (by omega), rdM l i hi]
    simp only [Option.bind_some]
    rw [if_pos (by simp only [List.length_nil]; omega), if_pos (by rw [List.length_take]; omega), e]
    have ht : l.take i ++ [(⟨(⟨(l[i]'hi).f0.f0, (l[i]'hi).f0.f1, (l[i]'hi).f0.f2, (l[i]'hi).f0.f3, (l[i]'hi).f0.f4⟩ : S47), [] ++ (l[i]'hi).f1, (l[i]'hi).f2⟩ : S68)] = l.take (i + 1) := by
      rw [List.take_succ_eq_append_getElem hi, List.nil_append]
    rw [ht]
    exact own_loop l hl hw m k (i + 1) (by omega) (by omega)
theorem own_tells (k : Nat) (l : List S68) (hl : l.length ≤ 1048576) (hw : ∀ y, y ∈ l → y.f1.length ≤ 1048576) (hk : l.length < k) : spec_l8Own.f k l = some l := own_loop l hl hw l.length k 0 (by omega) hk
theorem ev_at (l : List S68) (i : Nat) (h : i < l.length) : ((l.map evM).getD i zE).s0 = (l[i]'h).f0.f0 := by
  rw [List.getD_eq_getElem?_getD, List.getElem?_map, List.getElem?_eq_getElem h]; rfl
theorem at_loop (slot : Int) (l : List S68) (hl : l.length ≤ 1048576) : ∀ (m k i : Nat), l.length = i + m → m < k → (∀ j, j < i → ¬ ((l.map evM).getD j zE).s0 = slot) → spec_l8At.l0 k slot l (l.length : Int) (i : Int) = some (idxOf slot (l.map evM))
  | 0, k, i, hd, hk, hb => by
    obtain ⟨k, rfl⟩ : ∃ m, k = m + 1 := ⟨k - 1, by omega⟩
    rw [spec_l8At.l0, if_neg (by omega), idx_miss slot (l.map evM) (fun j hj => hb j (by rw [List.length_map] at hj; omega))]
  | m + 1, k, i, hd, hk, hb => by
    obtain ⟨k, rfl⟩ : ∃ m, k = m + 1 := ⟨k - 1, by omega⟩
    have hi : i < l.length := by omega
    have e : wrap64 ((i : Int) + 1) = ((i + 1 : Nat) : Int) := by unfold wrap64; omega
    rw [spec_l8At.l0, if_pos (by omega), if_pos (by omega), if_pos (by omega), rdM l i hi]
    by_cases h : (l[i]'hi).f0.f0 = slot
    · rw [if_pos h, idx_hit slot (l.map evM) i (by rw [List.length_map]; exact hi) (by rw [ev_at l i hi]; exact h) hb]
    · rw [if_neg h, e]
      refine at_loop slot l hl m k (i + 1) (by omega) (by omega) (fun j hj => ?_)
      by_cases hji : j < i
      · exact hb j hji
      · obtain rfl : j = i := by omega
        rw [ev_at l j hi]; exact h
theorem at_tells (k : Nat) (slot : Int) (l : List S68) (hl : l.length ≤ 1048576) (hk : l.length < k) : spec_l8At.f k l slot = some (idxOf slot (l.map evM)) := at_loop slot l hl l.length k 0 (by omega) hk (fun j hj => absurd hj (Nat.not_lt_zero _))
/-- Which tables the laws speak of. -/
def OkE (E : List S68) : Prop := okTab (E.map evM) = true
theorem ok_small {E : List S68} (h : OkE E) : E.length ≤ 1048576 ∧ ∀ y ∈ E, y.f1.length ≤ 1048576 := by
  obtain ⟨h1, h2⟩ := (okTab_iff _).mp h
  rw [List.length_map] at h1
  refine ⟨h1, fun y hy => ?_⟩
  have := (h2 (evM y) (List.mem_map.mpr ⟨y, hy, rfl⟩)).1
  have e : (evM y).L.length = y.f1.length := List.length_map ..
  omega
theorem good_tells {E : List S68} (h : OkE E) : spec_GoodTable.f E = some (tabOk (E.map evM)) := by
  have e : E.map spec_GoodTable.ev = E.map evM := rfl
  unfold spec_GoodTable.f tableA
  rw [e, if_pos (show okTab (E.map evM) = true from h)]
end Go.Proofs.YtnghcnkffbjddaaDoorV.Aes
