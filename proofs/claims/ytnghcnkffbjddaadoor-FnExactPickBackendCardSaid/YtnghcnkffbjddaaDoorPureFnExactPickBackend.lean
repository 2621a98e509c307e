/- The statement over numbers and lists that is left of the law FnExactPickBackend: the program's function and the reference's tell the same for all arguments. Conditions: none beyond the kinds' own bounds. -/
import Derived.Test.YtnghcnkffbjddaaDoorPFnExactPickBackendx1
set_option linter.unusedVariables false
set_option linter.unusedSimpArgs false
namespace Go.Proofs.YtnghcnkffbjddaaDoor.Pure
open Go.RowKit Go.Proofs.YtnghcnkffbjddaaDoor.PFnExactPickBackend Go.Proofs.YtnghcnkffbjddaaDoorV.PrintWords Go.Proofs.YtnghcnkffbjddaaDoorV.PrintLast

theorem rdS (l : List ByteArray) (i : Nat) (h : i < l.length) : rdOf ByteArray.empty l (i : Int) = l[i]'h := by simp [rdOf, List.getD_eq_getElem?_getD, List.getElem?_eq_getElem h]
theorem szS_loop (l : List ByteArray) (hl : l.length ≤ 1048576) (hw : ∀ s, s ∈ l → s.size ≤ 9223372036854775807) : ∀ (m k i : Nat) (x : Int), l.length = i + m → m < k → 0 ≤ x → x ≤ 1048576 → (∀ j (h : j < l.length), j < i → (l[j]'h).size ≤ 1048576) →
    ∃ r, laws_szStringS.l0 k l x (i : Int) = some r ∧ (¬ r < 0 → ∀ j (h : j < l.length), (l[j]'h).size ≤ 1048576)
  | 0, k, i, x, hd, hk, h0, h1, hp => by
    obtain ⟨k, rfl⟩ : ∃ m, k = m + 1 := ⟨k - 1, by omega⟩
    rw [laws_szStringS.l0, if_neg (by omega)]
    exact ⟨_, rfl, fun _ j h => hp j h (by omega)⟩
  | m + 1, k, i, x, hd, hk, h0, h1, hp => by
    obtain ⟨k, rfl⟩ : ∃ m, k = m + 1 := ⟨k - 1, by omega⟩
    have hi : i < l.length := by omega
    have hsz := hw (l[i]'hi) (List.getElem_mem hi)
    have e : wrap64 ((i : Int) + 1) = ((i + 1 : Nat) : Int) := by unfold wrap64; omega
    have e2 : wrap64 (x - ((l[i]'hi).size : Int)) = x - ((l[i]'hi).size : Int) := by unfold wrap64; omega
    rw [laws_szStringS.l0, if_pos (by omega), if_pos (by omega), rdS l i hi, e, e2]
    by_cases h : x - ((l[i]'hi).size : Int) < 0
    · rw [if_pos h]; exact ⟨_, rfl, fun q => absurd (by decide) q⟩
    · rw [if_neg h]
      exact szS_loop l hl hw m k (i + 1) _ (by omega) (by omega) (by omega) (by omega) (fun j hj hji => by
        by_cases q : j = i
        · subst q; omega
        · exact hp j hj (by omega))
theorem szS_tells (k : Nat) (l : List ByteArray) (x : Int) (h0 : 0 ≤ x) (h1 : x ≤ 1048576) (hl : l.length ≤ 9223372036854775807) (hw : ∀ s, s ∈ l → s.size ≤ 9223372036854775807) (hk : 1048577 < k) :
    ∃ r, laws_szStringS.f k l x = some r ∧ (¬ r < 0 → l.length ≤ 1048576 ∧ ∀ s, s ∈ l → s.size ≤ 1048576) := by
  unfold laws_szStringS.f
  have e : wrap64 (x - (l.length : Int)) = x - (l.length : Int) := by unfold wrap64; omega
  rw [e]
  by_cases h : x - (l.length : Int) < 0
  · rw [if_pos h]; exact ⟨_, rfl, fun q => absurd (by decide) q⟩
  · rw [if_neg h]
    obtain ⟨r, h2, h3⟩ := szS_loop l (by omega) hw l.length k 0 (x - (l.length : Int)) (by omega) (by omega) (by omega) (by omega) (fun j _ hj => absurd hj (Nat.not_lt_zero _))
    refine ⟨r, h2, fun q => ⟨by omega, fun s hs => ?_⟩⟩
    obtain ⟨j, hj, rfl⟩ := List.getElem_of_mem hs
    exact h3 q j hj
theorem toS_loop (l : List ByteArray) (hl : l.length ≤ 1048576) : ∀ (m k i : Nat) (x : List ByteArray), l.length = i + m → x.length = l.length → x.take i = l.take i → m < k → laws_toStringS.l0 k l x (i : Int) = some l
  | 0, k, i, x, hd, hx, he, hk => by
    obtain ⟨k, rfl⟩ : ∃ m, k = m + 1 := ⟨k - 1, by omega⟩
    rw [laws_toStringS.l0, if_neg (by omega)]
    rw [List.take_of_length_le (by omega), List.take_of_length_le (by omega)] at he
    rw [he]
  | m + 1, k, i, x, hd, hx, he, hk => by
    obtain ⟨k, rfl⟩ : ∃ m, k = m + 1 := ⟨k - 1, by omega⟩
    have e : wrap64 ((i : Int) + 1) = ((i + 1 : Nat) : Int) := by unfold wrap64; omega
    rw [laws_toStringS.l0, if_pos (by omega), if_pos (by omega), if_pos (by omega), e, Int.toNat_natCast, rdS l i (by omega)]
    refine toS_loop l hl m k (i + 1) _ (by omega) (by rw [List.length_set]; exact hx) ?_ (by omega)
    rw [List.take_succ_eq_append_getElem (by rw [List.length_set]; omega), List.take_succ_eq_append_getElem (by omega), List.take_set, List.set_eq_of_length_le (by rw [List.length_take]; omega), he, List.getElem_set_self]
theorem toS_tells (k : Nat) (l : List ByteArray) (hl : l.length ≤ 1048576) (hk : l.length < k) : laws_toStringS.f k l = some l := by
  unfold laws_toStringS.f
  rw [if_pos (by omega), if_pos (by omega), Int.toNat_natCast]
  exact toS_loop l hl l.length k 0 _ (by omega) (by simp) (by simp) hk
theorem eqS_loop (l : List ByteArray) (hl : l.length ≤ 1048576) : ∀ (m k i : Nat), l.length = i + m → m < k → laws_eqStringS.l0 k l l (i : Int) = some true
  | 0, k, i, hd, hk => by
    obtain ⟨k, rfl⟩ : ∃ m, k = m + 1 := ⟨k - 1, by omega⟩
    rw [laws_eqStringS.l0, if_neg (by omega)]
  | m + 1, k, i, hd, hk => by
    obtain ⟨k, rfl⟩ : ∃ m, k = m + 1 := ⟨k - 1, by omega⟩
    have e : wrap64 ((i : Int) + 1) = ((i + 1 : Nat) : Int) := by unfold wrap64; omega
    rw [laws_eqStringS.l0, if_pos (by omega), if_pos (by omega), if_pos (by omega), if_pos rfl, e]
    exact eqS_loop l hl m k (i + 1) (by omega) (by omega)
theorem eqS_tells (k : Nat) (l : List ByteArray) (hl : l.length ≤ 1048576) (hk : l.length < k) : laws_eqStringS.f k l l = some true := by
  unfold laws_eqStringS.f
  rw [if_pos rfl]
  exact eqS_loop l hl l.length k 0 (by omega) hk
theorem FnExactPickBackend : laws_FnExactPickBackend.Pure := by
  intro l s hl hw _
  refine ⟨3 * 1048577 + 3, ?_⟩
  unfold laws_FnExactPickBackend.f
  by_cases h0 : (s.size : Int) > 1048576
  · rw [if_pos h0]
  rw [if_neg h0]
  obtain ⟨r, hr, h⟩ := szS_tells (3 * 1048577 + 3) l 1048576 (by decide) (by decide) hl hw (by decide)
  rw [hr]
  simp only [Option.bind_some]
  by_cases hn : r < 0
  · rw [if_pos hn]
  rw [if_neg hn]
  obtain ⟨h1, h2⟩ := h hn
  obtain ⟨⟨r1, r2⟩, hp⟩ := Go.Proofs.YtnghcnkffbjddaaDoorV.Aes.pickA_some l s h1 h2
  rw [toS_tells _ l h1 (by omega)]
  simp only [Option.bind_some]
  unfold spec_PickBackend.f impl_PickBackend.f
  rw [hp]
  simp only [Option.bind_some]
  rw [if_pos trivial, bne_self_eq_false, laws_FnExactPickBackend.j0, if_neg (show ¬ (false = true) by decide), toS_tells _ l h1 (by omega)]
  simp only [Option.bind_some]
  rw [eqS_tells _ l h1 (by omega)]
  simp only [Option.bind_some]
  rw [if_pos trivial]

end Go.Proofs.YtnghcnkffbjddaaDoor.Pure
