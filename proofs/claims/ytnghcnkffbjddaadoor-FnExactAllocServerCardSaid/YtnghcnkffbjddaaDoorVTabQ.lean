/- What the laws' functions over tables tell: sizes, copies, comparisons. Conditions: none. -/
import Derived.Test.YtnghcnkffbjddaaDoorVTab4
import Derived.Test.YtnghcnkffbjddaaDoorPImplMx3
namespace Go.Proofs.YtnghcnkffbjddaaDoorV.Aes
open Go.RowKit Go.Proofs.YtnghcnkffbjddaaDoorV.PrintWords Go.Proofs.YtnghcnkffbjddaaDoorV.PrintLast Go.Proofs.YtnghcnkffbjddaaDoorV.PrintMore Go.Proofs.YtnghcnkffbjddaaDoorV.Mem
set_option linter.unusedVariables false
set_option linter.unusedSimpArgs false

open Go.Proofs.YtnghcnkffbjddaaDoor.PImplM
theorem drop_at {α : Type} (l : List α) (i : Nat) (h : i < l.length) : l.drop i = l[i]'h :: l.drop (i + 1) := List.drop_eq_getElem_cons h
theorem rA8 (l : List S175) (i : Nat) (h : i < l.length) : rd_T175 l (i : Int) = l[i]'h := by
  unfold rd_T175
  rw [Int.toNat_natCast, List.getD_eq_getElem?_getD, List.getElem?_eq_getElem h]; rfl
theorem rE8 (l : List S104) (i : Nat) (h : i < l.length) : rd_T104 l (i : Int) = l[i]'h := by
  unfold rd_T104
  rw [Int.toNat_natCast, List.getD_eq_getElem?_getD, List.getElem?_eq_getElem h]; rfl
theorem rE6 (l : List S68) (i : Nat) (h : i < l.length) : rd_T68 l (i : Int) = l[i]'h := by
  unfold rd_T68
  rw [Int.toNat_natCast, List.getD_eq_getElem?_getD, List.getElem?_eq_getElem h]; rfl
theorem szA (a b : ByteArray) (x : Int) (ha : a.size ≤ 9223372036854775807) (hb : b.size ≤ 9223372036854775807) (h0 : 0 ≤ x) (h1 : x ≤ 1048576) : ∃ r, laws_szAlloc.f a b x = some r ∧ (r < 0 ∨ (0 ≤ r ∧ r ≤ x ∧ a.size ≤ 1048576 ∧ b.size ≤ 1048576)) := by
  unfold laws_szAlloc.f
  have e1 : wrap64 (x - (a.size : Int)) = x - (a.size : Int) := by unfold wrap64; omega
  rw [e1]
  by_cases h2 : x - (a.size : Int) < 0
  · rw [if_pos h2]; exact ⟨_, rfl, .inl (by decide)⟩
  · have e2 : wrap64 (x - (a.size : Int) - (b.size : Int)) = x - (a.size : Int) - (b.size : Int) := by unfold wrap64; omega
    rw [if_neg h2, e2]
    by_cases h3 : x - (a.size : Int) - (b.size : Int) < 0
    · rw [if_pos h3]; exact ⟨_, rfl, .inl (by decide)⟩
    · rw [if_neg h3]; exact ⟨_, rfl, .inr ⟨by omega, by omega, by omega, by omega⟩⟩
theorem szAS_loop (l : List S175) (hl : l.length ≤ 1048576) (hw : ∀ y, y ∈ l → y.f0.size ≤ 9223372036854775807 ∧ y.f1.size ≤ 9223372036854775807) : ∀ (m k i : Nat) (x : Int), l.length = i + m → m < k → 0 ≤ x → x ≤ 1048576 →
    ∃ r, laws_szAllocS.l0 k l x (i : Int) = some r ∧ (r < 0 ∨ (0 ≤ r ∧ r ≤ x ∧ ∀ y, y ∈ l.drop i → y.f0.size ≤ 1048576 ∧ y.f1.size ≤ 1048576))
  | 0, k, i, x, hd, hk, h0, h1 => by
    obtain ⟨k, rfl⟩ : ∃ m, k = m + 1 := ⟨k - 1, by omega⟩
    rw [laws_szAllocS.l0, if_neg (by omega), List.drop_eq_nil_of_le (by omega)]
    exact ⟨_, rfl, .inr ⟨h0, Int.le_refl _, fun y hy => (by cases hy)⟩⟩
  | m + 1, k, i, x, hd, hk, h0, h1 => by
    obtain ⟨k, rfl⟩ : ∃ m, k = m + 1 := ⟨k - 1, by omega⟩
    have hi : i < l.length := by omega
    have e : wrap64 ((i : Int) + 1) = ((i + 1 : Nat) : Int) := by unfold wrap64; omega
    obtain ⟨hs0, hs1⟩ := hw _ (List.getElem_mem hi)
    obtain ⟨r, hr, hr2⟩ := szA (l[i]'hi).f0 (l[i]'hi).f1 x hs0 hs1 h0 h1
    rw [laws_szAllocS.l0, if_pos (by omega), if_pos (by omega), rA8 l i hi, hr, e]
    simp only [Option.bind_some]
    rcases hr2 with hneg | ⟨q0, q1, q2, q3⟩
    · rw [if_pos hneg]; exact ⟨_, rfl, .inl (by decide)⟩
    · rw [if_neg (by omega)]
      obtain ⟨r', hr', h'⟩ := szAS_loop l hl hw m k (i + 1) r (by omega) (by omega) q0 (by omega)
      refine ⟨r', hr', ?_⟩
      rcases h' with h' | ⟨p0, p1, p2⟩
      · exact .inl h'
      · refine .inr ⟨p0, by omega, fun y hy => ?_⟩
        rw [drop_at l i hi] at hy
        rcases List.mem_cons.mp hy with rfl | hy
        · exact ⟨q2, q3⟩
        · exact p2 y hy
theorem szAS (k : Nat) (l : List S175) (x : Int) (hll : l.length ≤ 9223372036854775807) (hw : ∀ y, y ∈ l → y.f0.size ≤ 9223372036854775807 ∧ y.f1.size ≤ 9223372036854775807) (h0 : 0 ≤ x) (h1 : x ≤ 1048576) (hk : 1048577 < k) :
    ∃ r, laws_szAllocS.f k l x = some r ∧ (r < 0 ∨ (0 ≤ r ∧ r ≤ x ∧ l.length ≤ 1048576 ∧ ∀ y, y ∈ l → y.f0.size ≤ 1048576 ∧ y.f1.size ≤ 1048576)) := by
  unfold laws_szAllocS.f
  have e : wrap64 (x - (l.length : Int)) = x - (l.length : Int) := by unfold wrap64; omega
  rw [e]
  by_cases h : x - (l.length : Int) < 0
  · rw [if_pos h]; exact ⟨_, rfl, .inl (by decide)⟩
  · rw [if_neg h]
    obtain ⟨r, hr, h2⟩ := szAS_loop l (by omega) hw l.length k 0 (x - (l.length : Int)) (by omega) (by omega) (by omega) (by omega)
    refine ⟨r, hr, ?_⟩
    rcases h2 with h2 | ⟨p0, p1, p2⟩
    · exact .inl h2
    · exact .inr ⟨p0, by omega, by omega, fun y hy => p2 y (by simpa using hy)⟩
def wfE (y : S104) : Prop := y.f0.f3.size ≤ 9223372036854775807 ∧ ∀ z, z ∈ y.f1 → z.f0.size ≤ 9223372036854775807 ∧ z.f1.size ≤ 9223372036854775807
def okS4 (y : S104) : Prop := y.f1.length ≤ 1048576 ∧ ∀ z, z ∈ y.f1 → z.f0.size ≤ 1048576 ∧ z.f1.size ≤ 1048576
theorem szEn (k : Nat) (y : S104) (x : Int) (hy : wfE y) (hll : y.f1.length ≤ 9223372036854775807) (h0 : 0 ≤ x) (h1 : x ≤ 1048576) (hk : 1048577 < k) :
    ∃ r, laws_szEntry.f k y.f0.f0 y.f0.f1 y.f0.f2 y.f0.f3 y.f0.f4 y.f1 y.f2 x = some r ∧ (r < 0 ∨ (0 ≤ r ∧ r ≤ x ∧ okS4 y)) := by
  unfold laws_szEntry.f laws_szIdConfig.f
  have h3 := hy.1
  have e : wrap64 (x - (y.f0.f3.size : Int)) = x - (y.f0.f3.size : Int) := by unfold wrap64; omega
  rw [e]
  by_cases h : x - (y.f0.f3.size : Int) < 0
  · rw [if_pos h]
    simp only [Option.bind_some]
    rw [if_pos (by decide)]; exact ⟨_, rfl, .inl (by decide)⟩
  · rw [if_neg h]
    simp only [Option.bind_some]
    rw [if_neg h]
    obtain ⟨r, hr, h2⟩ := szAS k y.f1 (x - (y.f0.f3.size : Int)) hll hy.2 (by omega) (by omega) hk
    rw [hr]
    simp only [Option.bind_some]
    rcases h2 with h2 | ⟨p0, p1, p2, p3⟩
    · rw [if_pos h2]; exact ⟨_, rfl, .inl (by decide)⟩
    · rw [if_neg (by omega)]; exact ⟨_, rfl, .inr ⟨p0, by omega, p2, p3⟩⟩
theorem szEnS_loop (l : List S104) (hl : l.length ≤ 1048576) (hw : ∀ y, y ∈ l → wfE y ∧ y.f1.length ≤ 9223372036854775807) : ∀ (m k i : Nat) (x : Int), l.length = i + m → m + 1048577 < k → 0 ≤ x → x ≤ 1048576 →
    ∃ r, laws_szEntryS.l0 k l x (i : Int) = some r ∧ (r < 0 ∨ (0 ≤ r ∧ r ≤ x ∧ ∀ y, y ∈ l.drop i → okS4 y))
  | 0, k, i, x, hd, hk, h0, h1 => by
    obtain ⟨k, rfl⟩ : ∃ m, k = m + 1 := ⟨k - 1, by omega⟩
    rw [laws_szEntryS.l0, if_neg (by omega), List.drop_eq_nil_of_le (by omega)]
    exact ⟨_, rfl, .inr ⟨h0, Int.le_refl _, fun y hy => (by cases hy)⟩⟩
  | m + 1, k, i, x, hd, hk, h0, h1 => by
    obtain ⟨k, rfl⟩ : ∃ m, k = m + 1 := ⟨k - 1, by omega⟩
    have hi : i < l.length := by omega
    have e : wrap64 ((i : Int) + 1) = ((i + 1 : Nat) : Int) := by unfold wrap64; omega
    obtain ⟨hs0, hs1⟩ := hw _ (List.getElem_mem hi)
    obtain ⟨r, hr, hr2⟩ := szEn k (l[i]'hi) x hs0 hs1 h0 h1 (by omega)
    rw [laws_szEntryS.l0, if_pos (by omega), if_pos (by omega), rE8 l i hi, hr, e]
    simp only [Option.bind_some]
    rcases hr2 with hneg | ⟨q0, q1, q2⟩
    · rw [if_pos hneg]; exact ⟨_, rfl, .inl (by decide)⟩
    · rw [if_neg (by omega)]
      obtain ⟨r', hr', h'⟩ := szEnS_loop l hl hw m k (i + 1) r (by omega) (by omega) q0 (by omega)
      refine ⟨r', hr', ?_⟩
      rcases h' with h' | ⟨p0, p1, p2⟩
      · exact .inl h'
      · refine .inr ⟨p0, by omega, fun y hy => ?_⟩
        rw [drop_at l i hi] at hy
        rcases List.mem_cons.mp hy with rfl | hy
        · exact q2
        · exact p2 y hy
theorem szT (k : Nat) (l : List S104) (hll : l.length ≤ 9223372036854775807) (hw : ∀ y, y ∈ l → wfE y ∧ y.f1.length ≤ 9223372036854775807) (hk : 2 * 1048577 < k) :
    ∃ r, laws_szTable.f k l 1048576 = some r ∧ (¬ r < 0 → l.length ≤ 1048576 ∧ ∀ y, y ∈ l → okS4 y) := by
  unfold laws_szTable.f laws_szEntryS.f
  have e : wrap64 (1048576 - (l.length : Int)) = 1048576 - (l.length : Int) := by unfold wrap64; omega
  rw [e]
  by_cases h : 1048576 - (l.length : Int) < 0
  · rw [if_pos h]
    simp only [Option.bind_some]
    rw [if_pos (by decide)]; exact ⟨_, rfl, fun q => absurd (by decide) q⟩
  · rw [if_neg h]
    obtain ⟨r, hr, h2⟩ := szEnS_loop l (by omega) hw l.length k 0 (1048576 - (l.length : Int)) (by omega) (by omega) (by omega) (by omega)
    have h0 : ((0 : Nat) : Int) = 0 := rfl
    rw [h0] at hr
    rw [hr]
    simp only [Option.bind_some]
    rcases h2 with h2 | ⟨p0, p1, p2⟩
    · rw [if_pos h2]; exact ⟨_, rfl, fun q => absurd (by decide) q⟩
    · rw [if_neg (by omega)]; exact ⟨_, rfl, fun _ => ⟨by omega, fun y hy => p2 y (by simpa using hy)⟩⟩
def cvA (x : S175) : S71 := ⟨x.f0, x.f1⟩
def cvE (x : S104) : S68 := ⟨⟨x.f0.f0, x.f0.f1, x.f0.f2, x.f0.f3, x.f0.f4⟩, x.f1.map cvA, x.f2⟩
theorem toA_loop (l : List S175) (hl : l.length ≤ 1048576) : ∀ (m k i : Nat) (x : List S71), l.length = i + m → x.length = l.length → x.take i = (l.map cvA).take i → m < k → laws_toAllocS.l0 k l x (i : Int) = some (l.map cvA)
  | 0, k, i, x, hd, hx, he, hk => by
    obtain ⟨k, rfl⟩ : ∃ m, k = m + 1 := ⟨k - 1, by omega⟩
    rw [laws_toAllocS.l0, if_neg (by omega)]
    rw [List.take_of_length_le (by omega), List.take_of_length_le (by rw [List.length_map]; omega)] at he
    rw [he]
  | m + 1, k, i, x, hd, hx, he, hk => by
    obtain ⟨k, rfl⟩ : ∃ m, k = m + 1 := ⟨k - 1, by omega⟩
    have e : wrap64 ((i : Int) + 1) = ((i + 1 : Nat) : Int) := by unfold wrap64; omega
    rw [laws_toAllocS.l0, if_pos (by omega), if_pos (by omega), rA8 l i (by omega)]
    unfold laws_toAlloc.f
    simp only [Option.bind_some]
    rw [if_pos (by omega), e, Int.toNat_natCast]
    refine toA_loop l hl m k (i + 1) _ (by omega) (by rw [List.length_set]; exact hx) ?_ (by omega)
    rw [List.take_succ_eq_append_getElem (by rw [List.length_set]; omega), List.take_succ_eq_append_getElem (by rw [List.length_map]; omega), List.take_set, List.set_eq_of_length_le (by rw [List.length_take]; omega), he, List.getElem_set_self, List.getElem_map]
    rfl
theorem toA (k : Nat) (l : List S175) (hl : l.length ≤ 1048576) (hk : l.length < k) : laws_toAllocS.f k l = some (l.map cvA) := by
  unfold laws_toAllocS.f
  rw [if_pos (by omega), if_pos (by omega), Int.toNat_natCast]
  exact toA_loop l hl l.length k 0 _ (by omega) (by simp) (by simp) hk
theorem toE_loop (l : List S104) (hl : l.length ≤ 1048576) (hw : ∀ y, y ∈ l → y.f1.length ≤ 1048576) : ∀ (m k i : Nat) (x : List S68), l.length = i + m → x.length = l.length → x.take i = (l.map cvE).take i → m + 1048577 < k → laws_toEntryS.l0 k l x (i : Int) = some (l.map cvE)
  | 0, k, i, x, hd, hx, he, hk => by
    obtain ⟨k, rfl⟩ : ∃ m, k = m + 1 := ⟨k - 1, by omega⟩
    rw [laws_toEntryS.l0, if_neg (by omega)]
    rw [List.take_of_length_le (by omega), List.take_of_length_le (by rw [List.length_map]; omega)] at he
    rw [he]
  | m + 1, k, i, x, hd, hx, he, hk => by
    obtain ⟨k, rfl⟩ : ∃ m, k = m + 1 := ⟨k - 1, by omega⟩
    have hi : i < l.length := by omega
    have e : wrap64 ((i : Int) + 1) = ((i + 1 : Nat) : Int) := by unfold wrap64; omega
    have h1 := hw _ (List.getElem_mem hi)
    rw [laws_toEntryS.l0, if_pos (by omega), if_pos (by omega), rE8 l i hi]
    unfold laws_toEntry.f laws_toIdConfig.f
    rw [toA k _ h1 (by omega)]
    simp only [Option.bind_some]
    rw [if_pos (by omega), e, Int.toNat_natCast]
    refine toE_loop l hl hw m k (i + 1) _ (by omega) (by rw [List.length_set]; exact hx) ?_ (by omega)
    rw [List.take_succ_eq_append_getElem (by rw [List.length_set]; omega), List.take_succ_eq_append_getElem (by rw [List.length_map]; omega), List.take_set, List.set_eq_of_length_le (by rw [List.length_take]; omega), he, List.getElem_set_self, List.getElem_map]
    rfl
theorem toT (k : Nat) (l : List S104) (hl : l.length ≤ 1048576) (hw : ∀ y, y ∈ l → y.f1.length ≤ 1048576) (hk : 2 * 1048577 < k) : laws_toTable.f k l = some (l.map cvE) := by
  unfold laws_toTable.f laws_toEntryS.f
  rw [if_pos (by omega), if_pos (by omega), Int.toNat_natCast]
  have h := toE_loop l hl hw l.length k 0 (List.replicate l.length z68) (by omega) (by simp) (by simp) (by omega)
  have h0 : ((0 : Nat) : Int) = 0 := rfl
  rw [h0] at h
  rw [h]; rfl
theorem eqA_loop (l : List S71) (hl : l.length ≤ 1048576) : ∀ (m k i : Nat), l.length = i + m → m < k → laws_eqAllocS.l0 k l l (i : Int) = some true
  | 0, k, i, hd, hk => by
    obtain ⟨k, rfl⟩ : ∃ m, k = m + 1 := ⟨k - 1, by omega⟩
    rw [laws_eqAllocS.l0, if_neg (by omega)]
  | m + 1, k, i, hd, hk => by
    obtain ⟨k, rfl⟩ : ∃ m, k = m + 1 := ⟨k - 1, by omega⟩
    have e : wrap64 ((i : Int) + 1) = ((i + 1 : Nat) : Int) := by unfold wrap64; omega
    rw [laws_eqAllocS.l0, if_pos (by omega), if_pos (by omega), if_pos (by omega), laws_eqAlloc.f, if_pos rfl, if_pos rfl]
    simp only [Option.bind_some]
    rw [if_pos trivial, e]
    exact eqA_loop l hl m k (i + 1) (by omega) (by omega)
theorem eqA (k : Nat) (l : List S71) (hl : l.length ≤ 1048576) (hk : l.length < k) : laws_eqAllocS.f k l l = some true := by
  unfold laws_eqAllocS.f
  rw [if_pos rfl]
  exact eqA_loop l hl l.length k 0 (by omega) hk
theorem eqE_loop (l : List S68) (hl : l.length ≤ 1048576) (hw : ∀ y, y ∈ l → y.f1.length ≤ 1048576) : ∀ (m k i : Nat), l.length = i + m → m + 1048577 < k → laws_eqEntryS.l0 k l l (i : Int) = some true
  | 0, k, i, hd, hk => by
    obtain ⟨k, rfl⟩ : ∃ m, k = m + 1 := ⟨k - 1, by omega⟩
    rw [laws_eqEntryS.l0, if_neg (by omega)]
  | m + 1, k, i, hd, hk => by
    obtain ⟨k, rfl⟩ : ∃ m, k = m + 1 := ⟨k - 1, by omega⟩
    have hi : i < l.length := by omega
    have e : wrap64 ((i : Int) + 1) = ((i + 1 : Nat) : Int) := by unfold wrap64; omega
    have h1 := hw _ (List.getElem_mem hi)
    rw [laws_eqEntryS.l0, if_pos (by omega), if_pos (by omega), if_pos (by omega), rE6 l i hi, laws_eqEntry.f, laws_eqIdConfig.f, if_pos rfl, if_pos rfl, if_pos rfl, if_pos rfl, bne_self_eq_false, if_neg (by decide)]
    simp only [Option.bind_some]
    rw [if_pos trivial, eqA k _ h1 (by omega)]
    simp only [Option.bind_some]
    rw [if_pos trivial, if_pos trivial]
    simp only [Option.bind_some]
    rw [if_pos trivial, e]
    exact eqE_loop l hl hw m k (i + 1) (by omega) (by omega)
theorem eqT (k : Nat) (l : List S68) (hl : l.length ≤ 1048576) (hw : ∀ y, y ∈ l → y.f1.length ≤ 1048576) (hk : 2 * 1048577 < k) : laws_eqTable.f k l l = some true := by
  unfold laws_eqTable.f laws_eqEntryS.f
  rw [if_pos rfl]
  have h := eqE_loop l hl hw l.length k 0 (by omega) (by omega)
  have h0 : ((0 : Nat) : Int) = 0 := rfl
  rw [h0] at h
  rw [h]
  simp
end Go.Proofs.YtnghcnkffbjddaaDoorV.Aes
