/- The statement over numbers and lists that is left of the law FnExactRankBackends: the program's function and the reference's tell the same for all arguments. Conditions: none beyond the kinds' own bounds. -/
import Derived.Test.YtnghcnkffbjddaaDoorPFnExactRankBackendsx2
set_option linter.unusedVariables false
set_option linter.unusedSimpArgs false
namespace Go.Proofs.YtnghcnkffbjddaaDoor.Pure
open Go.RowKit Go.Proofs.YtnghcnkffbjddaaDoor.PFnExactRankBackends Go.Proofs.YtnghcnkffbjddaaDoorV.PrintWords Go.Proofs.YtnghcnkffbjddaaDoorV.PrintLast

theorem rdS (l : List ByteArray) (i : Nat) (h : i < l.length) : rdOf ByteArray.empty l (i : Int) = l[i]'h := by simp [rdOf, List.getD_eq_getElem?_getD, List.getElem?_eq_getElem h]
theorem szS_loop (l : List ByteArray) (hl : l.length ≤ 1048576) (hw : ∀ s, s ∈ l → s.size ≤ 9223372036854775807) : ∀ (m k i : Nat) (x : Int), l.length = i + m → m < k → 0 ≤ x → x ≤ 1048576 → (∀ j (h : j < l.length), j < i → (l[j]'h).size ≤ 1048576) →
    ∃ r, laws_szStringS.l0 k l x (i : Int) = some r ∧ (¬ r < 0 → ∀ j (h : j < l.length), (l[j]'h).size ≤ 1048576)
  | 0, k, i, x, hd, hk, h0, h1, hp => by
    obtain ⟨k, rfl⟩ : ∃ m, k = m + 1 := ⟨k - 1, by omega⟩
    rw [laws_szStringS.l0, if_neg (by omega)]
    exact ⟨_, rfl, fun _ j h => hp j h (by omega)⟩
  | m + 1, k, i, x, hd, hk, h0, h1, hp => by
    obtain ⟨k, rfl⟩ : ∃ m, k = m + 1 := ⟨k - 1, by omega⟩
    have hi : i < l.length := by omega
    have hsz := hw (l[i]'hi) (List.getElem_mem hi)
    have e : wrap64 ((i : Int) + 1) = ((i + 1 : Nat) : Int) := by unfold wrap64; omega
    have e2 : wrap64 (x - ((l[i]'hi).size : Int)) = x - ((l[i]'hi).size : Int) := by unfold wrap64; omega
    rw [laws_szStringS.l0, if_pos (by omega), if_pos (by omega), rdS l i hi, e, e2]
    by_cases h : x - ((l[i]'hi).size : Int) < 0
    · rw [if_pos h]; exact ⟨_, rfl, fun q => absurd (by decide) q⟩
    · rw [if_neg h]
      exact szS_loop l hl hw m k (i + 1) _ (by omega) (by omega) (by omega) (by omega) (fun j hj hji => by
        by_cases q : j = i
        · subst q; omega
        · exact hp j hj (by omega))
theorem szS_tells (k : Nat) (l : List ByteArray) (x : Int) (h0 : 0 ≤ x) (h1 : x ≤ 1048576) (hl : l.length ≤ 9223372036854775807) (hw : ∀ s, s ∈ l → s.size ≤ 9223372036854775807) (hk : 1048577 < k) :
    ∃ r, laws_szStringS.f k l x = some r ∧ (¬ r < 0 → l.length ≤ 1048576 ∧ ∀ s, s ∈ l → s.size ≤ 1048576) := by
  unfold laws_szStringS.f
  have e : wrap64 (x - (l.length : Int)) = x - (l.length : Int) := by unfold wrap64; omega
  rw [e]
  by_cases h : x - (l.length : Int) < 0
  · rw [if_pos h]; exact ⟨_, rfl, fun q => absurd (by decide) q⟩
  · rw [if_neg h]
    obtain ⟨r, h2, h3⟩ := szS_loop l (by omega) hw l.length k 0 (x - (l.length : Int)) (by omega) (by omega) (by omega) (by omega) (fun j _ hj => absurd hj (Nat.not_lt_zero _))
    refine ⟨r, h2, fun q => ⟨by omega, fun s hs => ?_⟩⟩
    obtain ⟨j, hj, rfl⟩ := List.getElem_of_mem hs
    exact h3 q j hj
theorem toS_loop (l : List ByteArray) (hl : l.length ≤ 1048576) : ∀ (m k i : Nat) (x : List ByteArray), l.length = i + m → x.length = l.length → x.take i = l.take i → m < k → laws_toStringS.l0 k l x (i : Int) = some l
  | 0, k, i, x, hd, hx, he, hk => by
    obtain ⟨k, rfl⟩ : ∃ m, k = m + 1 := ⟨k - 1, by omega⟩
    rw [laws_toStringS.l0, if_neg (by omega)]
    rw [List.take_of_length_le (by omega), List.take_of_length_le (by omega)] at he
    rw [he]
  | m + 1, k, i, x, hd, hx, he, hk => by
    obtain ⟨k, rfl⟩ : ∃ m, k = m + 1 := ⟨k - 1, by omega⟩
    have e : wrap64 ((i : Int) + 1) = ((i + 1 : Nat) : Int) := by unfold wrap64; omega
    rw [laws_toStringS.l0, if_pos (by omega), if_pos (by omega), if_pos (by omega), e, Int.toNat_natCast, rdS l i (by omega)]
    refine toS_loop l hl m k (i + 1) _ (by omega) (by rw [List.length_set]; exact hx) ?_ (by omega)
    rw [List.take_succ_eq_append_getElem (by rw [List.length_set]; omega), List.take_succ_eq_append_getElem (by omega), List.take_set, List.set_eq_of_length_le (by rw [List.length_take]; omega), he, List.getElem_set_self]
theorem toS_tells (k : Nat) (l : List ByteArray) (hl : l.length ≤ 1048576) (hk : l.length < k) : laws_toStringS.f k l = some l := by
  unfold laws_toStringS.f
  rw [if_pos (by omega), if_pos (by omega), Int.toNat_natCast]
  exact toS_loop l hl l.length k 0 _ (by omega) (by simp) (by simp) hk
theorem eqS_loop (l : List ByteArray) (hl : l.length ≤ 1048576) : ∀ (m k i : Nat), l.length = i + m → m < k → laws_eqStringS.l0 k l l (i : Int) = some true
  | 0, k, i, hd, hk => by
    obtain ⟨k, rfl⟩ : ∃ m, k = m + 1 := ⟨k - 1, by omega⟩
    rw [laws_eqStringS.l0, if_neg (by omega)]
  | m + 1, k, i, hd, hk => by
    obtain ⟨k, rfl⟩ : ∃ m, k = m + 1 := ⟨k - 1, by omega⟩
    have e : wrap64 ((i : Int) + 1) = ((i + 1 : Nat) : Int) := by unfold wrap64; omega
    rw [laws_eqStringS.l0, if_pos (by omega), if_pos (by omega), if_pos (by omega), if_pos rfl, e]
    exact eqS_loop l hl m k (i + 1) (by omega) (by omega)
theorem eqS_tells (k : Nat) (l : List ByteArray) (hl : l.length ≤ 1048576) (hk : l.length < k) : laws_eqStringS.f k l l = some true := by
  unfold laws_eqStringS.f
  rw [if_pos rfl]
  exact eqS_loop l hl l.length k 0 (by omega) hk
theorem nums_one (x : Int) : (strOfNums [x]).size = 1 := by simp [strOfNums]; rfl
theorem mt_loop : ∀ (d : Nat) (x : Int) (y : ByteArray), 0 ≤ x → x < (10 : Int) ^ d → x ≤ 4611686018427387904 → y.size + d ≤ 1000 → ∃ r, ∀ k, d < k → laws_markText.l0 k x y = some r
  | 0, x, y, h0, h1, hx, hy => by
    refine ⟨(⟨#[109]⟩ : ByteArray) ++ y, fun k hk => ?_⟩
    obtain ⟨k, rfl⟩ : ∃ m, k = m + 1 := ⟨k - 1, by omega⟩
    rw [laws_markText.l0, if_neg (by simp at h1; omega), if_pos (by omega)]
  | d + 1, x, y, h0, h1, hx, hy => by
    by_cases h : x > 0
    · have e : wrap64 (Int.tdiv x 10) = x / 10 := by
        rw [Int.tdiv_eq_ediv_of_nonneg h0]
        unfold wrap64; omega
      have h10 : x / 10 < (10 : Int) ^ d := by
        rw [Int.pow_succ] at h1
        exact Int.ediv_lt_of_lt_mul (by decide) h1
      obtain ⟨r, hr⟩ := mt_loop d (x / 10) (strOfNums [(wrap64 (48 + (Int.tmod x 10))) % 256] ++ y) (by omega) h10 (by omega) (by rw [ByteArray.size_append, nums_one]; omega)
      refine ⟨r, fun k hk => ?_⟩
      obtain ⟨k, rfl⟩ : ∃ m, k = m + 1 := ⟨k - 1, by omega⟩
      rw [laws_markText.l0, if_pos h]
      simp only [Option.bind_some]
      rw [if_pos (by rw [nums_one]; omega), e]
      exact hr k (by omega)
    · refine ⟨(⟨#[109]⟩ : ByteArray) ++ y, fun k hk => ?_⟩
      obtain ⟨k, rfl⟩ : ∃ m, k = m + 1 := ⟨k - 1, by omega⟩
      rw [laws_markText.l0, if_neg h, if_pos (by omega)]
theorem mt_any (x : Int) (h0 : 1 ≤ x) (h1 : x ≤ 2000000) : ∃ r, ∀ k, 10 < k → laws_markText.f k x = some r := by
  obtain ⟨r, hr⟩ := mt_loop 7 x (⟨#[]⟩ : ByteArray) (by omega) (by omega) (by omega) (by decide)
  refine ⟨r, fun k hk => ?_⟩
  unfold laws_markText.f
  rw [if_neg (by omega)]
  exact hr k (by omega)
theorem mt_all : ∃ mt : Int → ByteArray, ∀ x, 1 ≤ x → x ≤ 2000000 → ∀ k, 10 < k → laws_markText.f k x = some (mt x) := by
  refine ⟨fun x => if h : 1 ≤ x ∧ x ≤ 2000000 then (mt_any x h.1 h.2).choose else (⟨#[]⟩ : ByteArray), fun x h0 h1 k hk => ?_⟩
  dsimp only
  rw [dif_pos ⟨h0, h1⟩]
  exact (mt_any x h0 h1).choose_spec k hk
def marked (mt : Int → ByteArray) (n : Nat) : List ByteArray := (List.range n).map fun i : Nat => mt (1 + (i : Int))
theorem marked_length (mt : Int → ByteArray) (n : Nat) : (marked mt n).length = n := by simp [marked]
theorem marked_at (mt : Int → ByteArray) (n i : Nat) (h : i < n) : rdOf ByteArray.empty (marked mt n) (i : Int) = mt (1 + (i : Int)) := by
  rw [rdS _ i (by rw [marked_length]; exact h)]; simp [marked]
theorem markS_loop (mt : Int → ByteArray) (hmt : ∀ x, 1 ≤ x → x ≤ 2000000 → ∀ k, 10 < k → laws_markText.f k x = some (mt x)) (n : Nat) (hn : n ≤ 1048576) : ∀ (m k i : Nat) (x : List ByteArray), n = i + m → x.length = n → x.take i = (marked mt n).take i → m + 11 < k →
    laws_markStringS.l0 k x (1 + (i : Int)) (i : Int) = some (1 + (n : Int), marked mt n)
  | 0, k, i, x, hd, hx, he, hk => by
    obtain ⟨k, rfl⟩ : ∃ m, k = m + 1 := ⟨k - 1, by omega⟩
    rw [laws_markStringS.l0, if_neg (by omega)]
    rw [List.take_of_length_le (by omega), List.take_of_length_le (by rw [marked_length]; omega)] at he
    rw [he, show (i : Int) = (n : Int) by omega]
  | m + 1, k, i, x, hd, hx, he, hk => by
    obtain ⟨k, rfl⟩ : ∃ m, k = m + 1 := ⟨k - 1, by omega⟩
    have e : wrap64 ((i : Int) + 1) = ((i + 1 : Nat) : Int) := by unfold wrap64; omega
    have e2 : wrap64 (1 + (i : Int) + 1) = 1 + ((i + 1 : Nat) : Int) := by unfold wrap64; omega
    rw [laws_markStringS.l0, if_pos (by omega), hmt _ (by omega) (by omega) k (by omega)]
    simp only [Option.bind_some]
    rw [if_pos (by omega), e, e2, Int.toNat_natCast]
    refine markS_loop mt hmt n hn m k (i + 1) _ (by omega) (by rw [List.length_set]; exact hx) ?_ (by omega)
    have hu : (marked mt n)[i]'(by rw [marked_length]; omega) = mt (1 + (i : Int)) := by simp [marked]
    rw [List.take_succ_eq_append_getElem (by rw [List.length_set]; omega), List.take_succ_eq_append_getElem (by rw [marked_length]; omega), List.take_set, List.set_eq_of_length_le (by rw [List.length_take]; omega), he, List.getElem_set_self, hu]
theorem markS_tells (mt : Int → ByteArray) (hmt : ∀ x, 1 ≤ x → x ≤ 2000000 → ∀ k, 10 < k → laws_markText.f k x = some (mt x)) (k : Nat) (l : List ByteArray) (hl : l.length ≤ 1048576) (hk : l.length + 11 < k) : laws_markStringS.f k l 1 = some (1 + (l.length : Int), marked mt l.length) := by
  have := markS_loop mt hmt l.length hl l.length k 0 l (by omega) rfl (by simp) hk
  simpa [laws_markStringS.f] using this
theorem heldS_loop (mt : Int → ByteArray) (hmt : ∀ x, 1 ≤ x → x ≤ 2000000 → ∀ k, 10 < k → laws_markText.f k x = some (mt x)) (n : Nat) (hn : n ≤ 1048576) : ∀ (m k i : Nat), n = i + m → m + 11 < k → laws_heldStringS.l0 k (marked mt n) (1 + (i : Int)) (i : Int) = some (1 + (n : Int))
  | 0, k, i, hd, hk => by
    obtain ⟨k, rfl⟩ : ∃ m, k = m + 1 := ⟨k - 1, by omega⟩
    rw [laws_heldStringS.l0, if_neg (by rw [marked_length]; omega), show (i : Int) = (n : Int) by omega]
  | m + 1, k, i, hd, hk => by
    obtain ⟨k, rfl⟩ : ∃ m, k = m + 1 := ⟨k - 1, by omega⟩
    have e : wrap64 ((i : Int) + 1) = ((i + 1 : Nat) : Int) := by unfold wrap64; omega
    have e2 : wrap64 (1 + (i : Int) + 1) = 1 + ((i + 1 : Nat) : Int) := by unfold wrap64; omega
    rw [laws_heldStringS.l0, if_pos (by rw [marked_length]; omega), if_pos (by omega), hmt _ (by omega) (by omega) k (by omega)]
    simp only [Option.bind_some]
    rw [marked_at mt n i (by omega), if_pos rfl, e, e2]
    exact heldS_loop mt hmt n hn m k (i + 1) (by omega) (by omega)
theorem heldS_tells (mt : Int → ByteArray) (hmt : ∀ x, 1 ≤ x → x ≤ 2000000 → ∀ k, 10 < k → laws_markText.f k x = some (mt x)) (k n : Nat) (hn : n ≤ 1048576) (hk : n + 11 < k) : laws_heldStringS.f k (marked mt n) 1 = some (1 + (n : Int)) := by
  have := heldS_loop mt hmt n hn n k 0 (by omega) hk
  simpa [laws_heldStringS.f] using this
theorem FnExactRankBackends : laws_FnExactRankBackends.Pure := by
  intro l s hl hw _
  refine ⟨3 * 1048577 + 3, ?_⟩
  obtain ⟨mt, hmt⟩ := mt_all
  unfold laws_FnExactRankBackends.f
  by_cases h0 : (s.size : Int) > 1048576
  · rw [if_pos h0]
  rw [if_neg h0]
  obtain ⟨r, hr, h⟩ := szS_tells (3 * 1048577 + 3) l 1048576 (by decide) (by decide) hl hw (by decide)
  rw [hr]
  simp only [Option.bind_some]
  by_cases hn : r < 0
  · rw [if_pos hn]
  rw [if_neg hn]
  obtain ⟨h1, h2⟩ := h hn
  obtain ⟨⟨rl, rb⟩, hi0, hrl⟩ := Go.Proofs.YtnghcnkffbjddaaDoorV.Aes.rankA_some l s h1 h2
  have hi : impl_RankBackends.f l s = some (rl, rb) := hi0
  have hsp : spec_RankBackends.f l s = some (rl, rb) := hi0
  have hrl' : rl.length ≤ 1048576 := hrl
  rw [toS_tells _ l h1 (by omega)]
  simp only [Option.bind_some]
  rw [hsp]
  simp only [Option.bind_some]
  rw [hi]
  simp only [Option.bind_some]
  rw [eqS_tells _ rl hrl' (by omega)]
  simp only [Option.bind_some]
  rw [if_pos trivial, bne_self_eq_false, laws_FnExactRankBackends.j0, if_neg (show ¬ (false = true) by decide), toS_tells _ l h1 (by omega)]
  simp only [Option.bind_some]
  rw [eqS_tells _ l h1 (by omega)]
  simp only [Option.bind_some]
  rw [if_pos trivial, markS_tells mt hmt _ l h1 (by omega)]
  simp only [Option.bind_some]
  rw [if_neg (by omega), eqS_tells _ rl hrl' (by omega)]
  simp only [Option.bind_some]
  rw [if_pos trivial, bne_self_eq_false, laws_FnExactRankBackends.j1, if_neg (show ¬ (false = true) by decide), markS_tells mt hmt _ rl hrl' (by omega)]
  simp only [Option.bind_some]
  rw [heldS_tells mt hmt _ rl.length hrl' (by omega)]
  simp only [Option.bind_some]
  rw [if_neg (by omega), if_pos trivial, toS_tells _ l h1 (by omega)]
  simp only [Option.bind_some]
  rw [hi]
  simp only [Option.bind_some]
  rw [eqS_tells _ rl hrl' (by omega)]
  simp only [Option.bind_some]
  rw [if_pos trivial, bne_self_eq_false, laws_FnExactRankBackends.j2, if_neg (show ¬ (false = true) by decide), heldS_tells mt hmt _ rl.length hrl' (by omega)]
  simp only [Option.bind_some]
  rw [if_neg (by omega), if_pos trivial]

end Go.Proofs.YtnghcnkffbjddaaDoor.Pure
