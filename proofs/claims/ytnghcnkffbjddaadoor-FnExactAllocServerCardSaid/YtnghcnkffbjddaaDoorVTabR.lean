/- Rows of the call's own laid open and shut, and put in order by the library's insertion sort. Conditions: those that each theorem names. -/
import Derived.Test.YtnghcnkffbjddaaDoorVTabP
import Derived.Sort.OwnSorted
import Derived.Shelf.SlSortCmp.SmallK
namespace Go.Proofs.YtnghcnkffbjddaaDoorV.Aes
open Go.RowKit Go.Proofs.YtnghcnkffbjddaaDoorV.PrintWords Go.Proofs.YtnghcnkffbjddaaDoorV.PrintLast Go.Proofs.YtnghcnkffbjddaaDoorV.PrintMore Go.Proofs.YtnghcnkffbjddaaDoorV.Mem
set_option linter.unusedVariables false
set_option linter.unusedSimpArgs false

open Go.Sort
/-- A row of rows laid open: each element with its cells and its own blocks. -/
theorem S_open {α T : Type} [Inhabited T] {d : Kd α} {e : Nat} {w : World} {base g n c : Nat} {ok : Nat → Prop} {xs : List α} (enc : T → List Value) (val : T → α)
    (hop : ∀ (ok : Nat → Prop) (x : α) (cs : List Value), d.M w base ok x cs → ∃ t, enc t = cs ∧ val t = x) (h : Kd.S d e w base ok (.slice (some ⟨g, 0, none⟩) n c) xs) :
    ∃ (zs : List (T × (Nat → Prop))) (cur : Array Value), zs.map (fun z => val z.1) = xs ∧ (∀ z ∈ zs, (enc z.1).length = d.sz) ∧ (∀ z ∈ zs, d.M w base z.2 (val z.1) (enc z.1)) ∧ (∀ z ∈ zs, ∀ k, z.2 k → ok k ∧ k ≠ g) ∧ zs.Pairwise (fun a b => ∀ k, a.2 k → ¬ b.2 k) ∧ ok g ∧ base ≤ g ∧ n = zs.length ∧ n ≤ c ∧ c ≤ maxLen ∧ RowAt w g cur e ∧ cur.size = c * d.sz ∧ cur.toList.take (n * d.sz) = (zs.map (fun z => enc z.1)).flatten := by
  obtain ⟨f, h0, inner, ho, hr⟩ := h
  rw [List.length_zipIdx] at ho
  have hlen : inner.length = xs.length * d.sz := by have := hr.1; rw [List.length_zipIdx] at this; exact this
  have hown : ∀ k, some k ≠ (Value.slice (some ⟨g, 0, none⟩) n c).ownBlock → k ≠ g := fun k hk he => hk (by rw [he]; simp [Value.ownBlock])
  have hel : ∀ j, ∃ t, j < xs.length → enc t = (inner.drop (j * d.sz)).take d.sz ∧ xs[j]? = some (val t) ∧ d.M w base (fun k => (ok k ∧ some k ≠ (Value.slice (some ⟨g, 0, none⟩) n c).ownBlock) ∧ f k = j) (val t) (enc t) := by
    intro j
    by_cases hj : j < xs.length
    · have hx : xs[j]? = some xs[j] := List.getElem?_eq_getElem hj
      have hM := hr.2 j (xs[j], j) (Kd.zip_at hx)
      obtain ⟨t, ht, hv⟩ := hop _ _ _ hM
      refine ⟨t, fun _ => ⟨ht, by rw [hv]; exact hx, ?_⟩⟩
      rw [ht, hv]; exact hM
    · exact ⟨default, fun q => absurd q hj⟩
  obtain ⟨t, ht⟩ := Classical.skolem.mp hel
  rcases ho.2 with ⟨hv, _⟩ | ⟨g', cap, cur, hv, hb, hh, h1, h2, h3, h4⟩
  · cases hv
  · injection hv with ha hn hcc
    injection ha with ha
    injection ha with ha _ _
    subst ha; subst hcc; subst hn
    refine ⟨(List.range xs.length).map (fun j => (t j, fun k => (ok k ∧ k ≠ g) ∧ f k = j)), cur, ?_, ?_, ?_, ?_, ?_, h0 g (by simp [Value.ownBlock]), hb, by simp, h1, h2, hh, h3, ?_⟩
    · rw [List.map_map]
      apply List.ext_getElem?
      intro j
      rw [List.getElem?_map]
      by_cases hj : j < xs.length
      · rw [List.getElem?_range hj, (ht j hj).2.1]; rfl
      · rw [List.getElem?_eq_none (by simpa using hj), List.getElem?_eq_none (by omega)]; rfl
    · intro z hz
      obtain ⟨j, hj, rfl⟩ := List.mem_map.mp hz
      exact d.K_len (d.K_of_M (ht j (List.mem_range.mp hj)).2.2)
    · intro z hz
      obtain ⟨j, hj, rfl⟩ := List.mem_map.mp hz
      exact d.M_mono (fun k hk => ⟨⟨hk.1.1, hown k hk.1.2⟩, hk.2⟩) (ht j (List.mem_range.mp hj)).2.2
    · intro z hz k hk
      obtain ⟨j, hj, rfl⟩ := List.mem_map.mp hz
      exact hk.1
    · rw [List.pairwise_map]
      exact List.pairwise_lt_range.imp (fun hab k h1 h2 => by have a1 : f k = _ := h1.2; have a2 : f k = _ := h2.2; omega)
    · rw [List.map_map]
      have e1 : (List.range xs.length).map ((fun z : T × (Nat → Prop) => enc z.1) ∘ (fun j => (t j, fun k => (ok k ∧ k ≠ g) ∧ f k = j))) = (List.range xs.length).map (fun j => (inner.drop (j * d.sz)).take d.sz) :=
        List.map_congr_left (fun j hj => (ht j (List.mem_range.mp hj)).1)
      rw [e1, chunks_flat _ _ _ (by omega), show inner.take (xs.length * d.sz) = inner from List.take_of_length_le (by omega)]
      exact h4
/-- .. and shut again. -/
theorem S_close {α T : Type} {d : Kd α} {e : Nat} {w : World} {base g n c : Nat} {ok : Nat → Prop} {cur : Array Value} (enc : T → List Value) (val : T → α) (zs : List (T × (Nat → Prop)))
    (hlen : ∀ z ∈ zs, (enc z.1).length = d.sz) (hM : ∀ z ∈ zs, d.M w base z.2 (val z.1) (enc z.1)) (hO : ∀ z ∈ zs, ∀ k, z.2 k → ok k ∧ k ≠ g) (hP : zs.Pairwise (fun a b => ∀ k, a.2 k → ¬ b.2 k))
    (hg : ok g) (hb : base ≤ g) (hn : n = zs.length) (hc : n ≤ c) (hm : c ≤ maxLen) (hr : RowAt w g cur e) (hs : cur.size = c * d.sz) (ht : cur.toList.take (n * d.sz) = (zs.map (fun z => enc z.1)).flatten) :
    Kd.S d e w base ok (.slice (some ⟨g, 0, none⟩) n c) (zs.map (fun z => val z.1)) := by
  classical
  have hfl : ∀ x ∈ zs.map (fun z => enc z.1), x.length = d.sz := by
    intro x hx
    obtain ⟨z, hz, rfl⟩ := List.mem_map.mp hx
    exact hlen z hz
  have hl : (zs.map (fun z => enc z.1)).flatten.length = zs.length * d.sz := by rw [flat_len d.sz _ hfl, List.length_map]
  refine ⟨fun k => if h : ∃ (j : Nat) (z : T × (Nat → Prop)), zs[j]? = some z ∧ z.2 k then Classical.choose h else 0, fun k hk => ?_, (zs.map (fun z => enc z.1)).flatten, ?_, ?_, fun j p hp => ?_⟩
  · have : g = k := by simpa [Value.ownBlock] using hk
    rw [← this]; exact hg
  · rw [List.length_zipIdx, List.length_map]
    exact ⟨hl, .inr ⟨g, c, cur, by rw [hn], hb, hr, by omega, hm, hs, by rw [← hn]; exact ht⟩⟩
  · rw [List.length_zipIdx, List.length_map]; exact hl
  · rw [List.getElem?_zipIdx, Nat.zero_add, List.getElem?_map] at hp
    obtain ⟨x, hx, rfl⟩ := Option.map_eq_some_iff.mp hp
    obtain ⟨z, hz, rfl⟩ := Option.map_eq_some_iff.mp hx
    obtain ⟨hj, hze⟩ := List.getElem?_eq_some_iff.mp hz
    have hzm : z ∈ zs := hze ▸ List.getElem_mem hj
    have hc2 := flat_chunk d.sz (zs.map (fun z => enc z.1)) j (by simpa using hj) hfl
    have e1 : ((zs.map (fun z => enc z.1)).flatten.drop (j * d.sz)).take d.sz = enc z.1 := by rw [hc2, List.getElem_map, hze]
    show d.M w base _ (val z.1) (((zs.map (fun z => enc z.1)).flatten.drop (j * d.sz)).take d.sz)
    rw [e1]
    refine d.M_mono (fun k hk => ⟨⟨(hO z hzm k hk).1, fun he => (hO z hzm k hk).2 (by simpa [Value.ownBlock] using he)⟩, ?_⟩) (hM z hzm)
    have hex : ∃ (j : Nat) (z : T × (Nat → Prop)), zs[j]? = some z ∧ z.2 k := ⟨j, z, hz, hk⟩
    show (if h : ∃ (j : Nat) (z : T × (Nat → Prop)), zs[j]? = some z ∧ z.2 k then Classical.choose h else 0) = j
    rw [dif_pos hex]
    obtain ⟨z', hz', hk'⟩ := Classical.choose_spec hex
    obtain ⟨hj', hze'⟩ := List.getElem?_eq_some_iff.mp hz'
    rcases Nat.lt_trichotomy (Classical.choose hex) j with q | q | q
    · have h := (List.pairwise_iff_getElem.mp hP _ _ hj' hj q k) (by rw [hze']; exact hk')
      rw [hze] at h; exact absurd hk h
    · exact q
    · have h := (List.pairwise_iff_getElem.mp hP _ _ hj hj' q k) (by rw [hze]; exact hk)
      rw [hze'] at h; exact absurd hk' h
/-- What the sort leaves of a row. -/
theorem sorted_at {T : Type} [Inhabited T] (enc : T → List Value) (k : Nat) (hk : ∀ x, (enc x).length = k) {w : World} {g e m : Nat} {cur : Array Value} (os : Array Obj) (d : Array T) (hr : RowAt w g cur e) (hsz : d.size * k ≤ cur.size) :
    ∃ cur', RowAt (sortWorldK enc k w g 0 m d os) g cur' e ∧ cur'.size = cur.size ∧ cur'.toList.take (d.size * k) = (d.toList.map enc).flatten := by
  obtain ⟨fr, hh, hf⟩ := hr
  have hg : g < w.heap.size := (Array.getElem?_eq_some_iff.1 hh).1
  have hlens : ∀ x ∈ d.toList.map enc, x.length = k := by
    intro x hx
    obtain ⟨z, _, rfl⟩ := List.mem_map.mp hx
    exact hk z
  refine ⟨putCells id 0 (flatK enc k d) cur, ⟨fr, ?_, ?_⟩, by simp [putCells], ?_⟩
  · unfold sortWorldK
    rw [heap_grow_old _ _ (by simpa [size_putRowK] using hg)]
    simp [putRowK, putRow, mapBlock, Sort.ahead, Array.getElem?_modify, hh, onCells]
  · rcases hf with hf | hf
    · exact .inl hf
    · exact .inr (by simpa [putCells] using hf)
  · apply List.ext_getElem?
    intro j
    by_cases hj : j < d.size * k
    · rw [List.getElem?_take_of_lt hj, Array.getElem?_toList]
      have hk0 : 0 < k := by
        rcases Nat.eq_zero_or_pos k with q | q
        · subst q; rw [Nat.mul_zero] at hj; omega
        · exact q
      have hq : j / k < d.size := Nat.div_lt_of_lt_mul (by rw [Nat.mul_comm]; exact hj)
      have hfg := flat_get k (d.toList.map enc) hlens (j / k) (j % k) (by simpa using hq) (Nat.mod_lt _ hk0)
      rw [Nat.mul_comm, Nat.div_add_mod] at hfg
      rw [hfg]
      have e1 : (putCells id 0 (flatK enc k d) cur)[j]? = some ((flatK enc k d)[j]!) := by
        have : j < cur.size := by omega
        simp [putCells, this, hj]
      rw [e1, get_flatK enc k d j hj, List.getElem_map]
      have e2 : d.toList[j / k]'(by simpa using hq) = d[j / k]! := by simp [hq]
      rw [e2]
      have hl : j % k < (enc d[j / k]!).length := by rw [hk]; exact Nat.mod_lt _ hk0
      rw [List.getElem?_eq_getElem hl, List.getElem!_eq_getElem?_getD, List.getElem?_eq_getElem hl]; rfl
    · rw [List.getElem?_take_eq_none (by omega), List.getElem?_eq_none (by rw [flat_len k _ hlens]; simpa using hj)]
theorem sort_grown {T : Type} [Inhabited T] (enc : T → List Value) (k : Nat) (w : World) (g m : Nat) (os : Array Obj) (d : Array T) : w.grownBy (sortWorldK enc k w g 0 m d os) (some g) := by
  refine ⟨rfl, rfl, rfl, by simp [sortWorldK, size_putRowK], fun j hj hne => ?_⟩
  unfold sortWorldK
  rw [heap_grow_old _ _ (by simpa [size_putRowK] using hj)]
  have : g ≠ j := fun e => hne (by rw [e])
  simp [putRowK, putRow, mapBlock, Sort.ahead, Array.getElem?_modify, this]
/-- A row of the call's own holds what its cells say. -/
theorem holds_at {T : Type} [Inhabited T] (enc : T → List Value) (k : Nat) (hk : ∀ x, (enc x).length = k) {w : World} {g e : Nat} {cur : Array Value} (d : Array T) (hr : RowAt w g cur e) (hsz : d.size * k ≤ cur.size)
    (ht : cur.toList.take (d.size * k) = (d.toList.map enc).flatten) : HoldsK enc k w g 0 d := by
  have hlens : ∀ x ∈ d.toList.map enc, x.length = k := by
    intro x hx
    obtain ⟨z, _, rfl⟩ := List.mem_map.mp hx
    exact hk z
  intro j hj
  rw [size_flatK] at hj
  rw [Nat.zero_add]
  refine ⟨?_, hr.frozen j (by omega)⟩
  have hk0 : 0 < k := by
    rcases Nat.eq_zero_or_pos k with q | q
    · subst q; rw [Nat.mul_zero] at hj; omega
    · exact q
  have hq : j / k < d.size := Nat.div_lt_of_lt_mul (by rw [Nat.mul_comm]; exact hj)
  have hfg := flat_get k (d.toList.map enc) hlens (j / k) (j % k) (by simpa using hq) (Nat.mod_lt _ hk0)
  rw [Nat.mul_comm, Nat.div_add_mod] at hfg
  rw [hr.cell j, ← Array.getElem?_toList, ← List.getElem?_take_of_lt hj, ht, hfg, get_flatK enc k d j hj, List.getElem_map]
  have e2 : d.toList[j / k]'(by simpa using hq) = d[j / k]! := by simp [hq]
  rw [e2]
  have hl : j % k < (enc d[j / k]!).length := by rw [hk]; exact Nat.mod_lt _ hk0
  rw [List.getElem?_eq_getElem hl, List.getElem!_eq_getElem?_getD, List.getElem?_eq_getElem hl]; rfl
end Go.Proofs.YtnghcnkffbjddaaDoorV.Aes
