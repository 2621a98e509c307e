/- slices.SortFunc at entries, by their slots. Conditions: at most 12 entries. -/
import Derived.Test.YtnghcnkffbjddaaDoorVTabR
import Derived.Test.YtnghcnkffbjddaaDoorVESShelf
import Derived.Test.YtnghcnkffbjddaaDoorVTabF
namespace Go.Proofs.YtnghcnkffbjddaaDoorV.Aes
open Go.RowKit Go.Proofs.YtnghcnkffbjddaaDoorV.PrintWords Go.Proofs.YtnghcnkffbjddaaDoorV.PrintLast Go.Proofs.YtnghcnkffbjddaaDoorV.PrintMore Go.Proofs.YtnghcnkffbjddaaDoorV.Mem
set_option linter.unusedVariables false
set_option linter.unusedSimpArgs false

open Go.Maps Go.WideShapes Go.Proofs.YtnghcnkffbjddaaDoor.PImplM Go.Sort
instance inhE : Inhabited S68 := ⟨z68⟩
abbrev TE := S68 × Option Addr × Nat
def encE (t : TE) : List Value := [.int .i64 t.1.f0.f0, .int .i64 t.1.f0.f1, .int .i64 t.1.f0.f2, .string t.1.f0.f3, .bool t.1.f0.f4, .slice t.2.1 t.1.f1.length t.2.2, .int .i64 t.1.f2]
theorem encE_op {w : World} {base : Nat} (ok : Nat → Prop) (x : S68) (cs : List Value) (h : k68.M w base ok x cs) : ∃ t : TE, encE t = cs ∧ t.1 = x := by
  obtain ⟨v5, rfl, hR⟩ := k68_openM h
  obtain ⟨A, c, rfl⟩ := Kd.R_slice hR
  exact ⟨(x, A, c), rfl, rfl⟩
theorem encE_one (t : TE) : ∀ v ∈ encE t, v.oneCell' = true := by
  intro v hv
  simp only [encE, List.mem_cons, List.not_mem_nil, or_false] at hv
  rcases hv with rfl | rfl | rfl | rfl | rfl | rfl | rfl <;> rfl
set_option maxHeartbeats 2000000 in
set_option maxRecDepth 100000 in
theorem cmpE_walk (x y : TE) (W : World) : Calls Tryd.prog 70 #[.agg (encE x).toArray, .agg (encE y).toArray] W fun e w' => e = .returned (.int .i64 (Lib.compareInt x.1.f0.f0 y.1.f0.f0)) ∧ ∃ q os', w' = grow (W.drewN q) os' := by
  have hcon := fun W' => AnyG.cmp_Compare_int Tryd.cmpI x.1.f0.f0 y.1.f0.f0 W'
  change ∀ W', Calls Tryd.prog 71 _ _ _ at hcon
  generalize Lib.compareInt x.1.f0.f0 y.1.f0.f0 = r at hcon ⊢
  unfold encE
  go_enter Tryd.func70, Tryd.ntmps70
  go_wp2_with (go_at_call 71; refine (hcon _).mono ?_; rintro e w' ⟨rfl, rfl⟩)
  go_ret
  exact ⟨rfl, 0, _, by rw [alloc_eq_grow, alloc_eq_grow, grow_grow]; rfl⟩
def cfE (x y : TE × (Nat → Prop)) : Int := Lib.compareInt x.1.1.f0.f0 y.1.1.f0.f0
theorem cmp_neg (a b : Int) : decide (Lib.compareInt a b < 0) = decide (a < b) := by
  unfold Lib.compareInt
  by_cases h : a < b
  · rw [if_pos h]; simp [h]
  · rw [if_neg h]
    split <;> simp [h]
theorem lt_cfE (x y : TE × (Nat → Prop)) : ltOf cfE x y = ltE x.1.1 y.1.1 := cmp_neg _ _
theorem swoE : SWO (ltOf cfE) where
  irrefl := fun x => by rw [lt_cfE]; simp [ltE]
  trans := fun x y z => by rw [lt_cfE, lt_cfE, lt_cfE]; simp only [ltE, decide_eq_true_eq]; omega
  ntrans := fun x y z => by rw [lt_cfE, lt_cfE, lt_cfE]; simp only [ltE, decide_eq_false_iff_not]; omega
theorem permIn_all {β : Type} [Inhabited β] {d d' : Array β} (h : PermIn 0 d.size d d') : d'.size = d.size ∧ d'.toList.Perm d.toList := by
  refine ⟨h.1, ?_⟩
  have q := h.2.2
  rw [← h.1] at q
  rw [Array.extract_size, h.1, Array.extract_size] at q
  exact q
set_option maxHeartbeats 2000000 in
theorem sortE_walk (base g n c : Nat) (ok : Nat → Prop) (xs : List S68) (W : World) (hS : Kd.S k68 68 W base ok (.slice (some ⟨g, 0, none⟩) n c) xs) (hn : n ≤ 12) :
    Calls Tryd.prog 69 #[.slice (some ⟨g, 0, none⟩) n c, .func (.func 70) #[] #[]] W fun e w' => e = .returned (.tuple #[]) ∧ W.grownBy w' (some g) ∧
      ∃ xs', xs'.Perm xs ∧ (∀ i j (hi : i < j) (hj : j < xs'.length), ltE xs'[j] (xs'[i]'(by omega)) = false) ∧ Kd.S k68 68 w' base ok (.slice (some ⟨g, 0, none⟩) n c) xs' := by
  obtain ⟨zs, cur, rfl, hlen, hM, hO, hP, hokg, hbg, hnz, hnc, hcm, hr, hcs, ht⟩ := S_open encE (fun t : TE => t.1) encE_op hS
  obtain ⟨enc, henc⟩ : ∃ enc : TE × (Nat → Prop) → List Value, enc = fun z => encE z.1 := ⟨_, rfl⟩
  have hk : ∀ z, (enc z).length = 7 := fun z => by rw [henc]; rfl
  have h1 : ∀ z, ∀ v ∈ enc z, v.oneCell' = true := fun z => by rw [henc]; exact encE_one z.1
  have hsz : zs.toArray.size = n := by rw [hnz]; simp
  have hH : HoldsK enc 7 W g 0 zs.toArray := holds_at enc 7 hk zs.toArray hr (by rw [hsz, hcs]; exact Nat.mul_le_mul_right 7 hnc) (by rw [hsz, henc]; exact ht)
  have eg : ∀ args w, (callFunc 70 args).run Tryd.prog w = .ok (.enter 70 args) w := enters_of Tryd.func70 (by kernel_rfl) rfl
  have hcmp : CmpLays Tryd.prog 70 #[] enc 7 cfE g 0 zs.toArray.size W := fun _ _ _ _ x y => by rw [henc]; exact cmpE_walk x.1 y.1 _
  have hcon := AnyQ.slices_SortFunc_small_sorted Tryd.sortE 7 Tryd.isAgg68 Tryd.sizeOf68 enc hk h1 cfE 70 #[] swoE g 0 c zs.toArray W eg hcmp hH hr.lt (by rw [hsz]; exact hn) (fun k V hk => Tryd.bits_Len_calls k V hk)
  rw [hsz] at hcon
  refine Calls.mono hcon ?_
  rintro e w' ⟨rfl, d', m, os, hp, hso, rfl⟩
  rw [← hsz] at hp
  obtain ⟨hs', hp'⟩ := permIn_all hp
  have hp2 : d'.toList.Perm zs := by simpa using hp'
  have hg := sort_grown enc 7 W g m os d'
  refine ⟨rfl, hg, d'.toList.map (fun z => z.1.1), hp2.map _, fun i j hi hj => ?_, ?_⟩
  · rw [List.length_map, Array.length_toList] at hj
    have q := hso i j (Nat.zero_le _) hi (by rw [← hsz, ← hs']; exact hj)
    rw [lt_cfE, getElem!_pos d' j hj, getElem!_pos d' i (by omega)] at q
    rw [List.getElem_map, List.getElem_map]
    exact q
  · obtain ⟨cur', q1, q2, q3⟩ := sorted_at enc 7 hk (m := m) os d' hr (by rw [hs', hsz, hcs]; exact Nat.mul_le_mul_right 7 hnc)
    refine S_close encE (fun t : TE => t.1) d'.toList (fun z hz => rfl) (fun z hz => ?_) (fun z hz => hO z (hp2.mem_iff.mp hz)) ?_ hokg hbg ?_ hnc hcm q1 (by rw [q2]; exact hcs) ?_
    · exact Kd.M_step (hM z (hp2.mem_iff.mp hz)) (fun k hk hlt => hg.block k hlt (fun he => (hO z (hp2.mem_iff.mp hz) k hk).2 (by injection he)))
    · exact (hp2.pairwise_iff (R := fun a b : TE × (Nat → Prop) => ∀ k, a.2 k → ¬ b.2 k) (fun h k hb ha => h k ha hb)).mpr hP
    · rw [← hsz, ← hs', Array.length_toList]
    · rw [hs', hsz, henc] at q3; exact q3
end Go.Proofs.YtnghcnkffbjddaaDoorV.Aes
