/- slices.SortFunc and slices.ContainsFunc at servers. Conditions: at most 12 servers (sorted), 1048576 (looked through). -/
import Derived.Test.YtnghcnkffbjddaaDoorVTabR
import Derived.Test.YtnghcnkffbjddaaDoorVASShelf
import Derived.Test.YtnghcnkffbjddaaDoorVTabF
import Derived.Test.YtnghcnkffbjddaaDoorVTabM
import Derived.Laws.Cover1
namespace Go.Proofs.YtnghcnkffbjddaaDoorV.Aes
open Go.RowKit Go.Proofs.YtnghcnkffbjddaaDoorV.PrintWords Go.Proofs.YtnghcnkffbjddaaDoorV.PrintLast Go.Proofs.YtnghcnkffbjddaaDoorV.PrintMore Go.Proofs.YtnghcnkffbjddaaDoorV.Mem
set_option linter.unusedVariables false
set_option linter.unusedSimpArgs false

open Go.Maps Go.WideShapes Go.Proofs.YtnghcnkffbjddaaDoor.PImplM Go.Sort
instance inhA : Inhabited S71 := ⟨z71⟩
theorem permIn_allA {β : Type} [Inhabited β] {d d' : Array β} (h : PermIn 0 d.size d d') : d'.size = d.size ∧ d'.toList.Perm d.toList := by
  refine ⟨h.1, ?_⟩
  have q := h.2.2
  rw [← h.1] at q
  rw [Array.extract_size, h.1, Array.extract_size] at q
  exact q
def encA (t : S71) : List Value := [.string t.f0, .string t.f1]
def cfS (x y : ByteArray) : Int := if Op.bytesLess x.toList y.toList = true then -1 else if x.toList = y.toList then 0 else 1
set_option maxHeartbeats 2000000 in
set_option maxRecDepth 100000 in
theorem isNaNS_walk (x : ByteArray) (W : World) : Calls Tryd.prog 107 #[.string x] W fun e w' => e = .returned (.bool false) ∧ w' = W := by
  go_enter Tryd.func107, Tryd.ntmps107
  go_wp2
  go_ret
  exact ⟨by first | rfl | (simp; done), rfl⟩
set_option maxHeartbeats 2000000 in
set_option maxRecDepth 100000 in
theorem cmpS_walk (x y : ByteArray) (W : World) : Calls Tryd.prog 81 #[.string x, .string y] W fun e w' => e = .returned (.int .i64 (cfS x y)) ∧ w' = W := by
  have hn := isNaNS_walk
  unfold cfS
  cases h1 : Op.bytesLess x.toList y.toList with
  | true =>
    rw [if_pos rfl]
    go_enter Tryd.func81, Tryd.ntmps81
    go_wp2_with (go_at_call 107; refine (hn _ _).mono ?_; rintro e w' ⟨rfl, rfl⟩)
    go_ret
    exact ⟨rfl, rfl⟩
  | false =>
    rw [if_neg (by decide)]
    by_cases h2 : x.toList = y.toList
    · rw [if_pos h2]
      have h3 : (x.toList == y.toList) = true := beq_iff_eq.mpr h2
      clear h2
      go_enter Tryd.func81, Tryd.ntmps81
      go_wp2_with (go_at_call 107; refine (hn _ _).mono ?_; rintro e w' ⟨rfl, rfl⟩)
      go_ret
      exact ⟨rfl, rfl⟩
    · rw [if_neg h2]
      have h3 : (x.toList == y.toList) = false := beq_eq_false_iff_ne.mpr h2
      clear h2
      go_enter Tryd.func81, Tryd.ntmps81
      go_wp2_with (go_at_call 107; refine (hn _ _).mono ?_; rintro e w' ⟨rfl, rfl⟩)
      go_ret
      exact ⟨rfl, rfl⟩
set_option maxHeartbeats 2000000 in
set_option maxRecDepth 100000 in
theorem cmpA_walk (x y : S71) (W : World) : Calls Tryd.prog 80 #[.agg (encA x).toArray, .agg (encA y).toArray] W fun e w' => e = .returned (.int .i64 (cfS x.f0 y.f0)) ∧ ∃ q os', w' = grow (W.drewN q) os' := by
  have hcon := fun W' => cmpS_walk x.f0 y.f0 W'
  generalize cfS x.f0 y.f0 = r at hcon ⊢
  unfold encA
  go_enter Tryd.func80, Tryd.ntmps80
  go_wp2_with (go_at_call 81; refine (hcon _).mono ?_; rintro e w' ⟨rfl, rfl⟩)
  go_ret
  exact ⟨rfl, 0, _, by rw [alloc_eq_grow, alloc_eq_grow, grow_grow]; rfl⟩
def cfA (x y : S71) : Int := cfS x.f0 y.f0
theorem lt_cfA (x y : S71) : ltOf cfA x y = ltA x y := by
  unfold ltOf cfA cfS ltA
  cases h : Op.bytesLess x.f0.toList y.f0.toList with
  | true => rw [if_pos rfl]; rfl
  | false =>
    rw [if_neg (by decide)]
    split <;> rfl
theorem swoA : SWO (ltOf cfA) where
  irrefl := fun x => by rw [lt_cfA]; cases h : ltA x x with | false => rfl | true => have := ltA_asy x x h; rw [h] at this; cases this
  trans := fun x y z => by rw [lt_cfA, lt_cfA, lt_cfA]; exact ltA_tr x y z
  ntrans := fun x y z => by
    rw [lt_cfA, lt_cfA, lt_cfA]
    intro h1 h2
    cases h : ltA x z with
    | false => rfl
    | true =>
      by_cases e1 : x.f0.toList = y.f0.toList
      · unfold ltA at h h2; rw [e1] at h; rw [h] at h2; cases h2
      · have hyx : ltA y x = true := (bl_tot _ _ e1).resolve_left (by unfold ltA at h1; rw [h1]; decide)
        rw [ltA_tr y x z hyx h] at h2; cases h2
set_option maxHeartbeats 2000000 in
theorem sortA_walk (base g n c : Nat) (ok : Nat → Prop) (xs : List S71) (W : World) (hR : k71.R 71 W base ok (.slice (some ⟨g, 0, none⟩) n c) xs) (hn : n ≤ 12) :
    Calls Tryd.prog 79 #[.slice (some ⟨g, 0, none⟩) n c, .func (.func 80) #[] #[]] W fun e w' => e = .returned (.tuple #[]) ∧ W.grownBy w' (some g) ∧
      ∃ xs', xs'.Perm xs ∧ (∀ i j (hi : i < j) (hj : j < xs'.length), ltA xs'[j] (xs'[i]'(by omega)) = false) ∧ k71.R 71 w' base ok (.slice (some ⟨g, 0, none⟩) n c) xs' := by
  obtain ⟨zs, cur, hzs, hlen, hM, hO, hP, hokg, hbg, hnz, hnc, hcm, hr, hcs, ht⟩ := S_open encA (fun t : S71 => t) (fun ok x cs h => ⟨x, (k71_openM h).symm, rfl⟩) (S_of_A hR)
  obtain ⟨enc, henc⟩ : ∃ enc : S71 → List Value, enc = encA := ⟨_, rfl⟩
  have hk : ∀ z, (enc z).length = 2 := fun z => by rw [henc]; rfl
  have h1 : ∀ z, ∀ v ∈ enc z, v.oneCell' = true := fun z v hv => by
    rw [henc] at hv
    simp only [encA, List.mem_cons, List.not_mem_nil, or_false] at hv
    rcases hv with rfl | rfl <;> rfl
  have hxl : xs.length = n := by rw [← hzs, List.length_map]; exact hnz.symm
  have hsz : xs.toArray.size = n := by simp [hxl]
  have hmap : zs.map (fun z => encA z.1) = xs.map encA := by rw [← hzs, List.map_map]; rfl
  have hH : HoldsK enc 2 W g 0 xs.toArray := holds_at enc 2 hk xs.toArray hr (by rw [hsz, hcs]; exact Nat.mul_le_mul_right 2 hnc) (by rw [hsz, henc]; rw [hmap] at ht; exact ht)
  have eg : ∀ args w, (callFunc 80 args).run Tryd.prog w = .ok (.enter 80 args) w := enters_of Tryd.func80 (by kernel_rfl) rfl
  have hcmp : CmpLays Tryd.prog 80 #[] enc 2 cfA g 0 xs.toArray.size W := fun _ _ _ _ x y => by rw [henc]; exact cmpA_walk x y _
  have hcon := AnyQ.slices_SortFunc_small_sorted Tryd.sortA 2 Tryd.isAgg71 Tryd.sizeOf71 enc hk h1 cfA 80 #[] swoA g 0 c xs.toArray W eg hcmp hH hr.lt (by rw [hsz]; exact hn) (fun k V hk => Tryd.bits_Len_calls k V hk)
  rw [hsz] at hcon
  refine Calls.mono hcon ?_
  rintro e w' ⟨rfl, d', m, os, hp, hso, rfl⟩
  rw [← hsz] at hp
  obtain ⟨hs', hp'⟩ := permIn_allA hp
  have hp2 : d'.toList.Perm xs := by simpa using hp'
  have hg := sort_grown enc 2 W g m os d'
  refine ⟨rfl, hg, d'.toList, hp2, fun i j hi hj => ?_, ?_⟩
  · rw [Array.length_toList] at hj
    have q := hso i j (Nat.zero_le _) hi (by rw [← hsz, ← hs']; exact hj)
    rw [lt_cfA, getElem!_pos d' j hj, getElem!_pos d' i (by omega)] at q
    exact q
  · obtain ⟨cur', q1, q2, q3⟩ := sorted_at enc 2 hk (m := m) os d' hr (by rw [hs', hsz, hcs]; exact Nat.mul_le_mul_right 2 hnc)
    have q := S_close (d := k71) (ok := ok) encA (fun t : S71 => t) (d'.toList.map (fun x => (x, fun _ : Nat => False))) (fun z hz => rfl) (fun z hz => k71_mkM _ _ _ z.1) (fun z hz k hk => by
        obtain ⟨y, _, rfl⟩ := List.mem_map.mp hz
        exact hk.elim) (by rw [List.pairwise_map]; exact List.pairwise_of_forall (fun _ _ k h => h.elim)) hokg hbg (by rw [List.length_map, Array.length_toList, hs', hsz]) hnc hcm q1 (by rw [q2]; exact hcs) (by rw [hs', hsz, henc] at q3; rw [List.map_map]; exact q3)
    rw [List.map_map] at q
    have e : d'.toList.map ((fun z : S71 × (Nat → Prop) => z.1) ∘ fun x => (x, fun _ : Nat => False)) = d'.toList := by
      rw [show ((fun z : S71 × (Nat → Prop) => z.1) ∘ fun x : S71 => (x, fun _ : Nat => False)) = id from rfl, List.map_id]
    rw [e] at q
    exact Kd.S_R q
end Go.Proofs.YtnghcnkffbjddaaDoorV.Aes
