/- The reference's InstallConfig, walked. Conditions: a table of the sizes that okTab names. -/
import Derived.Test.YtnghcnkffbjddaaDoorVTabJ
import Derived.Test.YtnghcnkffbjddaaDoorVTabI2
import Derived.Deep.Cut
import Derived.Lib.QuietBelow
import Derived.BigRegion
import Derived.BigQuiet
import Derived.Deep.QuietTactic
import Derived.Deep.LoopGhost
namespace Go.Proofs.YtnghcnkffbjddaaDoorV.Aes
open Go.RowKit Go.Proofs.YtnghcnkffbjddaaDoorV.PrintWords Go.Proofs.YtnghcnkffbjddaaDoorV.PrintLast Go.Proofs.YtnghcnkffbjddaaDoorV.PrintMore Go.Proofs.YtnghcnkffbjddaaDoorV.Mem
set_option linter.unusedVariables false
set_option linter.unusedSimpArgs false

open Go.Maps Go.WideShapes Go.Proofs.YtnghcnkffbjddaaDoor.PImplM
/-- What the reference tells; its rows lie in what it made. -/
def SpPost2 (w : World) (r : List S68) (code : Int) (e : Ending) (w' : World) : Prop :=
  ∃ A c, e = .returned (.tuple #[.agg #[.slice A r.length c], .int .i64 code]) ∧ r.length ≤ c ∧ (∀ W' : World, (∀ k, w.heap.size ≤ k → k < w'.heap.size → W'.heap[k]? = w'.heap[k]?) → Kd.C k68 W' A r.length r) ∧ Below w.heap.size w w'
theorem s_in_tells (x lo hi : Int) : spec_l1In.f x lo hi = some (inB lo hi x) := by
  unfold spec_l1In.f inB
  by_cases h : x ≥ lo
  · rw [if_pos h]
    have h' : lo ≤ x := h
    simp [h']
  · rw [if_neg h]
    have h' : ¬ lo ≤ x := h
    simp [h']
theorem s_cfg_tells (s0 s1 s2 : Int) (ky : ByteArray) (fb : Bool) : spec_GoodConfig.f s0 s1 s2 ky fb = some (cfgB s0 s1 s2 ky) := by
  unfold spec_GoodConfig.f cfgB
  simp only [s_in_tells, Option.bind_some]
  cases h0 : inB 0 6 s0 with
  | false => rfl
  | true =>
    cases h1 : inB 1 15 s1 with
    | false => rfl
    | true =>
      cases h2 : inB 4 18 s2 with
      | false => rfl
      | true =>
        have e : wrap64 (s1 + s2) = s1 + s2 := by
          unfold inB at h1 h2
          simp only [Bool.and_eq_true, decide_eq_true_iff] at h1 h2
          unfold wrap64; omega
        rw [if_pos rfl, if_pos rfl, if_pos rfl, e]
        by_cases h3 : s1 + s2 ≤ 19
        · rw [if_pos h3, decide_eq_true h3]
          have hl : ky.toList.length = ky.size := by rw [Lib.toList_data]; simp
          by_cases h4 : ky.toList = ([] : List UInt8)
          · have : ky.size = 0 := by rw [h4] at hl; simpa using hl.symm
            rw [if_pos h4]; simp [this]
          · have h5 : ¬ ky.size = 0 := fun q => h4 (List.length_eq_zero_iff.mp (by omega))
            have h6 : ((ky.size : Int) == 16) = decide (ky.size = 16) := by
              rw [Bool.eq_iff_iff, beq_iff_eq, decide_eq_true_iff]; omega
            rw [if_neg h4, h6, decide_eq_false h5]; simp
        · rw [if_neg h3, decide_eq_false h3]; rfl
theorem new_raw (s0 s1 s2 : Int) (ky : ByteArray) (fb : Bool) (w : World) (base : Nat) (ok : Nat → Prop) : (Kd.raw 7).M w base ok ([.int .i64 s0, .int .i64 s1, .int .i64 s2, .string ky, .bool fb, .slice none 0 0, .int .i64 0] : List Value) ([.int .i64 s0, .int .i64 s1, .int .i64 s2, .string ky, .bool fb, .slice none 0 0, .int .i64 0] : List Value) :=
  ⟨rfl, rfl, Kd.K_one _ (Kd.K_of_M _ (new_M w base ok s0 s1 s2 ky fb))⟩
theorem new_K (s0 s1 s2 : Int) (ky : ByteArray) (fb : Bool) (w : World) : k68.K w (newE s0 s1 s2 ky fb) ([.int .i64 s0, .int .i64 s1, .int .i64 s2, .string ky, .bool fb, .slice none 0 0, .int .i64 0] : List Value) := Kd.K_of_M _ (new_M w 0 (fun _ => True) s0 s1 s2 ky fb)
/-- A row of the call's own, as its cells. -/
theorem rows_ofS {α : Type} {d : Kd α} {e : Nat} {w : World} {base : Nat} {ok : Nat → Prop} {v : Value} {xs : List α} (h : d.R e w base ok v xs) :
    ∃ zs : List (α × List Value), zs.map (fun z => z.1) = xs ∧ (Kd.raw d.sz).R e w base ok v (zs.map (fun z => z.2)) ∧ ∀ z ∈ zs, d.M w base (fun k => ok k ∧ some k ≠ v.ownBlock) z.1 z.2 := by
  obtain ⟨h0, inner, ho, hr⟩ := h
  have hl : (xs.zipIdx.map (fun p => (p.1, (inner.drop (p.2 * d.sz)).take d.sz))).length = xs.length := by simp
  refine ⟨xs.zipIdx.map (fun p => (p.1, (inner.drop (p.2 * d.sz)).take d.sz)), ?_, ⟨h0, inner, ?_, ?_, fun j p hp => ?_⟩, fun z hz => ?_⟩
  · rw [List.map_map]
    apply List.ext_getElem?
    intro j
    rw [List.getElem?_map, List.getElem?_zipIdx, Nat.zero_add]
    cases xs[j]? <;> rfl
  · rw [List.length_map, hl]; exact ho
  · rw [List.length_map, hl]; exact hr.1
  · rw [List.map_map, List.getElem?_map, List.getElem?_zipIdx, Nat.zero_add] at hp
    cases hx : xs[j]? with
    | none => rw [hx] at hp; cases hp
    | some x =>
      rw [hx] at hp
      have e : p = (inner.drop (j * d.sz)).take d.sz := (Option.some.inj hp).symm
      have hm := d.K_of_M (hr.2 j x hx)
      rw [e]
      exact ⟨rfl, d.K_len hm, d.K_one hm⟩
  · obtain ⟨p, hp, rfl⟩ := List.mem_map.mp hz
    obtain ⟨j, hj⟩ := List.mem_iff_getElem?.mp hp
    rw [List.getElem?_zipIdx, Nat.zero_add] at hj
    obtain ⟨x, hx, rfl⟩ := Option.map_eq_some_iff.mp hj
    exact hr.2 j x hx
set_option maxHeartbeats 8000000 in
set_option maxRecDepth 100000 in
theorem sInst_walk (A : Option Addr) (c : Nat) (s0 s1 s2 : Int) (ky : ByteArray) (fb : Bool) (E : List S68) (w : World) (hC : Kd.C k68 w A E.length E) (hc : E.length ≤ c) (hok : OkE E) :
    Calls Tryd.prog 33 #[.agg #[.slice A E.length c], .agg #[.int .i64 s0, .int .i64 s1, .int .i64 s2, .string ky, .bool fb]] w (SpPost2 w (insR s0 s1 s2 ky fb E) (insK s0 s1 s2 ky E)) := by
  obtain ⟨hl1, hl2⟩ := ok_small hok
  have mixed : Tryd.prog.follows .mixedOrders = true := by kernel_rfl
  have b1 := heap_alloc_new w (T1 (.slice A E.length c))
  have q1 : (w.alloc (T1 (.slice A E.length c))).heap.size = w.heap.size + 1 := by simp
  have b2 := heap_alloc_new (w.alloc (T1 (.slice A E.length c))) (CfgObj s0 s1 s2 ky fb)
  rw [q1] at b2
  have q2 : ((w.alloc (T1 (.slice A E.length c))).alloc (CfgObj s0 s1 s2 ky fb)).heap.size = w.heap.size + 2 := by simp
  have b3 := heap_alloc_new ((w.alloc (T1 (.slice A E.length c))).alloc (CfgObj s0 s1 s2 ky fb)) (T1 (.slice none 0 0))
  rw [q2] at b3
  have q3 : (((w.alloc (T1 (.slice A E.length c))).alloc (CfgObj s0 s1 s2 ky fb)).alloc (T1 (.slice none 0 0))).heap.size = w.heap.size + 3 := by simp
  have hB : Below w.heap.size w (((w.alloc (T1 (.slice A E.length c))).alloc (CfgObj s0 s1 s2 ky fb)).alloc (T1 (.slice none 0 0))) := (((Below.refl _ _).alloc (Nat.le_refl _) _).alloc (by rw [q1]; omega) _).alloc (by rw [q2]; omega) _
  have l1 := (blk_cell (blk_alloc (blk_alloc b1 (CfgObj s0 s1 s2 ky fb)) (T1 (.slice none 0 0))) 0).trans rfl
  have H := Lib.hid (And.intro (blk_alloc (blk_alloc b1 (CfgObj s0 s1 s2 ky fb)) (T1 (.slice none 0 0))) (And.intro (blk_alloc b2 (T1 (.slice none 0 0))) (And.intro b3 (And.intro hB q3))))
  clear b1 b2 b3 q1 q2 q3 hB
  have hgd := fun W (hW : Below w.heap.size w W) => spec_GoodTable.calls A c E (tabOk (E.map evM)) W (Kd.C_below hC hW) hc (good_tells hok)
  have hown := fun W (hW : Below w.heap.size w W) => spec_l8Own.calls 1048577 A c E E W (Kd.C_below hC hW) hc (own_tells 1048577 E hl1 hl2 (by omega))
  have hgc := fun W => spec_GoodConfig.calls s0 s1 s2 ky fb (cfgB s0 s1 s2 ky) W (s_cfg_tells s0 s1 s2 ky fb)
  have hat := fun A' c' W (h1 : Kd.C k68 W A' E.length E) (h2 : E.length ≤ c') => spec_l8At.calls 1048577 A' c' E s0 (idxOf s0 (E.map evM)) W h1 h2 (at_tells 1048577 s0 E hl1 (by omega))
  have HN := Lib.hid hl1
  unfold T1 CfgObj at l1 H
  unfold insR insK
  clear hC hc hl1 hl2
  cases hg : tabOk (E.map evM) with
  | false =>
    rw [if_neg (by decide), if_neg (by decide)]
    rw [hg] at hgd
    clear hg
    go_enter Tryd.func33, Tryd.ntmps33
    go_wp2_with (first
      | (go_at_call 28; refine (hgd _ H.out.2.2.2.1).mono ?_; rintro e w4 ⟨rfl, hB4⟩; have HB4 := Lib.hid hB4; have r1 := (blk_cell (blk_below H.out.1 hB4) 0).trans rfl; have r3 := (blk_cell (blk_below H.out.2.2.1 hB4) 0).trans rfl; have f3 := blk_frozen (blk_below H.out.2.2.1 hB4) 0; have f1 := blk_frozen (blk_below H.out.1 hB4) 0; clear hB4 l1))
    refine bodyPost_ret (results_cell_tmp rfl _ _ (w.heap.size + 2) 38 #[.slice none 0 0] (0, 0) _ rfl (blk_put (blk_below H.out.2.2.1 HB4.out) 0 _ rfl) Tryd.underlying38 rfl (by kernel_rfl)) rfl ?_
    exact ⟨none, 0, rfl, Nat.le_refl _, fun _ _ => Kd.C_nil _ _, Below.setCell (p := ⟨(w.heap.size + 2), 0, none⟩) (H.out.2.2.2.1.trans (HB4.out.mono H.out.2.2.2.1.size)) (by show w.heap.size ≤ (w.heap.size + 2); omega) _⟩
  | true =>
  rw [if_pos rfl, if_pos rfl]
  rw [hg] at hgd
  obtain ⟨g1, hg1⟩ : ∃ q, q = cfgB s0 s1 s2 ky := ⟨_, rfl⟩
  rw [← hg1] at hgc
  have hin : g1 = true → (inB 0 2 s0 = true ↔ s0 < 3) := fun h => by
    rw [hg1] at h
    unfold cfgB inB at h
    simp only [Bool.and_eq_true, decide_eq_true_iff] at h
    unfold inB
    simp only [Bool.and_eq_true, decide_eq_true_iff]
    omega
  cases g1 with
  | false =>
    have e1 : insC s0 s1 s2 ky E = 1 := by unfold insC; rw [← hg1, if_neg (by simp)]
    have e2 : insE s0 s1 s2 ky fb E = E := by unfold insE; rw [e1, if_neg (by decide)]
    rw [e1, e2]
    clear e1 e2 hg hg1 hin
    go_enter Tryd.func33, Tryd.ntmps33
    go_upto_region 4 with (first
      | (go_at_call 28; refine (hgd _ H.out.2.2.2.1).mono ?_; rintro e w4 ⟨rfl, hB4⟩; have HB4 := Lib.hid hB4; have r1 := (blk_cell (blk_below H.out.1 hB4) 0).trans rfl; have r3 := (blk_cell (blk_below H.out.2.2.1 hB4) 0).trans rfl; have f3 := blk_frozen (blk_below H.out.2.2.1 hB4) 0; have f1 := blk_frozen (blk_below H.out.1 hB4) 0; clear hB4 l1)
      | (go_at_call 63; refine (hown _ (H.out.2.2.2.1.trans (HB4.out.mono H.out.2.2.2.1.size))).mono ?_; rintro e w5 ⟨v5, rfl, hS5, hB5⟩; obtain ⟨A5, c5, e5⟩ := Kd.S_slice hS5; subst e5; have HS5 := Lib.hid hS5; have hB5' := HB4.out.trans (hB5.mono HB4.out.size); have HB5 := Lib.hid hB5'; have HB5a := Lib.hid hB5; have z1 := (blk_cell (blk_below H.out.1 hB5') 0).trans rfl; have y1 := blk_frozen (blk_below H.out.1 hB5') 0; clear hB5 hB5' hS5 r1 r3 f1 f3))
    have F : Hid (∀ W', Below (w5.setCell ⟨w.heap.size, 0, none⟩ (.slice A5 E.length c5)).heap.size (w5.setCell ⟨w.heap.size, 0, none⟩ (.slice A5 E.length c5)) W' → Below w.heap.size w W' ∧ W'.heap[w.heap.size]? = some (T1 (.slice A5 E.length c5)) ∧ W'.heap[(w.heap.size + 1)]? = some (CfgObj s0 s1 s2 ky fb) ∧ W'.heap[(w.heap.size + 2)]? = some (T1 (.slice none 0 0)) ∧ sEnt W' w.heap.size (fun k => w.heap.size + 3 ≤ k) (.slice A5 E.length c5) E) := Lib.hid (fun W' h => by
      have hb : Below w.heap.size w (w5.setCell ⟨w.heap.size, 0, none⟩ (.slice A5 E.length c5)) := Below.setCell (p := ⟨w.heap.size, 0, none⟩) (H.out.2.2.2.1.trans (HB5.out.mono H.out.2.2.2.1.size)) (Nat.le_refl _) _
      have h4 := HB4.out.size
      have h5 := H.out.2.2.2.2
      have hS := Kd.S_far (Kd.S_bound HS5.out) (p := ⟨w.heap.size, 0, none⟩) (fun k hk => by have h2 := hk.2.1; show k ≠ w.heap.size; omega) (.slice A5 E.length c5)
      exact ⟨hb.trans (h.mono hb.size), blk_below (blk_put (blk_below H.out.1 HB5.out) 0 _ rfl) h, blk_below (blk_far (blk_below H.out.2.1 HB5.out) (p := ⟨w.heap.size, 0, none⟩) (by show (w.heap.size + 1) ≠ w.heap.size; omega) _) h, blk_below (blk_far (blk_below H.out.2.2.1 HB5.out) (p := ⟨w.heap.size, 0, none⟩) (by show (w.heap.size + 2) ≠ w.heap.size; omega) _) h,
        Kd.S_below (Kd.S_lower (Kd.S_mono hS (fun k hk => by have h2 := hk.2.1; show w.heap.size + 3 ≤ k; omega)) (by omega)) h⟩)
    have HC5 := Lib.hid (Kd.S_reads' HS5.out).2.1
    clear z1 y1 HS5 HB5 HB5a HB4 H
    generalize w5.setCell ⟨w.heap.size, 0, none⟩ (.slice A5 E.length c5) = wq at F ⊢
    have a1 := (blk_cell (F.out _ (Below.refl _ _)).2.1 0).trans rfl
    have ac0 := (blk_cell (F.out _ (Below.refl _ _)).2.2.1 0).trans rfl
    have ac1 := (blk_cell (F.out _ (Below.refl _ _)).2.2.1 1).trans rfl
    have ac2 := (blk_cell (F.out _ (Below.refl _ _)).2.2.1 2).trans rfl
    have ac3 := (blk_cell (F.out _ (Below.refl _ _)).2.2.1 3).trans rfl
    have ac4 := (blk_cell (F.out _ (Below.refl _ _)).2.2.1 4).trans rfl
    have a3 := (blk_cell (F.out _ (Below.refl _ _)).2.2.2.1 0).trans rfl
    have af := blk_frozen (F.out _ (Below.refl _ _)).2.2.2.1 0
    go_wp2_with (first
      | (go_at_call 58; refine (hgc _).mono ?_; rintro e w6 ⟨rfl, hB6⟩; have HB6 := Lib.hid hB6; have b1 := (blk_cell (F.out _ hB6).2.1 0).trans rfl; have bc0 := (blk_cell (F.out _ hB6).2.2.1 0).trans rfl; have bc1 := (blk_cell (F.out _ hB6).2.2.1 1).trans rfl; have bc2 := (blk_cell (F.out _ hB6).2.2.1 2).trans rfl; have bc3 := (blk_cell (F.out _ hB6).2.2.1 3).trans rfl; have bc4 := (blk_cell (F.out _ hB6).2.2.1 4).trans rfl; have b3 := (blk_cell (F.out _ hB6).2.2.2.1 0).trans rfl; have bf := blk_frozen (F.out _ hB6).2.2.2.1 0; clear hB6 a1 ac0 ac1 ac2 ac3 ac4 a3 af))
    have hSf := Kd.S_far (F.out _ HB6.out).2.2.2.2 (p := ⟨(w.heap.size + 2), 0, none⟩) (fun k hk => by have h2 : w.heap.size + 3 ≤ k := hk; show k ≠ (w.heap.size + 2); omega) (.slice A5 E.length c5)
    refine bodyPost_ret (results_cell_tmp rfl _ _ (w.heap.size + 2) 38 #[.slice A5 E.length c5] (0, 0) _ rfl (blk_put (F.out _ HB6.out).2.2.2.1 0 _ rfl) Tryd.underlying38 rfl (by kernel_rfl)) rfl ?_
    exact ⟨A5, c5, rfl, HC5.out, fun W' hW' => (S_C (Kd.S_step hSf (fun k hk hlt => hW' k (by have h2 : w.heap.size + 3 ≤ k := hk; omega) hlt))).1, Below.setCell (p := ⟨(w.heap.size + 2), 0, none⟩) (F.out _ HB6.out).1 (by show w.heap.size ≤ (w.heap.size + 2); omega) _⟩
  | true =>
  by_cases h3 : s0 ≥ 3
  · have e1 : insC s0 s1 s2 ky E = 1 := by
      unfold insC
      rw [if_neg (fun q => by have := (hin rfl).mp q.2; omega)]
    have e2 : insE s0 s1 s2 ky fb E = E := by unfold insE; rw [e1, if_neg (by decide)]
    rw [e1, e2]
    have h3a : decide (s0 ≥ 3) = true := decide_eq_true h3
    have h3b : decide (3 ≤ s0) = true := decide_eq_true h3
    clear e1 e2 hg hg1 hin h3
    go_enter Tryd.func33, Tryd.ntmps33
    go_upto_region 4 with (first
      | (go_at_call 28; refine (hgd _ H.out.2.2.2.1).mono ?_; rintro e w4 ⟨rfl, hB4⟩; have HB4 := Lib.hid hB4; have r1 := (blk_cell (blk_below H.out.1 hB4) 0).trans rfl; have r3 := (blk_cell (blk_below H.out.2.2.1 hB4) 0).trans rfl; have f3 := blk_frozen (blk_below H.out.2.2.1 hB4) 0; have f1 := blk_frozen (blk_below H.out.1 hB4) 0; clear hB4 l1)
      | (go_at_call 63; refine (hown _ (H.out.2.2.2.1.trans (HB4.out.mono H.out.2.2.2.1.size))).mono ?_; rintro e w5 ⟨v5, rfl, hS5, hB5⟩; obtain ⟨A5, c5, e5⟩ := Kd.S_slice hS5; subst e5; have HS5 := Lib.hid hS5; have hB5' := HB4.out.trans (hB5.mono HB4.out.size); have HB5 := Lib.hid hB5'; have HB5a := Lib.hid hB5; have z1 := (blk_cell (blk_below H.out.1 hB5') 0).trans rfl; have y1 := blk_frozen (blk_below H.out.1 hB5') 0; clear hB5 hB5' hS5 r1 r3 f1 f3))
    have F : Hid (∀ W', Below (w5.setCell ⟨w.heap.size, 0, none⟩ (.slice A5 E.length c5)).heap.size (w5.setCell ⟨w.heap.size, 0, none⟩ (.slice A5 E.length c5)) W' → Below w.heap.size w W' ∧ W'.heap[w.heap.size]? = some (T1 (.slice A5 E.length c5)) ∧ W'.heap[(w.heap.size + 1)]? = some (CfgObj s0 s1 s2 ky fb) ∧ W'.heap[(w.heap.size + 2)]? = some (T1 (.slice none 0 0)) ∧ sEnt W' w.heap.size (fun k => w.heap.size + 3 ≤ k) (.slice A5 E.length c5) E) := Lib.hid (fun W' h => by
      have hb : Below w.heap.size w (w5.setCell ⟨w.heap.size, 0, none⟩ (.slice A5 E.length c5)) := Below.setCell (p := ⟨w.heap.size, 0, none⟩) (H.out.2.2.2.1.trans (HB5.out.mono H.out.2.2.2.1.size)) (Nat.le_refl _) _
      have h4 := HB4.out.size
      have h5 := H.out.2.2.2.2
      have hS := Kd.S_far (Kd.S_bound HS5.out) (p := ⟨w.heap.size, 0, none⟩) (fun k hk => by have h2 := hk.2.1; show k ≠ w.heap.size; omega) (.slice A5 E.length c5)
      exact ⟨hb.trans (h.mono hb.size), blk_below (blk_put (blk_below H.out.1 HB5.out) 0 _ rfl) h, blk_below (blk_far (blk_below H.out.2.1 HB5.out) (p := ⟨w.heap.size, 0, none⟩) (by show (w.heap.size + 1) ≠ w.heap.size; omega) _) h, blk_below (blk_far (blk_below H.out.2.2.1 HB5.out) (p := ⟨w.heap.size, 0, none⟩) (by show (w.heap.size + 2) ≠ w.heap.size; omega) _) h,
        Kd.S_below (Kd.S_lower (Kd.S_mono hS (fun k hk => by have h2 := hk.2.1; show w.heap.size + 3 ≤ k; omega)) (by omega)) h⟩)
    have HC5 := Lib.hid (Kd.S_reads' HS5.out).2.1
    clear z1 y1 HS5 HB5 HB5a HB4 H
    generalize w5.setCell ⟨w.heap.size, 0, none⟩ (.slice A5 E.length c5) = wq at F ⊢
    have a1 := (blk_cell (F.out _ (Below.refl _ _)).2.1 0).trans rfl
    have ac0 := (blk_cell (F.out _ (Below.refl _ _)).2.2.1 0).trans rfl
    have ac1 := (blk_cell (F.out _ (Below.refl _ _)).2.2.1 1).trans rfl
    have ac2 := (blk_cell (F.out _ (Below.refl _ _)).2.2.1 2).trans rfl
    have ac3 := (blk_cell (F.out _ (Below.refl _ _)).2.2.1 3).trans rfl
    have ac4 := (blk_cell (F.out _ (Below.refl _ _)).2.2.1 4).trans rfl
    have a3 := (blk_cell (F.out _ (Below.refl _ _)).2.2.2.1 0).trans rfl
    have af := blk_frozen (F.out _ (Below.refl _ _)).2.2.2.1 0
    go_wp2_with (first
      | (go_at_call 58; refine (hgc _).mono ?_; rintro e w6 ⟨rfl, hB6⟩; have HB6 := Lib.hid hB6; have b1 := (blk_cell (F.out _ hB6).2.1 0).trans rfl; have bc0 := (blk_cell (F.out _ hB6).2.2.1 0).trans rfl; have bc1 := (blk_cell (F.out _ hB6).2.2.1 1).trans rfl; have bc2 := (blk_cell (F.out _ hB6).2.2.1 2).trans rfl; have bc3 := (blk_cell (F.out _ hB6).2.2.1 3).trans rfl; have bc4 := (blk_cell (F.out _ hB6).2.2.1 4).trans rfl; have b3 := (blk_cell (F.out _ hB6).2.2.2.1 0).trans rfl; have bf := blk_frozen (F.out _ hB6).2.2.2.1 0; clear hB6 a1 ac0 ac1 ac2 ac3 ac4 a3 af))
    have hSf := Kd.S_far (F.out _ HB6.out).2.2.2.2 (p := ⟨(w.heap.size + 2), 0, none⟩) (fun k hk => by have h2 : w.heap.size + 3 ≤ k := hk; show k ≠ (w.heap.size + 2); omega) (.slice A5 E.length c5)
    refine bodyPost_ret (results_cell_tmp rfl _ _ (w.heap.size + 2) 38 #[.slice A5 E.length c5] (0, 0) _ rfl (blk_put (F.out _ HB6.out).2.2.2.1 0 _ rfl) Tryd.underlying38 rfl (by kernel_rfl)) rfl ?_
    exact ⟨A5, c5, rfl, HC5.out, fun W' hW' => (S_C (Kd.S_step hSf (fun k hk hlt => hW' k (by have h2 : w.heap.size + 3 ≤ k := hk; omega) hlt))).1, Below.setCell (p := ⟨(w.heap.size + 2), 0, none⟩) (F.out _ HB6.out).1 (by show w.heap.size ≤ (w.heap.size + 2); omega) _⟩
  · have h3a : decide (s0 ≥ 3) = false := decide_eq_false h3
    have h3b : decide (3 ≤ s0) = false := decide_eq_false h3
    have hcond : cfgB s0 s1 s2 ky = true ∧ inB 0 2 s0 = true := ⟨hg1.symm, (hin rfl).mpr (by omega)⟩
    by_cases hi : idxOf s0 (E.map evM) < 0
    · have e1 : insC s0 s1 s2 ky E = 0 := by unfold insC; rw [if_pos hcond, if_pos hi]
      have e2 : insE s0 s1 s2 ky fb E = insL ltE (newE s0 s1 s2 ky fb) E := by unfold insE; rw [e1, if_pos rfl]
      rw [e1, e2]
      obtain ⟨ix, hix⟩ : ∃ q, q = idxOf s0 (E.map evM) := ⟨_, rfl⟩
      rw [← hix] at hat hi
      have hia : decide (0 ≤ ix) = false := decide_eq_false (by omega)
      have hib : decide (ix ≥ 0) = false := decide_eq_false (by omega)
      clear e1 e2 hg hg1 hin h3 hcond hi hix
      obtain ⟨i0, hi0, hsz7⟩ := Option.map_eq_some_iff.1 info68s
      go_enter Tryd.func33, Tryd.ntmps33
      go_upto_region 4 with (first
        | (go_at_call 28; refine (hgd _ H.out.2.2.2.1).mono ?_; rintro e w4 ⟨rfl, hB4⟩; have HB4 := Lib.hid hB4; have r1 := (blk_cell (blk_below H.out.1 hB4) 0).trans rfl; have r3 := (blk_cell (blk_below H.out.2.2.1 hB4) 0).trans rfl; have f3 := blk_frozen (blk_below H.out.2.2.1 hB4) 0; have f1 := blk_frozen (blk_below H.out.1 hB4) 0; clear hB4 l1)
        | (go_at_call 63; refine (hown _ (H.out.2.2.2.1.trans (HB4.out.mono H.out.2.2.2.1.size))).mono ?_; rintro e w5 ⟨v5, rfl, hS5, hB5⟩; obtain ⟨A5, c5, e5⟩ := Kd.S_slice hS5; subst e5; have HS5 := Lib.hid hS5; have hB5' := HB4.out.trans (hB5.mono HB4.out.size); have HB5 := Lib.hid hB5'; have HB5a := Lib.hid hB5; have z1 := (blk_cell (blk_below H.out.1 hB5') 0).trans rfl; have y1 := blk_frozen (blk_below H.out.1 hB5') 0; clear hB5 hB5' hS5 r1 r3 f1 f3))
      have F : Hid (∀ W', Below (w5.setCell ⟨w.heap.size, 0, none⟩ (.slice A5 E.length c5)).heap.size (w5.setCell ⟨w.heap.size, 0, none⟩ (.slice A5 E.length c5)) W' → Below w.heap.size w W' ∧ W'.heap[w.heap.size]? = some (T1 (.slice A5 E.length c5)) ∧ W'.heap[(w.heap.size + 1)]? = some (CfgObj s0 s1 s2 ky fb) ∧ W'.heap[(w.heap.size + 2)]? = some (T1 (.slice none 0 0)) ∧ sEnt W' w.heap.size (fun k => w.heap.size + 3 ≤ k) (.slice A5 E.length c5) E) := Lib.hid (fun W' h => by
        have hb : Below w.heap.size w (w5.setCell ⟨w.heap.size, 0, none⟩ (.slice A5 E.length c5)) := Below.setCell (p := ⟨w.heap.size, 0, none⟩) (H.out.2.2.2.1.trans (HB5.out.mono H.out.2.2.2.1.size)) (Nat.le_refl _) _
        have h4 := HB4.out.size
        have h5 := H.out.2.2.2.2
        have hS := Kd.S_far (Kd.S_bound HS5.out) (p := ⟨w.heap.size, 0, none⟩) (fun k hk => by have h2 := hk.2.1; show k ≠ w.heap.size; omega) (.slice A5 E.length c5)
        exact ⟨hb.trans (h.mono hb.size), blk_below (blk_put (blk_below H.out.1 HB5.out) 0 _ rfl) h, blk_below (blk_far (blk_below H.out.2.1 HB5.out) (p := ⟨w.heap.size, 0, none⟩) (by show (w.heap.size + 1) ≠ w.heap.size; omega) _) h, blk_below (blk_far (blk_below H.out.2.2.1 HB5.out) (p := ⟨w.heap.size, 0, none⟩) (by show (w.heap.size + 2) ≠ w.heap.size; omega) _) h,
          Kd.S_below (Kd.S_lower (Kd.S_mono hS (fun k hk => by have h2 := hk.2.1; show w.heap.size + 3 ≤ k; omega)) (by omega)) h⟩)
      have HC5 := Lib.hid (Kd.S_reads' HS5.out).2.1
      clear z1 y1 HS5 HB5 HB5a HB4 H
      generalize w5.setCell ⟨w.heap.size, 0, none⟩ (.slice A5 E.length c5) = wq at F ⊢
      have a1 := (blk_cell (F.out _ (Below.refl _ _)).2.1 0).trans rfl
      have ac0 := (blk_cell (F.out _ (Below.refl _ _)).2.2.1 0).trans rfl
      have ac1 := (blk_cell (F.out _ (Below.refl _ _)).2.2.1 1).trans rfl
      have ac2 := (blk_cell (F.out _ (Below.refl _ _)).2.2.1 2).trans rfl
      have ac3 := (blk_cell (F.out _ (Below.refl _ _)).2.2.1 3).trans rfl
      have ac4 := (blk_cell (F.out _ (Below.refl _ _)).2.2.1 4).trans rfl
      have a3 := (blk_cell (F.out _ (Below.refl _ _)).2.2.2.1 0).trans rfl
      have af := blk_frozen (F.out _ (Below.refl _ _)).2.2.2.1 0
      go_wp2_with (first
        | (go_at_call 58; refine (hgc _).mono ?_; rintro e w6 ⟨rfl, hB6⟩; have HB6 := Lib.hid hB6; have b1 := (blk_cell (F.out _ hB6).2.1 0).trans rfl; have bc0 := (blk_cell (F.out _ hB6).2.2.1 0).trans rfl; have bc1 := (blk_cell (F.out _ hB6).2.2.1 1).trans rfl; have bc2 := (blk_cell (F.out _ hB6).2.2.1 2).trans rfl; have bc3 := (blk_cell (F.out _ hB6).2.2.1 3).trans rfl; have bc4 := (blk_cell (F.out _ hB6).2.2.1 4).trans rfl; have b3 := (blk_cell (F.out _ hB6).2.2.2.1 0).trans rfl; have bf := blk_frozen (F.out _ hB6).2.2.2.1 0; clear hB6 a1 ac0 ac1 ac2 ac3 ac4 a3 af)
        | (go_at_call 64; refine (hat A5 c5 _ (S_C (F.out _ HB6.out).2.2.2.2).1 HC5.out).mono ?_; rintro e w7 ⟨rfl, hB7⟩; have hB7' := HB6.out.trans (hB7.mono HB6.out.size); have HB7 := Lib.hid hB7'; have c1 := (blk_cell (F.out _ hB7').2.1 0).trans rfl; have cc0 := (blk_cell (F.out _ hB7').2.2.1 0).trans rfl; have cc1 := (blk_cell (F.out _ hB7').2.2.1 1).trans rfl; have cc2 := (blk_cell (F.out _ hB7').2.2.1 2).trans rfl; have cc3 := (blk_cell (F.out _ hB7').2.2.1 3).trans rfl; have cc4 := (blk_cell (F.out _ hB7').2.2.1 4).trans rfl; have c3 := (blk_cell (F.out _ hB7').2.2.2.1 0).trans rfl; have cf := blk_frozen (F.out _ hB7').2.2.2.1 0; clear hB7 hB7' b1 bc0 bc1 bc2 bc3 bc4 b3 bf))
      clear c1 cc0 cc1 cc2 cc3 cc4 c3 cf
      go_loopg [6] E.length (fun g1 v6 wr => ∃ xi : Int, v6 = .int .i64 xi ∧ Aside0 (0 ≤ xi ∧ xi ≤ E.length ∧ E.length - xi.toNat ≤ g1) ∧ Aside0 (∀ j (h : j < E.length), j < xi.toNat → ltE E[j] (newE s0 s1 s2 ky fb) = true) ∧ Aside0 (Below wq.heap.size wq wr))
      case atStart => exact ⟨0, rfl, ⟨by omega, by omega, by simp⟩, ⟨fun j h hj => absurd hj (Nat.not_lt_zero _)⟩, ⟨HB7.out⟩⟩
      case round =>
        clear HB7 HB6
        obtain ⟨xi, rfl, X, HLT, B1⟩ := hrel
        have p1 : 0 ≤ xi := X.out.1
        have g1 := (blk_cell (F.out _ B1.out).2.1 0).trans rfl
        have gc0 := (blk_cell (F.out _ B1.out).2.2.1 0).trans rfl
        have gc1 := (blk_cell (F.out _ B1.out).2.2.1 1).trans rfl
        have gc2 := (blk_cell (F.out _ B1.out).2.2.1 2).trans rfl
        have gc3 := (blk_cell (F.out _ B1.out).2.2.1 3).trans rfl
        have gc4 := (blk_cell (F.out _ B1.out).2.2.1 4).trans rfl
        have g3 := (blk_cell (F.out _ B1.out).2.2.2.1 0).trans rfl
        have gf := blk_frozen (F.out _ B1.out).2.2.2.1 0
        by_cases hlt : xi < (E.length : Int)
        · have hil : xi.toNat < E.length := by omega
          have ra : IntKind.i64.wrap (xi + 1) = xi + 1 := by rw [IntKind.wrap_i64]; have := HN.out; omega
          have hCr := c_ent (S_C (F.out _ B1.out).2.2.2.2).1
          obtain ⟨ad, _, _, eA, hx0, _⟩ := ent_at hCr xi p1 hlt
          subst eA
          have hx0' : wr.cell? (ad.add (xi.toNat * 7)) = some (.int .i64 (E[xi.toNat]'hil).f0.f0) := hx0.trans (by rw [evs_at E xi.toNat hil]; rfl)
          clear hx0 hCr
          obtain ⟨sl, hsl⟩ : ∃ q, q = (E[xi.toNat]'hil).f0.f0 := ⟨_, rfl⟩
          rw [← hsl] at hx0'
          have HSL := Lib.hid hsl
          clear hsl
          by_cases hs : sl < s0
          · have hsa : decide (sl < s0) = true := decide_eq_true hs
            have HS := Lib.hid hs
            clear hs
            go_wp2_with fail
            have lq0 := fun d os => cell_regrown g1 d os
            have lq1 := fun d os => cell_regrown gc0 d os
            have lq2 := fun d os => cell_regrown hx0' d os
            refine wp_region_quiet_below (by assumption) (by kernel_rfl) ?_
            repeat (refine (wpQuiet_step (fun K hK => ?_) : _); go_simp; (refine hK _ ?_; clear hK K))
            refine wpQuiet_nil ?_
            intro _ hw'
            obtain ⟨⟨dq, osq⟩, hw''⟩ := hw'
            subst hw''
            have hbq := below_regrown wr dq osq
            have B2 : Aside0 (Below wq.heap.size wq (Go.Sort.grow (redrawn wr dq) osq)) := ⟨B1.out.trans (hbq.mono B1.out.size)⟩
            clear hbq B1 lq0 lq1 lq2 g1 gc0 gc1 gc2 gc3 gc4 g3 gf hx0'
            generalize Go.Sort.grow (redrawn wr dq) osq = wz at B2 ⊢
            have B1 := B2
            clear B2
            have g1 := (blk_cell (F.out _ B1.out).2.1 0).trans rfl
            have gc0 := (blk_cell (F.out _ B1.out).2.2.1 0).trans rfl
            have gc1 := (blk_cell (F.out _ B1.out).2.2.1 1).trans rfl
            have gc2 := (blk_cell (F.out _ B1.out).2.2.1 2).trans rfl
            have gc3 := (blk_cell (F.out _ B1.out).2.2.1 3).trans rfl
            have gc4 := (blk_cell (F.out _ B1.out).2.2.1 4).trans rfl
            have g3 := (blk_cell (F.out _ B1.out).2.2.2.1 0).trans rfl
            have gf := blk_frozen (F.out _ B1.out).2.2.2.1 0
            go_wp2
            go_roundg (E.length - (xi + 1).toNat)
            case measure => have := X.out.2.2; omega
            case rel =>
              refine ⟨xi + 1, by first | rfl | rw [ra], ⟨by omega, by omega, Nat.le_refl _⟩, ⟨fun j h hj => ?_⟩, ⟨B1.out⟩⟩
              by_cases hjx : j < xi.toNat
              · exact HLT.out j h hjx
              · obtain rfl : j = xi.toNat := by omega
                show decide (_ < s0) = true
                rw [← HSL.out]; exact decide_eq_true HS.out
          · have hsa : decide (sl < s0) = false := decide_eq_false hs
            have HGE : Hid (∀ h : xi.toNat < E.length, ltE E[xi.toNat] (newE s0 s1 s2 ky fb) = false) := Lib.hid (fun h => by show decide (_ < s0) = false; rw [← HSL.out]; exact hsa)
            clear hs
            go_wp2_with fail
            have lq0 := fun d os => cell_regrown g1 d os
            have lq1 := fun d os => cell_regrown gc0 d os
            have lq2 := fun d os => cell_regrown hx0' d os
            refine wp_region_quiet_below (by assumption) (by kernel_rfl) ?_
            repeat (refine (wpQuiet_step (fun K hK => ?_) : _); go_simp; (refine hK _ ?_; clear hK K))
            refine wpQuiet_nil ?_
            intro _ hw'
            obtain ⟨⟨dq, osq⟩, hw''⟩ := hw'
            subst hw''
            have hbq := below_regrown wr dq osq
            have B2 : Aside0 (Below wq.heap.size wq (Go.Sort.grow (redrawn wr dq) osq)) := ⟨B1.out.trans (hbq.mono B1.out.size)⟩
            clear hbq B1 lq0 lq1 lq2 g1 gc0 gc1 gc2 gc3 gc4 g3 gf hx0'
            generalize Go.Sort.grow (redrawn wr dq) osq = wz at B2 ⊢
            have B1 := B2
            clear B2
            have g1 := (blk_cell (F.out _ B1.out).2.1 0).trans rfl
            have gc0 := (blk_cell (F.out _ B1.out).2.2.1 0).trans rfl
            have gc1 := (blk_cell (F.out _ B1.out).2.2.1 1).trans rfl
            have gc2 := (blk_cell (F.out _ B1.out).2.2.1 2).trans rfl
            have gc3 := (blk_cell (F.out _ B1.out).2.2.1 3).trans rfl
            have gc4 := (blk_cell (F.out _ B1.out).2.2.1 4).trans rfl
            have g3 := (blk_cell (F.out _ B1.out).2.2.2.1 0).trans rfl
            have gf := blk_frozen (F.out _ B1.out).2.2.2.1 0
            have hl3 : E.length ≤ 1048576 := HN.out
            obtain ⟨zs, hz1, hz2, hz3⟩ := rows_ofS (Kd.S_R (F.out _ (Below.refl _ _)).2.2.2.2)
            obtain ⟨rws, hrws⟩ : ∃ q : List (List Value), q = zs.map (fun z => z.2) := ⟨_, rfl⟩
            rw [← hrws] at hz2
            have hzl : rws.length = E.length := by rw [hrws, ← hz1, List.length_map, List.length_map]
            have hkn : xi.toNat ≤ rws.length := by have := X.out; omega
            have hc1 := cut_to (P := Tryd.prog) 36 68 .i64 Tryd.underlying36 hi0 (some ad) E.length c5 xi p1 (by omega) HC5.out
            have hc2 := cut_from (P := Tryd.prog) 36 68 .i64 Tryd.underlying36 hi0 7 hsz7 (some ad) E.length c5 xi p1 (by have := X.out; omega)
            obtain ⟨A6, hA6⟩ : ∃ q, q = (if c5 = xi.toNat then (some ad) else ((some ad)).map (·.add (xi.toNat * 7))) := ⟨_, rfl⟩
            rw [← hA6] at hc2
            obtain ⟨m6, hm6⟩ : ∃ q, q = E.length - xi.toNat := ⟨_, rfl⟩
            rw [← hm6] at hc2
            have HM6 := Lib.hid hm6
            have HZ := Lib.hid (And.intro hz1 (And.intro hz3 (And.intro hzl hkn)))
            have HRW := Lib.hid hrws
            have hrd : ∀ W', Below wq.heap.size wq W' → (Kd.raw 7).C W' (some ad) rws.length rws := fun W' h => (Kd.R_reads' (Kd.R_below hz2 h)).2.2
            have HR1 : Hid (∀ W', Below wq.heap.size wq W' → (Kd.raw 7).C W' (some ad) xi.toNat (rws.take xi.toNat)) := Lib.hid (fun W' h => by
              have q := Kd.C_take (hrd W' h) hkn
              rw [List.length_take, Nat.min_eq_left hkn] at q
              exact q)
            have HR2 : Hid (∀ W', Below wq.heap.size wq W' → (Kd.raw 7).C W' A6 m6 (rws.drop xi.toNat)) := Lib.hid (fun W' h => by
              have q := Kd.C_drop (c := c5) (hrd W' h) hkn (by rw [hzl]; exact HC5.out)
              rw [List.length_drop, hzl] at q
              rw [hA6, hm6]
              exact q)
            have P1 : True := trivial
            clear hz1 hz2 hz3 hzl hkn hA6 hl3 hrd hrws hm6
            go_wp2_with (first
              | (have _ := P1; at_builtin; refine Kd.R_append_rows (Kd.raw 7) (w0 := wq) wq.heap.size rfl (.tmp 48) (.tmp 52) 36 68 (.agg #[(.int .i64 0), (.int .i64 0), (.int .i64 0), (.string ⟨#[]⟩), (.bool false), (.slice none 0 0), (.int .i64 0)]) 80 rfl Tryd.underlying36 info68a rfl (by decide) (by decide) (.slice none 0 0) [] (rws.take xi.toNat) ((some ad)) xi.toNat c5 (fun _ => True) (fun _ => False) rfl rfl (Kd.R_nil _ _ _ _ _) (HR1.out _ B1.out) (fun _ _ h => h) (fun _ h => h.elim) (fun _ _ => trivial) B1.out (by have h := B1.out.size; first | exact h | simpa using h) (by have := HN.out; have := X.out.2.1; have := HZ.out.2.2.1; simp only [List.nil_append, List.length_append, List.length_take, List.length_cons, List.length_nil]; omega) ?_; intro v8 w8 hR8 hB8 _ _; obtain ⟨A8, c8, e8⟩ := Kd.R_slice hR8; obtain ⟨n8, hn8⟩ : ∃ q, q = ([] ++ rws.take xi.toNat).length := ⟨_, rfl⟩; rw [← hn8] at e8; subst e8; have H8 := Lib.hid (And.intro hR8 (And.intro hB8 hn8)); clear g1 gc0 gc1 gc2 gc3 gc4 g3 gf; have d1 := (blk_cell (F.out _ hB8).2.1 0).trans rfl; have dc0 := (blk_cell (F.out _ hB8).2.2.1 0).trans rfl; have dc1 := (blk_cell (F.out _ hB8).2.2.1 1).trans rfl; have dc2 := (blk_cell (F.out _ hB8).2.2.1 2).trans rfl; have dc3 := (blk_cell (F.out _ hB8).2.2.1 3).trans rfl; have dc4 := (blk_cell (F.out _ hB8).2.2.1 4).trans rfl; have d3 := (blk_cell (F.out _ hB8).2.2.2.1 0).trans rfl; have df := blk_frozen (F.out _ hB8).2.2.2.1 0; clear hR8 hB8 hn8 P1; have P2 : True := trivial)
              | (have _ := P2; at_builtin; refine Kd.R_append (Kd.raw 7) (w0 := wq) wq.heap.size rfl (.tmp 54) (.tmp 57) 36 68 (.agg #[(.int .i64 0), (.int .i64 0), (.int .i64 0), (.string ⟨#[]⟩), (.bool false), (.slice none 0 0), (.int .i64 0)]) 80 rfl Tryd.underlying36 info68a rfl (by decide) (by decide) (.slice A8 n8 c8) ([] ++ rws.take xi.toNat) ([.int .i64 s0, .int .i64 s1, .int .i64 s2, .string ky, .bool fb, .slice none 0 0, .int .i64 0] : List Value) ([.int .i64 s0, .int .i64 s1, .int .i64 s2, .string ky, .bool fb, .slice none 0 0, .int .i64 0] : List Value) (fun _ => True) (fun _ => False) rfl rfl (new_raw s0 s1 s2 ky fb _ _ _) (fun _ h => h.elim) (fun _ _ => trivial) H8.out.1 H8.out.2.1 H8.out.2.1.size (by have := HN.out; have := X.out.2.1; have := HZ.out.2.2.1; simp only [List.nil_append, List.length_append, List.length_take, List.length_cons, List.length_nil]; omega) ?_; intro v9 w9 hR9 hB9 _ _; obtain ⟨A9, c9, e9⟩ := Kd.R_slice hR9; obtain ⟨n9, hn9⟩ : ∃ q, q = ([] ++ rws.take xi.toNat ++ [([.int .i64 s0, .int .i64 s1, .int .i64 s2, .string ky, .bool fb, .slice none 0 0, .int .i64 0] : List Value)]).length := ⟨_, rfl⟩; rw [← hn9] at e9; subst e9; have H9 := Lib.hid (And.intro hR9 (And.intro hB9 hn9)); clear d1 dc0 dc1 dc2 dc3 dc4 d3 df; have e1 := (blk_cell (F.out _ hB9).2.1 0).trans rfl; have ec0 := (blk_cell (F.out _ hB9).2.2.1 0).trans rfl; have ec1 := (blk_cell (F.out _ hB9).2.2.1 1).trans rfl; have ec2 := (blk_cell (F.out _ hB9).2.2.1 2).trans rfl; have ec3 := (blk_cell (F.out _ hB9).2.2.1 3).trans rfl; have ec4 := (blk_cell (F.out _ hB9).2.2.1 4).trans rfl; have e3 := (blk_cell (F.out _ hB9).2.2.2.1 0).trans rfl; have ef := blk_frozen (F.out _ hB9).2.2.2.1 0; clear hR9 hB9 hn9 P2; have P3 : True := trivial)
              | (have _ := P3; at_builtin; refine Kd.R_append_rows (Kd.raw 7) (w0 := wq) wq.heap.size rfl (.tmp 59) (.tmp 63) 36 68 (.agg #[(.int .i64 0), (.int .i64 0), (.int .i64 0), (.string ⟨#[]⟩), (.bool false), (.slice none 0 0), (.int .i64 0)]) 80 rfl Tryd.underlying36 info68a rfl (by decide) (by decide) (.slice A9 n9 c9) ([] ++ rws.take xi.toNat ++ [([.int .i64 s0, .int .i64 s1, .int .i64 s2, .string ky, .bool fb, .slice none 0 0, .int .i64 0] : List Value)]) (rws.drop xi.toNat) A6 m6 _ (fun _ => True) (fun _ => False) rfl rfl H9.out.1 (HR2.out _ H9.out.2.1) (fun _ _ h => h) (fun _ h => h.elim) (fun _ _ => trivial) H9.out.2.1 H9.out.2.1.size (by have h6 := HM6.out; have := HN.out; have := X.out.2.1; have := HZ.out.2.2.1; simp only [List.nil_append, List.length_append, List.length_take, List.length_cons, List.length_nil]; omega) ?_; intro v10 w10 hR10 hB10 _ _; obtain ⟨A10, c10, e10⟩ := Kd.R_slice hR10; obtain ⟨n10, hn10⟩ : ∃ q, q = ([] ++ rws.take xi.toNat ++ [([.int .i64 s0, .int .i64 s1, .int .i64 s2, .string ky, .bool fb, .slice none 0 0, .int .i64 0] : List Value)] ++ rws.drop xi.toNat).length := ⟨_, rfl⟩; rw [← hn10] at e10; subst e10; have H10 := Lib.hid (And.intro hR10 (And.intro hB10 hn10)); clear e1 ec0 ec1 ec2 ec3 ec4 e3 ef; have f1 := (blk_cell (F.out _ hB10).2.1 0).trans rfl; have fc0 := (blk_cell (F.out _ hB10).2.2.1 0).trans rfl; have fc1 := (blk_cell (F.out _ hB10).2.2.1 1).trans rfl; have fc2 := (blk_cell (F.out _ hB10).2.2.1 2).trans rfl; have fc3 := (blk_cell (F.out _ hB10).2.2.1 3).trans rfl; have fc4 := (blk_cell (F.out _ hB10).2.2.1 4).trans rfl; have f3 := (blk_cell (F.out _ hB10).2.2.2.1 0).trans rfl; have ff := blk_frozen (F.out _ hB10).2.2.2.1 0; clear hR10 hB10 hn10 P3))
            clear f1 fc0 fc1 fc2 fc3 fc4 f3 ff
            have hbq : Below wq.heap.size wq w10 := H10.out.2.1
            have hres : insL ltE (newE s0 s1 s2 ky fb) E = (zs.take xi.toNat ++ (newE s0 s1 s2 ky fb, ([.int .i64 s0, .int .i64 s1, .int .i64 s2, .string ky, .bool fb, .slice none 0 0, .int .i64 0] : List Value)) :: zs.drop xi.toNat).map (fun z => z.1) := by
              rw [insL_at ltE (newE s0 s1 s2 ky fb) E xi.toNat (by have := X.out; omega) HLT.out HGE.out, List.map_append, List.map_cons, List.map_take, List.map_drop, HZ.out.1]
            have hrow : ([] ++ rws.take xi.toNat ++ [([.int .i64 s0, .int .i64 s1, .int .i64 s2, .string ky, .bool fb, .slice none 0 0, .int .i64 0] : List Value)] ++ rws.drop xi.toNat) = (zs.take xi.toNat ++ (newE s0 s1 s2 ky fb, ([.int .i64 s0, .int .i64 s1, .int .i64 s2, .string ky, .bool fb, .slice none 0 0, .int .i64 0] : List Value)) :: zs.drop xi.toNat).map (fun z => z.2) := by
              rw [HRW.out, List.map_append, List.map_cons, List.map_take, List.map_drop, List.nil_append, List.append_assoc]; rfl
            have hn : n10 = (insL ltE (newE s0 s1 s2 ky fb) E).length := by rw [H10.out.2.2, hrow, hres, List.length_map, List.length_map]
            have hRf := Kd.R_far (Kd.R_bound H10.out.1) (p := ⟨(w.heap.size + 2), 0, none⟩) (fun k hk => by have h2 := hk.2.1; have h3 := blk_lt (F.out _ (Below.refl _ _)).2.2.2.1; show k ≠ (w.heap.size + 2); omega) (.slice A10 n10 c10)
            obtain ⟨hn', hcap, _⟩ := Kd.R_reads' hRf
            refine bodyPost_ret (results_cell_tmp rfl _ _ (w.heap.size + 2) 38 #[.slice A10 n10 c10] (0, 0) _ rfl (blk_put (F.out _ hbq).2.2.2.1 0 _ rfl) Tryd.underlying38 rfl (by kernel_rfl)) rfl ?_
            refine ⟨A10, c10, by rw [← hn]; rfl, by rw [← hn]; exact hcap, ?_, Below.setCell (p := ⟨(w.heap.size + 2), 0, none⟩) (F.out _ hbq).1 (by show w.heap.size ≤ (w.heap.size + 2); omega) _⟩
            rw [← hn, hres]
            intro W' hW'
            have hlq := (F.out _ (Below.refl _ _)).1.size
            have hls : (w10.setCell ⟨(w.heap.size + 2), 0, none⟩ (.slice A10 n10 c10)).heap.size = w10.heap.size := by simp [World.setCell]
            have hread := (Kd.R_reads' (Kd.R_step hRf (fun k hk hlt => hW' k (by have := hk.2.1; omega) hlt))).2.2
            rw [← hn', hrow] at hread
            have hKz : ∀ z ∈ zs, k68.K W' z.1 z.2 := fun z hz => Kd.K_of_M _ (Kd.M_step (HZ.out.2.1 z hz) (fun k hk hlt => by
              have h2 : w.heap.size + 3 ≤ k := hk.1
              have h3 := hbq.size
              exact (hW' k (by omega) (by rw [hls]; omega)).trans ((Below.heap_setCell w10 ⟨(w.heap.size + 2), 0, none⟩ _ k (by show k ≠ (w.heap.size + 2); omega)).trans (hbq.block k hlt))))
            refine of_rows _ hread (fun z hz => ?_)
            rcases List.mem_append.mp hz with hz | hz
            · exact hKz z (List.mem_of_mem_take hz)
            · rcases List.mem_cons.mp hz with rfl | hz
              · exact new_K s0 s1 s2 ky fb _
              · exact hKz z (List.mem_of_mem_drop hz)
        · have hltd : decide (xi < (E.length : Int)) = false := decide_eq_false hlt
          have HGE : Hid (∀ h : xi.toNat < E.length, ltE E[xi.toNat] (newE s0 s1 s2 ky fb) = false) := Lib.hid (fun h => by omega)
          go_wp2_with fail
          have lq0 := fun d os => cell_regrown g1 d os
          have lq1 := fun d os => cell_regrown gc0 d os
          refine wp_region_quiet_below (by assumption) (by kernel_rfl) ?_
          repeat (refine (wpQuiet_step (fun K hK => ?_) : _); go_simp; (refine hK _ ?_; clear hK K))
          refine wpQuiet_nil ?_
          intro _ hw'
          obtain ⟨⟨dq, osq⟩, hw''⟩ := hw'
          subst hw''
          have hbq := below_regrown wr dq osq
          have B2 : Aside0 (Below wq.heap.size wq (Go.Sort.grow (redrawn wr dq) osq)) := ⟨B1.out.trans (hbq.mono B1.out.size)⟩
          clear hbq B1 lq0 lq1 g1 gc0 gc1 gc2 gc3 gc4 g3 gf
          generalize Go.Sort.grow (redrawn wr dq) osq = wz at B2 ⊢
          have B1 := B2
          clear B2
          have g1 := (blk_cell (F.out _ B1.out).2.1 0).trans rfl
          have gc0 := (blk_cell (F.out _ B1.out).2.2.1 0).trans rfl
          have gc1 := (blk_cell (F.out _ B1.out).2.2.1 1).trans rfl
          have gc2 := (blk_cell (F.out _ B1.out).2.2.1 2).trans rfl
          have gc3 := (blk_cell (F.out _ B1.out).2.2.1 3).trans rfl
          have gc4 := (blk_cell (F.out _ B1.out).2.2.1 4).trans rfl
          have g3 := (blk_cell (F.out _ B1.out).2.2.2.1 0).trans rfl
          have gf := blk_frozen (F.out _ B1.out).2.2.2.1 0
          have hl3 : E.length ≤ 1048576 := HN.out
          obtain ⟨zs, hz1, hz2, hz3⟩ := rows_ofS (Kd.S_R (F.out _ (Below.refl _ _)).2.2.2.2)
          obtain ⟨rws, hrws⟩ : ∃ q : List (List Value), q = zs.map (fun z => z.2) := ⟨_, rfl⟩
          rw [← hrws] at hz2
          have hzl : rws.length = E.length := by rw [hrws, ← hz1, List.length_map, List.length_map]
          have hkn : xi.toNat ≤ rws.length := by have := X.out; omega
          have hc1 := cut_to (P := Tryd.prog) 36 68 .i64 Tryd.underlying36 hi0 A5 E.length c5 xi p1 (by omega) HC5.out
          have hc2 := cut_from (P := Tryd.prog) 36 68 .i64 Tryd.underlying36 hi0 7 hsz7 A5 E.length c5 xi p1 (by have := X.out; omega)
          obtain ⟨A6, hA6⟩ : ∃ q, q = (if c5 = xi.toNat then A5 else (A5).map (·.add (xi.toNat * 7))) := ⟨_, rfl⟩
          rw [← hA6] at hc2
          obtain ⟨m6, hm6⟩ : ∃ q, q = E.length - xi.toNat := ⟨_, rfl⟩
          rw [← hm6] at hc2
          have HM6 := Lib.hid hm6
          have HZ := Lib.hid (And.intro hz1 (And.intro hz3 (And.intro hzl hkn)))
          have HRW := Lib.hid hrws
          have hrd : ∀ W', Below wq.heap.size wq W' → (Kd.raw 7).C W' A5 rws.length rws := fun W' h => (Kd.R_reads' (Kd.R_below hz2 h)).2.2
          have HR1 : Hid (∀ W', Below wq.heap.size wq W' → (Kd.raw 7).C W' A5 xi.toNat (rws.take xi.toNat)) := Lib.hid (fun W' h => by
            have q := Kd.C_take (hrd W' h) hkn
            rw [List.length_take, Nat.min_eq_left hkn] at q
            exact q)
          have HR2 : Hid (∀ W', Below wq.heap.size wq W' → (Kd.raw 7).C W' A6 m6 (rws.drop xi.toNat)) := Lib.hid (fun W' h => by
            have q := Kd.C_drop (c := c5) (hrd W' h) hkn (by rw [hzl]; exact HC5.out)
            rw [List.length_drop, hzl] at q
            rw [hA6, hm6]
            exact q)
          have P1 : True := trivial
          clear hz1 hz2 hz3 hzl hkn hA6 hl3 hrd hrws hm6
          go_wp2_with (first
            | (have _ := P1; at_builtin; refine Kd.R_append_rows (Kd.raw 7) (w0 := wq) wq.heap.size rfl (.tmp 48) (.tmp 52) 36 68 (.agg #[(.int .i64 0), (.int .i64 0), (.int .i64 0), (.string ⟨#[]⟩), (.bool false), (.slice none 0 0), (.int .i64 0)]) 80 rfl Tryd.underlying36 info68a rfl (by decide) (by decide) (.slice none 0 0) [] (rws.take xi.toNat) (A5) xi.toNat c5 (fun _ => True) (fun _ => False) rfl rfl (Kd.R_nil _ _ _ _ _) (HR1.out _ B1.out) (fun _ _ h => h) (fun _ h => h.elim) (fun _ _ => trivial) B1.out (by have h := B1.out.size; first | exact h | simpa using h) (by have := HN.out; have := X.out.2.1; have := HZ.out.2.2.1; simp only [List.nil_append, List.length_append, List.length_take, List.length_cons, List.length_nil]; omega) ?_; intro v8 w8 hR8 hB8 _ _; obtain ⟨A8, c8, e8⟩ := Kd.R_slice hR8; obtain ⟨n8, hn8⟩ : ∃ q, q = ([] ++ rws.take xi.toNat).length := ⟨_, rfl⟩; rw [← hn8] at e8; subst e8; have H8 := Lib.hid (And.intro hR8 (And.intro hB8 hn8)); clear g1 gc0 gc1 gc2 gc3 gc4 g3 gf; have d1 := (blk_cell (F.out _ hB8).2.1 0).trans rfl; have dc0 := (blk_cell (F.out _ hB8).2.2.1 0).trans rfl; have dc1 := (blk_cell (F.out _ hB8).2.2.1 1).trans rfl; have dc2 := (blk_cell (F.out _ hB8).2.2.1 2).trans rfl; have dc3 := (blk_cell (F.out _ hB8).2.2.1 3).trans rfl; have dc4 := (blk_cell (F.out _ hB8).2.2.1 4).trans rfl; have d3 := (blk_cell (F.out _ hB8).2.2.2.1 0).trans rfl; have df := blk_frozen (F.out _ hB8).2.2.2.1 0; clear hR8 hB8 hn8 P1; have P2 : True := trivial)
            | (have _ := P2; at_builtin; refine Kd.R_append (Kd.raw 7) (w0 := wq) wq.heap.size rfl (.tmp 54) (.tmp 57) 36 68 (.agg #[(.int .i64 0), (.int .i64 0), (.int .i64 0), (.string ⟨#[]⟩), (.bool false), (.slice none 0 0), (.int .i64 0)]) 80 rfl Tryd.underlying36 info68a rfl (by decide) (by decide) (.slice A8 n8 c8) ([] ++ rws.take xi.toNat) ([.int .i64 s0, .int .i64 s1, .int .i64 s2, .string ky, .bool fb, .slice none 0 0, .int .i64 0] : List Value) ([.int .i64 s0, .int .i64 s1, .int .i64 s2, .string ky, .bool fb, .slice none 0 0, .int .i64 0] : List Value) (fun _ => True) (fun _ => False) rfl rfl (new_raw s0 s1 s2 ky fb _ _ _) (fun _ h => h.elim) (fun _ _ => trivial) H8.out.1 H8.out.2.1 H8.out.2.1.size (by have := HN.out; have := X.out.2.1; have := HZ.out.2.2.1; simp only [List.nil_append, List.length_append, List.length_take, List.length_cons, List.length_nil]; omega) ?_; intro v9 w9 hR9 hB9 _ _; obtain ⟨A9, c9, e9⟩ := Kd.R_slice hR9; obtain ⟨n9, hn9⟩ : ∃ q, q = ([] ++ rws.take xi.toNat ++ [([.int .i64 s0, .int .i64 s1, .int .i64 s2, .string ky, .bool fb, .slice none 0 0, .int .i64 0] : List Value)]).length := ⟨_, rfl⟩; rw [← hn9] at e9; subst e9; have H9 := Lib.hid (And.intro hR9 (And.intro hB9 hn9)); clear d1 dc0 dc1 dc2 dc3 dc4 d3 df; have e1 := (blk_cell (F.out _ hB9).2.1 0).trans rfl; have ec0 := (blk_cell (F.out _ hB9).2.2.1 0).trans rfl; have ec1 := (blk_cell (F.out _ hB9).2.2.1 1).trans rfl; have ec2 := (blk_cell (F.out _ hB9).2.2.1 2).trans rfl; have ec3 := (blk_cell (F.out _ hB9).2.2.1 3).trans rfl; have ec4 := (blk_cell (F.out _ hB9).2.2.1 4).trans rfl; have e3 := (blk_cell (F.out _ hB9).2.2.2.1 0).trans rfl; have ef := blk_frozen (F.out _ hB9).2.2.2.1 0; clear hR9 hB9 hn9 P2; have P3 : True := trivial)
            | (have _ := P3; at_builtin; refine Kd.R_append_rows (Kd.raw 7) (w0 := wq) wq.heap.size rfl (.tmp 59) (.tmp 63) 36 68 (.agg #[(.int .i64 0), (.int .i64 0), (.int .i64 0), (.string ⟨#[]⟩), (.bool false), (.slice none 0 0), (.int .i64 0)]) 80 rfl Tryd.underlying36 info68a rfl (by decide) (by decide) (.slice A9 n9 c9) ([] ++ rws.take xi.toNat ++ [([.int .i64 s0, .int .i64 s1, .int .i64 s2, .string ky, .bool fb, .slice none 0 0, .int .i64 0] : List Value)]) (rws.drop xi.toNat) A6 m6 _ (fun _ => True) (fun _ => False) rfl rfl H9.out.1 (HR2.out _ H9.out.2.1) (fun _ _ h => h) (fun _ h => h.elim) (fun _ _ => trivial) H9.out.2.1 H9.out.2.1.size (by have h6 := HM6.out; have := HN.out; have := X.out.2.1; have := HZ.out.2.2.1; simp only [List.nil_append, List.length_append, List.length_take, List.length_cons, List.length_nil]; omega) ?_; intro v10 w10 hR10 hB10 _ _; obtain ⟨A10, c10, e10⟩ := Kd.R_slice hR10; obtain ⟨n10, hn10⟩ : ∃ q, q = ([] ++ rws.take xi.toNat ++ [([.int .i64 s0, .int .i64 s1, .int .i64 s2, .string ky, .bool fb, .slice none 0 0, .int .i64 0] : List Value)] ++ rws.drop xi.toNat).length := ⟨_, rfl⟩; rw [← hn10] at e10; subst e10; have H10 := Lib.hid (And.intro hR10 (And.intro hB10 hn10)); clear e1 ec0 ec1 ec2 ec3 ec4 e3 ef; have f1 := (blk_cell (F.out _ hB10).2.1 0).trans rfl; have fc0 := (blk_cell (F.out _ hB10).2.2.1 0).trans rfl; have fc1 := (blk_cell (F.out _ hB10).2.2.1 1).trans rfl; have fc2 := (blk_cell (F.out _ hB10).2.2.1 2).trans rfl; have fc3 := (blk_cell (F.out _ hB10).2.2.1 3).trans rfl; have fc4 := (blk_cell (F.out _ hB10).2.2.1 4).trans rfl; have f3 := (blk_cell (F.out _ hB10).2.2.2.1 0).trans rfl; have ff := blk_frozen (F.out _ hB10).2.2.2.1 0; clear hR10 hB10 hn10 P3))
          clear f1 fc0 fc1 fc2 fc3 fc4 f3 ff
          have hbq : Below wq.heap.size wq w10 := H10.out.2.1
          have hres : insL ltE (newE s0 s1 s2 ky fb) E = (zs.take xi.toNat ++ (newE s0 s1 s2 ky fb, ([.int .i64 s0, .int .i64 s1, .int .i64 s2, .string ky, .bool fb, .slice none 0 0, .int .i64 0] : List Value)) :: zs.drop xi.toNat).map (fun z => z.1) := by
            rw [insL_at ltE (newE s0 s1 s2 ky fb) E xi.toNat (by have := X.out; omega) HLT.out HGE.out, List.map_append, List.map_cons, List.map_take, List.map_drop, HZ.out.1]
          have hrow : ([] ++ rws.take xi.toNat ++ [([.int .i64 s0, .int .i64 s1, .int .i64 s2, .string ky, .bool fb, .slice none 0 0, .int .i64 0] : List Value)] ++ rws.drop xi.toNat) = (zs.take xi.toNat ++ (newE s0 s1 s2 ky fb, ([.int .i64 s0, .int .i64 s1, .int .i64 s2, .string ky, .bool fb, .slice none 0 0, .int .i64 0] : List Value)) :: zs.drop xi.toNat).map (fun z => z.2) := by
            rw [HRW.out, List.map_append, List.map_cons, List.map_take, List.map_drop, List.nil_append, List.append_assoc]; rfl
          have hn : n10 = (insL ltE (newE s0 s1 s2 ky fb) E).length := by rw [H10.out.2.2, hrow, hres, List.length_map, List.length_map]
          have hRf := Kd.R_far (Kd.R_bound H10.out.1) (p := ⟨(w.heap.size + 2), 0, none⟩) (fun k hk => by have h2 := hk.2.1; have h3 := blk_lt (F.out _ (Below.refl _ _)).2.2.2.1; show k ≠ (w.heap.size + 2); omega) (.slice A10 n10 c10)
          obtain ⟨hn', hcap, _⟩ := Kd.R_reads' hRf
          refine bodyPost_ret (results_cell_tmp rfl _ _ (w.heap.size + 2) 38 #[.slice A10 n10 c10] (0, 0) _ rfl (blk_put (F.out _ hbq).2.2.2.1 0 _ rfl) Tryd.underlying38 rfl (by kernel_rfl)) rfl ?_
          refine ⟨A10, c10, by rw [← hn]; rfl, by rw [← hn]; exact hcap, ?_, Below.setCell (p := ⟨(w.heap.size + 2), 0, none⟩) (F.out _ hbq).1 (by show w.heap.size ≤ (w.heap.size + 2); omega) _⟩
          rw [← hn, hres]
          intro W' hW'
          have hlq := (F.out _ (Below.refl _ _)).1.size
          have hls : (w10.setCell ⟨(w.heap.size + 2), 0, none⟩ (.slice A10 n10 c10)).heap.size = w10.heap.size := by simp [World.setCell]
          have hread := (Kd.R_reads' (Kd.R_step hRf (fun k hk hlt => hW' k (by have := hk.2.1; omega) hlt))).2.2
          rw [← hn', hrow] at hread
          have hKz : ∀ z ∈ zs, k68.K W' z.1 z.2 := fun z hz => Kd.K_of_M _ (Kd.M_step (HZ.out.2.1 z hz) (fun k hk hlt => by
            have h2 : w.heap.size + 3 ≤ k := hk.1
            have h3 := hbq.size
            exact (hW' k (by omega) (by rw [hls]; omega)).trans ((Below.heap_setCell w10 ⟨(w.heap.size + 2), 0, none⟩ _ k (by show k ≠ (w.heap.size + 2); omega)).trans (hbq.block k hlt))))
          refine of_rows _ hread (fun z hz => ?_)
          rcases List.mem_append.mp hz with hz | hz
          · exact hKz z (List.mem_of_mem_take hz)
          · rcases List.mem_cons.mp hz with rfl | hz
            · exact new_K s0 s1 s2 ky fb _
            · exact hKz z (List.mem_of_mem_drop hz)
    · have e1 : insC s0 s1 s2 ky E = 3 := by unfold insC; rw [if_pos hcond, if_neg hi]
      have e2 : insE s0 s1 s2 ky fb E = E := by unfold insE; rw [e1, if_neg (by decide)]
      rw [e1, e2]
      obtain ⟨ix, hix⟩ : ∃ q, q = idxOf s0 (E.map evM) := ⟨_, rfl⟩
      rw [← hix] at hat hi
      have hia : decide (0 ≤ ix) = true := decide_eq_true (by omega)
      have hib : decide (ix ≥ 0) = true := decide_eq_true (by omega)
      clear e1 e2 hg hg1 hin h3 hcond hi hix
      go_enter Tryd.func33, Tryd.ntmps33
      go_upto_region 4 with (first
        | (go_at_call 28; refine (hgd _ H.out.2.2.2.1).mono ?_; rintro e w4 ⟨rfl, hB4⟩; have HB4 := Lib.hid hB4; have r1 := (blk_cell (blk_below H.out.1 hB4) 0).trans rfl; have r3 := (blk_cell (blk_below H.out.2.2.1 hB4) 0).trans rfl; have f3 := blk_frozen (blk_below H.out.2.2.1 hB4) 0; have f1 := blk_frozen (blk_below H.out.1 hB4) 0; clear hB4 l1)
        | (go_at_call 63; refine (hown _ (H.out.2.2.2.1.trans (HB4.out.mono H.out.2.2.2.1.size))).mono ?_; rintro e w5 ⟨v5, rfl, hS5, hB5⟩; obtain ⟨A5, c5, e5⟩ := Kd.S_slice hS5; subst e5; have HS5 := Lib.hid hS5; have hB5' := HB4.out.trans (hB5.mono HB4.out.size); have HB5 := Lib.hid hB5'; have HB5a := Lib.hid hB5; have z1 := (blk_cell (blk_below H.out.1 hB5') 0).trans rfl; have y1 := blk_frozen (blk_below H.out.1 hB5') 0; clear hB5 hB5' hS5 r1 r3 f1 f3))
      have F : Hid (∀ W', Below (w5.setCell ⟨w.heap.size, 0, none⟩ (.slice A5 E.length c5)).heap.size (w5.setCell ⟨w.heap.size, 0, none⟩ (.slice A5 E.length c5)) W' → Below w.heap.size w W' ∧ W'.heap[w.heap.size]? = some (T1 (.slice A5 E.length c5)) ∧ W'.heap[(w.heap.size + 1)]? = some (CfgObj s0 s1 s2 ky fb) ∧ W'.heap[(w.heap.size + 2)]? = some (T1 (.slice none 0 0)) ∧ sEnt W' w.heap.size (fun k => w.heap.size + 3 ≤ k) (.slice A5 E.length c5) E) := Lib.hid (fun W' h => by
        have hb : Below w.heap.size w (w5.setCell ⟨w.heap.size, 0, none⟩ (.slice A5 E.length c5)) := Below.setCell (p := ⟨w.heap.size, 0, none⟩) (H.out.2.2.2.1.trans (HB5.out.mono H.out.2.2.2.1.size)) (Nat.le_refl _) _
        have h4 := HB4.out.size
        have h5 := H.out.2.2.2.2
        have hS := Kd.S_far (Kd.S_bound HS5.out) (p := ⟨w.heap.size, 0, none⟩) (fun k hk => by have h2 := hk.2.1; show k ≠ w.heap.size; omega) (.slice A5 E.length c5)
        exact ⟨hb.trans (h.mono hb.size), blk_below (blk_put (blk_below H.out.1 HB5.out) 0 _ rfl) h, blk_below (blk_far (blk_below H.out.2.1 HB5.out) (p := ⟨w.heap.size, 0, none⟩) (by show (w.heap.size + 1) ≠ w.heap.size; omega) _) h, blk_below (blk_far (blk_below H.out.2.2.1 HB5.out) (p := ⟨w.heap.size, 0, none⟩) (by show (w.heap.size + 2) ≠ w.heap.size; omega) _) h,
          Kd.S_below (Kd.S_lower (Kd.S_mono hS (fun k hk => by have h2 := hk.2.1; show w.heap.size + 3 ≤ k; omega)) (by omega)) h⟩)
      have HC5 := Lib.hid (Kd.S_reads' HS5.out).2.1
      clear z1 y1 HS5 HB5 HB5a HB4 H
      generalize w5.setCell ⟨w.heap.size, 0, none⟩ (.slice A5 E.length c5) = wq at F ⊢
      have a1 := (blk_cell (F.out _ (Below.refl _ _)).2.1 0).trans rfl
      have ac0 := (blk_cell (F.out _ (Below.refl _ _)).2.2.1 0).trans rfl
      have ac1 := (blk_cell (F.out _ (Below.refl _ _)).2.2.1 1).trans rfl
      have ac2 := (blk_cell (F.out _ (Below.refl _ _)).2.2.1 2).trans rfl
      have ac3 := (blk_cell (F.out _ (Below.refl _ _)).2.2.1 3).trans rfl
      have ac4 := (blk_cell (F.out _ (Below.refl _ _)).2.2.1 4).trans rfl
      have a3 := (blk_cell (F.out _ (Below.refl _ _)).2.2.2.1 0).trans rfl
      have af := blk_frozen (F.out _ (Below.refl _ _)).2.2.2.1 0
      go_wp2_with (first
        | (go_at_call 58; refine (hgc _).mono ?_; rintro e w6 ⟨rfl, hB6⟩; have HB6 := Lib.hid hB6; have b1 := (blk_cell (F.out _ hB6).2.1 0).trans rfl; have bc0 := (blk_cell (F.out _ hB6).2.2.1 0).trans rfl; have bc1 := (blk_cell (F.out _ hB6).2.2.1 1).trans rfl; have bc2 := (blk_cell (F.out _ hB6).2.2.1 2).trans rfl; have bc3 := (blk_cell (F.out _ hB6).2.2.1 3).trans rfl; have bc4 := (blk_cell (F.out _ hB6).2.2.1 4).trans rfl; have b3 := (blk_cell (F.out _ hB6).2.2.2.1 0).trans rfl; have bf := blk_frozen (F.out _ hB6).2.2.2.1 0; clear hB6 a1 ac0 ac1 ac2 ac3 ac4 a3 af)
        | (go_at_call 64; refine (hat A5 c5 _ (S_C (F.out _ HB6.out).2.2.2.2).1 HC5.out).mono ?_; rintro e w7 ⟨rfl, hB7⟩; have hB7' := HB6.out.trans (hB7.mono HB6.out.size); have HB7 := Lib.hid hB7'; have c1 := (blk_cell (F.out _ hB7').2.1 0).trans rfl; have cc0 := (blk_cell (F.out _ hB7').2.2.1 0).trans rfl; have cc1 := (blk_cell (F.out _ hB7').2.2.1 1).trans rfl; have cc2 := (blk_cell (F.out _ hB7').2.2.1 2).trans rfl; have cc3 := (blk_cell (F.out _ hB7').2.2.1 3).trans rfl; have cc4 := (blk_cell (F.out _ hB7').2.2.1 4).trans rfl; have c3 := (blk_cell (F.out _ hB7').2.2.2.1 0).trans rfl; have cf := blk_frozen (F.out _ hB7').2.2.2.1 0; clear hB7 hB7' b1 bc0 bc1 bc2 bc3 bc4 b3 bf))
      have hSf := Kd.S_far (F.out _ HB7.out).2.2.2.2 (p := ⟨(w.heap.size + 2), 0, none⟩) (fun k hk => by have h2 : w.heap.size + 3 ≤ k := hk; show k ≠ (w.heap.size + 2); omega) (.slice A5 E.length c5)
      refine bodyPost_ret (results_cell_tmp rfl _ _ (w.heap.size + 2) 38 #[.slice A5 E.length c5] (0, 0) _ rfl (blk_put (F.out _ HB7.out).2.2.2.1 0 _ rfl) Tryd.underlying38 rfl (by kernel_rfl)) rfl ?_
      exact ⟨A5, c5, rfl, HC5.out, fun W' hW' => (S_C (Kd.S_step hSf (fun k hk hlt => hW' k (by have h2 : w.heap.size + 3 ≤ k := hk; omega) hlt))).1, Below.setCell (p := ⟨(w.heap.size + 2), 0, none⟩) (F.out _ HB7.out).1 (by show w.heap.size ≤ (w.heap.size + 2); omega) _⟩
end Go.Proofs.YtnghcnkffbjddaaDoorV.Aes
