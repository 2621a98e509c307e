-- LAID BY A PROGRAM OF THIS SESSION (wip/tools/myprint.py) over the kit's print.
import Derived.Test.YtlohefjigggjiaaPFnExactGoodFramex0
import Derived.Test.YtlohefjigggjiaaPFnExactGoodFramex1
import Derived.Test.YtlohefjigggjiaaPFnExactGoodFramex2
namespace Go.Proofs.Ytlohefjigggjiaa.PFnExactGoodFrame
open Go.RowKit Go.Proofs.YtlohefjigggjiaaV.PrintWords Go.Proofs.YtlohefjigggjiaaV.PrintLast Go.Proofs.YtlohefjigggjiaaV.PrintMore
attribute [local go_sem] max2_int min2_int max_two min_two max_three min_three max_four min_four   -- for this text's walks alone
set_option linter.unusedVariables false
set_option linter.unusedSimpArgs false

/-! ### spec_GoodFrame: function 33 -/
theorem ne_ways (x : Int) (n : Nat) (h : ((x == 2) != (decide ((n : Int) > 0))) = true) : (x = 2 ∧ ¬ (n : Int) > 0) ∨ (¬ x = 2 ∧ (n : Int) > 0) := by
  by_cases q1 : x = 2
  · by_cases q2 : (n : Int) > 0
    · rw [decide_eq_true q2, q1] at h; exact absurd h (by decide)
    · exact .inl ⟨q1, q2⟩
  · by_cases q2 : (n : Int) > 0
    · exact .inr ⟨q1, q2⟩
    · rw [decide_eq_false q2, beq_eq_false_iff_ne.mpr q1] at h; exact absurd h (by decide)
theorem eq_ways (x : Int) (n : Nat) (h : ¬ ((x == 2) != (decide ((n : Int) > 0))) = true) : (x = 2 → (n : Int) > 0) ∧ (¬ x = 2 → ¬ (n : Int) > 0) := by
  constructor
  · intro q1
    by_cases q2 : (n : Int) > 0
    · exact q2
    · rw [decide_eq_false q2, q1] at h; exact absurd (by decide) h
  · intro q1 q2
    rw [decide_eq_true q2, beq_eq_false_iff_ne.mpr q1] at h; exact absurd (by decide) h
mutual
def spec_GoodFrame.j0 : Nat → Int → Bool → Int → Int → Int → Int → Bool → ByteArray → List (S116) → Option (Bool)
  | 0, _, _, _, _, _, _, _, _, _ => none
  | k + 1, x3, x50, x111000, x111001, x111002, x111003, x111004, x111005, x111006 => if x50 = true then (some false) else (if x3 < 3 then (if x111003 = 0 then (if x3 < 2 then (if x111002 = 0 then (if x3 < 1 then (spec_GoodFrame.j1 k (x111001 != 0) x111000 x111001 x111002 x111003 x111004 x111005 x111006) else (spec_GoodFrame.j1 k false x111000 x111001 x111002 x111003 x111004 x111005 x111006)) else (spec_GoodFrame.j1 k true x111000 x111001 x111002 x111003 x111004 x111005 x111006)) else (if x3 < 1 then (spec_GoodFrame.j1 k (x111001 != 0) x111000 x111001 x111002 x111003 x111004 x111005 x111006) else (spec_GoodFrame.j1 k false x111000 x111001 x111002 x111003 x111004 x111005 x111006))) else (spec_GoodFrame.j1 k true x111000 x111001 x111002 x111003 x111004 x111005 x111006)) else (if x3 < 2 then (if x111002 = 0 then (if x3 < 1 then (spec_GoodFrame.j1 k (x111001 != 0) x111000 x111001 x111002 x111003 x111004 x111005 x111006) else (spec_GoodFrame.j1 k false x111000 x111001 x111002 x111003 x111004 x111005 x111006)) else (spec_GoodFrame.j1 k true x111000 x111001 x111002 x111003 x111004 x111005 x111006)) else (if x3 < 1 then (spec_GoodFrame.j1 k (x111001 != 0) x111000 x111001 x111002 x111003 x111004 x111005 x111006) else (spec_GoodFrame.j1 k false x111000 x111001 x111002 x111003 x111004 x111005 x111006))))
def spec_GoodFrame.j1 : Nat → Bool → Int → Int → Int → Int → Bool → ByteArray → List (S116) → Option (Bool)
  | 0, _, _, _, _, _, _, _, _ => none
  | k + 1, x75, x111000, x111001, x111002, x111003, x111004, x111005, x111006 => if x75 = true then (some false) else (if ((x111000 == 2) != (decide ((x111006.length : Int) > 0))) = true then (spec_GoodFrame.j2 k true x111000 x111001 x111002 x111003 x111004 x111005 x111006) else (if x111000 = 2 then ((spec_l1Ranges.f k x111006).bind fun t118 => (spec_GoodFrame.j2 k (!t118) x111000 x111001 x111002 x111003 x111004 x111005 x111006)) else (spec_GoodFrame.j2 k false x111000 x111001 x111002 x111003 x111004 x111005 x111006)))
def spec_GoodFrame.j2 : Nat → Bool → Int → Int → Int → Int → Bool → ByteArray → List (S116) → Option (Bool)
  | 0, _, _, _, _, _, _, _, _ => none
  | k + 1, x94, x111000, x111001, x111002, x111003, x111004, x111005, x111006 => if x94 = true then (some false) else (if x111000 = 6 then (some (decide (x111001 ≤ (wrap64 (4611686018427387903 - (x111005.size : Int)))))) else (if x111000 = 8 then (some (decide (x111002 ≤ (wrap64 (4611686018427387903 - (x111005.size : Int)))))) else (if x111000 = 24 then (if x111002 ≤ x111001 then (some (decide (x111003 ≤ 255))) else (some false)) else (some true))))
end
def spec_GoodFrame.f (k : Nat) (a0_0 : Int) (a0_1 : Int) (a0_2 : Int) (a0_3 : Int) (a0_4 : Bool) (a0_5 : ByteArray) (l0_6 : List (S116)) : Option (Bool) := (spec_l1Shape.f k a0_0).bind fun bt111 => (if bt111.1 < 0 then (spec_GoodFrame.j0 k bt111.1 true a0_0 a0_1 a0_2 a0_3 a0_4 a0_5 l0_6) else ((spec_l1Known.f a0_1).bind fun t114 => (if t114 = true then ((spec_l1Known.f a0_2).bind fun t115 => (if t115 = true then ((spec_l1Known.f a0_3).bind fun t116 => (if t116 = true then ((spec_l1In.f (a0_5.size : Int) bt111.2.1 bt111.2.2).bind fun t117 => (if t117 = true then (if a0_4 = true then (spec_GoodFrame.j0 k bt111.1 (a0_0 != 8) a0_0 a0_1 a0_2 a0_3 a0_4 a0_5 l0_6) else (spec_GoodFrame.j0 k bt111.1 false a0_0 a0_1 a0_2 a0_3 a0_4 a0_5 l0_6)) else (spec_GoodFrame.j0 k bt111.1 true a0_0 a0_1 a0_2 a0_3 a0_4 a0_5 l0_6))) else (spec_GoodFrame.j0 k bt111.1 true a0_0 a0_1 a0_2 a0_3 a0_4 a0_5 l0_6))) else (spec_GoodFrame.j0 k bt111.1 true a0_0 a0_1 a0_2 a0_3 a0_4 a0_5 l0_6))) else (spec_GoodFrame.j0 k bt111.1 true a0_0 a0_1 a0_2 a0_3 a0_4 a0_5 l0_6))))
theorem spec_GoodFrame.mono_l : ∀ k, (∀ y0 y1 y2 y3 y4 y5 y6 y7 y8, LeO (spec_GoodFrame.j0 k y0 y1 y2 y3 y4 y5 y6 y7 y8) (spec_GoodFrame.j0 (k + 1) y0 y1 y2 y3 y4 y5 y6 y7 y8)) ∧ (∀ y0 y1 y2 y3 y4 y5 y6 y7, LeO (spec_GoodFrame.j1 k y0 y1 y2 y3 y4 y5 y6 y7) (spec_GoodFrame.j1 (k + 1) y0 y1 y2 y3 y4 y5 y6 y7)) ∧ (∀ y0 y1 y2 y3 y4 y5 y6 y7, LeO (spec_GoodFrame.j2 k y0 y1 y2 y3 y4 y5 y6 y7) (spec_GoodFrame.j2 (k + 1) y0 y1 y2 y3 y4 y5 y6 y7))
  | 0 => ⟨fun _ _ _ _ _ _ _ _ _ r h => by simp [spec_GoodFrame.j0] at h, fun _ _ _ _ _ _ _ _ r h => by simp [spec_GoodFrame.j1] at h, fun _ _ _ _ _ _ _ _ r h => by simp [spec_GoodFrame.j2] at h⟩
  | k + 1 => by
    obtain ⟨ih0, ih1, ih2⟩ := spec_GoodFrame.mono_l k
    refine ⟨?_, ?_, ?_⟩
    · intro y0 y1 y2 y3 y4 y5 y6 y7 y8
      unfold spec_GoodFrame.j0
      repeat' first
      | (with_reducible exact ih0 _ _ _ _ _ _ _ _ _)
      | (with_reducible exact ih1 _ _ _ _ _ _ _ _)
      | (with_reducible exact ih2 _ _ _ _ _ _ _ _)
      | (with_reducible exact spec_l1Ranges.mono _ _)
      | (with_reducible exact spec_l1Shape.mono _ _)
      | (with_reducible exact LeO.refl _)
      | (with_reducible exact LeO.none _)
      | (with_reducible refine LeO.ite ?_ ?_)
      | (with_reducible refine LeO.bind ?_ (fun _ => ?_))
      | exact ih0 _ _ _ _ _ _ _ _ _
      | exact ih1 _ _ _ _ _ _ _ _
      | exact ih2 _ _ _ _ _ _ _ _
      | exact spec_l1Ranges.mono _ _
      | exact spec_l1Shape.mono _ _
      | exact LeO.none _
      | refine LeO.ite ?_ ?_
      | refine LeO.bind ?_ (fun _ => ?_)
    · intro y0 y1 y2 y3 y4 y5 y6 y7
      unfold spec_GoodFrame.j1
      repeat' first
      | (with_reducible exact ih0 _ _ _ _ _ _ _ _ _)
      | (with_reducible exact ih1 _ _ _ _ _ _ _ _)
      | (with_reducible exact ih2 _ _ _ _ _ _ _ _)
      | (with_reducible exact spec_l1Ranges.mono _ _)
      | (with_reducible exact spec_l1Shape.mono _ _)
      | (with_reducible exact LeO.refl _)
      | (with_reducible exact LeO.none _)
      | (with_reducible refine LeO.ite ?_ ?_)
      | (with_reducible refine LeO.bind ?_ (fun _ => ?_))
      | exact ih0 _ _ _ _ _ _ _ _ _
      | exact ih1 _ _ _ _ _ _ _ _
      | exact ih2 _ _ _ _ _ _ _ _
      | exact spec_l1Ranges.mono _ _
      | exact spec_l1Shape.mono _ _
      | exact LeO.none _
      | refine LeO.ite ?_ ?_
      | refine LeO.bind ?_ (fun _ => ?_)
    · intro y0 y1 y2 y3 y4 y5 y6 y7
      unfold spec_GoodFrame.j2
      repeat' first
      | (with_reducible exact ih0 _ _ _ _ _ _ _ _ _)
      | (with_reducible exact ih1 _ _ _ _ _ _ _ _)
      | (with_reducible exact ih2 _ _ _ _ _ _ _ _)
      | (with_reducible exact spec_l1Ranges.mono _ _)
      | (with_reducible exact spec_l1Shape.mono _ _)
      | (with_reducible exact LeO.refl _)
      | (with_reducible exact LeO.none _)
      | (with_reducible refine LeO.ite ?_ ?_)
      | (with_reducible refine LeO.bind ?_ (fun _ => ?_))
      | exact ih0 _ _ _ _ _ _ _ _ _
      | exact ih1 _ _ _ _ _ _ _ _
      | exact ih2 _ _ _ _ _ _ _ _
      | exact spec_l1Ranges.mono _ _
      | exact spec_l1Shape.mono _ _
      | exact LeO.none _
      | refine LeO.ite ?_ ?_
      | refine LeO.bind ?_ (fun _ => ?_)
theorem spec_GoodFrame.mono : ∀ a0 a1 a2 a3 a4 a5 a6 k, LeO (spec_GoodFrame.f k a0 a1 a2 a3 a4 a5 a6) (spec_GoodFrame.f (k + 1) a0 a1 a2 a3 a4 a5 a6) := by
  intro a0 a1 a2 a3 a4 a5 a6 k
  obtain ⟨ih0, ih1, ih2⟩ := spec_GoodFrame.mono_l k
  unfold spec_GoodFrame.f
  repeat' first
      | (with_reducible exact ih0 _ _ _ _ _ _ _ _ _)
      | (with_reducible exact ih1 _ _ _ _ _ _ _ _)
      | (with_reducible exact ih2 _ _ _ _ _ _ _ _)
      | (with_reducible exact spec_l1Ranges.mono _ _)
      | (with_reducible exact spec_l1Shape.mono _ _)
      | (with_reducible exact LeO.refl _)
      | (with_reducible exact LeO.none _)
      | (with_reducible refine LeO.ite ?_ ?_)
      | (with_reducible refine LeO.bind ?_ (fun _ => ?_))
      | exact ih0 _ _ _ _ _ _ _ _ _
      | exact ih1 _ _ _ _ _ _ _ _
      | exact ih2 _ _ _ _ _ _ _ _
      | exact spec_l1Ranges.mono _ _
      | exact spec_l1Shape.mono _ _
      | exact LeO.none _
      | refine LeO.ite ?_ ?_
      | refine LeO.bind ?_ (fun _ => ?_)
set_option maxHeartbeats 8000000 in
set_option maxRecDepth 100000 in
theorem spec_GoodFrame.calls (k : Nat) (a0_0 : Int) (a0_1 : Int) (a0_2 : Int) (a0_3 : Int) (a0_4 : Bool) (a0_5 : ByteArray) (A0_6 : Option Addr) (c0_6 : Nat) (l0_6 : List (S116)) (r : Bool) (w : World) (hr0_6 : Kd.C k116 w A0_6 l0_6.length l0_6) (hc0_6 : l0_6.length ≤ c0_6) (h : spec_GoodFrame.f k a0_0 a0_1 a0_2 a0_3 a0_4 a0_5 l0_6 = some r) :
    Calls Try.prog 33 #[.agg #[.int .i64 a0_0, .int .i64 a0_1, .int .i64 a0_2, .int .i64 a0_3, .bool a0_4, .string a0_5, .slice A0_6 l0_6.length c0_6]] w fun e w' => e = .returned (.bool r) ∧ Below w.heap.size w w' := by
  have hu55 := Try.underlying55
  have HR0_6 := Aside0.mk hr0_6
  have HC0_6 := Aside0.mk hc0_6
  clear hr0_6 hc0_6
  have HB := Aside0.mk (Below.refl w.heap.size w)
  have H : ((spec_l1Shape.f k a0_0).bind fun bt111 => (if bt111.1 < 0 then (spec_GoodFrame.j0 k bt111.1 true a0_0 a0_1 a0_2 a0_3 a0_4 a0_5 l0_6) else ((spec_l1Known.f a0_1).bind fun t114 => (if t114 = true then ((spec_l1Known.f a0_2).bind fun t115 => (if t115 = true then ((spec_l1Known.f a0_3).bind fun t116 => (if t116 = true then ((spec_l1In.f (a0_5.size : Int) bt111.2.1 bt111.2.2).bind fun t117 => (if t117 = true then (if a0_4 = true then (spec_GoodFrame.j0 k bt111.1 (a0_0 != 8) a0_0 a0_1 a0_2 a0_3 a0_4 a0_5 l0_6) else (spec_GoodFrame.j0 k bt111.1 false a0_0 a0_1 a0_2 a0_3 a0_4 a0_5 l0_6)) else (spec_GoodFrame.j0 k bt111.1 true a0_0 a0_1 a0_2 a0_3 a0_4 a0_5 l0_6))) else (spec_GoodFrame.j0 k bt111.1 true a0_0 a0_1 a0_2 a0_3 a0_4 a0_5 l0_6))) else (spec_GoodFrame.j0 k bt111.1 true a0_0 a0_1 a0_2 a0_3 a0_4 a0_5 l0_6))) else (spec_GoodFrame.j0 k bt111.1 true a0_0 a0_1 a0_2 a0_3 a0_4 a0_5 l0_6))))) = some r := h
  clear h
  replace H := Option.bind_eq_some_iff.mp H
  obtain ⟨⟨t111, t112, t113⟩, A20, H⟩ := H
  replace H : (if t111 < 0 then (spec_GoodFrame.j0 k t111 true a0_0 a0_1 a0_2 a0_3 a0_4 a0_5 l0_6) else ((spec_l1Known.f a0_1).bind fun t114 => (if t114 = true then ((spec_l1Known.f a0_2).bind fun t115 => (if t115 = true then ((spec_l1Known.f a0_3).bind fun t116 => (if t116 = true then ((spec_l1In.f (a0_5.size : Int) t112 t113).bind fun t117 => (if t117 = true then (if a0_4 = true then (spec_GoodFrame.j0 k t111 (a0_0 != 8) a0_0 a0_1 a0_2 a0_3 a0_4 a0_5 l0_6) else (spec_GoodFrame.j0 k t111 false a0_0 a0_1 a0_2 a0_3 a0_4 a0_5 l0_6)) else (spec_GoodFrame.j0 k t111 true a0_0 a0_1 a0_2 a0_3 a0_4 a0_5 l0_6))) else (spec_GoodFrame.j0 k t111 true a0_0 a0_1 a0_2 a0_3 a0_4 a0_5 l0_6))) else (spec_GoodFrame.j0 k t111 true a0_0 a0_1 a0_2 a0_3 a0_4 a0_5 l0_6))) else (spec_GoodFrame.j0 k t111 true a0_0 a0_1 a0_2 a0_3 a0_4 a0_5 l0_6)))) = some r := H
  have A2 := Aside0.mk A20
  clear A20
  have HC3 := Aside0.mk H
  clear H
  go_enter Try.func33, Try.ntmps33
  go_upto_region 2 with (first | ((with_reducible refine gate_dst (N := 1) rfl ?_); refine box_event ?hg (N := 1) ?hd (cs := #[.int .i64 a0_0, .int .i64 a0_1, .int .i64 a0_2, .int .i64 a0_3, .bool a0_4, .string a0_5, .slice A0_6 l0_6.length c0_6]) (t := 55) ?hr ?_; (case hd => rfl); (case hg => rfl); (case hr => first | (go_simp; done) | (go_simp; rfl)); intro gb110 hg w4 hbox hb; have n0_ := Aside0.mk (below_step (by repeat (first | (with_reducible first | exact HB.out | apply below_alloc | apply pw_below_drewN | apply below_drew1) | exact HB.out)) hb); have n1_ := Aside0.mk (hbox); have n2_ := Aside0.mk ((by rw [hg]; exact (below_size (by repeat (first | (with_reducible first | exact HB.out | apply below_alloc | apply pw_below_drewN | apply below_drew1) | exact HB.out))) : w.heap.size ≤ gb110)); have n3_ := Aside0.mk ((by rw [hg]; exact (below_size (by repeat (first | (with_reducible first | exact HB.out | apply below_alloc | apply pw_below_drewN | apply below_drew1) | exact HB.out))) : w.heap.size ≤ gb110)); clear HB; have HB := n0_; have BK110 := n1_; have GW110 := n2_; have GE110 := n3_; clear n0_ n1_ n2_ n3_; clear hb hbox hg; have hcz5_0 : w4.cell? ⟨gb110, 0, none⟩ = some (.int .i64 a0_0) := (blk_cell BK110.out 0).trans rfl; have hcz5_1 : w4.cell? ⟨gb110, 1, none⟩ = some (.int .i64 a0_1) := (blk_cell BK110.out 1).trans rfl; have hcz5_2 : w4.cell? ⟨gb110, 2, none⟩ = some (.int .i64 a0_2) := (blk_cell BK110.out 2).trans rfl; have hcz5_3 : w4.cell? ⟨gb110, 3, none⟩ = some (.int .i64 a0_3) := (blk_cell BK110.out 3).trans rfl; have hcz5_4 : w4.cell? ⟨gb110, 4, none⟩ = some (.bool a0_4) := (blk_cell BK110.out 4).trans rfl; have hcz5_5 : w4.cell? ⟨gb110, 5, none⟩ = some (.string a0_5) := (blk_cell BK110.out 5).trans rfl; have hcz5_6 : w4.cell? ⟨gb110, 6, none⟩ = some (.slice A0_6 l0_6.length c0_6) := (blk_cell BK110.out 6).trans rfl; have hfz5_0 := blk_frozen BK110.out 0; have hfz5_1 := blk_frozen BK110.out 1; have hfz5_2 := blk_frozen BK110.out 2; have hfz5_3 := blk_frozen BK110.out 3; have hfz5_4 := blk_frozen BK110.out 4; have hfz5_5 := blk_frozen BK110.out 5; have hfz5_6 := blk_frozen BK110.out 6) | ((with_reducible refine gate_callee (f := 78) rfl ?_); refine goesL_ (some 9) rfl rfl Try.func78 (by kernel_rfl) rfl #[.int .i64 a0_0] rfl (by (try simp only [List.map_toArray, List.map_cons, List.map_nil]); first | done | rfl | (simp only [List.length_drop, List.length_take]; rfl)) ?_; (with_reducible refine (spec_l1Shape.calls k a0_0 t111 t112 t113 _ A2.out).mono ?_); rintro e w' ⟨rfl, ⟨nd, rfl⟩⟩; refine ⟨_, rfl, ?_⟩))
  (try simp only [Act.put, List.setIfInBounds_toArray, List.set_cons_zero, List.set_cons_succ])
  go_cut [50] (fun v50 wc => ∃ (kq : Nat) (x50_2 : Bool), v50 = .bool x50_2 ∧ Aside0 (spec_GoodFrame.j0 kq t111 x50_2 a0_0 a0_1 a0_2 a0_3 a0_4 a0_5 l0_6 = some r) ∧ Aside0 (kq ≤ k) ∧ Aside0 (wc.heap[gb110]? = some (.cells #[.int .i64 a0_0, .int .i64 a0_1, .int .i64 a0_2, .int .i64 a0_3, .bool a0_4, .string a0_5, (.slice A0_6 l0_6.length c0_6)] 55 (0, 0))) ∧ Aside0 (Below w.heap.size w wc))
  case first =>
    have H := HC3.out
    clear HC3
    by_cases c6 : t111 < 0
    · rw [if_pos c6] at H
      have c6b0 : decide (t111 < 0) = true := decide_eq_true c6
      clear c6
      (first | rw [c6b0] | (simp only [i64_w, i32_w]; rw [c6b0]) | skip)
      have H' := Aside0.mk H
      clear H
      go_wp2
      go_meet
      case rel => exact ⟨_, (true), (by first | rfl | (simp; done) | (simp [*]; done)), H', ⟨by first | omega | exact Nat.le_refl _⟩, ⟨by (with_reducible repeat (first | refine blk_drewN ?_ _ | refine blk_drew ?_ | refine blk_alloc ?_ _)); exact BK110.out⟩, ⟨by repeat (first | (with_reducible first | exact HB.out | apply below_alloc | apply pw_below_drewN | apply below_drew1 | refine below_set ?_ GE110.out) | exact HB.out)⟩⟩
    · rw [if_neg c6] at H
      have c6b0 : decide (t111 < 0) = false := decide_eq_false c6
      clear c6
      (first | rw [c6b0] | (simp only [i64_w, i32_w]; rw [c6b0]) | skip)
      replace H := Option.bind_eq_some_iff.mp H
      obtain ⟨t114, A70, H⟩ := H
      replace H : (if t114 = true then ((spec_l1Known.f a0_2).bind fun t115 => (if t115 = true then ((spec_l1Known.f a0_3).bind fun t116 => (if t116 = true then ((spec_l1In.f (a0_5.size : Int) t112 t113).bind fun t117 => (if t117 = true then (if a0_4 = true then (spec_GoodFrame.j0 k t111 (a0_0 != 8) a0_0 a0_1 a0_2 a0_3 a0_4 a0_5 l0_6) else (spec_GoodFrame.j0 k t111 false a0_0 a0_1 a0_2 a0_3 a0_4 a0_5 l0_6)) else (spec_GoodFrame.j0 k t111 true a0_0 a0_1 a0_2 a0_3 a0_4 a0_5 l0_6))) else (spec_GoodFrame.j0 k t111 true a0_0 a0_1 a0_2 a0_3 a0_4 a0_5 l0_6))) else (spec_GoodFrame.j0 k t111 true a0_0 a0_1 a0_2 a0_3 a0_4 a0_5 l0_6))) else (spec_GoodFrame.j0 k t111 true a0_0 a0_1 a0_2 a0_3 a0_4 a0_5 l0_6)) = some r := H
      have A7 := Aside0.mk A70
      clear A70
      by_cases c8 : t114 = true
      · subst c8
        have H1 : ((spec_l1Known.f a0_2).bind fun t115 => (if t115 = true then ((spec_l1Known.f a0_3).bind fun t116 => (if t116 = true then ((spec_l1In.f (a0_5.size : Int) t112 t113).bind fun t117 => (if t117 = true then (if a0_4 = true then (spec_GoodFrame.j0 k t111 (a0_0 != 8) a0_0 a0_1 a0_2 a0_3 a0_4 a0_5 l0_6) else (spec_GoodFrame.j0 k t111 false a0_0 a0_1 a0_2 a0_3 a0_4 a0_5 l0_6)) else (spec_GoodFrame.j0 k t111 true a0_0 a0_1 a0_2 a0_3 a0_4 a0_5 l0_6))) else (spec_GoodFrame.j0 k t111 true a0_0 a0_1 a0_2 a0_3 a0_4 a0_5 l0_6))) else (spec_GoodFrame.j0 k t111 true a0_0 a0_1 a0_2 a0_3 a0_4 a0_5 l0_6))) = some r := by rw [if_pos rfl] at H; exact H
        clear H
        have H := H1
        clear H1
        replace H := Option.bind_eq_some_iff.mp H
        obtain ⟨t115, A90, H⟩ := H
        replace H : (if t115 = true then ((spec_l1Known.f a0_3).bind fun t116 => (if t116 = true then ((spec_l1In.f (a0_5.size : Int) t112 t113).bind fun t117 => (if t117 = true then (if a0_4 = true then (spec_GoodFrame.j0 k t111 (a0_0 != 8) a0_0 a0_1 a0_2 a0_3 a0_4 a0_5 l0_6) else (spec_GoodFrame.j0 k t111 false a0_0 a0_1 a0_2 a0_3 a0_4 a0_5 l0_6)) else (spec_GoodFrame.j0 k t111 true a0_0 a0_1 a0_2 a0_3 a0_4 a0_5 l0_6))) else (spec_GoodFrame.j0 k t111 true a0_0 a0_1 a0_2 a0_3 a0_4 a0_5 l0_6))) else (spec_GoodFrame.j0 k t111 true a0_0 a0_1 a0_2 a0_3 a0_4 a0_5 l0_6)) = some r := H
        have A9 := Aside0.mk A90
        clear A90
        by_cases c10 : t115 = true
        · subst c10
          have H1 : ((spec_l1Known.f a0_3).bind fun t116 => (if t116 = true then ((spec_l1In.f (a0_5.size : Int) t112 t113).bind fun t117 => (if t117 = true then (if a0_4 = true then (spec_GoodFrame.j0 k t111 (a0_0 != 8) a0_0 a0_1 a0_2 a0_3 a0_4 a0_5 l0_6) else (spec_GoodFrame.j0 k t111 false a0_0 a0_1 a0_2 a0_3 a0_4 a0_5 l0_6)) else (spec_GoodFrame.j0 k t111 true a0_0 a0_1 a0_2 a0_3 a0_4 a0_5 l0_6))) else (spec_GoodFrame.j0 k t111 true a0_0 a0_1 a0_2 a0_3 a0_4 a0_5 l0_6))) = some r := by rw [if_pos rfl] at H; exact H
          clear H
          have H := H1
          clear H1
          replace H := Option.bind_eq_some_iff.mp H
          obtain ⟨t116, A110, H⟩ := H
          replace H : (if t116 = true then ((spec_l1In.f (a0_5.size : Int) t112 t113).bind fun t117 => (if t117 = true then (if a0_4 = true then (spec_GoodFrame.j0 k t111 (a0_0 != 8) a0_0 a0_1 a0_2 a0_3 a0_4 a0_5 l0_6) else (spec_GoodFrame.j0 k t111 false a0_0 a0_1 a0_2 a0_3 a0_4 a0_5 l0_6)) else (spec_GoodFrame.j0 k t111 true a0_0 a0_1 a0_2 a0_3 a0_4 a0_5 l0_6))) else (spec_GoodFrame.j0 k t111 true a0_0 a0_1 a0_2 a0_3 a0_4 a0_5 l0_6)) = some r := H
          have A11 := Aside0.mk A110
          clear A110
          by_cases c12 : t116 = true
          · subst c12
            have H1 : ((spec_l1In.f (a0_5.size : Int) t112 t113).bind fun t117 => (if t117 = true then (if a0_4 = true then (spec_GoodFrame.j0 k t111 (a0_0 != 8) a0_0 a0_1 a0_2 a0_3 a0_4 a0_5 l0_6) else (spec_GoodFrame.j0 k t111 false a0_0 a0_1 a0_2 a0_3 a0_4 a0_5 l0_6)) else (spec_GoodFrame.j0 k t111 true a0_0 a0_1 a0_2 a0_3 a0_4 a0_5 l0_6))) = some r := by rw [if_pos rfl] at H; exact H
            clear H
            have H := H1
            clear H1
            replace H := Option.bind_eq_some_iff.mp H
            obtain ⟨t117, A130, H⟩ := H
            replace H : (if t117 = true then (if a0_4 = true then (spec_GoodFrame.j0 k t111 (a0_0 != 8) a0_0 a0_1 a0_2 a0_3 a0_4 a0_5 l0_6) else (spec_GoodFrame.j0 k t111 false a0_0 a0_1 a0_2 a0_3 a0_4 a0_5 l0_6)) else (spec_GoodFrame.j0 k t111 true a0_0 a0_1 a0_2 a0_3 a0_4 a0_5 l0_6)) = some r := H
            have A13 := Aside0.mk A130
            clear A130
            by_cases c14 : t117 = true
            · subst c14
              have H1 : (if a0_4 = true then (spec_GoodFrame.j0 k t111 (a0_0 != 8) a0_0 a0_1 a0_2 a0_3 a0_4 a0_5 l0_6) else (spec_GoodFrame.j0 k t111 false a0_0 a0_1 a0_2 a0_3 a0_4 a0_5 l0_6)) = some r := by rw [if_pos rfl] at H; exact H
              clear H
              have H := H1
              clear H1
              by_cases c15 : a0_4 = true
              · subst c15
                have H1 : (spec_GoodFrame.j0 k t111 (a0_0 != 8) a0_0 a0_1 a0_2 a0_3 true a0_5 l0_6) = some r := by rw [if_pos rfl] at H; exact H
                clear H
                have H := H1
                clear H1
                have H' := Aside0.mk H
                clear H
                have hcz16_0 : w4.cell? ⟨gb110, 0, none⟩ = some (.int .i64 a0_0) := (blk_cell BK110.out 0).trans rfl
                have hcz16_1 : w4.cell? ⟨gb110, 1, none⟩ = some (.int .i64 a0_1) := (blk_cell BK110.out 1).trans rfl
                have hcz16_2 : w4.cell? ⟨gb110, 2, none⟩ = some (.int .i64 a0_2) := (blk_cell BK110.out 2).trans rfl
                have hcz16_3 : w4.cell? ⟨gb110, 3, none⟩ = some (.int .i64 a0_3) := (blk_cell BK110.out 3).trans rfl
                have hcz16_4 : w4.cell? ⟨gb110, 4, none⟩ = some (.bool true) := (blk_cell BK110.out 4).trans rfl
                have hcz16_5 : w4.cell? ⟨gb110, 5, none⟩ = some (.string a0_5) := (blk_cell BK110.out 5).trans rfl
                have hcz16_6 : w4.cell? ⟨gb110, 6, none⟩ = some (.slice A0_6 l0_6.length c0_6) := (blk_cell BK110.out 6).trans rfl
                have hfz16_0 := blk_frozen BK110.out 0
                have hfz16_1 := blk_frozen BK110.out 1
                have hfz16_2 := blk_frozen BK110.out 2
                have hfz16_3 := blk_frozen BK110.out 3
                have hfz16_4 := blk_frozen BK110.out 4
                have hfz16_5 := blk_frozen BK110.out 5
                have hfz16_6 := blk_frozen BK110.out 6
                go_wp2_with (first | (go_at_call 52; (with_reducible refine (spec_l1Known.calls a0_1 true _ A7.out).mono ?_); rintro e w' ⟨rfl, ⟨nd, rfl⟩⟩) | (go_at_call 52; (with_reducible refine (spec_l1Known.calls a0_2 true _ A9.out).mono ?_); rintro e w' ⟨rfl, ⟨nd, rfl⟩⟩) | (go_at_call 52; (with_reducible refine (spec_l1Known.calls a0_3 true _ A11.out).mono ?_); rintro e w' ⟨rfl, ⟨nd, rfl⟩⟩) | (go_at_call 56; (with_reducible refine (spec_l1In.calls (a0_5.size : Int) t112 t113 true _ A13.out).mono ?_); rintro e w' ⟨rfl, ⟨nd, rfl⟩⟩))
                go_meet
                case rel => exact ⟨_, ((a0_0 != 8)), (by first | rfl | (simp; done) | (simp [*]; done)), H', ⟨by first | omega | exact Nat.le_refl _⟩, ⟨by (with_reducible repeat (first | refine blk_drewN ?_ _ | refine blk_drew ?_ | refine blk_alloc ?_ _)); exact BK110.out⟩, ⟨by repeat (first | (with_reducible first | exact HB.out | apply below_alloc | apply pw_below_drewN | apply below_drew1 | refine below_set ?_ GE110.out) | exact HB.out)⟩⟩
              · replace c15 := Bool.eq_false_iff.mpr c15
                subst c15
                have H1 : (spec_GoodFrame.j0 k t111 false a0_0 a0_1 a0_2 a0_3 false a0_5 l0_6) = some r := by rw [if_neg (show ¬ (false = true) by decide)] at H; exact H
                clear H
                have H := H1
                clear H1
                have H' := Aside0.mk H
                clear H
                have hcz17_0 : w4.cell? ⟨gb110, 0, none⟩ = some (.int .i64 a0_0) := (blk_cell BK110.out 0).trans rfl
                have hcz17_1 : w4.cell? ⟨gb110, 1, none⟩ = some (.int .i64 a0_1) := (blk_cell BK110.out 1).trans rfl
                have hcz17_2 : w4.cell? ⟨gb110, 2, none⟩ = some (.int .i64 a0_2) := (blk_cell BK110.out 2).trans rfl
                have hcz17_3 : w4.cell? ⟨gb110, 3, none⟩ = some (.int .i64 a0_3) := (blk_cell BK110.out 3).trans rfl
                have hcz17_4 : w4.cell? ⟨gb110, 4, none⟩ = some (.bool false) := (blk_cell BK110.out 4).trans rfl
                have hcz17_5 : w4.cell? ⟨gb110, 5, none⟩ = some (.string a0_5) := (blk_cell BK110.out 5).trans rfl
                have hcz17_6 : w4.cell? ⟨gb110, 6, none⟩ = some (.slice A0_6 l0_6.length c0_6) := (blk_cell BK110.out 6).trans rfl
                have hfz17_0 := blk_frozen BK110.out 0
                have hfz17_1 := blk_frozen BK110.out 1
                have hfz17_2 := blk_frozen BK110.out 2
                have hfz17_3 := blk_frozen BK110.out 3
                have hfz17_4 := blk_frozen BK110.out 4
                have hfz17_5 := blk_frozen BK110.out 5
                have hfz17_6 := blk_frozen BK110.out 6
                go_wp2_with (first | (go_at_call 52; (with_reducible refine (spec_l1Known.calls a0_1 true _ A7.out).mono ?_); rintro e w' ⟨rfl, ⟨nd, rfl⟩⟩) | (go_at_call 52; (with_reducible refine (spec_l1Known.calls a0_2 true _ A9.out).mono ?_); rintro e w' ⟨rfl, ⟨nd, rfl⟩⟩) | (go_at_call 52; (with_reducible refine (spec_l1Known.calls a0_3 true _ A11.out).mono ?_); rintro e w' ⟨rfl, ⟨nd, rfl⟩⟩) | (go_at_call 56; (with_reducible refine (spec_l1In.calls (a0_5.size : Int) t112 t113 true _ A13.out).mono ?_); rintro e w' ⟨rfl, ⟨nd, rfl⟩⟩))
                go_meet
                case rel => exact ⟨_, (false), (by first | rfl | (simp; done) | (simp [*]; done)), H', ⟨by first | omega | exact Nat.le_refl _⟩, ⟨by (with_reducible repeat (first | refine blk_drewN ?_ _ | refine blk_drew ?_ | refine blk_alloc ?_ _)); exact BK110.out⟩, ⟨by repeat (first | (with_reducible first | exact HB.out | apply below_alloc | apply pw_below_drewN | apply below_drew1 | refine below_set ?_ GE110.out) | exact HB.out)⟩⟩
            · replace c14 := Bool.eq_false_iff.mpr c14
              subst c14
              have H1 : (spec_GoodFrame.j0 k t111 true a0_0 a0_1 a0_2 a0_3 a0_4 a0_5 l0_6) = some r := by rw [if_neg (show ¬ (false = true) by decide)] at H; exact H
              clear H
              have H := H1
              clear H1
              have H' := Aside0.mk H
              clear H
              have hcz18_0 : w4.cell? ⟨gb110, 0, none⟩ = some (.int .i64 a0_0) := (blk_cell BK110.out 0).trans rfl
              have hcz18_1 : w4.cell? ⟨gb110, 1, none⟩ = some (.int .i64 a0_1) := (blk_cell BK110.out 1).trans rfl
              have hcz18_2 : w4.cell? ⟨gb110, 2, none⟩ = some (.int .i64 a0_2) := (blk_cell BK110.out 2).trans rfl
              have hcz18_3 : w4.cell? ⟨gb110, 3, none⟩ = some (.int .i64 a0_3) := (blk_cell BK110.out 3).trans rfl
              have hcz18_4 : w4.cell? ⟨gb110, 4, none⟩ = some (.bool a0_4) := (blk_cell BK110.out 4).trans rfl
              have hcz18_5 : w4.cell? ⟨gb110, 5, none⟩ = some (.string a0_5) := (blk_cell BK110.out 5).trans rfl
              have hcz18_6 : w4.cell? ⟨gb110, 6, none⟩ = some (.slice A0_6 l0_6.length c0_6) := (blk_cell BK110.out 6).trans rfl
              have hfz18_0 := blk_frozen BK110.out 0
              have hfz18_1 := blk_frozen BK110.out 1
              have hfz18_2 := blk_frozen BK110.out 2
              have hfz18_3 := blk_frozen BK110.out 3
              have hfz18_4 := blk_frozen BK110.out 4
              have hfz18_5 := blk_frozen BK110.out 5
              have hfz18_6 := blk_frozen BK110.out 6
              go_wp2_with (first | (go_at_call 52; (with_reducible refine (spec_l1Known.calls a0_1 true _ A7.out).mono ?_); rintro e w' ⟨rfl, ⟨nd, rfl⟩⟩) | (go_at_call 52; (with_reducible refine (spec_l1Known.calls a0_2 true _ A9.out).mono ?_); rintro e w' ⟨rfl, ⟨nd, rfl⟩⟩) | (go_at_call 52; (with_reducible refine (spec_l1Known.calls a0_3 true _ A11.out).mono ?_); rintro e w' ⟨rfl, ⟨nd, rfl⟩⟩) | (go_at_call 56; (with_reducible refine (spec_l1In.calls (a0_5.size : Int) t112 t113 false _ A13.out).mono ?_); rintro e w' ⟨rfl, ⟨nd, rfl⟩⟩))
              go_meet
              case rel => exact ⟨_, (true), (by first | rfl | (simp; done) | (simp [*]; done)), H', ⟨by first | omega | exact Nat.le_refl _⟩, ⟨by (with_reducible repeat (first | refine blk_drewN ?_ _ | refine blk_drew ?_ | refine blk_alloc ?_ _)); exact BK110.out⟩, ⟨by repeat (first | (with_reducible first | exact HB.out | apply below_alloc | apply pw_below_drewN | apply below_drew1 | refine below_set ?_ GE110.out) | exact HB.out)⟩⟩
          · replace c12 := Bool.eq_false_iff.mpr c12
            subst c12
            have H1 : (spec_GoodFrame.j0 k t111 true a0_0 a0_1 a0_2 a0_3 a0_4 a0_5 l0_6) = some r := by rw [if_neg (show ¬ (false = true) by decide)] at H; exact H
            clear H
            have H := H1
            clear H1
            have H' := Aside0.mk H
            clear H
            have hcz19_0 : w4.cell? ⟨gb110, 0, none⟩ = some (.int .i64 a0_0) := (blk_cell BK110.out 0).trans rfl
            have hcz19_1 : w4.cell? ⟨gb110, 1, none⟩ = some (.int .i64 a0_1) := (blk_cell BK110.out 1).trans rfl
            have hcz19_2 : w4.cell? ⟨gb110, 2, none⟩ = some (.int .i64 a0_2) := (blk_cell BK110.out 2).trans rfl
            have hcz19_3 : w4.cell? ⟨gb110, 3, none⟩ = some (.int .i64 a0_3) := (blk_cell BK110.out 3).trans rfl
            have hcz19_4 : w4.cell? ⟨gb110, 4, none⟩ = some (.bool a0_4) := (blk_cell BK110.out 4).trans rfl
            have hcz19_5 : w4.cell? ⟨gb110, 5, none⟩ = some (.string a0_5) := (blk_cell BK110.out 5).trans rfl
            have hcz19_6 : w4.cell? ⟨gb110, 6, none⟩ = some (.slice A0_6 l0_6.length c0_6) := (blk_cell BK110.out 6).trans rfl
            have hfz19_0 := blk_frozen BK110.out 0
            have hfz19_1 := blk_frozen BK110.out 1
            have hfz19_2 := blk_frozen BK110.out 2
            have hfz19_3 := blk_frozen BK110.out 3
            have hfz19_4 := blk_frozen BK110.out 4
            have hfz19_5 := blk_frozen BK110.out 5
            have hfz19_6 := blk_frozen BK110.out 6
            go_wp2_with (first | (go_at_call 52; (with_reducible refine (spec_l1Known.calls a0_1 true _ A7.out).mono ?_); rintro e w' ⟨rfl, ⟨nd, rfl⟩⟩) | (go_at_call 52; (with_reducible refine (spec_l1Known.calls a0_2 true _ A9.out).mono ?_); rintro e w' ⟨rfl, ⟨nd, rfl⟩⟩) | (go_at_call 52; (with_reducible refine (spec_l1Known.calls a0_3 false _ A11.out).mono ?_); rintro e w' ⟨rfl, ⟨nd, rfl⟩⟩))
            go_meet
            case rel => exact ⟨_, (true), (by first | rfl | (simp; done) | (simp [*]; done)), H', ⟨by first | omega | exact Nat.le_refl _⟩, ⟨by (with_reducible repeat (first | refine blk_drewN ?_ _ | refine blk_drew ?_ | refine blk_alloc ?_ _)); exact BK110.out⟩, ⟨by repeat (first | (with_reducible first | exact HB.out | apply below_alloc | apply pw_below_drewN | apply below_drew1 | refine below_set ?_ GE110.out) | exact HB.out)⟩⟩
        · replace c10 := Bool.eq_false_iff.mpr c10
          subst c10
          have H1 : (spec_GoodFrame.j0 k t111 true a0_0 a0_1 a0_2 a0_3 a0_4 a0_5 l0_6) = some r := by rw [if_neg (show ¬ (false = true) by decide)] at H; exact H
          clear H
          have H := H1
          clear H1
          have H' := Aside0.mk H
          clear H
          have hcz20_0 : w4.cell? ⟨gb110, 0, none⟩ = some (.int .i64 a0_0) := (blk_cell BK110.out 0).trans rfl
          have hcz20_1 : w4.cell? ⟨gb110, 1, none⟩ = some (.int .i64 a0_1) := (blk_cell BK110.out 1).trans rfl
          have hcz20_2 : w4.cell? ⟨gb110, 2, none⟩ = some (.int .i64 a0_2) := (blk_cell BK110.out 2).trans rfl
          have hcz20_3 : w4.cell? ⟨gb110, 3, none⟩ = some (.int .i64 a0_3) := (blk_cell BK110.out 3).trans rfl
          have hcz20_4 : w4.cell? ⟨gb110, 4, none⟩ = some (.bool a0_4) := (blk_cell BK110.out 4).trans rfl
          have hcz20_5 : w4.cell? ⟨gb110, 5, none⟩ = some (.string a0_5) := (blk_cell BK110.out 5).trans rfl
          have hcz20_6 : w4.cell? ⟨gb110, 6, none⟩ = some (.slice A0_6 l0_6.length c0_6) := (blk_cell BK110.out 6).trans rfl
          have hfz20_0 := blk_frozen BK110.out 0
          have hfz20_1 := blk_frozen BK110.out 1
          have hfz20_2 := blk_frozen BK110.out 2
          have hfz20_3 := blk_frozen BK110.out 3
          have hfz20_4 := blk_frozen BK110.out 4
          have hfz20_5 := blk_frozen BK110.out 5
          have hfz20_6 := blk_frozen BK110.out 6
          go_wp2_with (first | (go_at_call 52; (with_reducible refine (spec_l1Known.calls a0_1 true _ A7.out).mono ?_); rintro e w' ⟨rfl, ⟨nd, rfl⟩⟩) | (go_at_call 52; (with_reducible refine (spec_l1Known.calls a0_2 false _ A9.out).mono ?_); rintro e w' ⟨rfl, ⟨nd, rfl⟩⟩))
          go_meet
          case rel => exact ⟨_, (true), (by first | rfl | (simp; done) | (simp [*]; done)), H', ⟨by first | omega | exact Nat.le_refl _⟩, ⟨by (with_reducible repeat (first | refine blk_drewN ?_ _ | refine blk_drew ?_ | refine blk_alloc ?_ _)); exact BK110.out⟩, ⟨by repeat (first | (with_reducible first | exact HB.out | apply below_alloc | apply pw_below_drewN | apply below_drew1 | refine below_set ?_ GE110.out) | exact HB.out)⟩⟩
      · replace c8 := Bool.eq_false_iff.mpr c8
        subst c8
        have H1 : (spec_GoodFrame.j0 k t111 true a0_0 a0_1 a0_2 a0_3 a0_4 a0_5 l0_6) = some r := by rw [if_neg (show ¬ (false = true) by decide)] at H; exact H
        clear H
        have H := H1
        clear H1
        have H' := Aside0.mk H
        clear H
        have hcz21_0 : w4.cell? ⟨gb110, 0, none⟩ = some (.int .i64 a0_0) := (blk_cell BK110.out 0).trans rfl
        have hcz21_1 : w4.cell? ⟨gb110, 1, none⟩ = some (.int .i64 a0_1) := (blk_cell BK110.out 1).trans rfl
        have hcz21_2 : w4.cell? ⟨gb110, 2, none⟩ = some (.int .i64 a0_2) := (blk_cell BK110.out 2).trans rfl
        have hcz21_3 : w4.cell? ⟨gb110, 3, none⟩ = some (.int .i64 a0_3) := (blk_cell BK110.out 3).trans rfl
        have hcz21_4 : w4.cell? ⟨gb110, 4, none⟩ = some (.bool a0_4) := (blk_cell BK110.out 4).trans rfl
        have hcz21_5 : w4.cell? ⟨gb110, 5, none⟩ = some (.string a0_5) := (blk_cell BK110.out 5).trans rfl
        have hcz21_6 : w4.cell? ⟨gb110, 6, none⟩ = some (.slice A0_6 l0_6.length c0_6) := (blk_cell BK110.out 6).trans rfl
        have hfz21_0 := blk_frozen BK110.out 0
        have hfz21_1 := blk_frozen BK110.out 1
        have hfz21_2 := blk_frozen BK110.out 2
        have hfz21_3 := blk_frozen BK110.out 3
        have hfz21_4 := blk_frozen BK110.out 4
        have hfz21_5 := blk_frozen BK110.out 5
        have hfz21_6 := blk_frozen BK110.out 6
        go_wp2_with (first | (go_at_call 52; (with_reducible refine (spec_l1Known.calls a0_1 false _ A7.out).mono ?_); rintro e w' ⟨rfl, ⟨nd, rfl⟩⟩))
        go_meet
        case rel => exact ⟨_, (true), (by first | rfl | (simp; done) | (simp [*]; done)), H', ⟨by first | omega | exact Nat.le_refl _⟩, ⟨by (with_reducible repeat (first | refine blk_drewN ?_ _ | refine blk_drew ?_ | refine blk_alloc ?_ _)); exact BK110.out⟩, ⟨by repeat (first | (with_reducible first | exact HB.out | apply below_alloc | apply pw_below_drewN | apply below_drew1 | refine below_set ?_ GE110.out) | exact HB.out)⟩⟩
  case rest =>
    clear HC3
    try clear c1
    try clear p2
    try clear c3
    try clear c6
    try clear c6b0
    try clear c7
    try clear c8
    try clear c10
    try clear c12
    try clear c14
    try clear c15
    try clear hcz16_0
    try clear hcz16_1
    try clear hcz16_2
    try clear hcz16_3
    try clear hcz16_4
    try clear hcz16_5
    try clear hcz16_6
    try clear hcz17_0
    try clear hcz17_1
    try clear hcz17_2
    try clear hcz17_3
    try clear hcz17_4
    try clear hcz17_5
    try clear hcz17_6
    try clear hcz18_0
    try clear hcz18_1
    try clear hcz18_2
    try clear hcz18_3
    try clear hcz18_4
    try clear hcz18_5
    try clear hcz18_6
    try clear hcz19_0
    try clear hcz19_1
    try clear hcz19_2
    try clear hcz19_3
    try clear hcz19_4
    try clear hcz19_5
    try clear hcz19_6
    try clear hcz20_0
    try clear hcz20_1
    try clear hcz20_2
    try clear hcz20_3
    try clear hcz20_4
    try clear hcz20_5
    try clear hcz20_6
    try clear hcz21_0
    try clear hcz21_1
    try clear hcz21_2
    try clear hcz21_3
    try clear hcz21_4
    try clear hcz21_5
    try clear hcz21_6
    try clear hcz5_0
    try clear hcz5_1
    try clear hcz5_2
    try clear hcz5_3
    try clear hcz5_4
    try clear hcz5_5
    try clear hcz5_6
    try clear hfz16_0
    try clear hfz16_1
    try clear hfz16_2
    try clear hfz16_3
    try clear hfz16_4
    try clear hfz16_5
    try clear hfz16_6
    try clear hfz17_0
    try clear hfz17_1
    try clear hfz17_2
    try clear hfz17_3
    try clear hfz17_4
    try clear hfz17_5
    try clear hfz17_6
    try clear hfz18_0
    try clear hfz18_1
    try clear hfz18_2
    try clear hfz18_3
    try clear hfz18_4
    try clear hfz18_5
    try clear hfz18_6
    try clear hfz19_0
    try clear hfz19_1
    try clear hfz19_2
    try clear hfz19_3
    try clear hfz19_4
    try clear hfz19_5
    try clear hfz19_6
    try clear hfz20_0
    try clear hfz20_1
    try clear hfz20_2
    try clear hfz20_3
    try clear hfz20_4
    try clear hfz20_5
    try clear hfz20_6
    try clear hfz21_0
    try clear hfz21_1
    try clear hfz21_2
    try clear hfz21_3
    try clear hfz21_4
    try clear hfz21_5
    try clear hfz21_6
    try clear hfz5_0
    try clear hfz5_1
    try clear hfz5_2
    try clear hfz5_3
    try clear hfz5_4
    try clear hfz5_5
    try clear hfz5_6
    obtain ⟨kq, x50_2, rfl, HA, HJ2, BK110, HB⟩ := hcut
    cases kq with
    | zero => exact absurd HA.out (by simp [spec_GoodFrame.j0])
    | succ kj2 =>
      have H := HA.out
      clear HA
      simp only [spec_GoodFrame.j0] at H
      by_cases c22 : x50_2 = true
      · subst c22
        have H1 : (some false) = some r := by rw [if_pos rfl] at H; exact H
        clear H
        have H := H1
        clear H1
        obtain rfl := Option.some.inj H
        go_wp2
        go_ret
        exact ⟨by first | rfl | (simp [errW_none, errW_some] <;> rfl) | (simp [*, errW_none, errW_some] <;> rfl), by repeat (first | (with_reducible first | exact HB.out | apply below_alloc | apply pw_below_drewN | apply below_drew1 | refine below_set ?_ GE110.out) | exact HB.out)⟩
      · replace c22 := Bool.eq_false_iff.mpr c22
        subst c22
        have H1 : (if t111 < 3 then (if a0_3 = 0 then (if t111 < 2 then (if a0_2 = 0 then (if t111 < 1 then (spec_GoodFrame.j1 kj2 (a0_1 != 0) a0_0 a0_1 a0_2 a0_3 a0_4 a0_5 l0_6) else (spec_GoodFrame.j1 kj2 false a0_0 a0_1 a0_2 a0_3 a0_4 a0_5 l0_6)) else (spec_GoodFrame.j1 kj2 true a0_0 a0_1 a0_2 a0_3 a0_4 a0_5 l0_6)) else (if t111 < 1 then (spec_GoodFrame.j1 kj2 (a0_1 != 0) a0_0 a0_1 a0_2 a0_3 a0_4 a0_5 l0_6) else (spec_GoodFrame.j1 kj2 false a0_0 a0_1 a0_2 a0_3 a0_4 a0_5 l0_6))) else (spec_GoodFrame.j1 kj2 true a0_0 a0_1 a0_2 a0_3 a0_4 a0_5 l0_6)) else (if t111 < 2 then (if a0_2 = 0 then (if t111 < 1 then (spec_GoodFrame.j1 kj2 (a0_1 != 0) a0_0 a0_1 a0_2 a0_3 a0_4 a0_5 l0_6) else (spec_GoodFrame.j1 kj2 false a0_0 a0_1 a0_2 a0_3 a0_4 a0_5 l0_6)) else (spec_GoodFrame.j1 kj2 true a0_0 a0_1 a0_2 a0_3 a0_4 a0_5 l0_6)) else (if t111 < 1 then (spec_GoodFrame.j1 kj2 (a0_1 != 0) a0_0 a0_1 a0_2 a0_3 a0_4 a0_5 l0_6) else (spec_GoodFrame.j1 kj2 false a0_0 a0_1 a0_2 a0_3 a0_4 a0_5 l0_6)))) = some r := by rw [if_neg (show ¬ (false = true) by decide)] at H; exact H
        clear H
        have H := H1
        clear H1
        have HC23 := Aside0.mk H
        clear H
        go_upto_region 4 with (fail)
        go_cut [75] (fun v75 wc => ∃ (kq : Nat) (x75_22 : Bool), v75 = .bool x75_22 ∧ Aside0 (spec_GoodFrame.j1 kq x75_22 a0_0 a0_1 a0_2 a0_3 a0_4 a0_5 l0_6 = some r) ∧ Aside0 (kq ≤ kj2) ∧ Aside0 (wc.heap[gb110]? = some (.cells #[.int .i64 a0_0, .int .i64 a0_1, .int .i64 a0_2, .int .i64 a0_3, .bool a0_4, .string a0_5, (.slice A0_6 l0_6.length c0_6)] 55 (0, 0))) ∧ Aside0 (Below w.heap.size w wc))
        case first =>
          have H := HC23.out
          clear HC23
          by_cases c24 : t111 < 3
          · rw [if_pos c24] at H
            have c24b0 : decide (t111 < 3) = true := decide_eq_true c24
            clear c24
            (first | rw [c24b0] | (simp only [i64_w, i32_w]; rw [c24b0]) | skip)
            by_cases c25 : a0_3 = 0
            · rw [if_pos c25] at H
              have c25b0 : (a0_3 == 0) = true := beq_iff_eq.mpr c25
              have c25b1 : (a0_3 != 0) = false := bne_eq_false_iff_eq.mpr c25
              clear c25
              by_cases c26 : t111 < 2
              · rw [if_pos c26] at H
                have c26b0 : decide (t111 < 2) = true := decide_eq_true c26
                clear c26
                by_cases c27 : a0_2 = 0
                · rw [if_pos c27] at H
                  have c27b0 : (a0_2 == 0) = true := beq_iff_eq.mpr c27
                  have c27b1 : (a0_2 != 0) = false := bne_eq_false_iff_eq.mpr c27
                  clear c27
                  by_cases c28 : t111 < 1
                  · rw [if_pos c28] at H
                    have c28b0 : decide (t111 < 1) = true := decide_eq_true c28
                    clear c28
                    have H' := Aside0.mk H
                    clear H
                    have hcz29_0 : wc.cell? ⟨gb110, 0, none⟩ = some (.int .i64 a0_0) := (blk_cell BK110.out 0).trans rfl
                    have hcz29_1 : wc.cell? ⟨gb110, 1, none⟩ = some (.int .i64 a0_1) := (blk_cell BK110.out 1).trans rfl
                    have hcz29_2 : wc.cell? ⟨gb110, 2, none⟩ = some (.int .i64 a0_2) := (blk_cell BK110.out 2).trans rfl
                    have hcz29_3 : wc.cell? ⟨gb110, 3, none⟩ = some (.int .i64 a0_3) := (blk_cell BK110.out 3).trans rfl
                    have hcz29_4 : wc.cell? ⟨gb110, 4, none⟩ = some (.bool a0_4) := (blk_cell BK110.out 4).trans rfl
                    have hcz29_5 : wc.cell? ⟨gb110, 5, none⟩ = some (.string a0_5) := (blk_cell BK110.out 5).trans rfl
                    have hcz29_6 : wc.cell? ⟨gb110, 6, none⟩ = some (.slice A0_6 l0_6.length c0_6) := (blk_cell BK110.out 6).trans rfl
                    have hfz29_0 := blk_frozen BK110.out 0
                    have hfz29_1 := blk_frozen BK110.out 1
                    have hfz29_2 := blk_frozen BK110.out 2
                    have hfz29_3 := blk_frozen BK110.out 3
                    have hfz29_4 := blk_frozen BK110.out 4
                    have hfz29_5 := blk_frozen BK110.out 5
                    have hfz29_6 := blk_frozen BK110.out 6
                    go_wp2
                    go_meet
                    case rel => exact ⟨_, ((a0_1 != 0)), (by first | rfl | (simp; done) | (simp [*]; done)), H', ⟨by have := HJ2.out; first | omega | exact Nat.le_refl _⟩, ⟨by (with_reducible repeat (first | refine blk_drewN ?_ _ | refine blk_drew ?_ | refine blk_alloc ?_ _)); exact BK110.out⟩, ⟨by repeat (first | (with_reducible first | exact HB.out | apply below_alloc | apply pw_below_drewN | apply below_drew1 | refine below_set ?_ GE110.out) | exact HB.out)⟩⟩
                  · rw [if_neg c28] at H
                    have c28b0 : decide (t111 < 1) = false := decide_eq_false c28
                    clear c28
                    have H' := Aside0.mk H
                    clear H
                    have hcz30_0 : wc.cell? ⟨gb110, 0, none⟩ = some (.int .i64 a0_0) := (blk_cell BK110.out 0).trans rfl
                    have hcz30_1 : wc.cell? ⟨gb110, 1, none⟩ = some (.int .i64 a0_1) := (blk_cell BK110.out 1).trans rfl
                    have hcz30_2 : wc.cell? ⟨gb110, 2, none⟩ = some (.int .i64 a0_2) := (blk_cell BK110.out 2).trans rfl
                    have hcz30_3 : wc.cell? ⟨gb110, 3, none⟩ = some (.int .i64 a0_3) := (blk_cell BK110.out 3).trans rfl
                    have hcz30_4 : wc.cell? ⟨gb110, 4, none⟩ = some (.bool a0_4) := (blk_cell BK110.out 4).trans rfl
                    have hcz30_5 : wc.cell? ⟨gb110, 5, none⟩ = some (.string a0_5) := (blk_cell BK110.out 5).trans rfl
                    have hcz30_6 : wc.cell? ⟨gb110, 6, none⟩ = some (.slice A0_6 l0_6.length c0_6) := (blk_cell BK110.out 6).trans rfl
                    have hfz30_0 := blk_frozen BK110.out 0
                    have hfz30_1 := blk_frozen BK110.out 1
                    have hfz30_2 := blk_frozen BK110.out 2
                    have hfz30_3 := blk_frozen BK110.out 3
                    have hfz30_4 := blk_frozen BK110.out 4
                    have hfz30_5 := blk_frozen BK110.out 5
                    have hfz30_6 := blk_frozen BK110.out 6
                    go_wp2
                    go_meet
                    case rel => exact ⟨_, (false), (by first | rfl | (simp; done) | (simp [*]; done)), H', ⟨by have := HJ2.out; first | omega | exact Nat.le_refl _⟩, ⟨by (with_reducible repeat (first | refine blk_drewN ?_ _ | refine blk_drew ?_ | refine blk_alloc ?_ _)); exact BK110.out⟩, ⟨by repeat (first | (with_reducible first | exact HB.out | apply below_alloc | apply pw_below_drewN | apply below_drew1 | refine below_set ?_ GE110.out) | exact HB.out)⟩⟩
                · rw [if_neg c27] at H
                  have c27b0 : (a0_2 == 0) = false := beq_eq_false_iff_ne.mpr c27
                  have c27b1 : (a0_2 != 0) = true := bne_iff_ne.mpr c27
                  have H' := Aside0.mk H
                  clear H
                  have hcz31_0 : wc.cell? ⟨gb110, 0, none⟩ = some (.int .i64 a0_0) := (blk_cell BK110.out 0).trans rfl
                  have hcz31_1 : wc.cell? ⟨gb110, 1, none⟩ = some (.int .i64 a0_1) := (blk_cell BK110.out 1).trans rfl
                  have hcz31_2 : wc.cell? ⟨gb110, 2, none⟩ = some (.int .i64 a0_2) := (blk_cell BK110.out 2).trans rfl
                  have hcz31_3 : wc.cell? ⟨gb110, 3, none⟩ = some (.int .i64 a0_3) := (blk_cell BK110.out 3).trans rfl
                  have hcz31_4 : wc.cell? ⟨gb110, 4, none⟩ = some (.bool a0_4) := (blk_cell BK110.out 4).trans rfl
                  have hcz31_5 : wc.cell? ⟨gb110, 5, none⟩ = some (.string a0_5) := (blk_cell BK110.out 5).trans rfl
                  have hcz31_6 : wc.cell? ⟨gb110, 6, none⟩ = some (.slice A0_6 l0_6.length c0_6) := (blk_cell BK110.out 6).trans rfl
                  have hfz31_0 := blk_frozen BK110.out 0
                  have hfz31_1 := blk_frozen BK110.out 1
                  have hfz31_2 := blk_frozen BK110.out 2
                  have hfz31_3 := blk_frozen BK110.out 3
                  have hfz31_4 := blk_frozen BK110.out 4
                  have hfz31_5 := blk_frozen BK110.out 5
                  have hfz31_6 := blk_frozen BK110.out 6
                  go_wp2
                  go_meet
                  case rel => exact ⟨_, (true), (by first | rfl | (simp; done) | (simp [*]; done)), H', ⟨by have := HJ2.out; first | omega | exact Nat.le_refl _⟩, ⟨by (with_reducible repeat (first | refine blk_drewN ?_ _ | refine blk_drew ?_ | refine blk_alloc ?_ _)); exact BK110.out⟩, ⟨by repeat (first | (with_reducible first | exact HB.out | apply below_alloc | apply pw_below_drewN | apply below_drew1 | refine below_set ?_ GE110.out) | exact HB.out)⟩⟩
              · rw [if_neg c26] at H
                have c26b0 : decide (t111 < 2) = false := decide_eq_false c26
                clear c26
                by_cases c32 : t111 < 1
                · rw [if_pos c32] at H
                  have c32b0 : decide (t111 < 1) = true := decide_eq_true c32
                  clear c32
                  have H' := Aside0.mk H
                  clear H
                  have hcz33_0 : wc.cell? ⟨gb110, 0, none⟩ = some (.int .i64 a0_0) := (blk_cell BK110.out 0).trans rfl
                  have hcz33_1 : wc.cell? ⟨gb110, 1, none⟩ = some (.int .i64 a0_1) := (blk_cell BK110.out 1).trans rfl
                  have hcz33_2 : wc.cell? ⟨gb110, 2, none⟩ = some (.int .i64 a0_2) := (blk_cell BK110.out 2).trans rfl
                  have hcz33_3 : wc.cell? ⟨gb110, 3, none⟩ = some (.int .i64 a0_3) := (blk_cell BK110.out 3).trans rfl
                  have hcz33_4 : wc.cell? ⟨gb110, 4, none⟩ = some (.bool a0_4) := (blk_cell BK110.out 4).trans rfl
                  have hcz33_5 : wc.cell? ⟨gb110, 5, none⟩ = some (.string a0_5) := (blk_cell BK110.out 5).trans rfl
                  have hcz33_6 : wc.cell? ⟨gb110, 6, none⟩ = some (.slice A0_6 l0_6.length c0_6) := (blk_cell BK110.out 6).trans rfl
                  have hfz33_0 := blk_frozen BK110.out 0
                  have hfz33_1 := blk_frozen BK110.out 1
                  have hfz33_2 := blk_frozen BK110.out 2
                  have hfz33_3 := blk_frozen BK110.out 3
                  have hfz33_4 := blk_frozen BK110.out 4
                  have hfz33_5 := blk_frozen BK110.out 5
                  have hfz33_6 := blk_frozen BK110.out 6
                  go_wp2
                  go_meet
                  case rel => exact ⟨_, ((a0_1 != 0)), (by first | rfl | (simp; done) | (simp [*]; done)), H', ⟨by have := HJ2.out; first | omega | exact Nat.le_refl _⟩, ⟨by (with_reducible repeat (first | refine blk_drewN ?_ _ | refine blk_drew ?_ | refine blk_alloc ?_ _)); exact BK110.out⟩, ⟨by repeat (first | (with_reducible first | exact HB.out | apply below_alloc | apply pw_below_drewN | apply below_drew1 | refine below_set ?_ GE110.out) | exact HB.out)⟩⟩
                · rw [if_neg c32] at H
                  have c32b0 : decide (t111 < 1) = false := decide_eq_false c32
                  clear c32
                  have H' := Aside0.mk H
                  clear H
                  have hcz34_0 : wc.cell? ⟨gb110, 0, none⟩ = some (.int .i64 a0_0) := (blk_cell BK110.out 0).trans rfl
                  have hcz34_1 : wc.cell? ⟨gb110, 1, none⟩ = some (.int .i64 a0_1) := (blk_cell BK110.out 1).trans rfl
                  have hcz34_2 : wc.cell? ⟨gb110, 2, none⟩ = some (.int .i64 a0_2) := (blk_cell BK110.out 2).trans rfl
                  have hcz34_3 : wc.cell? ⟨gb110, 3, none⟩ = some (.int .i64 a0_3) := (blk_cell BK110.out 3).trans rfl
                  have hcz34_4 : wc.cell? ⟨gb110, 4, none⟩ = some (.bool a0_4) := (blk_cell BK110.out 4).trans rfl
                  have hcz34_5 : wc.cell? ⟨gb110, 5, none⟩ = some (.string a0_5) := (blk_cell BK110.out 5).trans rfl
                  have hcz34_6 : wc.cell? ⟨gb110, 6, none⟩ = some (.slice A0_6 l0_6.length c0_6) := (blk_cell BK110.out 6).trans rfl
                  have hfz34_0 := blk_frozen BK110.out 0
                  have hfz34_1 := blk_frozen BK110.out 1
                  have hfz34_2 := blk_frozen BK110.out 2
                  have hfz34_3 := blk_frozen BK110.out 3
                  have hfz34_4 := blk_frozen BK110.out 4
                  have hfz34_5 := blk_frozen BK110.out 5
                  have hfz34_6 := blk_frozen BK110.out 6
                  go_wp2
                  go_meet
                  case rel => exact ⟨_, (false), (by first | rfl | (simp; done) | (simp [*]; done)), H', ⟨by have := HJ2.out; first | omega | exact Nat.le_refl _⟩, ⟨by (with_reducible repeat (first | refine blk_drewN ?_ _ | refine blk_drew ?_ | refine blk_alloc ?_ _)); exact BK110.out⟩, ⟨by repeat (first | (with_reducible first | exact HB.out | apply below_alloc | apply pw_below_drewN | apply below_drew1 | refine below_set ?_ GE110.out) | exact HB.out)⟩⟩
            · rw [if_neg c25] at H
              have c25b0 : (a0_3 == 0) = false := beq_eq_false_iff_ne.mpr c25
              have c25b1 : (a0_3 != 0) = true := bne_iff_ne.mpr c25
              have H' := Aside0.mk H
              clear H
              have hcz35_0 : wc.cell? ⟨gb110, 0, none⟩ = some (.int .i64 a0_0) := (blk_cell BK110.out 0).trans rfl
              have hcz35_1 : wc.cell? ⟨gb110, 1, none⟩ = some (.int .i64 a0_1) := (blk_cell BK110.out 1).trans rfl
              have hcz35_2 : wc.cell? ⟨gb110, 2, none⟩ = some (.int .i64 a0_2) := (blk_cell BK110.out 2).trans rfl
              have hcz35_3 : wc.cell? ⟨gb110, 3, none⟩ = some (.int .i64 a0_3) := (blk_cell BK110.out 3).trans rfl
              have hcz35_4 : wc.cell? ⟨gb110, 4, none⟩ = some (.bool a0_4) := (blk_cell BK110.out 4).trans rfl
              have hcz35_5 : wc.cell? ⟨gb110, 5, none⟩ = some (.string a0_5) := (blk_cell BK110.out 5).trans rfl
              have hcz35_6 : wc.cell? ⟨gb110, 6, none⟩ = some (.slice A0_6 l0_6.length c0_6) := (blk_cell BK110.out 6).trans rfl
              have hfz35_0 := blk_frozen BK110.out 0
              have hfz35_1 := blk_frozen BK110.out 1
              have hfz35_2 := blk_frozen BK110.out 2
              have hfz35_3 := blk_frozen BK110.out 3
              have hfz35_4 := blk_frozen BK110.out 4
              have hfz35_5 := blk_frozen BK110.out 5
              have hfz35_6 := blk_frozen BK110.out 6
              go_wp2
              go_meet
              case rel => exact ⟨_, (true), (by first | rfl | (simp; done) | (simp [*]; done)), H', ⟨by have := HJ2.out; first | omega | exact Nat.le_refl _⟩, ⟨by (with_reducible repeat (first | refine blk_drewN ?_ _ | refine blk_drew ?_ | refine blk_alloc ?_ _)); exact BK110.out⟩, ⟨by repeat (first | (with_reducible first | exact HB.out | apply below_alloc | apply pw_below_drewN | apply below_drew1 | refine below_set ?_ GE110.out) | exact HB.out)⟩⟩
          · rw [if_neg c24] at H
            have c24b0 : decide (t111 < 3) = false := decide_eq_false c24
            clear c24
            (first | rw [c24b0] | (simp only [i64_w, i32_w]; rw [c24b0]) | skip)
            by_cases c36 : t111 < 2
            · rw [if_pos c36] at H
              have c36b0 : decide (t111 < 2) = true := decide_eq_true c36
              clear c36
              by_cases c37 : a0_2 = 0
              · rw [if_pos c37] at H
                have c37b0 : (a0_2 == 0) = true := beq_iff_eq.mpr c37
                have c37b1 : (a0_2 != 0) = false := bne_eq_false_iff_eq.mpr c37
                clear c37
                by_cases c38 : t111 < 1
                · rw [if_pos c38] at H
                  have c38b0 : decide (t111 < 1) = true := decide_eq_true c38
                  clear c38
                  have H' := Aside0.mk H
                  clear H
                  have hcz39_0 : wc.cell? ⟨gb110, 0, none⟩ = some (.int .i64 a0_0) := (blk_cell BK110.out 0).trans rfl
                  have hcz39_1 : wc.cell? ⟨gb110, 1, none⟩ = some (.int .i64 a0_1) := (blk_cell BK110.out 1).trans rfl
                  have hcz39_2 : wc.cell? ⟨gb110, 2, none⟩ = some (.int .i64 a0_2) := (blk_cell BK110.out 2).trans rfl
                  have hcz39_3 : wc.cell? ⟨gb110, 3, none⟩ = some (.int .i64 a0_3) := (blk_cell BK110.out 3).trans rfl
                  have hcz39_4 : wc.cell? ⟨gb110, 4, none⟩ = some (.bool a0_4) := (blk_cell BK110.out 4).trans rfl
                  have hcz39_5 : wc.cell? ⟨gb110, 5, none⟩ = some (.string a0_5) := (blk_cell BK110.out 5).trans rfl
                  have hcz39_6 : wc.cell? ⟨gb110, 6, none⟩ = some (.slice A0_6 l0_6.length c0_6) := (blk_cell BK110.out 6).trans rfl
                  have hfz39_0 := blk_frozen BK110.out 0
                  have hfz39_1 := blk_frozen BK110.out 1
                  have hfz39_2 := blk_frozen BK110.out 2
                  have hfz39_3 := blk_frozen BK110.out 3
                  have hfz39_4 := blk_frozen BK110.out 4
                  have hfz39_5 := blk_frozen BK110.out 5
                  have hfz39_6 := blk_frozen BK110.out 6
                  go_wp2
                  go_meet
                  case rel => exact ⟨_, ((a0_1 != 0)), (by first | rfl | (simp; done) | (simp [*]; done)), H', ⟨by have := HJ2.out; first | omega | exact Nat.le_refl _⟩, ⟨by (with_reducible repeat (first | refine blk_drewN ?_ _ | refine blk_drew ?_ | refine blk_alloc ?_ _)); exact BK110.out⟩, ⟨by repeat (first | (with_reducible first | exact HB.out | apply below_alloc | apply pw_below_drewN | apply below_drew1 | refine below_set ?_ GE110.out) | exact HB.out)⟩⟩
                · rw [if_neg c38] at H
                  have c38b0 : decide (t111 < 1) = false := decide_eq_false c38
                  clear c38
                  have H' := Aside0.mk H
                  clear H
                  have hcz40_0 : wc.cell? ⟨gb110, 0, none⟩ = some (.int .i64 a0_0) := (blk_cell BK110.out 0).trans rfl
                  have hcz40_1 : wc.cell? ⟨gb110, 1, none⟩ = some (.int .i64 a0_1) := (blk_cell BK110.out 1).trans rfl
                  have hcz40_2 : wc.cell? ⟨gb110, 2, none⟩ = some (.int .i64 a0_2) := (blk_cell BK110.out 2).trans rfl
                  have hcz40_3 : wc.cell? ⟨gb110, 3, none⟩ = some (.int .i64 a0_3) := (blk_cell BK110.out 3).trans rfl
                  have hcz40_4 : wc.cell? ⟨gb110, 4, none⟩ = some (.bool a0_4) := (blk_cell BK110.out 4).trans rfl
                  have hcz40_5 : wc.cell? ⟨gb110, 5, none⟩ = some (.string a0_5) := (blk_cell BK110.out 5).trans rfl
                  have hcz40_6 : wc.cell? ⟨gb110, 6, none⟩ = some (.slice A0_6 l0_6.length c0_6) := (blk_cell BK110.out 6).trans rfl
                  have hfz40_0 := blk_frozen BK110.out 0
                  have hfz40_1 := blk_frozen BK110.out 1
                  have hfz40_2 := blk_frozen BK110.out 2
                  have hfz40_3 := blk_frozen BK110.out 3
                  have hfz40_4 := blk_frozen BK110.out 4
                  have hfz40_5 := blk_frozen BK110.out 5
                  have hfz40_6 := blk_frozen BK110.out 6
                  go_wp2
                  go_meet
                  case rel => exact ⟨_, (false), (by first | rfl | (simp; done) | (simp [*]; done)), H', ⟨by have := HJ2.out; first | omega | exact Nat.le_refl _⟩, ⟨by (with_reducible repeat (first | refine blk_drewN ?_ _ | refine blk_drew ?_ | refine blk_alloc ?_ _)); exact BK110.out⟩, ⟨by repeat (first | (with_reducible first | exact HB.out | apply below_alloc | apply pw_below_drewN | apply below_drew1 | refine below_set ?_ GE110.out) | exact HB.out)⟩⟩
              · rw [if_neg c37] at H
                have c37b0 : (a0_2 == 0) = false := beq_eq_false_iff_ne.mpr c37
                have c37b1 : (a0_2 != 0) = true := bne_iff_ne.mpr c37
                have H' := Aside0.mk H
                clear H
                have hcz41_0 : wc.cell? ⟨gb110, 0, none⟩ = some (.int .i64 a0_0) := (blk_cell BK110.out 0).trans rfl
                have hcz41_1 : wc.cell? ⟨gb110, 1, none⟩ = some (.int .i64 a0_1) := (blk_cell BK110.out 1).trans rfl
                have hcz41_2 : wc.cell? ⟨gb110, 2, none⟩ = some (.int .i64 a0_2) := (blk_cell BK110.out 2).trans rfl
                have hcz41_3 : wc.cell? ⟨gb110, 3, none⟩ = some (.int .i64 a0_3) := (blk_cell BK110.out 3).trans rfl
                have hcz41_4 : wc.cell? ⟨gb110, 4, none⟩ = some (.bool a0_4) := (blk_cell BK110.out 4).trans rfl
                have hcz41_5 : wc.cell? ⟨gb110, 5, none⟩ = some (.string a0_5) := (blk_cell BK110.out 5).trans rfl
                have hcz41_6 : wc.cell? ⟨gb110, 6, none⟩ = some (.slice A0_6 l0_6.length c0_6) := (blk_cell BK110.out 6).trans rfl
                have hfz41_0 := blk_frozen BK110.out 0
                have hfz41_1 := blk_frozen BK110.out 1
                have hfz41_2 := blk_frozen BK110.out 2
                have hfz41_3 := blk_frozen BK110.out 3
                have hfz41_4 := blk_frozen BK110.out 4
                have hfz41_5 := blk_frozen BK110.out 5
                have hfz41_6 := blk_frozen BK110.out 6
                go_wp2
                go_meet
                case rel => exact ⟨_, (true), (by first | rfl | (simp; done) | (simp [*]; done)), H', ⟨by have := HJ2.out; first | omega | exact Nat.le_refl _⟩, ⟨by (with_reducible repeat (first | refine blk_drewN ?_ _ | refine blk_drew ?_ | refine blk_alloc ?_ _)); exact BK110.out⟩, ⟨by repeat (first | (with_reducible first | exact HB.out | apply below_alloc | apply pw_below_drewN | apply below_drew1 | refine below_set ?_ GE110.out) | exact HB.out)⟩⟩
            · rw [if_neg c36] at H
              have c36b0 : decide (t111 < 2) = false := decide_eq_false c36
              clear c36
              by_cases c42 : t111 < 1
              · rw [if_pos c42] at H
                have c42b0 : decide (t111 < 1) = true := decide_eq_true c42
                clear c42
                have H' := Aside0.mk H
                clear H
                have hcz43_0 : wc.cell? ⟨gb110, 0, none⟩ = some (.int .i64 a0_0) := (blk_cell BK110.out 0).trans rfl
                have hcz43_1 : wc.cell? ⟨gb110, 1, none⟩ = some (.int .i64 a0_1) := (blk_cell BK110.out 1).trans rfl
                have hcz43_2 : wc.cell? ⟨gb110, 2, none⟩ = some (.int .i64 a0_2) := (blk_cell BK110.out 2).trans rfl
                have hcz43_3 : wc.cell? ⟨gb110, 3, none⟩ = some (.int .i64 a0_3) := (blk_cell BK110.out 3).trans rfl
                have hcz43_4 : wc.cell? ⟨gb110, 4, none⟩ = some (.bool a0_4) := (blk_cell BK110.out 4).trans rfl
                have hcz43_5 : wc.cell? ⟨gb110, 5, none⟩ = some (.string a0_5) := (blk_cell BK110.out 5).trans rfl
                have hcz43_6 : wc.cell? ⟨gb110, 6, none⟩ = some (.slice A0_6 l0_6.length c0_6) := (blk_cell BK110.out 6).trans rfl
                have hfz43_0 := blk_frozen BK110.out 0
                have hfz43_1 := blk_frozen BK110.out 1
                have hfz43_2 := blk_frozen BK110.out 2
                have hfz43_3 := blk_frozen BK110.out 3
                have hfz43_4 := blk_frozen BK110.out 4
                have hfz43_5 := blk_frozen BK110.out 5
                have hfz43_6 := blk_frozen BK110.out 6
                go_wp2
                go_meet
                case rel => exact ⟨_, ((a0_1 != 0)), (by first | rfl | (simp; done) | (simp [*]; done)), H', ⟨by have := HJ2.out; first | omega | exact Nat.le_refl _⟩, ⟨by (with_reducible repeat (first | refine blk_drewN ?_ _ | refine blk_drew ?_ | refine blk_alloc ?_ _)); exact BK110.out⟩, ⟨by repeat (first | (with_reducible first | exact HB.out | apply below_alloc | apply pw_below_drewN | apply below_drew1 | refine below_set ?_ GE110.out) | exact HB.out)⟩⟩
              · rw [if_neg c42] at H
                have c42b0 : decide (t111 < 1) = false := decide_eq_false c42
                clear c42
                have H' := Aside0.mk H
                clear H
                go_wp2
                go_meet
                case rel => exact ⟨_, (false), (by first | rfl | (simp; done) | (simp [*]; done)), H', ⟨by have := HJ2.out; first | omega | exact Nat.le_refl _⟩, ⟨by (with_reducible repeat (first | refine blk_drewN ?_ _ | refine blk_drew ?_ | refine blk_alloc ?_ _)); exact BK110.out⟩, ⟨by repeat (first | (with_reducible first | exact HB.out | apply below_alloc | apply pw_below_drewN | apply below_drew1 | refine below_set ?_ GE110.out) | exact HB.out)⟩⟩
        case rest =>
          clear HC23
          try clear c1
          try clear c2
          try clear p2
          try clear c3
          try clear c4
          try clear c6
          try clear c6b0
          try clear c7
          try clear c8
          try clear c10
          try clear c12
          try clear c14
          try clear c15
          try clear c22
          try clear c24
          try clear c24b0
          try clear c25
          try clear c25b0
          try clear c25b1
          try clear c26
          try clear c26b0
          try clear c27
          try clear c27b0
          try clear c27b1
          try clear c28
          try clear c28b0
          try clear c32
          try clear c32b0
          try clear c36
          try clear c36b0
          try clear c37
          try clear c37b0
          try clear c37b1
          try clear c38
          try clear c38b0
          try clear c42
          try clear c42b0
          try clear hcz16_0
          try clear hcz16_1
          try clear hcz16_2
          try clear hcz16_3
          try clear hcz16_4
          try clear hcz16_5
          try clear hcz16_6
          try clear hcz17_0
          try clear hcz17_1
          try clear hcz17_2
          try clear hcz17_3
          try clear hcz17_4
          try clear hcz17_5
          try clear hcz17_6
          try clear hcz18_0
          try clear hcz18_1
          try clear hcz18_2
          try clear hcz18_3
          try clear hcz18_4
          try clear hcz18_5
          try clear hcz18_6
          try clear hcz19_0
          try clear hcz19_1
          try clear hcz19_2
          try clear hcz19_3
          try clear hcz19_4
          try clear hcz19_5
          try clear hcz19_6
          try clear hcz20_0
          try clear hcz20_1
          try clear hcz20_2
          try clear hcz20_3
          try clear hcz20_4
          try clear hcz20_5
          try clear hcz20_6
          try clear hcz21_0
          try clear hcz21_1
          try clear hcz21_2
          try clear hcz21_3
          try clear hcz21_4
          try clear hcz21_5
          try clear hcz21_6
          try clear hcz29_0
          try clear hcz29_1
          try clear hcz29_2
          try clear hcz29_3
          try clear hcz29_4
          try clear hcz29_5
          try clear hcz29_6
          try clear hcz30_0
          try clear hcz30_1
          try clear hcz30_2
          try clear hcz30_3
          try clear hcz30_4
          try clear hcz30_5
          try clear hcz30_6
          try clear hcz31_0
          try clear hcz31_1
          try clear hcz31_2
          try clear hcz31_3
          try clear hcz31_4
          try clear hcz31_5
          try clear hcz31_6
          try clear hcz33_0
          try clear hcz33_1
          try clear hcz33_2
          try clear hcz33_3
          try clear hcz33_4
          try clear hcz33_5
          try clear hcz33_6
          try clear hcz34_0
          try clear hcz34_1
          try clear hcz34_2
          try clear hcz34_3
          try clear hcz34_4
          try clear hcz34_5
          try clear hcz34_6
          try clear hcz35_0
          try clear hcz35_1
          try clear hcz35_2
          try clear hcz35_3
          try clear hcz35_4
          try clear hcz35_5
          try clear hcz35_6
          try clear hcz39_0
          try clear hcz39_1
          try clear hcz39_2
          try clear hcz39_3
          try clear hcz39_4
          try clear hcz39_5
          try clear hcz39_6
          try clear hcz40_0
          try clear hcz40_1
          try clear hcz40_2
          try clear hcz40_3
          try clear hcz40_4
          try clear hcz40_5
          try clear hcz40_6
          try clear hcz41_0
          try clear hcz41_1
          try clear hcz41_2
          try clear hcz41_3
          try clear hcz41_4
          try clear hcz41_5
          try clear hcz41_6
          try clear hcz43_0
          try clear hcz43_1
          try clear hcz43_2
          try clear hcz43_3
          try clear hcz43_4
          try clear hcz43_5
          try clear hcz43_6
          try clear hcz5_0
          try clear hcz5_1
          try clear hcz5_2
          try clear hcz5_3
          try clear hcz5_4
          try clear hcz5_5
          try clear hcz5_6
          try clear hfz16_0
          try clear hfz16_1
          try clear hfz16_2
          try clear hfz16_3
          try clear hfz16_4
          try clear hfz16_5
          try clear hfz16_6
          try clear hfz17_0
          try clear hfz17_1
          try clear hfz17_2
          try clear hfz17_3
          try clear hfz17_4
          try clear hfz17_5
          try clear hfz17_6
          try clear hfz18_0
          try clear hfz18_1
          try clear hfz18_2
          try clear hfz18_3
          try clear hfz18_4
          try clear hfz18_5
          try clear hfz18_6
          try clear hfz19_0
          try clear hfz19_1
          try clear hfz19_2
          try clear hfz19_3
          try clear hfz19_4
          try clear hfz19_5
          try clear hfz19_6
          try clear hfz20_0
          try clear hfz20_1
          try clear hfz20_2
          try clear hfz20_3
          try clear hfz20_4
          try clear hfz20_5
          try clear hfz20_6
          try clear hfz21_0
          try clear hfz21_1
          try clear hfz21_2
          try clear hfz21_3
          try clear hfz21_4
          try clear hfz21_5
          try clear hfz21_6
          try clear hfz29_0
          try clear hfz29_1
          try clear hfz29_2
          try clear hfz29_3
          try clear hfz29_4
          try clear hfz29_5
          try clear hfz29_6
          try clear hfz30_0
          try clear hfz30_1
          try clear hfz30_2
          try clear hfz30_3
          try clear hfz30_4
          try clear hfz30_5
          try clear hfz30_6
          try clear hfz31_0
          try clear hfz31_1
          try clear hfz31_2
          try clear hfz31_3
          try clear hfz31_4
          try clear hfz31_5
          try clear hfz31_6
          try clear hfz33_0
          try clear hfz33_1
          try clear hfz33_2
          try clear hfz33_3
          try clear hfz33_4
          try clear hfz33_5
          try clear hfz33_6
          try clear hfz34_0
          try clear hfz34_1
          try clear hfz34_2
          try clear hfz34_3
          try clear hfz34_4
          try clear hfz34_5
          try clear hfz34_6
          try clear hfz35_0
          try clear hfz35_1
          try clear hfz35_2
          try clear hfz35_3
          try clear hfz35_4
          try clear hfz35_5
          try clear hfz35_6
          try clear hfz39_0
          try clear hfz39_1
          try clear hfz39_2
          try clear hfz39_3
          try clear hfz39_4
          try clear hfz39_5
          try clear hfz39_6
          try clear hfz40_0
          try clear hfz40_1
          try clear hfz40_2
          try clear hfz40_3
          try clear hfz40_4
          try clear hfz40_5
          try clear hfz40_6
          try clear hfz41_0
          try clear hfz41_1
          try clear hfz41_2
          try clear hfz41_3
          try clear hfz41_4
          try clear hfz41_5
          try clear hfz41_6
          try clear hfz43_0
          try clear hfz43_1
          try clear hfz43_2
          try clear hfz43_3
          try clear hfz43_4
          try clear hfz43_5
          try clear hfz43_6
          try clear hfz5_0
          try clear hfz5_1
          try clear hfz5_2
          try clear hfz5_3
          try clear hfz5_4
          try clear hfz5_5
          try clear hfz5_6
          try clear p2
          obtain ⟨kq, x75_22, rfl, HA, HJ22, BK110, HB⟩ := hcut
          cases kq with
          | zero => exact absurd HA.out (by simp [spec_GoodFrame.j1])
          | succ kj22 =>
            have H := HA.out
            clear HA
            simp only [spec_GoodFrame.j1] at H
            by_cases c44 : x75_22 = true
            · subst c44
              have H1 : (some false) = some r := by rw [if_pos rfl] at H; exact H
              clear H
              have H := H1
              clear H1
              obtain rfl := Option.some.inj H
              go_wp2
              go_ret
              exact ⟨by first | rfl | (simp [errW_none, errW_some] <;> rfl) | (simp [*, errW_none, errW_some] <;> rfl), by repeat (first | (with_reducible first | exact HB.out | apply below_alloc | apply pw_below_drewN | apply below_drew1 | refine below_set ?_ GE110.out) | exact HB.out)⟩
            · replace c44 := Bool.eq_false_iff.mpr c44
              subst c44
              have H1 : (if ((a0_0 == 2) != (decide ((l0_6.length : Int) > 0))) = true then (spec_GoodFrame.j2 kj22 true a0_0 a0_1 a0_2 a0_3 a0_4 a0_5 l0_6) else (if a0_0 = 2 then ((spec_l1Ranges.f kj22 l0_6).bind fun t118 => (spec_GoodFrame.j2 kj22 (!t118) a0_0 a0_1 a0_2 a0_3 a0_4 a0_5 l0_6)) else (spec_GoodFrame.j2 kj22 false a0_0 a0_1 a0_2 a0_3 a0_4 a0_5 l0_6))) = some r := by rw [if_neg (show ¬ (false = true) by decide)] at H; exact H
              clear H
              have H := H1
              clear H1
              have HC45 := Aside0.mk H
              clear H
              go_upto_region 6 with (fail)
              go_cut [94] (fun v94 wc => ∃ (kq : Nat) (x94_44 : Bool), v94 = .bool x94_44 ∧ Aside0 (spec_GoodFrame.j2 kq x94_44 a0_0 a0_1 a0_2 a0_3 a0_4 a0_5 l0_6 = some r) ∧ Aside0 (kq ≤ kj22) ∧ Aside0 (wc.heap[gb110]? = some (.cells #[.int .i64 a0_0, .int .i64 a0_1, .int .i64 a0_2, .int .i64 a0_3, .bool a0_4, .string a0_5, (.slice A0_6 l0_6.length c0_6)] 55 (0, 0))) ∧ Aside0 (Below w.heap.size w wc))
              case first =>
                have H := HC45.out
                clear HC45
                by_cases c46 : ((a0_0 == 2) != (decide ((l0_6.length : Int) > 0))) = true
                · rw [if_pos c46] at H
                  have dd_ : (a0_0 = 2 ∧ ¬ (l0_6.length : Int) > 0) ∨ (¬ a0_0 = 2 ∧ (l0_6.length : Int) > 0) := ne_ways a0_0 l0_6.length c46
                  clear c46
                  rcases dd_ with ⟨q1, q2⟩ | ⟨q1, q2⟩
                  · have d0_ : (a0_0 == 2) = true := by simpa using q1
                    have d1_ : decide ((l0_6.length : Int) > 0) = false := by simpa using q2
                    have d2_ : decide (0 < (l0_6.length : Int)) = false := by simpa using q2
                    have d3_ : decide (0 < l0_6.length) = false := by simpa using q2
                    have d4_ : (a0_0 != 2) = false := by simpa using q1
                    clear q1 q2
                    have H' := Aside0.mk H
                    clear H
                    have hcz47_0 : wc.cell? ⟨gb110, 0, none⟩ = some (.int .i64 a0_0) := (blk_cell BK110.out 0).trans rfl
                    have hcz47_1 : wc.cell? ⟨gb110, 1, none⟩ = some (.int .i64 a0_1) := (blk_cell BK110.out 1).trans rfl
                    have hcz47_2 : wc.cell? ⟨gb110, 2, none⟩ = some (.int .i64 a0_2) := (blk_cell BK110.out 2).trans rfl
                    have hcz47_3 : wc.cell? ⟨gb110, 3, none⟩ = some (.int .i64 a0_3) := (blk_cell BK110.out 3).trans rfl
                    have hcz47_4 : wc.cell? ⟨gb110, 4, none⟩ = some (.bool a0_4) := (blk_cell BK110.out 4).trans rfl
                    have hcz47_5 : wc.cell? ⟨gb110, 5, none⟩ = some (.string a0_5) := (blk_cell BK110.out 5).trans rfl
                    have hcz47_6 : wc.cell? ⟨gb110, 6, none⟩ = some (.slice A0_6 l0_6.length c0_6) := (blk_cell BK110.out 6).trans rfl
                    have hfz47_0 := blk_frozen BK110.out 0
                    have hfz47_1 := blk_frozen BK110.out 1
                    have hfz47_2 := blk_frozen BK110.out 2
                    have hfz47_3 := blk_frozen BK110.out 3
                    have hfz47_4 := blk_frozen BK110.out 4
                    have hfz47_5 := blk_frozen BK110.out 5
                    have hfz47_6 := blk_frozen BK110.out 6
                    go_wp2
                    go_meet
                    case rel => exact ⟨_, (true), (by first | rfl | (simp; done) | (simp [*]; done)), H', ⟨by have := HJ2.out; have := HJ22.out; first | omega | exact Nat.le_refl _⟩, ⟨by (with_reducible repeat (first | refine blk_drewN ?_ _ | refine blk_drew ?_ | refine blk_alloc ?_ _)); exact BK110.out⟩, ⟨by repeat (first | (with_reducible first | exact HB.out | apply below_alloc | apply pw_below_drewN | apply below_drew1 | refine below_set ?_ GE110.out) | exact HB.out)⟩⟩
                  · have d0_ : (a0_0 == 2) = false := by simpa using q1
                    have d1_ : decide ((l0_6.length : Int) > 0) = true := by simpa using q2
                    have d2_ : decide (0 < (l0_6.length : Int)) = true := by simpa using q2
                    have d3_ : decide (0 < l0_6.length) = true := by simpa using q2
                    have d4_ : (a0_0 != 2) = true := by simpa using q1
                    clear q1 q2
                    have H' := Aside0.mk H
                    clear H
                    have hcz47_0 : wc.cell? ⟨gb110, 0, none⟩ = some (.int .i64 a0_0) := (blk_cell BK110.out 0).trans rfl
                    have hcz47_1 : wc.cell? ⟨gb110, 1, none⟩ = some (.int .i64 a0_1) := (blk_cell BK110.out 1).trans rfl
                    have hcz47_2 : wc.cell? ⟨gb110, 2, none⟩ = some (.int .i64 a0_2) := (blk_cell BK110.out 2).trans rfl
                    have hcz47_3 : wc.cell? ⟨gb110, 3, none⟩ = some (.int .i64 a0_3) := (blk_cell BK110.out 3).trans rfl
                    have hcz47_4 : wc.cell? ⟨gb110, 4, none⟩ = some (.bool a0_4) := (blk_cell BK110.out 4).trans rfl
                    have hcz47_5 : wc.cell? ⟨gb110, 5, none⟩ = some (.string a0_5) := (blk_cell BK110.out 5).trans rfl
                    have hcz47_6 : wc.cell? ⟨gb110, 6, none⟩ = some (.slice A0_6 l0_6.length c0_6) := (blk_cell BK110.out 6).trans rfl
                    have hfz47_0 := blk_frozen BK110.out 0
                    have hfz47_1 := blk_frozen BK110.out 1
                    have hfz47_2 := blk_frozen BK110.out 2
                    have hfz47_3 := blk_frozen BK110.out 3
                    have hfz47_4 := blk_frozen BK110.out 4
                    have hfz47_5 := blk_frozen BK110.out 5
                    have hfz47_6 := blk_frozen BK110.out 6
                    go_wp2
                    go_meet
                    case rel => exact ⟨_, (true), (by first | rfl | (simp; done) | (simp [*]; done)), H', ⟨by have := HJ2.out; have := HJ22.out; first | omega | exact Nat.le_refl _⟩, ⟨by (with_reducible repeat (first | refine blk_drewN ?_ _ | refine blk_drew ?_ | refine blk_alloc ?_ _)); exact BK110.out⟩, ⟨by repeat (first | (with_reducible first | exact HB.out | apply below_alloc | apply pw_below_drewN | apply below_drew1 | refine below_set ?_ GE110.out) | exact HB.out)⟩⟩
                · rw [if_neg c46] at H
                  by_cases c48 : a0_0 = 2
                  · rw [if_pos c48] at H
                    have c48b0 : (a0_0 == 2) = true := beq_iff_eq.mpr c48
                    have c48b1 : (a0_0 != 2) = false := bne_eq_false_iff_eq.mpr c48
                    have q2 := (eq_ways a0_0 l0_6.length c46).1 c48
                    have d1_ : decide ((l0_6.length : Int) > 0) = true := by simpa using q2
                    have d2_ : decide (0 < (l0_6.length : Int)) = true := by simpa using q2
                    have d3_ : decide (0 < l0_6.length) = true := by simpa using q2
                    clear q2 c46
                    clear c48
                    replace H := Option.bind_eq_some_iff.mp H
                    obtain ⟨t118, A490, H⟩ := H
                    replace H : (spec_GoodFrame.j2 kj22 (!t118) a0_0 a0_1 a0_2 a0_3 a0_4 a0_5 l0_6) = some r := H
                    have A49 := Aside0.mk A490
                    clear A490
                    have H' := Aside0.mk H
                    clear H
                    have hcz50_0 : wc.cell? ⟨gb110, 0, none⟩ = some (.int .i64 a0_0) := (blk_cell BK110.out 0).trans rfl
                    have hcz50_1 : wc.cell? ⟨gb110, 1, none⟩ = some (.int .i64 a0_1) := (blk_cell BK110.out 1).trans rfl
                    have hcz50_2 : wc.cell? ⟨gb110, 2, none⟩ = some (.int .i64 a0_2) := (blk_cell BK110.out 2).trans rfl
                    have hcz50_3 : wc.cell? ⟨gb110, 3, none⟩ = some (.int .i64 a0_3) := (blk_cell BK110.out 3).trans rfl
                    have hcz50_4 : wc.cell? ⟨gb110, 4, none⟩ = some (.bool a0_4) := (blk_cell BK110.out 4).trans rfl
                    have hcz50_5 : wc.cell? ⟨gb110, 5, none⟩ = some (.string a0_5) := (blk_cell BK110.out 5).trans rfl
                    have hcz50_6 : wc.cell? ⟨gb110, 6, none⟩ = some (.slice A0_6 l0_6.length c0_6) := (blk_cell BK110.out 6).trans rfl
                    have hfz50_0 := blk_frozen BK110.out 0
                    have hfz50_1 := blk_frozen BK110.out 1
                    have hfz50_2 := blk_frozen BK110.out 2
                    have hfz50_3 := blk_frozen BK110.out 3
                    have hfz50_4 := blk_frozen BK110.out 4
                    have hfz50_5 := blk_frozen BK110.out 5
                    have hfz50_6 := blk_frozen BK110.out 6
                    go_wp2_with (first | (go_at_call 79; (with_reducible refine (spec_l1Ranges.calls kj22 _ _ l0_6 t118 _ ?side1 ?side2 A49.out).mono ?_); (case side1 => repeat (first | exact (Kd.C_below HR0_6.out HB.out) | (with_reducible refine Kd.C_alloc ?_ _) | (with_reducible refine Kd.C_drewN ?_ _) | (with_reducible refine Kd.C_drew ?_))); (case side2 => exact HC0_6.out); rintro e w51 ⟨rfl, hb⟩; have n0_ := Aside0.mk (blk_below (g := gb110) (o := .cells #[.int .i64 a0_0, .int .i64 a0_1, .int .i64 a0_2, .int .i64 a0_3, .bool a0_4, .string a0_5, .slice A0_6 l0_6.length c0_6] 55 (0, 0)) (by (with_reducible repeat (first | refine blk_drewN ?_ _ | refine blk_drew ?_ | refine blk_alloc ?_ _)); exact BK110.out) hb); have n1_ := Aside0.mk (below_step (by repeat (first | (with_reducible first | exact HB.out | apply below_alloc | apply pw_below_drewN | apply below_drew1 | refine below_set ?_ GE110.out) | exact HB.out)) hb); clear BK110; clear HB; have BK110 := n0_; have HB := n1_; clear n0_ n1_; (try clear hb); (try clear hb2); (try clear hk); (try clear hi)))
                    go_meet
                    case rel => exact ⟨_, (!t118), (by first | rfl | (simp; done) | (simp [*]; done)), H', ⟨by have := HJ2.out; have := HJ22.out; first | omega | exact Nat.le_refl _⟩, ⟨by (with_reducible repeat (first | refine blk_drewN ?_ _ | refine blk_drew ?_ | refine blk_alloc ?_ _)); exact BK110.out⟩, ⟨by repeat (first | (with_reducible first | exact HB.out | apply below_alloc | apply pw_below_drewN | apply below_drew1 | refine below_set ?_ GE110.out) | exact HB.out)⟩⟩
                  · rw [if_neg c48] at H
                    have c48b0 : (a0_0 == 2) = false := beq_eq_false_iff_ne.mpr c48
                    have c48b1 : (a0_0 != 2) = true := bne_iff_ne.mpr c48
                    have q2 := (eq_ways a0_0 l0_6.length c46).2 c48
                    have d1_ : decide ((l0_6.length : Int) > 0) = false := by simpa using q2
                    have d2_ : decide (0 < (l0_6.length : Int)) = false := by simpa using q2
                    have d3_ : decide (0 < l0_6.length) = false := by simpa using q2
                    clear q2 c46
                    have H' := Aside0.mk H
                    clear H
                    have hcz52_0 : wc.cell? ⟨gb110, 0, none⟩ = some (.int .i64 a0_0) := (blk_cell BK110.out 0).trans rfl
                    have hcz52_1 : wc.cell? ⟨gb110, 1, none⟩ = some (.int .i64 a0_1) := (blk_cell BK110.out 1).trans rfl
                    have hcz52_2 : wc.cell? ⟨gb110, 2, none⟩ = some (.int .i64 a0_2) := (blk_cell BK110.out 2).trans rfl
                    have hcz52_3 : wc.cell? ⟨gb110, 3, none⟩ = some (.int .i64 a0_3) := (blk_cell BK110.out 3).trans rfl
                    have hcz52_4 : wc.cell? ⟨gb110, 4, none⟩ = some (.bool a0_4) := (blk_cell BK110.out 4).trans rfl
                    have hcz52_5 : wc.cell? ⟨gb110, 5, none⟩ = some (.string a0_5) := (blk_cell BK110.out 5).trans rfl
                    have hcz52_6 : wc.cell? ⟨gb110, 6, none⟩ = some (.slice A0_6 l0_6.length c0_6) := (blk_cell BK110.out 6).trans rfl
                    have hfz52_0 := blk_frozen BK110.out 0
                    have hfz52_1 := blk_frozen BK110.out 1
                    have hfz52_2 := blk_frozen BK110.out 2
                    have hfz52_3 := blk_frozen BK110.out 3
                    have hfz52_4 := blk_frozen BK110.out 4
                    have hfz52_5 := blk_frozen BK110.out 5
                    have hfz52_6 := blk_frozen BK110.out 6
                    go_wp2
                    go_meet
                    case rel => exact ⟨_, (false), (by first | rfl | (simp; done) | (simp [*]; done)), H', ⟨by have := HJ2.out; have := HJ22.out; first | omega | exact Nat.le_refl _⟩, ⟨by (with_reducible repeat (first | refine blk_drewN ?_ _ | refine blk_drew ?_ | refine blk_alloc ?_ _)); exact BK110.out⟩, ⟨by repeat (first | (with_reducible first | exact HB.out | apply below_alloc | apply pw_below_drewN | apply below_drew1 | refine below_set ?_ GE110.out) | exact HB.out)⟩⟩
              case rest =>
                clear HC45
                try clear c1
                try clear c2
                try clear p2
                try clear c3
                try clear c4
                try clear c6
                try clear c6b0
                try clear c7
                try clear c8
                try clear c10
                try clear c12
                try clear c14
                try clear c15
                try clear c22
                try clear c24
                try clear c24b0
                try clear c25
                try clear c25b0
                try clear c25b1
                try clear c26
                try clear c26b0
                try clear c27
                try clear c27b0
                try clear c27b1
                try clear c28
                try clear c28b0
                try clear c32
                try clear c32b0
                try clear c36
                try clear c36b0
                try clear c37
                try clear c37b0
                try clear c37b1
                try clear c38
                try clear c38b0
                try clear c42
                try clear c42b0
                try clear c44
                try clear c46
                try clear c46b0
                try clear c46b1
                try clear c46b2
                try clear c48
                try clear c48b0
                try clear c48b1
                try clear hcz16_0
                try clear hcz16_1
                try clear hcz16_2
                try clear hcz16_3
                try clear hcz16_4
                try clear hcz16_5
                try clear hcz16_6
                try clear hcz17_0
                try clear hcz17_1
                try clear hcz17_2
                try clear hcz17_3
                try clear hcz17_4
                try clear hcz17_5
                try clear hcz17_6
                try clear hcz18_0
                try clear hcz18_1
                try clear hcz18_2
                try clear hcz18_3
                try clear hcz18_4
                try clear hcz18_5
                try clear hcz18_6
                try clear hcz19_0
                try clear hcz19_1
                try clear hcz19_2
                try clear hcz19_3
                try clear hcz19_4
                try clear hcz19_5
                try clear hcz19_6
                try clear hcz20_0
                try clear hcz20_1
                try clear hcz20_2
                try clear hcz20_3
                try clear hcz20_4
                try clear hcz20_5
                try clear hcz20_6
                try clear hcz21_0
                try clear hcz21_1
                try clear hcz21_2
                try clear hcz21_3
                try clear hcz21_4
                try clear hcz21_5
                try clear hcz21_6
                try clear hcz29_0
                try clear hcz29_1
                try clear hcz29_2
                try clear hcz29_3
                try clear hcz29_4
                try clear hcz29_5
                try clear hcz29_6
                try clear hcz30_0
                try clear hcz30_1
                try clear hcz30_2
                try clear hcz30_3
                try clear hcz30_4
                try clear hcz30_5
                try clear hcz30_6
                try clear hcz31_0
                try clear hcz31_1
                try clear hcz31_2
                try clear hcz31_3
                try clear hcz31_4
                try clear hcz31_5
                try clear hcz31_6
                try clear hcz33_0
                try clear hcz33_1
                try clear hcz33_2
                try clear hcz33_3
                try clear hcz33_4
                try clear hcz33_5
                try clear hcz33_6
                try clear hcz34_0
                try clear hcz34_1
                try clear hcz34_2
                try clear hcz34_3
                try clear hcz34_4
                try clear hcz34_5
                try clear hcz34_6
                try clear hcz35_0
                try clear hcz35_1
                try clear hcz35_2
                try clear hcz35_3
                try clear hcz35_4
                try clear hcz35_5
                try clear hcz35_6
                try clear hcz39_0
                try clear hcz39_1
                try clear hcz39_2
                try clear hcz39_3
                try clear hcz39_4
                try clear hcz39_5
                try clear hcz39_6
                try clear hcz40_0
                try clear hcz40_1
                try clear hcz40_2
                try clear hcz40_3
                try clear hcz40_4
                try clear hcz40_5
                try clear hcz40_6
                try clear hcz41_0
                try clear hcz41_1
                try clear hcz41_2
                try clear hcz41_3
                try clear hcz41_4
                try clear hcz41_5
                try clear hcz41_6
                try clear hcz43_0
                try clear hcz43_1
                try clear hcz43_2
                try clear hcz43_3
                try clear hcz43_4
                try clear hcz43_5
                try clear hcz43_6
                try clear hcz47_0
                try clear hcz47_1
                try clear hcz47_2
                try clear hcz47_3
                try clear hcz47_4
                try clear hcz47_5
                try clear hcz47_6
                try clear hcz50_0
                try clear hcz50_1
                try clear hcz50_2
                try clear hcz50_3
                try clear hcz50_4
                try clear hcz50_5
                try clear hcz50_6
                try clear hcz52_0
                try clear hcz52_1
                try clear hcz52_2
                try clear hcz52_3
                try clear hcz52_4
                try clear hcz52_5
                try clear hcz52_6
                try clear hcz5_0
                try clear hcz5_1
                try clear hcz5_2
                try clear hcz5_3
                try clear hcz5_4
                try clear hcz5_5
                try clear hcz5_6
                try clear hfz16_0
                try clear hfz16_1
                try clear hfz16_2
                try clear hfz16_3
                try clear hfz16_4
                try clear hfz16_5
                try clear hfz16_6
                try clear hfz17_0
                try clear hfz17_1
                try clear hfz17_2
                try clear hfz17_3
                try clear hfz17_4
                try clear hfz17_5
                try clear hfz17_6
                try clear hfz18_0
                try clear hfz18_1
                try clear hfz18_2
                try clear hfz18_3
                try clear hfz18_4
                try clear hfz18_5
                try clear hfz18_6
                try clear hfz19_0
                try clear hfz19_1
                try clear hfz19_2
                try clear hfz19_3
                try clear hfz19_4
                try clear hfz19_5
                try clear hfz19_6
                try clear hfz20_0
                try clear hfz20_1
                try clear hfz20_2
                try clear hfz20_3
                try clear hfz20_4
                try clear hfz20_5
                try clear hfz20_6
                try clear hfz21_0
                try clear hfz21_1
                try clear hfz21_2
                try clear hfz21_3
                try clear hfz21_4
                try clear hfz21_5
                try clear hfz21_6
                try clear hfz29_0
                try clear hfz29_1
                try clear hfz29_2
                try clear hfz29_3
                try clear hfz29_4
                try clear hfz29_5
                try clear hfz29_6
                try clear hfz30_0
                try clear hfz30_1
                try clear hfz30_2
                try clear hfz30_3
                try clear hfz30_4
                try clear hfz30_5
                try clear hfz30_6
                try clear hfz31_0
                try clear hfz31_1
                try clear hfz31_2
                try clear hfz31_3
                try clear hfz31_4
                try clear hfz31_5
                try clear hfz31_6
                try clear hfz33_0
                try clear hfz33_1
                try clear hfz33_2
                try clear hfz33_3
                try clear hfz33_4
                try clear hfz33_5
                try clear hfz33_6
                try clear hfz34_0
                try clear hfz34_1
                try clear hfz34_2
                try clear hfz34_3
                try clear hfz34_4
                try clear hfz34_5
                try clear hfz34_6
                try clear hfz35_0
                try clear hfz35_1
                try clear hfz35_2
                try clear hfz35_3
                try clear hfz35_4
                try clear hfz35_5
                try clear hfz35_6
                try clear hfz39_0
                try clear hfz39_1
                try clear hfz39_2
                try clear hfz39_3
                try clear hfz39_4
                try clear hfz39_5
                try clear hfz39_6
                try clear hfz40_0
                try clear hfz40_1
                try clear hfz40_2
                try clear hfz40_3
                try clear hfz40_4
                try clear hfz40_5
                try clear hfz40_6
                try clear hfz41_0
                try clear hfz41_1
                try clear hfz41_2
                try clear hfz41_3
                try clear hfz41_4
                try clear hfz41_5
                try clear hfz41_6
                try clear hfz43_0
                try clear hfz43_1
                try clear hfz43_2
                try clear hfz43_3
                try clear hfz43_4
                try clear hfz43_5
                try clear hfz43_6
                try clear hfz47_0
                try clear hfz47_1
                try clear hfz47_2
                try clear hfz47_3
                try clear hfz47_4
                try clear hfz47_5
                try clear hfz47_6
                try clear hfz50_0
                try clear hfz50_1
                try clear hfz50_2
                try clear hfz50_3
                try clear hfz50_4
                try clear hfz50_5
                try clear hfz50_6
                try clear hfz52_0
                try clear hfz52_1
                try clear hfz52_2
                try clear hfz52_3
                try clear hfz52_4
                try clear hfz52_5
                try clear hfz52_6
                try clear hfz5_0
                try clear hfz5_1
                try clear hfz5_2
                try clear hfz5_3
                try clear hfz5_4
                try clear hfz5_5
                try clear hfz5_6
                try clear p2
                obtain ⟨kq, x94_44, rfl, HA, HJ44, BK110, HB⟩ := hcut
                cases kq with
                | zero => exact absurd HA.out (by simp [spec_GoodFrame.j2])
                | succ kj44 =>
                  have H := HA.out
                  clear HA
                  simp only [spec_GoodFrame.j2] at H
                  by_cases c53 : x94_44 = true
                  · subst c53
                    have H1 : (some false) = some r := by rw [if_pos rfl] at H; exact H
                    clear H
                    have H := H1
                    clear H1
                    obtain rfl := Option.some.inj H
                    go_wp2
                    go_ret
                    exact ⟨by first | rfl | (simp [errW_none, errW_some] <;> rfl) | (simp [*, errW_none, errW_some] <;> rfl), by repeat (first | (with_reducible first | exact HB.out | apply below_alloc | apply pw_below_drewN | apply below_drew1 | refine below_set ?_ GE110.out) | exact HB.out)⟩
                  · replace c53 := Bool.eq_false_iff.mpr c53
                    subst c53
                    have H1 : (if a0_0 = 6 then (some (decide (a0_1 ≤ (wrap64 (4611686018427387903 - (a0_5.size : Int)))))) else (if a0_0 = 8 then (some (decide (a0_2 ≤ (wrap64 (4611686018427387903 - (a0_5.size : Int)))))) else (if a0_0 = 24 then (if a0_2 ≤ a0_1 then (some (decide (a0_3 ≤ 255))) else (some false)) else (some true)))) = some r := by rw [if_neg (show ¬ (false = true) by decide)] at H; exact H
                    clear H
                    have H := H1
                    clear H1
                    by_cases c54 : a0_0 = 6
                    · rw [if_pos c54] at H
                      have c54b0 : (a0_0 == 6) = true := beq_iff_eq.mpr c54
                      have c54b1 : (a0_0 != 6) = false := bne_eq_false_iff_eq.mpr c54
                      clear c54
                      obtain rfl := Option.some.inj H
                      have hcz55_0 : wc.cell? ⟨gb110, 0, none⟩ = some (.int .i64 a0_0) := (blk_cell BK110.out 0).trans rfl
                      have hcz55_1 : wc.cell? ⟨gb110, 1, none⟩ = some (.int .i64 a0_1) := (blk_cell BK110.out 1).trans rfl
                      have hcz55_2 : wc.cell? ⟨gb110, 2, none⟩ = some (.int .i64 a0_2) := (blk_cell BK110.out 2).trans rfl
                      have hcz55_3 : wc.cell? ⟨gb110, 3, none⟩ = some (.int .i64 a0_3) := (blk_cell BK110.out 3).trans rfl
                      have hcz55_4 : wc.cell? ⟨gb110, 4, none⟩ = some (.bool a0_4) := (blk_cell BK110.out 4).trans rfl
                      have hcz55_5 : wc.cell? ⟨gb110, 5, none⟩ = some (.string a0_5) := (blk_cell BK110.out 5).trans rfl
                      have hcz55_6 : wc.cell? ⟨gb110, 6, none⟩ = some (.slice A0_6 l0_6.length c0_6) := (blk_cell BK110.out 6).trans rfl
                      have hfz55_0 := blk_frozen BK110.out 0
                      have hfz55_1 := blk_frozen BK110.out 1
                      have hfz55_2 := blk_frozen BK110.out 2
                      have hfz55_3 := blk_frozen BK110.out 3
                      have hfz55_4 := blk_frozen BK110.out 4
                      have hfz55_5 := blk_frozen BK110.out 5
                      have hfz55_6 := blk_frozen BK110.out 6
                      go_wp2
                      go_ret
                      exact ⟨by first | rfl | (simp [errW_none, errW_some] <;> rfl) | (simp [*, errW_none, errW_some] <;> rfl), by repeat (first | (with_reducible first | exact HB.out | apply below_alloc | apply pw_below_drewN | apply below_drew1 | refine below_set ?_ GE110.out) | exact HB.out)⟩
                    · rw [if_neg c54] at H
                      have c54b0 : (a0_0 == 6) = false := beq_eq_false_iff_ne.mpr c54
                      have c54b1 : (a0_0 != 6) = true := bne_iff_ne.mpr c54
                      by_cases c56 : a0_0 = 8
                      · rw [if_pos c56] at H
                        have c56b0 : (a0_0 == 8) = true := beq_iff_eq.mpr c56
                        have c56b1 : (a0_0 != 8) = false := bne_eq_false_iff_eq.mpr c56
                        clear c56
                        obtain rfl := Option.some.inj H
                        have hcz57_0 : wc.cell? ⟨gb110, 0, none⟩ = some (.int .i64 a0_0) := (blk_cell BK110.out 0).trans rfl
                        have hcz57_1 : wc.cell? ⟨gb110, 1, none⟩ = some (.int .i64 a0_1) := (blk_cell BK110.out 1).trans rfl
                        have hcz57_2 : wc.cell? ⟨gb110, 2, none⟩ = some (.int .i64 a0_2) := (blk_cell BK110.out 2).trans rfl
                        have hcz57_3 : wc.cell? ⟨gb110, 3, none⟩ = some (.int .i64 a0_3) := (blk_cell BK110.out 3).trans rfl
                        have hcz57_4 : wc.cell? ⟨gb110, 4, none⟩ = some (.bool a0_4) := (blk_cell BK110.out 4).trans rfl
                        have hcz57_5 : wc.cell? ⟨gb110, 5, none⟩ = some (.string a0_5) := (blk_cell BK110.out 5).trans rfl
                        have hcz57_6 : wc.cell? ⟨gb110, 6, none⟩ = some (.slice A0_6 l0_6.length c0_6) := (blk_cell BK110.out 6).trans rfl
                        have hfz57_0 := blk_frozen BK110.out 0
                        have hfz57_1 := blk_frozen BK110.out 1
                        have hfz57_2 := blk_frozen BK110.out 2
                        have hfz57_3 := blk_frozen BK110.out 3
                        have hfz57_4 := blk_frozen BK110.out 4
                        have hfz57_5 := blk_frozen BK110.out 5
                        have hfz57_6 := blk_frozen BK110.out 6
                        go_wp2
                        go_ret
                        exact ⟨by first | rfl | (simp [errW_none, errW_some] <;> rfl) | (simp [*, errW_none, errW_some] <;> rfl), by repeat (first | (with_reducible first | exact HB.out | apply below_alloc | apply pw_below_drewN | apply below_drew1 | refine below_set ?_ GE110.out) | exact HB.out)⟩
                      · rw [if_neg c56] at H
                        have c56b0 : (a0_0 == 8) = false := beq_eq_false_iff_ne.mpr c56
                        have c56b1 : (a0_0 != 8) = true := bne_iff_ne.mpr c56
                        by_cases c58 : a0_0 = 24
                        · rw [if_pos c58] at H
                          have c58b0 : (a0_0 == 24) = true := beq_iff_eq.mpr c58
                          have c58b1 : (a0_0 != 24) = false := bne_eq_false_iff_eq.mpr c58
                          clear c58
                          by_cases c59 : a0_2 ≤ a0_1
                          · rw [if_pos c59] at H
                            have c59b0 : decide (a0_2 ≤ a0_1) = true := decide_eq_true c59
                            clear c59
                            obtain rfl := Option.some.inj H
                            have hcz60_0 : wc.cell? ⟨gb110, 0, none⟩ = some (.int .i64 a0_0) := (blk_cell BK110.out 0).trans rfl
                            have hcz60_1 : wc.cell? ⟨gb110, 1, none⟩ = some (.int .i64 a0_1) := (blk_cell BK110.out 1).trans rfl
                            have hcz60_2 : wc.cell? ⟨gb110, 2, none⟩ = some (.int .i64 a0_2) := (blk_cell BK110.out 2).trans rfl
                            have hcz60_3 : wc.cell? ⟨gb110, 3, none⟩ = some (.int .i64 a0_3) := (blk_cell BK110.out 3).trans rfl
                            have hcz60_4 : wc.cell? ⟨gb110, 4, none⟩ = some (.bool a0_4) := (blk_cell BK110.out 4).trans rfl
                            have hcz60_5 : wc.cell? ⟨gb110, 5, none⟩ = some (.string a0_5) := (blk_cell BK110.out 5).trans rfl
                            have hcz60_6 : wc.cell? ⟨gb110, 6, none⟩ = some (.slice A0_6 l0_6.length c0_6) := (blk_cell BK110.out 6).trans rfl
                            have hfz60_0 := blk_frozen BK110.out 0
                            have hfz60_1 := blk_frozen BK110.out 1
                            have hfz60_2 := blk_frozen BK110.out 2
                            have hfz60_3 := blk_frozen BK110.out 3
                            have hfz60_4 := blk_frozen BK110.out 4
                            have hfz60_5 := blk_frozen BK110.out 5
                            have hfz60_6 := blk_frozen BK110.out 6
                            go_wp2
                            go_ret
                            exact ⟨by first | rfl | (simp [errW_none, errW_some] <;> rfl) | (simp [*, errW_none, errW_some] <;> rfl), by repeat (first | (with_reducible first | exact HB.out | apply below_alloc | apply pw_below_drewN | apply below_drew1 | refine below_set ?_ GE110.out) | exact HB.out)⟩
                          · rw [if_neg c59] at H
                            have c59b0 : decide (a0_2 ≤ a0_1) = false := decide_eq_false c59
                            clear c59
                            obtain rfl := Option.some.inj H
                            have hcz61_0 : wc.cell? ⟨gb110, 0, none⟩ = some (.int .i64 a0_0) := (blk_cell BK110.out 0).trans rfl
                            have hcz61_1 : wc.cell? ⟨gb110, 1, none⟩ = some (.int .i64 a0_1) := (blk_cell BK110.out 1).trans rfl
                            have hcz61_2 : wc.cell? ⟨gb110, 2, none⟩ = some (.int .i64 a0_2) := (blk_cell BK110.out 2).trans rfl
                            have hcz61_3 : wc.cell? ⟨gb110, 3, none⟩ = some (.int .i64 a0_3) := (blk_cell BK110.out 3).trans rfl
                            have hcz61_4 : wc.cell? ⟨gb110, 4, none⟩ = some (.bool a0_4) := (blk_cell BK110.out 4).trans rfl
                            have hcz61_5 : wc.cell? ⟨gb110, 5, none⟩ = some (.string a0_5) := (blk_cell BK110.out 5).trans rfl
                            have hcz61_6 : wc.cell? ⟨gb110, 6, none⟩ = some (.slice A0_6 l0_6.length c0_6) := (blk_cell BK110.out 6).trans rfl
                            have hfz61_0 := blk_frozen BK110.out 0
                            have hfz61_1 := blk_frozen BK110.out 1
                            have hfz61_2 := blk_frozen BK110.out 2
                            have hfz61_3 := blk_frozen BK110.out 3
                            have hfz61_4 := blk_frozen BK110.out 4
                            have hfz61_5 := blk_frozen BK110.out 5
                            have hfz61_6 := blk_frozen BK110.out 6
                            go_wp2
                            go_ret
                            exact ⟨by first | rfl | (simp [errW_none, errW_some] <;> rfl) | (simp [*, errW_none, errW_some] <;> rfl), by repeat (first | (with_reducible first | exact HB.out | apply below_alloc | apply pw_below_drewN | apply below_drew1 | refine below_set ?_ GE110.out) | exact HB.out)⟩
                        · rw [if_neg c58] at H
                          have c58b0 : (a0_0 == 24) = false := beq_eq_false_iff_ne.mpr c58
                          have c58b1 : (a0_0 != 24) = true := bne_iff_ne.mpr c58
                          obtain rfl := Option.some.inj H
                          have hcz62_0 : wc.cell? ⟨gb110, 0, none⟩ = some (.int .i64 a0_0) := (blk_cell BK110.out 0).trans rfl
                          have hcz62_1 : wc.cell? ⟨gb110, 1, none⟩ = some (.int .i64 a0_1) := (blk_cell BK110.out 1).trans rfl
                          have hcz62_2 : wc.cell? ⟨gb110, 2, none⟩ = some (.int .i64 a0_2) := (blk_cell BK110.out 2).trans rfl
                          have hcz62_3 : wc.cell? ⟨gb110, 3, none⟩ = some (.int .i64 a0_3) := (blk_cell BK110.out 3).trans rfl
                          have hcz62_4 : wc.cell? ⟨gb110, 4, none⟩ = some (.bool a0_4) := (blk_cell BK110.out 4).trans rfl
                          have hcz62_5 : wc.cell? ⟨gb110, 5, none⟩ = some (.string a0_5) := (blk_cell BK110.out 5).trans rfl
                          have hcz62_6 : wc.cell? ⟨gb110, 6, none⟩ = some (.slice A0_6 l0_6.length c0_6) := (blk_cell BK110.out 6).trans rfl
                          have hfz62_0 := blk_frozen BK110.out 0
                          have hfz62_1 := blk_frozen BK110.out 1
                          have hfz62_2 := blk_frozen BK110.out 2
                          have hfz62_3 := blk_frozen BK110.out 3
                          have hfz62_4 := blk_frozen BK110.out 4
                          have hfz62_5 := blk_frozen BK110.out 5
                          have hfz62_6 := blk_frozen BK110.out 6
                          go_wp2
                          go_ret
                          exact ⟨by first | rfl | (simp [errW_none, errW_some] <;> rfl) | (simp [*, errW_none, errW_some] <;> rfl), by repeat (first | (with_reducible first | exact HB.out | apply below_alloc | apply pw_below_drewN | apply below_drew1 | refine below_set ?_ GE110.out) | exact HB.out)⟩

end Go.Proofs.Ytlohefjigggjiaa.PFnExactGoodFrame
