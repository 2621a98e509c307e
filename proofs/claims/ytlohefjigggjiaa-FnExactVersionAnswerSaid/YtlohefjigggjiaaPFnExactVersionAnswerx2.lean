-- LAID BY A PROGRAM OF THIS SESSION (wip/tools/myprint.py) over the kit's print.
import Derived.Test.YtlohefjigggjiaaPFnExactVersionAnswerx0
import Derived.Test.YtlohefjigggjiaaPFnExactVersionAnswerx1
namespace Go.Proofs.Ytlohefjigggjiaa.PFnExactVersionAnswer
open Go.RowKit Go.Proofs.YtlohefjigggjiaaV.PrintWords Go.Proofs.YtlohefjigggjiaaV.PrintLast Go.Proofs.YtlohefjigggjiaaV.PrintMore
attribute [local go_sem] max2_int min2_int max_two min_two max_three min_three max_four min_four   -- for this text's walks alone
set_option linter.unusedVariables false
set_option linter.unusedSimpArgs false

/-! ### spec_GoodHeader: function 28 -/
mutual
def spec_GoodHeader.j0 : Nat → Bool → Int → Int → Int → ByteArray → ByteArray → ByteArray → ByteArray → List Int → Option (Bool)
  | 0, _, _, _, _, _, _, _, _, _ => none
  | k + 1, x32, x121000, x121001, x121002, x121003, x121004, x121005, x121006, x121007 => if x32 = true then (some false) else (if x121000 = 0 then (if x121000 = 4 then (spec_GoodHeader.j1 k false x121000 x121001 x121002 x121003 x121004 x121005 x121006 x121007) else (spec_GoodHeader.j1 k (decide ((x121007.length : Int) > 0)) x121000 x121001 x121002 x121003 x121004 x121005 x121006 x121007)) else (if x121005.toList = ([] : List UInt8) then (if x121000 = 4 then (spec_GoodHeader.j1 k false x121000 x121001 x121002 x121003 x121004 x121005 x121006 x121007) else (spec_GoodHeader.j1 k (decide ((x121007.length : Int) > 0)) x121000 x121001 x121002 x121003 x121004 x121005 x121006 x121007)) else (spec_GoodHeader.j1 k true x121000 x121001 x121002 x121003 x121004 x121005 x121006 x121007)))
def spec_GoodHeader.j1 : Nat → Bool → Int → Int → Int → ByteArray → ByteArray → ByteArray → ByteArray → List Int → Option (Bool)
  | 0, _, _, _, _, _, _, _, _, _ => none
  | k + 1, x51, x121000, x121001, x121002, x121003, x121004, x121005, x121006, x121007 => if x51 = true then (some false) else (if x121000 = 0 then (spec_GoodHeader.j2 k x121000 (x121000 == 0) x121000 x121001 x121002 x121003 x121004 x121005 x121006 x121007) else (if x121000 = 1 then (spec_GoodHeader.j2 k x121000 (x121000 == 1) x121000 x121001 x121002 x121003 x121004 x121005 x121006 x121007) else (if x121000 = 2 then (spec_GoodHeader.j2 k x121000 (x121000 == 2) x121000 x121001 x121002 x121003 x121004 x121005 x121006 x121007) else (spec_GoodHeader.j2 k x121000 (x121000 == 3) x121000 x121001 x121002 x121003 x121004 x121005 x121006 x121007))))
def spec_GoodHeader.j2 : Nat → Int → Bool → Int → Int → Int → ByteArray → ByteArray → ByteArray → ByteArray → List Int → Option (Bool)
  | 0, _, _, _, _, _, _, _, _, _, _ => none
  | k + 1, x53, x54, x121000, x121001, x121002, x121003, x121004, x121005, x121006, x121007 => if x54 = true then ((spec_l1In.f x121002 1 4294967295).bind fun t122 => (if t122 = true then (some (x121006.toList != ([] : List UInt8))) else (some false))) else (if x53 = 4 then (spec_GoodHeader.l0 k x121007 (x121007.length : Int) 0 x121000 x121001 x121002 x121003 x121004 x121005 x121006 x121007) else (if x121000 = 5 then (if x121004.toList = ([] : List UInt8) then (some (x121002 == 0)) else (some false)) else (some false)))
def spec_GoodHeader.l0 : Nat → List Int → Int → Int → Int → Int → Int → ByteArray → ByteArray → ByteArray → ByteArray → List Int → Option (Bool)
  | 0, _, _, _, _, _, _, _, _, _, _, _ => none
  | k + 1, x70, x71, x72, x121000, x121001, x121002, x121003, x121004, x121005, x121006, x121007 => if x72 < x71 then (if 0 ≤ x72 then (if x72 < (x70.length : Int) then ((spec_l2Word.f (rd x70 x72)).bind fun t124 => (if t124 = true then (spec_GoodHeader.l0 k x70 x71 (wrap64 (x72 + 1)) x121000 x121001 x121002 x121003 x121004 x121005 x121006 x121007) else (some false))) else (none)) else (none)) else (if x121002 = 0 then (if x121006.toList = ([] : List UInt8) then ((spec_l1In.f (x121007.length : Int) 1 20).bind fun t125 => (some t125)) else (some false)) else (some false))
end
def spec_GoodHeader.f (k : Nat) (a0_0 : Int) (a0_1 : Int) (a0_2 : Int) (a0_3 : ByteArray) (a0_4 : ByteArray) (a0_5 : ByteArray) (a0_6 : ByteArray) (l0_7 : List Int) : Option (Bool) := if (a0_3.size : Int) > 20 then (spec_GoodHeader.j0 k true a0_0 a0_1 a0_2 a0_3 a0_4 a0_5 a0_6 l0_7) else (if (a0_4.size : Int) > 20 then (spec_GoodHeader.j0 k true a0_0 a0_1 a0_2 a0_3 a0_4 a0_5 a0_6 l0_7) else ((spec_l1In.f a0_1 0 15).bind fun t121 => (if t121 = true then (if (a0_5.size : Int) > 200 then (spec_GoodHeader.j0 k true a0_0 a0_1 a0_2 a0_3 a0_4 a0_5 a0_6 l0_7) else (spec_GoodHeader.j0 k (decide ((a0_6.size : Int) > 1200)) a0_0 a0_1 a0_2 a0_3 a0_4 a0_5 a0_6 l0_7)) else (spec_GoodHeader.j0 k true a0_0 a0_1 a0_2 a0_3 a0_4 a0_5 a0_6 l0_7))))
set_option maxHeartbeats 8000000 in
set_option maxRecDepth 100000 in
theorem spec_GoodHeader.calls (k : Nat) (a0_0 : Int) (a0_1 : Int) (a0_2 : Int) (a0_3 : ByteArray) (a0_4 : ByteArray) (a0_5 : ByteArray) (a0_6 : ByteArray) (A0_7 : Option Addr) (c0_7 : Nat) (l0_7 : List Int) (r : Bool) (w : World) (hr0_7 : Kd.C (Kd.int .i64) w A0_7 l0_7.length l0_7) (hc0_7 : l0_7.length ≤ c0_7) (h : spec_GoodHeader.f k a0_0 a0_1 a0_2 a0_3 a0_4 a0_5 a0_6 l0_7 = some r) :
    Calls Try.prog 28 #[.agg #[.int .i64 a0_0, .int .i64 a0_1, .int .i64 a0_2, .string a0_3, .string a0_4, .string a0_5, .string a0_6, .slice A0_7 l0_7.length c0_7]] w fun e w' => e = .returned (.bool r) ∧ Below w.heap.size w w' := by
  have hu44 := Try.underlying44
  have HR0_7 := Aside0.mk hr0_7
  have HC0_7 := Aside0.mk hc0_7
  clear hr0_7 hc0_7
  have HB := Aside0.mk (Below.refl w.heap.size w)
  have H : (if (a0_3.size : Int) > 20 then (spec_GoodHeader.j0 k true a0_0 a0_1 a0_2 a0_3 a0_4 a0_5 a0_6 l0_7) else (if (a0_4.size : Int) > 20 then (spec_GoodHeader.j0 k true a0_0 a0_1 a0_2 a0_3 a0_4 a0_5 a0_6 l0_7) else ((spec_l1In.f a0_1 0 15).bind fun t121 => (if t121 = true then (if (a0_5.size : Int) > 200 then (spec_GoodHeader.j0 k true a0_0 a0_1 a0_2 a0_3 a0_4 a0_5 a0_6 l0_7) else (spec_GoodHeader.j0 k (decide ((a0_6.size : Int) > 1200)) a0_0 a0_1 a0_2 a0_3 a0_4 a0_5 a0_6 l0_7)) else (spec_GoodHeader.j0 k true a0_0 a0_1 a0_2 a0_3 a0_4 a0_5 a0_6 l0_7))))) = some r := h
  clear h
  have HC2 := Aside0.mk H
  clear H
  go_enter Try.func28, Try.ntmps28
  go_upto_region 1 with (first | ((with_reducible refine gate_dst (N := 1) rfl ?_); refine box_event ?hg (N := 1) ?hd (cs := #[.int .i64 a0_0, .int .i64 a0_1, .int .i64 a0_2, .string a0_3, .string a0_4, .string a0_5, .string a0_6, .slice A0_7 l0_7.length c0_7]) (t := 44) ?hr ?_; (case hd => rfl); (case hg => rfl); (case hr => first | (go_simp; done) | (go_simp; rfl)); intro gb120 hg w3 hbox hb; have n0_ := Aside0.mk (below_step (by repeat (first | (with_reducible first | exact HB.out | apply below_alloc | apply pw_below_drewN | apply below_drew1) | exact HB.out)) hb); have n1_ := Aside0.mk (hbox); have n2_ := Aside0.mk ((by rw [hg]; exact (below_size (by repeat (first | (with_reducible first | exact HB.out | apply below_alloc | apply pw_below_drewN | apply below_drew1) | exact HB.out))) : w.heap.size ≤ gb120)); have n3_ := Aside0.mk ((by rw [hg]; exact (below_size (by repeat (first | (with_reducible first | exact HB.out | apply below_alloc | apply pw_below_drewN | apply below_drew1) | exact HB.out))) : w.heap.size ≤ gb120)); clear HB; have HB := n0_; have BK120 := n1_; have GW120 := n2_; have GE120 := n3_; clear n0_ n1_ n2_ n3_; clear hb hbox hg))
  (try simp only [Act.put, List.setIfInBounds_toArray, List.set_cons_zero, List.set_cons_succ])
  go_cut [32] (fun v32 wc => ∃ (kq : Nat) (x32_1 : Bool), v32 = .bool x32_1 ∧ Aside0 (spec_GoodHeader.j0 kq x32_1 a0_0 a0_1 a0_2 a0_3 a0_4 a0_5 a0_6 l0_7 = some r) ∧ Aside0 (kq ≤ k) ∧ Aside0 (wc.heap[gb120]? = some (.cells #[.int .i64 a0_0, .int .i64 a0_1, .int .i64 a0_2, .string a0_3, .string a0_4, .string a0_5, .string a0_6, (.slice A0_7 l0_7.length c0_7)] 44 (0, 0))) ∧ Aside0 (Below w.heap.size w wc))
  case first =>
    have H := HC2.out
    clear HC2
    by_cases c4 : (a0_3.size : Int) > 20
    · rw [if_pos c4] at H
      have c4b0 : decide (20 < (a0_3.size : Int)) = true := decide_eq_true c4
      have c4b1 : decide (20 < a0_3.size) = true := decide_eq_true (by omega)
      clear c4
      (first | rw [c4b0] | (simp only [i64_w, i32_w]; rw [c4b0]) | skip)
      have H' := Aside0.mk H
      clear H
      have hcz5_0 : w3.cell? ⟨gb120, 0, none⟩ = some (.int .i64 a0_0) := (blk_cell BK120.out 0).trans rfl
      have hcz5_1 : w3.cell? ⟨gb120, 1, none⟩ = some (.int .i64 a0_1) := (blk_cell BK120.out 1).trans rfl
      have hcz5_2 : w3.cell? ⟨gb120, 2, none⟩ = some (.int .i64 a0_2) := (blk_cell BK120.out 2).trans rfl
      have hcz5_3 : w3.cell? ⟨gb120, 3, none⟩ = some (.string a0_3) := (blk_cell BK120.out 3).trans rfl
      have hcz5_4 : w3.cell? ⟨gb120, 4, none⟩ = some (.string a0_4) := (blk_cell BK120.out 4).trans rfl
      have hcz5_5 : w3.cell? ⟨gb120, 5, none⟩ = some (.string a0_5) := (blk_cell BK120.out 5).trans rfl
      have hcz5_6 : w3.cell? ⟨gb120, 6, none⟩ = some (.string a0_6) := (blk_cell BK120.out 6).trans rfl
      have hcz5_7 : w3.cell? ⟨gb120, 7, none⟩ = some (.slice A0_7 l0_7.length c0_7) := (blk_cell BK120.out 7).trans rfl
      have hfz5_0 := blk_frozen BK120.out 0
      have hfz5_1 := blk_frozen BK120.out 1
      have hfz5_2 := blk_frozen BK120.out 2
      have hfz5_3 := blk_frozen BK120.out 3
      have hfz5_4 := blk_frozen BK120.out 4
      have hfz5_5 := blk_frozen BK120.out 5
      have hfz5_6 := blk_frozen BK120.out 6
      have hfz5_7 := blk_frozen BK120.out 7
      go_wp2
      go_meet
      case rel => exact ⟨_, (true), (by first | rfl | (simp; done) | (simp [*]; done)), H', ⟨by first | omega | exact Nat.le_refl _⟩, ⟨by (with_reducible repeat (first | refine blk_drewN ?_ _ | refine blk_drew ?_ | refine blk_alloc ?_ _)); exact BK120.out⟩, ⟨by repeat (first | (with_reducible first | exact HB.out | apply below_alloc | apply pw_below_drewN | apply below_drew1 | refine below_set ?_ GE120.out) | exact HB.out)⟩⟩
    · rw [if_neg c4] at H
      have c4b0 : decide (20 < (a0_3.size : Int)) = false := decide_eq_false c4
      have c4b1 : decide (20 < a0_3.size) = false := decide_eq_false (by omega)
      clear c4
      (first | rw [c4b0] | (simp only [i64_w, i32_w]; rw [c4b0]) | skip)
      by_cases c6 : (a0_4.size : Int) > 20
      · rw [if_pos c6] at H
        have c6b0 : decide (20 < (a0_4.size : Int)) = true := decide_eq_true c6
        have c6b1 : decide (20 < a0_4.size) = true := decide_eq_true (by omega)
        clear c6
        have H' := Aside0.mk H
        clear H
        have hcz7_0 : w3.cell? ⟨gb120, 0, none⟩ = some (.int .i64 a0_0) := (blk_cell BK120.out 0).trans rfl
        have hcz7_1 : w3.cell? ⟨gb120, 1, none⟩ = some (.int .i64 a0_1) := (blk_cell BK120.out 1).trans rfl
        have hcz7_2 : w3.cell? ⟨gb120, 2, none⟩ = some (.int .i64 a0_2) := (blk_cell BK120.out 2).trans rfl
        have hcz7_3 : w3.cell? ⟨gb120, 3, none⟩ = some (.string a0_3) := (blk_cell BK120.out 3).trans rfl
        have hcz7_4 : w3.cell? ⟨gb120, 4, none⟩ = some (.string a0_4) := (blk_cell BK120.out 4).trans rfl
        have hcz7_5 : w3.cell? ⟨gb120, 5, none⟩ = some (.string a0_5) := (blk_cell BK120.out 5).trans rfl
        have hcz7_6 : w3.cell? ⟨gb120, 6, none⟩ = some (.string a0_6) := (blk_cell BK120.out 6).trans rfl
        have hcz7_7 : w3.cell? ⟨gb120, 7, none⟩ = some (.slice A0_7 l0_7.length c0_7) := (blk_cell BK120.out 7).trans rfl
        have hfz7_0 := blk_frozen BK120.out 0
        have hfz7_1 := blk_frozen BK120.out 1
        have hfz7_2 := blk_frozen BK120.out 2
        have hfz7_3 := blk_frozen BK120.out 3
        have hfz7_4 := blk_frozen BK120.out 4
        have hfz7_5 := blk_frozen BK120.out 5
        have hfz7_6 := blk_frozen BK120.out 6
        have hfz7_7 := blk_frozen BK120.out 7
        go_wp2
        go_meet
        case rel => exact ⟨_, (true), (by first | rfl | (simp; done) | (simp [*]; done)), H', ⟨by first | omega | exact Nat.le_refl _⟩, ⟨by (with_reducible repeat (first | refine blk_drewN ?_ _ | refine blk_drew ?_ | refine blk_alloc ?_ _)); exact BK120.out⟩, ⟨by repeat (first | (with_reducible first | exact HB.out | apply below_alloc | apply pw_below_drewN | apply below_drew1 | refine below_set ?_ GE120.out) | exact HB.out)⟩⟩
      · rw [if_neg c6] at H
        have c6b0 : decide (20 < (a0_4.size : Int)) = false := decide_eq_false c6
        have c6b1 : decide (20 < a0_4.size) = false := decide_eq_false (by omega)
        clear c6
        replace H := Option.bind_eq_some_iff.mp H
        obtain ⟨t121, A80, H⟩ := H
        replace H : (if t121 = true then (if (a0_5.size : Int) > 200 then (spec_GoodHeader.j0 k true a0_0 a0_1 a0_2 a0_3 a0_4 a0_5 a0_6 l0_7) else (spec_GoodHeader.j0 k (decide ((a0_6.size : Int) > 1200)) a0_0 a0_1 a0_2 a0_3 a0_4 a0_5 a0_6 l0_7)) else (spec_GoodHeader.j0 k true a0_0 a0_1 a0_2 a0_3 a0_4 a0_5 a0_6 l0_7)) = some r := H
        have A8 := Aside0.mk A80
        clear A80
        by_cases c9 : t121 = true
        · subst c9
          have H1 : (if (a0_5.size : Int) > 200 then (spec_GoodHeader.j0 k true a0_0 a0_1 a0_2 a0_3 a0_4 a0_5 a0_6 l0_7) else (spec_GoodHeader.j0 k (decide ((a0_6.size : Int) > 1200)) a0_0 a0_1 a0_2 a0_3 a0_4 a0_5 a0_6 l0_7)) = some r := by rw [if_pos rfl] at H; exact H
          clear H
          have H := H1
          clear H1
          by_cases c10 : (a0_5.size : Int) > 200
          · rw [if_pos c10] at H
            have c10b0 : decide (200 < (a0_5.size : Int)) = true := decide_eq_true c10
            have c10b1 : decide (200 < a0_5.size) = true := decide_eq_true (by omega)
            clear c10
            have H' := Aside0.mk H
            clear H
            have hcz11_0 : w3.cell? ⟨gb120, 0, none⟩ = some (.int .i64 a0_0) := (blk_cell BK120.out 0).trans rfl
            have hcz11_1 : w3.cell? ⟨gb120, 1, none⟩ = some (.int .i64 a0_1) := (blk_cell BK120.out 1).trans rfl
            have hcz11_2 : w3.cell? ⟨gb120, 2, none⟩ = some (.int .i64 a0_2) := (blk_cell BK120.out 2).trans rfl
            have hcz11_3 : w3.cell? ⟨gb120, 3, none⟩ = some (.string a0_3) := (blk_cell BK120.out 3).trans rfl
            have hcz11_4 : w3.cell? ⟨gb120, 4, none⟩ = some (.string a0_4) := (blk_cell BK120.out 4).trans rfl
            have hcz11_5 : w3.cell? ⟨gb120, 5, none⟩ = some (.string a0_5) := (blk_cell BK120.out 5).trans rfl
            have hcz11_6 : w3.cell? ⟨gb120, 6, none⟩ = some (.string a0_6) := (blk_cell BK120.out 6).trans rfl
            have hcz11_7 : w3.cell? ⟨gb120, 7, none⟩ = some (.slice A0_7 l0_7.length c0_7) := (blk_cell BK120.out 7).trans rfl
            have hfz11_0 := blk_frozen BK120.out 0
            have hfz11_1 := blk_frozen BK120.out 1
            have hfz11_2 := blk_frozen BK120.out 2
            have hfz11_3 := blk_frozen BK120.out 3
            have hfz11_4 := blk_frozen BK120.out 4
            have hfz11_5 := blk_frozen BK120.out 5
            have hfz11_6 := blk_frozen BK120.out 6
            have hfz11_7 := blk_frozen BK120.out 7
            go_wp2_with (first | (go_at_call 56; (with_reducible refine (spec_l1In.calls a0_1 0 15 true _ A8.out).mono ?_); rintro e w' ⟨rfl, ⟨nd, rfl⟩⟩))
            go_meet
            case rel => exact ⟨_, (true), (by first | rfl | (simp; done) | (simp [*]; done)), H', ⟨by first | omega | exact Nat.le_refl _⟩, ⟨by (with_reducible repeat (first | refine blk_drewN ?_ _ | refine blk_drew ?_ | refine blk_alloc ?_ _)); exact BK120.out⟩, ⟨by repeat (first | (with_reducible first | exact HB.out | apply below_alloc | apply pw_below_drewN | apply below_drew1 | refine below_set ?_ GE120.out) | exact HB.out)⟩⟩
          · rw [if_neg c10] at H
            have c10b0 : decide (200 < (a0_5.size : Int)) = false := decide_eq_false c10
            have c10b1 : decide (200 < a0_5.size) = false := decide_eq_false (by omega)
            clear c10
            have H' := Aside0.mk H
            clear H
            have hcz12_0 : w3.cell? ⟨gb120, 0, none⟩ = some (.int .i64 a0_0) := (blk_cell BK120.out 0).trans rfl
            have hcz12_1 : w3.cell? ⟨gb120, 1, none⟩ = some (.int .i64 a0_1) := (blk_cell BK120.out 1).trans rfl
            have hcz12_2 : w3.cell? ⟨gb120, 2, none⟩ = some (.int .i64 a0_2) := (blk_cell BK120.out 2).trans rfl
            have hcz12_3 : w3.cell? ⟨gb120, 3, none⟩ = some (.string a0_3) := (blk_cell BK120.out 3).trans rfl
            have hcz12_4 : w3.cell? ⟨gb120, 4, none⟩ = some (.string a0_4) := (blk_cell BK120.out 4).trans rfl
            have hcz12_5 : w3.cell? ⟨gb120, 5, none⟩ = some (.string a0_5) := (blk_cell BK120.out 5).trans rfl
            have hcz12_6 : w3.cell? ⟨gb120, 6, none⟩ = some (.string a0_6) := (blk_cell BK120.out 6).trans rfl
            have hcz12_7 : w3.cell? ⟨gb120, 7, none⟩ = some (.slice A0_7 l0_7.length c0_7) := (blk_cell BK120.out 7).trans rfl
            have hfz12_0 := blk_frozen BK120.out 0
            have hfz12_1 := blk_frozen BK120.out 1
            have hfz12_2 := blk_frozen BK120.out 2
            have hfz12_3 := blk_frozen BK120.out 3
            have hfz12_4 := blk_frozen BK120.out 4
            have hfz12_5 := blk_frozen BK120.out 5
            have hfz12_6 := blk_frozen BK120.out 6
            have hfz12_7 := blk_frozen BK120.out 7
            go_wp2_with (first | (go_at_call 56; (with_reducible refine (spec_l1In.calls a0_1 0 15 true _ A8.out).mono ?_); rintro e w' ⟨rfl, ⟨nd, rfl⟩⟩))
            go_meet
            case rel => exact ⟨_, (decide ((a0_6.size : Int) > 1200)), (by first | rfl | (simp; done) | (simp [*]; done)), H', ⟨by first | omega | exact Nat.le_refl _⟩, ⟨by (with_reducible repeat (first | refine blk_drewN ?_ _ | refine blk_drew ?_ | refine blk_alloc ?_ _)); exact BK120.out⟩, ⟨by repeat (first | (with_reducible first | exact HB.out | apply below_alloc | apply pw_below_drewN | apply below_drew1 | refine below_set ?_ GE120.out) | exact HB.out)⟩⟩
        · replace c9 := Bool.eq_false_iff.mpr c9
          subst c9
          have H1 : (spec_GoodHeader.j0 k true a0_0 a0_1 a0_2 a0_3 a0_4 a0_5 a0_6 l0_7) = some r := by rw [if_neg (show ¬ (false = true) by decide)] at H; exact H
          clear H
          have H := H1
          clear H1
          have H' := Aside0.mk H
          clear H
          have hcz13_0 : w3.cell? ⟨gb120, 0, none⟩ = some (.int .i64 a0_0) := (blk_cell BK120.out 0).trans rfl
          have hcz13_1 : w3.cell? ⟨gb120, 1, none⟩ = some (.int .i64 a0_1) := (blk_cell BK120.out 1).trans rfl
          have hcz13_2 : w3.cell? ⟨gb120, 2, none⟩ = some (.int .i64 a0_2) := (blk_cell BK120.out 2).trans rfl
          have hcz13_3 : w3.cell? ⟨gb120, 3, none⟩ = some (.string a0_3) := (blk_cell BK120.out 3).trans rfl
          have hcz13_4 : w3.cell? ⟨gb120, 4, none⟩ = some (.string a0_4) := (blk_cell BK120.out 4).trans rfl
          have hcz13_5 : w3.cell? ⟨gb120, 5, none⟩ = some (.string a0_5) := (blk_cell BK120.out 5).trans rfl
          have hcz13_6 : w3.cell? ⟨gb120, 6, none⟩ = some (.string a0_6) := (blk_cell BK120.out 6).trans rfl
          have hcz13_7 : w3.cell? ⟨gb120, 7, none⟩ = some (.slice A0_7 l0_7.length c0_7) := (blk_cell BK120.out 7).trans rfl
          have hfz13_0 := blk_frozen BK120.out 0
          have hfz13_1 := blk_frozen BK120.out 1
          have hfz13_2 := blk_frozen BK120.out 2
          have hfz13_3 := blk_frozen BK120.out 3
          have hfz13_4 := blk_frozen BK120.out 4
          have hfz13_5 := blk_frozen BK120.out 5
          have hfz13_6 := blk_frozen BK120.out 6
          have hfz13_7 := blk_frozen BK120.out 7
          go_wp2_with (first | (go_at_call 56; (with_reducible refine (spec_l1In.calls a0_1 0 15 false _ A8.out).mono ?_); rintro e w' ⟨rfl, ⟨nd, rfl⟩⟩))
          go_meet
          case rel => exact ⟨_, (true), (by first | rfl | (simp; done) | (simp [*]; done)), H', ⟨by first | omega | exact Nat.le_refl _⟩, ⟨by (with_reducible repeat (first | refine blk_drewN ?_ _ | refine blk_drew ?_ | refine blk_alloc ?_ _)); exact BK120.out⟩, ⟨by repeat (first | (with_reducible first | exact HB.out | apply below_alloc | apply pw_below_drewN | apply below_drew1 | refine below_set ?_ GE120.out) | exact HB.out)⟩⟩
  case rest =>
    clear HC2
    try clear c1
    try clear c2
    try clear p2
    try clear c4
    try clear c4b0
    try clear c4b1
    try clear c6
    try clear c6b0
    try clear c6b1
    try clear c9
    try clear c10
    try clear c10b0
    try clear c10b1
    try clear hcz11_0
    try clear hcz11_1
    try clear hcz11_2
    try clear hcz11_3
    try clear hcz11_4
    try clear hcz11_5
    try clear hcz11_6
    try clear hcz11_7
    try clear hcz12_0
    try clear hcz12_1
    try clear hcz12_2
    try clear hcz12_3
    try clear hcz12_4
    try clear hcz12_5
    try clear hcz12_6
    try clear hcz12_7
    try clear hcz13_0
    try clear hcz13_1
    try clear hcz13_2
    try clear hcz13_3
    try clear hcz13_4
    try clear hcz13_5
    try clear hcz13_6
    try clear hcz13_7
    try clear hcz5_0
    try clear hcz5_1
    try clear hcz5_2
    try clear hcz5_3
    try clear hcz5_4
    try clear hcz5_5
    try clear hcz5_6
    try clear hcz5_7
    try clear hcz7_0
    try clear hcz7_1
    try clear hcz7_2
    try clear hcz7_3
    try clear hcz7_4
    try clear hcz7_5
    try clear hcz7_6
    try clear hcz7_7
    try clear hfz11_0
    try clear hfz11_1
    try clear hfz11_2
    try clear hfz11_3
    try clear hfz11_4
    try clear hfz11_5
    try clear hfz11_6
    try clear hfz11_7
    try clear hfz12_0
    try clear hfz12_1
    try clear hfz12_2
    try clear hfz12_3
    try clear hfz12_4
    try clear hfz12_5
    try clear hfz12_6
    try clear hfz12_7
    try clear hfz13_0
    try clear hfz13_1
    try clear hfz13_2
    try clear hfz13_3
    try clear hfz13_4
    try clear hfz13_5
    try clear hfz13_6
    try clear hfz13_7
    try clear hfz5_0
    try clear hfz5_1
    try clear hfz5_2
    try clear hfz5_3
    try clear hfz5_4
    try clear hfz5_5
    try clear hfz5_6
    try clear hfz5_7
    try clear hfz7_0
    try clear hfz7_1
    try clear hfz7_2
    try clear hfz7_3
    try clear hfz7_4
    try clear hfz7_5
    try clear hfz7_6
    try clear hfz7_7
    obtain ⟨kq, x32_1, rfl, HA, HJ1, BK120, HB⟩ := hcut
    cases kq with
    | zero => exact absurd HA.out (by simp [spec_GoodHeader.j0])
    | succ kj1 =>
      have H := HA.out
      clear HA
      simp only [spec_GoodHeader.j0] at H
      by_cases c14 : x32_1 = true
      · subst c14
        have H1 : (some false) = some r := by rw [if_pos rfl] at H; exact H
        clear H
        have H := H1
        clear H1
        obtain rfl := Option.some.inj H
        go_wp2
        go_ret
        exact ⟨by first | rfl | (simp [errW_none, errW_some] <;> rfl) | (simp [*, errW_none, errW_some] <;> rfl), by repeat (first | (with_reducible first | exact HB.out | apply below_alloc | apply pw_below_drewN | apply below_drew1 | refine below_set ?_ GE120.out) | exact HB.out)⟩
      · replace c14 := Bool.eq_false_iff.mpr c14
        subst c14
        have H1 : (if a0_0 = 0 then (if a0_0 = 4 then (spec_GoodHeader.j1 kj1 false a0_0 a0_1 a0_2 a0_3 a0_4 a0_5 a0_6 l0_7) else (spec_GoodHeader.j1 kj1 (decide ((l0_7.length : Int) > 0)) a0_0 a0_1 a0_2 a0_3 a0_4 a0_5 a0_6 l0_7)) else (if a0_5.toList = ([] : List UInt8) then (if a0_0 = 4 then (spec_GoodHeader.j1 kj1 false a0_0 a0_1 a0_2 a0_3 a0_4 a0_5 a0_6 l0_7) else (spec_GoodHeader.j1 kj1 (decide ((l0_7.length : Int) > 0)) a0_0 a0_1 a0_2 a0_3 a0_4 a0_5 a0_6 l0_7)) else (spec_GoodHeader.j1 kj1 true a0_0 a0_1 a0_2 a0_3 a0_4 a0_5 a0_6 l0_7))) = some r := by rw [if_neg (show ¬ (false = true) by decide)] at H; exact H
        clear H
        have H := H1
        clear H1
        have HC15 := Aside0.mk H
        clear H
        go_upto_region 3 with (fail)
        go_cut [51] (fun v51 wc => ∃ (kq : Nat) (x51_14 : Bool), v51 = .bool x51_14 ∧ Aside0 (spec_GoodHeader.j1 kq x51_14 a0_0 a0_1 a0_2 a0_3 a0_4 a0_5 a0_6 l0_7 = some r) ∧ Aside0 (kq ≤ kj1) ∧ Aside0 (wc.heap[gb120]? = some (.cells #[.int .i64 a0_0, .int .i64 a0_1, .int .i64 a0_2, .string a0_3, .string a0_4, .string a0_5, .string a0_6, (.slice A0_7 l0_7.length c0_7)] 44 (0, 0))) ∧ Aside0 (Below w.heap.size w wc))
        case first =>
          have H := HC15.out
          clear HC15
          by_cases c16 : a0_0 = 0
          · rw [if_pos c16] at H
            have c16b0 : (a0_0 == 0) = true := beq_iff_eq.mpr c16
            have c16b1 : (a0_0 != 0) = false := bne_eq_false_iff_eq.mpr c16
            clear c16
            (first | rw [c16b0] | (simp only [i64_w, i32_w]; rw [c16b0]) | skip)
            by_cases c17 : a0_0 = 4
            · rw [if_pos c17] at H
              have c17b0 : (a0_0 == 4) = true := beq_iff_eq.mpr c17
              have c17b1 : (a0_0 != 4) = false := bne_eq_false_iff_eq.mpr c17
              clear c17
              have H' := Aside0.mk H
              clear H
              have hcz18_0 : wc.cell? ⟨gb120, 0, none⟩ = some (.int .i64 a0_0) := (blk_cell BK120.out 0).trans rfl
              have hcz18_1 : wc.cell? ⟨gb120, 1, none⟩ = some (.int .i64 a0_1) := (blk_cell BK120.out 1).trans rfl
              have hcz18_2 : wc.cell? ⟨gb120, 2, none⟩ = some (.int .i64 a0_2) := (blk_cell BK120.out 2).trans rfl
              have hcz18_3 : wc.cell? ⟨gb120, 3, none⟩ = some (.string a0_3) := (blk_cell BK120.out 3).trans rfl
              have hcz18_4 : wc.cell? ⟨gb120, 4, none⟩ = some (.string a0_4) := (blk_cell BK120.out 4).trans rfl
              have hcz18_5 : wc.cell? ⟨gb120, 5, none⟩ = some (.string a0_5) := (blk_cell BK120.out 5).trans rfl
              have hcz18_6 : wc.cell? ⟨gb120, 6, none⟩ = some (.string a0_6) := (blk_cell BK120.out 6).trans rfl
              have hcz18_7 : wc.cell? ⟨gb120, 7, none⟩ = some (.slice A0_7 l0_7.length c0_7) := (blk_cell BK120.out 7).trans rfl
              have hfz18_0 := blk_frozen BK120.out 0
              have hfz18_1 := blk_frozen BK120.out 1
              have hfz18_2 := blk_frozen BK120.out 2
              have hfz18_3 := blk_frozen BK120.out 3
              have hfz18_4 := blk_frozen BK120.out 4
              have hfz18_5 := blk_frozen BK120.out 5
              have hfz18_6 := blk_frozen BK120.out 6
              have hfz18_7 := blk_frozen BK120.out 7
              go_wp2
              go_meet
              case rel => exact ⟨_, (false), (by first | rfl | (simp; done) | (simp [*]; done)), H', ⟨by have := HJ1.out; first | omega | exact Nat.le_refl _⟩, ⟨by (with_reducible repeat (first | refine blk_drewN ?_ _ | refine blk_drew ?_ | refine blk_alloc ?_ _)); exact BK120.out⟩, ⟨by repeat (first | (with_reducible first | exact HB.out | apply below_alloc | apply pw_below_drewN | apply below_drew1 | refine below_set ?_ GE120.out) | exact HB.out)⟩⟩
            · rw [if_neg c17] at H
              have c17b0 : (a0_0 == 4) = false := beq_eq_false_iff_ne.mpr c17
              have c17b1 : (a0_0 != 4) = true := bne_iff_ne.mpr c17
              have H' := Aside0.mk H
              clear H
              have hcz19_0 : wc.cell? ⟨gb120, 0, none⟩ = some (.int .i64 a0_0) := (blk_cell BK120.out 0).trans rfl
              have hcz19_1 : wc.cell? ⟨gb120, 1, none⟩ = some (.int .i64 a0_1) := (blk_cell BK120.out 1).trans rfl
              have hcz19_2 : wc.cell? ⟨gb120, 2, none⟩ = some (.int .i64 a0_2) := (blk_cell BK120.out 2).trans rfl
              have hcz19_3 : wc.cell? ⟨gb120, 3, none⟩ = some (.string a0_3) := (blk_cell BK120.out 3).trans rfl
              have hcz19_4 : wc.cell? ⟨gb120, 4, none⟩ = some (.string a0_4) := (blk_cell BK120.out 4).trans rfl
              have hcz19_5 : wc.cell? ⟨gb120, 5, none⟩ = some (.string a0_5) := (blk_cell BK120.out 5).trans rfl
              have hcz19_6 : wc.cell? ⟨gb120, 6, none⟩ = some (.string a0_6) := (blk_cell BK120.out 6).trans rfl
              have hcz19_7 : wc.cell? ⟨gb120, 7, none⟩ = some (.slice A0_7 l0_7.length c0_7) := (blk_cell BK120.out 7).trans rfl
              have hfz19_0 := blk_frozen BK120.out 0
              have hfz19_1 := blk_frozen BK120.out 1
              have hfz19_2 := blk_frozen BK120.out 2
              have hfz19_3 := blk_frozen BK120.out 3
              have hfz19_4 := blk_frozen BK120.out 4
              have hfz19_5 := blk_frozen BK120.out 5
              have hfz19_6 := blk_frozen BK120.out 6
              have hfz19_7 := blk_frozen BK120.out 7
              go_wp2
              go_meet
              case rel => exact ⟨_, (decide ((l0_7.length : Int) > 0)), (by first | rfl | (simp; done) | (simp [*]; done)), H', ⟨by have := HJ1.out; first | omega | exact Nat.le_refl _⟩, ⟨by (with_reducible repeat (first | refine blk_drewN ?_ _ | refine blk_drew ?_ | refine blk_alloc ?_ _)); exact BK120.out⟩, ⟨by repeat (first | (with_reducible first | exact HB.out | apply below_alloc | apply pw_below_drewN | apply below_drew1 | refine below_set ?_ GE120.out) | exact HB.out)⟩⟩
          · rw [if_neg c16] at H
            have c16b0 : (a0_0 == 0) = false := beq_eq_false_iff_ne.mpr c16
            have c16b1 : (a0_0 != 0) = true := bne_iff_ne.mpr c16
            (first | rw [c16b0] | (simp only [i64_w, i32_w]; rw [c16b0]) | skip)
            by_cases c20 : a0_5.toList = ([] : List UInt8)
            · rw [if_pos c20] at H
              have c20b0 : (a0_5.toList == ([] : List UInt8)) = true := beq_iff_eq.mpr c20
              have c20b1 : (a0_5.toList != ([] : List UInt8)) = false := bne_eq_false_iff_eq.mpr c20
              clear c20
              by_cases c21 : a0_0 = 4
              · rw [if_pos c21] at H
                have c21b0 : (a0_0 == 4) = true := beq_iff_eq.mpr c21
                have c21b1 : (a0_0 != 4) = false := bne_eq_false_iff_eq.mpr c21
                clear c21
                have H' := Aside0.mk H
                clear H
                have hcz22_0 : wc.cell? ⟨gb120, 0, none⟩ = some (.int .i64 a0_0) := (blk_cell BK120.out 0).trans rfl
                have hcz22_1 : wc.cell? ⟨gb120, 1, none⟩ = some (.int .i64 a0_1) := (blk_cell BK120.out 1).trans rfl
                have hcz22_2 : wc.cell? ⟨gb120, 2, none⟩ = some (.int .i64 a0_2) := (blk_cell BK120.out 2).trans rfl
                have hcz22_3 : wc.cell? ⟨gb120, 3, none⟩ = some (.string a0_3) := (blk_cell BK120.out 3).trans rfl
                have hcz22_4 : wc.cell? ⟨gb120, 4, none⟩ = some (.string a0_4) := (blk_cell BK120.out 4).trans rfl
                have hcz22_5 : wc.cell? ⟨gb120, 5, none⟩ = some (.string a0_5) := (blk_cell BK120.out 5).trans rfl
                have hcz22_6 : wc.cell? ⟨gb120, 6, none⟩ = some (.string a0_6) := (blk_cell BK120.out 6).trans rfl
                have hcz22_7 : wc.cell? ⟨gb120, 7, none⟩ = some (.slice A0_7 l0_7.length c0_7) := (blk_cell BK120.out 7).trans rfl
                have hfz22_0 := blk_frozen BK120.out 0
                have hfz22_1 := blk_frozen BK120.out 1
                have hfz22_2 := blk_frozen BK120.out 2
                have hfz22_3 := blk_frozen BK120.out 3
                have hfz22_4 := blk_frozen BK120.out 4
                have hfz22_5 := blk_frozen BK120.out 5
                have hfz22_6 := blk_frozen BK120.out 6
                have hfz22_7 := blk_frozen BK120.out 7
                go_wp2
                go_meet
                case rel => exact ⟨_, (false), (by first | rfl | (simp; done) | (simp [*]; done)), H', ⟨by have := HJ1.out; first | omega | exact Nat.le_refl _⟩, ⟨by (with_reducible repeat (first | refine blk_drewN ?_ _ | refine blk_drew ?_ | refine blk_alloc ?_ _)); exact BK120.out⟩, ⟨by repeat (first | (with_reducible first | exact HB.out | apply below_alloc | apply pw_below_drewN | apply below_drew1 | refine below_set ?_ GE120.out) | exact HB.out)⟩⟩
              · rw [if_neg c21] at H
                have c21b0 : (a0_0 == 4) = false := beq_eq_false_iff_ne.mpr c21
                have c21b1 : (a0_0 != 4) = true := bne_iff_ne.mpr c21
                have H' := Aside0.mk H
                clear H
                have hcz23_0 : wc.cell? ⟨gb120, 0, none⟩ = some (.int .i64 a0_0) := (blk_cell BK120.out 0).trans rfl
                have hcz23_1 : wc.cell? ⟨gb120, 1, none⟩ = some (.int .i64 a0_1) := (blk_cell BK120.out 1).trans rfl
                have hcz23_2 : wc.cell? ⟨gb120, 2, none⟩ = some (.int .i64 a0_2) := (blk_cell BK120.out 2).trans rfl
                have hcz23_3 : wc.cell? ⟨gb120, 3, none⟩ = some (.string a0_3) := (blk_cell BK120.out 3).trans rfl
                have hcz23_4 : wc.cell? ⟨gb120, 4, none⟩ = some (.string a0_4) := (blk_cell BK120.out 4).trans rfl
                have hcz23_5 : wc.cell? ⟨gb120, 5, none⟩ = some (.string a0_5) := (blk_cell BK120.out 5).trans rfl
                have hcz23_6 : wc.cell? ⟨gb120, 6, none⟩ = some (.string a0_6) := (blk_cell BK120.out 6).trans rfl
                have hcz23_7 : wc.cell? ⟨gb120, 7, none⟩ = some (.slice A0_7 l0_7.length c0_7) := (blk_cell BK120.out 7).trans rfl
                have hfz23_0 := blk_frozen BK120.out 0
                have hfz23_1 := blk_frozen BK120.out 1
                have hfz23_2 := blk_frozen BK120.out 2
                have hfz23_3 := blk_frozen BK120.out 3
                have hfz23_4 := blk_frozen BK120.out 4
                have hfz23_5 := blk_frozen BK120.out 5
                have hfz23_6 := blk_frozen BK120.out 6
                have hfz23_7 := blk_frozen BK120.out 7
                go_wp2
                go_meet
                case rel => exact ⟨_, (decide ((l0_7.length : Int) > 0)), (by first | rfl | (simp; done) | (simp [*]; done)), H', ⟨by have := HJ1.out; first | omega | exact Nat.le_refl _⟩, ⟨by (with_reducible repeat (first | refine blk_drewN ?_ _ | refine blk_drew ?_ | refine blk_alloc ?_ _)); exact BK120.out⟩, ⟨by repeat (first | (with_reducible first | exact HB.out | apply below_alloc | apply pw_below_drewN | apply below_drew1 | refine below_set ?_ GE120.out) | exact HB.out)⟩⟩
            · rw [if_neg c20] at H
              have c20b0 : (a0_5.toList == ([] : List UInt8)) = false := beq_eq_false_iff_ne.mpr c20
              have c20b1 : (a0_5.toList != ([] : List UInt8)) = true := bne_iff_ne.mpr c20
              have H' := Aside0.mk H
              clear H
              have hcz24_0 : wc.cell? ⟨gb120, 0, none⟩ = some (.int .i64 a0_0) := (blk_cell BK120.out 0).trans rfl
              have hcz24_1 : wc.cell? ⟨gb120, 1, none⟩ = some (.int .i64 a0_1) := (blk_cell BK120.out 1).trans rfl
              have hcz24_2 : wc.cell? ⟨gb120, 2, none⟩ = some (.int .i64 a0_2) := (blk_cell BK120.out 2).trans rfl
              have hcz24_3 : wc.cell? ⟨gb120, 3, none⟩ = some (.string a0_3) := (blk_cell BK120.out 3).trans rfl
              have hcz24_4 : wc.cell? ⟨gb120, 4, none⟩ = some (.string a0_4) := (blk_cell BK120.out 4).trans rfl
              have hcz24_5 : wc.cell? ⟨gb120, 5, none⟩ = some (.string a0_5) := (blk_cell BK120.out 5).trans rfl
              have hcz24_6 : wc.cell? ⟨gb120, 6, none⟩ = some (.string a0_6) := (blk_cell BK120.out 6).trans rfl
              have hcz24_7 : wc.cell? ⟨gb120, 7, none⟩ = some (.slice A0_7 l0_7.length c0_7) := (blk_cell BK120.out 7).trans rfl
              have hfz24_0 := blk_frozen BK120.out 0
              have hfz24_1 := blk_frozen BK120.out 1
              have hfz24_2 := blk_frozen BK120.out 2
              have hfz24_3 := blk_frozen BK120.out 3
              have hfz24_4 := blk_frozen BK120.out 4
              have hfz24_5 := blk_frozen BK120.out 5
              have hfz24_6 := blk_frozen BK120.out 6
              have hfz24_7 := blk_frozen BK120.out 7
              go_wp2
              go_meet
              case rel => exact ⟨_, (true), (by first | rfl | (simp; done) | (simp [*]; done)), H', ⟨by have := HJ1.out; first | omega | exact Nat.le_refl _⟩, ⟨by (with_reducible repeat (first | refine blk_drewN ?_ _ | refine blk_drew ?_ | refine blk_alloc ?_ _)); exact BK120.out⟩, ⟨by repeat (first | (with_reducible first | exact HB.out | apply below_alloc | apply pw_below_drewN | apply below_drew1 | refine below_set ?_ GE120.out) | exact HB.out)⟩⟩
        case rest =>
          clear HC15
          try clear c1
          try clear c2
          try clear p2
          try clear c4
          try clear c4b0
          try clear c4b1
          try clear c6
          try clear c6b0
          try clear c6b1
          try clear c9
          try clear c10
          try clear c10b0
          try clear c10b1
          try clear c14
          try clear c16
          try clear c16b0
          try clear c16b1
          try clear c17
          try clear c17b0
          try clear c17b1
          try clear c20
          try clear c20b0
          try clear c20b1
          try clear c21
          try clear c21b0
          try clear c21b1
          try clear hcz11_0
          try clear hcz11_1
          try clear hcz11_2
          try clear hcz11_3
          try clear hcz11_4
          try clear hcz11_5
          try clear hcz11_6
          try clear hcz11_7
          try clear hcz12_0
          try clear hcz12_1
          try clear hcz12_2
          try clear hcz12_3
          try clear hcz12_4
          try clear hcz12_5
          try clear hcz12_6
          try clear hcz12_7
          try clear hcz13_0
          try clear hcz13_1
          try clear hcz13_2
          try clear hcz13_3
          try clear hcz13_4
          try clear hcz13_5
          try clear hcz13_6
          try clear hcz13_7
          try clear hcz18_0
          try clear hcz18_1
          try clear hcz18_2
          try clear hcz18_3
          try clear hcz18_4
          try clear hcz18_5
          try clear hcz18_6
          try clear hcz18_7
          try clear hcz19_0
          try clear hcz19_1
          try clear hcz19_2
          try clear hcz19_3
          try clear hcz19_4
          try clear hcz19_5
          try clear hcz19_6
          try clear hcz19_7
          try clear hcz22_0
          try clear hcz22_1
          try clear hcz22_2
          try clear hcz22_3
          try clear hcz22_4
          try clear hcz22_5
          try clear hcz22_6
          try clear hcz22_7
          try clear hcz23_0
          try clear hcz23_1
          try clear hcz23_2
          try clear hcz23_3
          try clear hcz23_4
          try clear hcz23_5
          try clear hcz23_6
          try clear hcz23_7
          try clear hcz24_0
          try clear hcz24_1
          try clear hcz24_2
          try clear hcz24_3
          try clear hcz24_4
          try clear hcz24_5
          try clear hcz24_6
          try clear hcz24_7
          try clear hcz5_0
          try clear hcz5_1
          try clear hcz5_2
          try clear hcz5_3
          try clear hcz5_4
          try clear hcz5_5
          try clear hcz5_6
          try clear hcz5_7
          try clear hcz7_0
          try clear hcz7_1
          try clear hcz7_2
          try clear hcz7_3
          try clear hcz7_4
          try clear hcz7_5
          try clear hcz7_6
          try clear hcz7_7
          try clear hfz11_0
          try clear hfz11_1
          try clear hfz11_2
          try clear hfz11_3
          try clear hfz11_4
          try clear hfz11_5
          try clear hfz11_6
          try clear hfz11_7
          try clear hfz12_0
          try clear hfz12_1
          try clear hfz12_2
          try clear hfz12_3
          try clear hfz12_4
          try clear hfz12_5
          try clear hfz12_6
          try clear hfz12_7
          try clear hfz13_0
          try clear hfz13_1
          try clear hfz13_2
          try clear hfz13_3
          try clear hfz13_4
          try clear hfz13_5
          try clear hfz13_6
          try clear hfz13_7
          try clear hfz18_0
          try clear hfz18_1
          try clear hfz18_2
          try clear hfz18_3
          try clear hfz18_4
          try clear hfz18_5
          try clear hfz18_6
          try clear hfz18_7
          try clear hfz19_0
          try clear hfz19_1
          try clear hfz19_2
          try clear hfz19_3
          try clear hfz19_4
          try clear hfz19_5
          try clear hfz19_6
          try clear hfz19_7
          try clear hfz22_0
          try clear hfz22_1
          try clear hfz22_2
          try clear hfz22_3
          try clear hfz22_4
          try clear hfz22_5
          try clear hfz22_6
          try clear hfz22_7
          try clear hfz23_0
          try clear hfz23_1
          try clear hfz23_2
          try clear hfz23_3
          try clear hfz23_4
          try clear hfz23_5
          try clear hfz23_6
          try clear hfz23_7
          try clear hfz24_0
          try clear hfz24_1
          try clear hfz24_2
          try clear hfz24_3
          try clear hfz24_4
          try clear hfz24_5
          try clear hfz24_6
          try clear hfz24_7
          try clear hfz5_0
          try clear hfz5_1
          try clear hfz5_2
          try clear hfz5_3
          try clear hfz5_4
          try clear hfz5_5
          try clear hfz5_6
          try clear hfz5_7
          try clear hfz7_0
          try clear hfz7_1
          try clear hfz7_2
          try clear hfz7_3
          try clear hfz7_4
          try clear hfz7_5
          try clear hfz7_6
          try clear hfz7_7
          try clear p2
          obtain ⟨kq, x51_14, rfl, HA, HJ14, BK120, HB⟩ := hcut
          cases kq with
          | zero => exact absurd HA.out (by simp [spec_GoodHeader.j1])
          | succ kj14 =>
            have H := HA.out
            clear HA
            simp only [spec_GoodHeader.j1] at H
            by_cases c25 : x51_14 = true
            · subst c25
              have H1 : (some false) = some r := by rw [if_pos rfl] at H; exact H
              clear H
              have H := H1
              clear H1
              obtain rfl := Option.some.inj H
              go_wp2
              go_ret
              exact ⟨by first | rfl | (simp [errW_none, errW_some] <;> rfl) | (simp [*, errW_none, errW_some] <;> rfl), by repeat (first | (with_reducible first | exact HB.out | apply below_alloc | apply pw_below_drewN | apply below_drew1 | refine below_set ?_ GE120.out) | exact HB.out)⟩
            · replace c25 := Bool.eq_false_iff.mpr c25
              subst c25
              have H1 : (if a0_0 = 0 then (spec_GoodHeader.j2 kj14 a0_0 (a0_0 == 0) a0_0 a0_1 a0_2 a0_3 a0_4 a0_5 a0_6 l0_7) else (if a0_0 = 1 then (spec_GoodHeader.j2 kj14 a0_0 (a0_0 == 1) a0_0 a0_1 a0_2 a0_3 a0_4 a0_5 a0_6 l0_7) else (if a0_0 = 2 then (spec_GoodHeader.j2 kj14 a0_0 (a0_0 == 2) a0_0 a0_1 a0_2 a0_3 a0_4 a0_5 a0_6 l0_7) else (spec_GoodHeader.j2 kj14 a0_0 (a0_0 == 3) a0_0 a0_1 a0_2 a0_3 a0_4 a0_5 a0_6 l0_7)))) = some r := by rw [if_neg (show ¬ (false = true) by decide)] at H; exact H
              clear H
              have H := H1
              clear H1
              have HC26 := Aside0.mk H
              clear H
              have hcz27_0 : wc.cell? ⟨gb120, 0, none⟩ = some (.int .i64 a0_0) := (blk_cell BK120.out 0).trans rfl
              have hcz27_1 : wc.cell? ⟨gb120, 1, none⟩ = some (.int .i64 a0_1) := (blk_cell BK120.out 1).trans rfl
              have hcz27_2 : wc.cell? ⟨gb120, 2, none⟩ = some (.int .i64 a0_2) := (blk_cell BK120.out 2).trans rfl
              have hcz27_3 : wc.cell? ⟨gb120, 3, none⟩ = some (.string a0_3) := (blk_cell BK120.out 3).trans rfl
              have hcz27_4 : wc.cell? ⟨gb120, 4, none⟩ = some (.string a0_4) := (blk_cell BK120.out 4).trans rfl
              have hcz27_5 : wc.cell? ⟨gb120, 5, none⟩ = some (.string a0_5) := (blk_cell BK120.out 5).trans rfl
              have hcz27_6 : wc.cell? ⟨gb120, 6, none⟩ = some (.string a0_6) := (blk_cell BK120.out 6).trans rfl
              have hcz27_7 : wc.cell? ⟨gb120, 7, none⟩ = some (.slice A0_7 l0_7.length c0_7) := (blk_cell BK120.out 7).trans rfl
              have hfz27_0 := blk_frozen BK120.out 0
              have hfz27_1 := blk_frozen BK120.out 1
              have hfz27_2 := blk_frozen BK120.out 2
              have hfz27_3 := blk_frozen BK120.out 3
              have hfz27_4 := blk_frozen BK120.out 4
              have hfz27_5 := blk_frozen BK120.out 5
              have hfz27_6 := blk_frozen BK120.out 6
              have hfz27_7 := blk_frozen BK120.out 7
              go_upto_if 54 with (fail)
              go_cut [54] (fun v54 wc => ∃ (kq : Nat) (x54_25 : Bool), v54 = .bool x54_25 ∧ Aside0 (spec_GoodHeader.j2 kq a0_0 x54_25 a0_0 a0_1 a0_2 a0_3 a0_4 a0_5 a0_6 l0_7 = some r) ∧ Aside0 (kq ≤ kj14) ∧ Aside0 (wc.heap[gb120]? = some (.cells #[.int .i64 a0_0, .int .i64 a0_1, .int .i64 a0_2, .string a0_3, .string a0_4, .string a0_5, .string a0_6, (.slice A0_7 l0_7.length c0_7)] 44 (0, 0))) ∧ Aside0 (Below w.heap.size w wc))
              case first =>
                have H := HC26.out
                clear HC26
                by_cases c28 : a0_0 = 0
                · rw [if_pos c28] at H
                  have c28b0 : (a0_0 == 0) = true := beq_iff_eq.mpr c28
                  have c28b1 : (a0_0 != 0) = false := bne_eq_false_iff_eq.mpr c28
                  clear c28
                  (first | rw [c28b0] | (simp only [i64_w, i32_w]; rw [c28b0]) | skip)
                  have H' := Aside0.mk H
                  clear H
                  go_wp2
                  go_meet
                  case rel => exact ⟨_, ((a0_0 == 0)), (by first | rfl | (simp; done) | (simp [*]; done)), H', ⟨by have := HJ1.out; have := HJ14.out; first | omega | exact Nat.le_refl _⟩, ⟨by (with_reducible repeat (first | refine blk_drewN ?_ _ | refine blk_drew ?_ | refine blk_alloc ?_ _)); exact BK120.out⟩, ⟨by repeat (first | (with_reducible first | exact HB.out | apply below_alloc | apply pw_below_drewN | apply below_drew1 | refine below_set ?_ GE120.out) | exact HB.out)⟩⟩
                · rw [if_neg c28] at H
                  have c28b0 : (a0_0 == 0) = false := beq_eq_false_iff_ne.mpr c28
                  have c28b1 : (a0_0 != 0) = true := bne_iff_ne.mpr c28
                  (first | rw [c28b0] | (simp only [i64_w, i32_w]; rw [c28b0]) | skip)
                  by_cases c29 : a0_0 = 1
                  · rw [if_pos c29] at H
                    have c29b0 : (a0_0 == 1) = true := beq_iff_eq.mpr c29
                    have c29b1 : (a0_0 != 1) = false := bne_eq_false_iff_eq.mpr c29
                    clear c29
                    have H' := Aside0.mk H
                    clear H
                    go_wp2
                    go_meet
                    case rel => exact ⟨_, ((a0_0 == 1)), (by first | rfl | (simp; done) | (simp [*]; done)), H', ⟨by have := HJ1.out; have := HJ14.out; first | omega | exact Nat.le_refl _⟩, ⟨by (with_reducible repeat (first | refine blk_drewN ?_ _ | refine blk_drew ?_ | refine blk_alloc ?_ _)); exact BK120.out⟩, ⟨by repeat (first | (with_reducible first | exact HB.out | apply below_alloc | apply pw_below_drewN | apply below_drew1 | refine below_set ?_ GE120.out) | exact HB.out)⟩⟩
                  · rw [if_neg c29] at H
                    have c29b0 : (a0_0 == 1) = false := beq_eq_false_iff_ne.mpr c29
                    have c29b1 : (a0_0 != 1) = true := bne_iff_ne.mpr c29
                    by_cases c30 : a0_0 = 2
                    · rw [if_pos c30] at H
                      have c30b0 : (a0_0 == 2) = true := beq_iff_eq.mpr c30
                      have c30b1 : (a0_0 != 2) = false := bne_eq_false_iff_eq.mpr c30
                      clear c30
                      have H' := Aside0.mk H
                      clear H
                      go_wp2
                      go_meet
                      case rel => exact ⟨_, ((a0_0 == 2)), (by first | rfl | (simp; done) | (simp [*]; done)), H', ⟨by have := HJ1.out; have := HJ14.out; first | omega | exact Nat.le_refl _⟩, ⟨by (with_reducible repeat (first | refine blk_drewN ?_ _ | refine blk_drew ?_ | refine blk_alloc ?_ _)); exact BK120.out⟩, ⟨by repeat (first | (with_reducible first | exact HB.out | apply below_alloc | apply pw_below_drewN | apply below_drew1 | refine below_set ?_ GE120.out) | exact HB.out)⟩⟩
                    · rw [if_neg c30] at H
                      have c30b0 : (a0_0 == 2) = false := beq_eq_false_iff_ne.mpr c30
                      have c30b1 : (a0_0 != 2) = true := bne_iff_ne.mpr c30
                      have H' := Aside0.mk H
                      clear H
                      go_wp2
                      go_meet
                      case rel => exact ⟨_, ((a0_0 == 3)), (by first | rfl | (simp; done) | (simp [*]; done)), H', ⟨by have := HJ1.out; have := HJ14.out; first | omega | exact Nat.le_refl _⟩, ⟨by (with_reducible repeat (first | refine blk_drewN ?_ _ | refine blk_drew ?_ | refine blk_alloc ?_ _)); exact BK120.out⟩, ⟨by repeat (first | (with_reducible first | exact HB.out | apply below_alloc | apply pw_below_drewN | apply below_drew1 | refine below_set ?_ GE120.out) | exact HB.out)⟩⟩
              case rest =>
                clear HC26
                try clear c1
                try clear c2
                try clear p2
                try clear c3
                try clear c4
                try clear c4b0
                try clear c4b1
                try clear c6
                try clear c6b0
                try clear c6b1
                try clear c9
                try clear c10
                try clear c10b0
                try clear c10b1
                try clear c14
                try clear c16
                try clear c16b0
                try clear c16b1
                try clear c17
                try clear c17b0
                try clear c17b1
                try clear c20
                try clear c20b0
                try clear c20b1
                try clear c21
                try clear c21b0
                try clear c21b1
                try clear c25
                try clear c28
                try clear c28b0
                try clear c28b1
                try clear c29
                try clear c29b0
                try clear c29b1
                try clear c30
                try clear c30b0
                try clear c30b1
                try clear hcz11_0
                try clear hcz11_1
                try clear hcz11_2
                try clear hcz11_3
                try clear hcz11_4
                try clear hcz11_5
                try clear hcz11_6
                try clear hcz11_7
                try clear hcz12_0
                try clear hcz12_1
                try clear hcz12_2
                try clear hcz12_3
                try clear hcz12_4
                try clear hcz12_5
                try clear hcz12_6
                try clear hcz12_7
                try clear hcz13_0
                try clear hcz13_1
                try clear hcz13_2
                try clear hcz13_3
                try clear hcz13_4
                try clear hcz13_5
                try clear hcz13_6
                try clear hcz13_7
                try clear hcz18_0
                try clear hcz18_1
                try clear hcz18_2
                try clear hcz18_3
                try clear hcz18_4
                try clear hcz18_5
                try clear hcz18_6
                try clear hcz18_7
                try clear hcz19_0
                try clear hcz19_1
                try clear hcz19_2
                try clear hcz19_3
                try clear hcz19_4
                try clear hcz19_5
                try clear hcz19_6
                try clear hcz19_7
                try clear hcz22_0
                try clear hcz22_1
                try clear hcz22_2
                try clear hcz22_3
                try clear hcz22_4
                try clear hcz22_5
                try clear hcz22_6
                try clear hcz22_7
                try clear hcz23_0
                try clear hcz23_1
                try clear hcz23_2
                try clear hcz23_3
                try clear hcz23_4
                try clear hcz23_5
                try clear hcz23_6
                try clear hcz23_7
                try clear hcz24_0
                try clear hcz24_1
                try clear hcz24_2
                try clear hcz24_3
                try clear hcz24_4
                try clear hcz24_5
                try clear hcz24_6
                try clear hcz24_7
                try clear hcz27_0
                try clear hcz27_1
                try clear hcz27_2
                try clear hcz27_3
                try clear hcz27_4
                try clear hcz27_5
                try clear hcz27_6
                try clear hcz27_7
                try clear hcz5_0
                try clear hcz5_1
                try clear hcz5_2
                try clear hcz5_3
                try clear hcz5_4
                try clear hcz5_5
                try clear hcz5_6
                try clear hcz5_7
                try clear hcz7_0
                try clear hcz7_1
                try clear hcz7_2
                try clear hcz7_3
                try clear hcz7_4
                try clear hcz7_5
                try clear hcz7_6
                try clear hcz7_7
                try clear hfz11_0
                try clear hfz11_1
                try clear hfz11_2
                try clear hfz11_3
                try clear hfz11_4
                try clear hfz11_5
                try clear hfz11_6
                try clear hfz11_7
                try clear hfz12_0
                try clear hfz12_1
                try clear hfz12_2
                try clear hfz12_3
                try clear hfz12_4
                try clear hfz12_5
                try clear hfz12_6
                try clear hfz12_7
                try clear hfz13_0
                try clear hfz13_1
                try clear hfz13_2
                try clear hfz13_3
                try clear hfz13_4
                try clear hfz13_5
                try clear hfz13_6
                try clear hfz13_7
                try clear hfz18_0
                try clear hfz18_1
                try clear hfz18_2
                try clear hfz18_3
                try clear hfz18_4
                try clear hfz18_5
                try clear hfz18_6
                try clear hfz18_7
                try clear hfz19_0
                try clear hfz19_1
                try clear hfz19_2
                try clear hfz19_3
                try clear hfz19_4
                try clear hfz19_5
                try clear hfz19_6
                try clear hfz19_7
                try clear hfz22_0
                try clear hfz22_1
                try clear hfz22_2
                try clear hfz22_3
                try clear hfz22_4
                try clear hfz22_5
                try clear hfz22_6
                try clear hfz22_7
                try clear hfz23_0
                try clear hfz23_1
                try clear hfz23_2
                try clear hfz23_3
                try clear hfz23_4
                try clear hfz23_5
                try clear hfz23_6
                try clear hfz23_7
                try clear hfz24_0
                try clear hfz24_1
                try clear hfz24_2
                try clear hfz24_3
                try clear hfz24_4
                try clear hfz24_5
                try clear hfz24_6
                try clear hfz24_7
                try clear hfz27_0
                try clear hfz27_1
                try clear hfz27_2
                try clear hfz27_3
                try clear hfz27_4
                try clear hfz27_5
                try clear hfz27_6
                try clear hfz27_7
                try clear hfz5_0
                try clear hfz5_1
                try clear hfz5_2
                try clear hfz5_3
                try clear hfz5_4
                try clear hfz5_5
                try clear hfz5_6
                try clear hfz5_7
                try clear hfz7_0
                try clear hfz7_1
                try clear hfz7_2
                try clear hfz7_3
                try clear hfz7_4
                try clear hfz7_5
                try clear hfz7_6
                try clear hfz7_7
                try clear p2
                obtain ⟨kq, x54_25, rfl, HA, HJ25, BK120, HB⟩ := hcut
                cases kq with
                | zero => exact absurd HA.out (by simp [spec_GoodHeader.j2])
                | succ kj25 =>
                  have H := HA.out
                  clear HA
                  simp only [spec_GoodHeader.j2] at H
                  by_cases c31 : x54_25 = true
                  · subst c31
                    have H1 : ((spec_l1In.f a0_2 1 4294967295).bind fun t122 => (if t122 = true then (some (a0_6.toList != ([] : List UInt8))) else (some false))) = some r := by rw [if_pos rfl] at H; exact H
                    clear H
                    have H := H1
                    clear H1
                    replace H := Option.bind_eq_some_iff.mp H
                    obtain ⟨t122, A320, H⟩ := H
                    replace H : (if t122 = true then (some (a0_6.toList != ([] : List UInt8))) else (some false)) = some r := H
                    have A32 := Aside0.mk A320
                    clear A320
                    by_cases c33 : t122 = true
                    · subst c33
                      have H1 : (some (a0_6.toList != ([] : List UInt8))) = some r := by rw [if_pos rfl] at H; exact H
                      clear H
                      have H := H1
                      clear H1
                      obtain rfl := Option.some.inj H
                      have hcz34_0 : wc.cell? ⟨gb120, 0, none⟩ = some (.int .i64 a0_0) := (blk_cell BK120.out 0).trans rfl
                      have hcz34_1 : wc.cell? ⟨gb120, 1, none⟩ = some (.int .i64 a0_1) := (blk_cell BK120.out 1).trans rfl
                      have hcz34_2 : wc.cell? ⟨gb120, 2, none⟩ = some (.int .i64 a0_2) := (blk_cell BK120.out 2).trans rfl
                      have hcz34_3 : wc.cell? ⟨gb120, 3, none⟩ = some (.string a0_3) := (blk_cell BK120.out 3).trans rfl
                      have hcz34_4 : wc.cell? ⟨gb120, 4, none⟩ = some (.string a0_4) := (blk_cell BK120.out 4).trans rfl
                      have hcz34_5 : wc.cell? ⟨gb120, 5, none⟩ = some (.string a0_5) := (blk_cell BK120.out 5).trans rfl
                      have hcz34_6 : wc.cell? ⟨gb120, 6, none⟩ = some (.string a0_6) := (blk_cell BK120.out 6).trans rfl
                      have hcz34_7 : wc.cell? ⟨gb120, 7, none⟩ = some (.slice A0_7 l0_7.length c0_7) := (blk_cell BK120.out 7).trans rfl
                      have hfz34_0 := blk_frozen BK120.out 0
                      have hfz34_1 := blk_frozen BK120.out 1
                      have hfz34_2 := blk_frozen BK120.out 2
                      have hfz34_3 := blk_frozen BK120.out 3
                      have hfz34_4 := blk_frozen BK120.out 4
                      have hfz34_5 := blk_frozen BK120.out 5
                      have hfz34_6 := blk_frozen BK120.out 6
                      have hfz34_7 := blk_frozen BK120.out 7
                      go_wp2_with (first | ((with_reducible refine gate_callee (f := 56) rfl ?_); refine goesL_ (some 61) rfl rfl Try.func56 (by kernel_rfl) rfl #[.int .i64 a0_2, .int .i64 1, .int .i64 4294967295] rfl (by (try simp only [List.map_toArray, List.map_cons, List.map_nil]); first | done | rfl | (simp only [List.length_drop, List.length_take]; rfl)) ?_; (with_reducible refine (spec_l1In.calls a0_2 1 4294967295 true _ A32.out).mono ?_); rintro e w' ⟨rfl, ⟨nd, rfl⟩⟩; refine ⟨_, rfl, ?_⟩))
                      go_ret
                      exact ⟨by first | rfl | (cases hx_ : a0_6.toList <;> first | rfl | (simp; done)) | (simp [errW_none, errW_some] <;> rfl) | (simp [*, errW_none, errW_some] <;> rfl), by repeat (first | (with_reducible first | exact HB.out | apply below_alloc | apply pw_below_drewN | apply below_drew1 | refine below_set ?_ GE120.out) | exact HB.out)⟩
                    · replace c33 := Bool.eq_false_iff.mpr c33
                      subst c33
                      have H1 : (some false) = some r := by rw [if_neg (show ¬ (false = true) by decide)] at H; exact H
                      clear H
                      have H := H1
                      clear H1
                      obtain rfl := Option.some.inj H
                      have hcz35_0 : wc.cell? ⟨gb120, 0, none⟩ = some (.int .i64 a0_0) := (blk_cell BK120.out 0).trans rfl
                      have hcz35_1 : wc.cell? ⟨gb120, 1, none⟩ = some (.int .i64 a0_1) := (blk_cell BK120.out 1).trans rfl
                      have hcz35_2 : wc.cell? ⟨gb120, 2, none⟩ = some (.int .i64 a0_2) := (blk_cell BK120.out 2).trans rfl
                      have hcz35_3 : wc.cell? ⟨gb120, 3, none⟩ = some (.string a0_3) := (blk_cell BK120.out 3).trans rfl
                      have hcz35_4 : wc.cell? ⟨gb120, 4, none⟩ = some (.string a0_4) := (blk_cell BK120.out 4).trans rfl
                      have hcz35_5 : wc.cell? ⟨gb120, 5, none⟩ = some (.string a0_5) := (blk_cell BK120.out 5).trans rfl
                      have hcz35_6 : wc.cell? ⟨gb120, 6, none⟩ = some (.string a0_6) := (blk_cell BK120.out 6).trans rfl
                      have hcz35_7 : wc.cell? ⟨gb120, 7, none⟩ = some (.slice A0_7 l0_7.length c0_7) := (blk_cell BK120.out 7).trans rfl
                      have hfz35_0 := blk_frozen BK120.out 0
                      have hfz35_1 := blk_frozen BK120.out 1
                      have hfz35_2 := blk_frozen BK120.out 2
                      have hfz35_3 := blk_frozen BK120.out 3
                      have hfz35_4 := blk_frozen BK120.out 4
                      have hfz35_5 := blk_frozen BK120.out 5
                      have hfz35_6 := blk_frozen BK120.out 6
                      have hfz35_7 := blk_frozen BK120.out 7
                      go_wp2_with (first | ((with_reducible refine gate_callee (f := 56) rfl ?_); refine goesL_ (some 61) rfl rfl Try.func56 (by kernel_rfl) rfl #[.int .i64 a0_2, .int .i64 1, .int .i64 4294967295] rfl (by (try simp only [List.map_toArray, List.map_cons, List.map_nil]); first | done | rfl | (simp only [List.length_drop, List.length_take]; rfl)) ?_; (with_reducible refine (spec_l1In.calls a0_2 1 4294967295 false _ A32.out).mono ?_); rintro e w' ⟨rfl, ⟨nd, rfl⟩⟩; refine ⟨_, rfl, ?_⟩))
                      go_ret
                      exact ⟨by first | rfl | (simp [errW_none, errW_some] <;> rfl) | (simp [*, errW_none, errW_some] <;> rfl), by repeat (first | (with_reducible first | exact HB.out | apply below_alloc | apply pw_below_drewN | apply below_drew1 | refine below_set ?_ GE120.out) | exact HB.out)⟩
                  · replace c31 := Bool.eq_false_iff.mpr c31
                    subst c31
                    have H1 : (if a0_0 = 4 then (spec_GoodHeader.l0 kj25 l0_7 (l0_7.length : Int) 0 a0_0 a0_1 a0_2 a0_3 a0_4 a0_5 a0_6 l0_7) else (if a0_0 = 5 then (if a0_4.toList = ([] : List UInt8) then (some (a0_2 == 0)) else (some false)) else (some false))) = some r := by rw [if_neg (show ¬ (false = true) by decide)] at H; exact H
                    clear H
                    have H := H1
                    clear H1
                    by_cases c36 : a0_0 = 4
                    · rw [if_pos c36] at H
                      have c36b0 : (a0_0 == 4) = true := beq_iff_eq.mpr c36
                      have c36b1 : (a0_0 != 4) = false := bne_eq_false_iff_eq.mpr c36
                      clear c36
                      have H' := Aside0.mk H
                      clear H
                      have hcz37_0 : wc.cell? ⟨gb120, 0, none⟩ = some (.int .i64 a0_0) := (blk_cell BK120.out 0).trans rfl
                      have hcz37_1 : wc.cell? ⟨gb120, 1, none⟩ = some (.int .i64 a0_1) := (blk_cell BK120.out 1).trans rfl
                      have hcz37_2 : wc.cell? ⟨gb120, 2, none⟩ = some (.int .i64 a0_2) := (blk_cell BK120.out 2).trans rfl
                      have hcz37_3 : wc.cell? ⟨gb120, 3, none⟩ = some (.string a0_3) := (blk_cell BK120.out 3).trans rfl
                      have hcz37_4 : wc.cell? ⟨gb120, 4, none⟩ = some (.string a0_4) := (blk_cell BK120.out 4).trans rfl
                      have hcz37_5 : wc.cell? ⟨gb120, 5, none⟩ = some (.string a0_5) := (blk_cell BK120.out 5).trans rfl
                      have hcz37_6 : wc.cell? ⟨gb120, 6, none⟩ = some (.string a0_6) := (blk_cell BK120.out 6).trans rfl
                      have hcz37_7 : wc.cell? ⟨gb120, 7, none⟩ = some (.slice A0_7 l0_7.length c0_7) := (blk_cell BK120.out 7).trans rfl
                      have hfz37_0 := blk_frozen BK120.out 0
                      have hfz37_1 := blk_frozen BK120.out 1
                      have hfz37_2 := blk_frozen BK120.out 2
                      have hfz37_3 := blk_frozen BK120.out 3
                      have hfz37_4 := blk_frozen BK120.out 4
                      have hfz37_5 := blk_frozen BK120.out 5
                      have hfz37_6 := blk_frozen BK120.out 6
                      have hfz37_7 := blk_frozen BK120.out 7
                      go_wp2
                      go_loopg [72] kj25 (fun kq v72 w' => ∃ (x72_4 : Int), v72 = .int .i64 x72_4 ∧ Aside0 (spec_GoodHeader.l0 kq l0_7 (l0_7.length : Int) x72_4 a0_0 a0_1 a0_2 a0_3 a0_4 a0_5 a0_6 l0_7 = some r) ∧ Aside0 (kq ≤ kj25) ∧ Aside0 (w'.heap[gb120]? = some (.cells #[.int .i64 a0_0, .int .i64 a0_1, .int .i64 a0_2, .string a0_3, .string a0_4, .string a0_5, .string a0_6, (.slice A0_7 l0_7.length c0_7)] 44 (0, 0))) ∧ Aside0 (Below w.heap.size w w'))
                      case atStart => exact ⟨(0), (by first | rfl | (simp; done) | (simp [*]; done)), H', ⟨Nat.le_refl _⟩, ⟨by (with_reducible repeat (first | refine blk_drewN ?_ _ | refine blk_drew ?_ | refine blk_alloc ?_ _)); exact BK120.out⟩, ⟨by repeat (first | (with_reducible first | exact HB.out | apply below_alloc | apply pw_below_drewN | apply below_drew1 | refine below_set ?_ GE120.out) | exact HB.out)⟩⟩
                      case round =>
                        clear H'
                        try clear c1
                        try clear c2
                        try clear p2
                        try clear c3
                        try clear c4
                        try clear c4b0
                        try clear c4b1
                        try clear c5
                        try clear c6
                        try clear c6b0
                        try clear c6b1
                        try clear c9
                        try clear c10
                        try clear c10b0
                        try clear c10b1
                        try clear c14
                        try clear c16
                        try clear c16b0
                        try clear c16b1
                        try clear c17
                        try clear c17b0
                        try clear c17b1
                        try clear c20
                        try clear c20b0
                        try clear c20b1
                        try clear c21
                        try clear c21b0
                        try clear c21b1
                        try clear c25
                        try clear c28
                        try clear c28b0
                        try clear c28b1
                        try clear c29
                        try clear c29b0
                        try clear c29b1
                        try clear c30
                        try clear c30b0
                        try clear c30b1
                        try clear c31
                        try clear c33
                        try clear c36
                        try clear c36b0
                        try clear c36b1
                        try clear hcz11_0
                        try clear hcz11_1
                        try clear hcz11_2
                        try clear hcz11_3
                        try clear hcz11_4
                        try clear hcz11_5
                        try clear hcz11_6
                        try clear hcz11_7
                        try clear hcz12_0
                        try clear hcz12_1
                        try clear hcz12_2
                        try clear hcz12_3
                        try clear hcz12_4
                        try clear hcz12_5
                        try clear hcz12_6
                        try clear hcz12_7
                        try clear hcz13_0
                        try clear hcz13_1
                        try clear hcz13_2
                        try clear hcz13_3
                        try clear hcz13_4
                        try clear hcz13_5
                        try clear hcz13_6
                        try clear hcz13_7
                        try clear hcz18_0
                        try clear hcz18_1
                        try clear hcz18_2
                        try clear hcz18_3
                        try clear hcz18_4
                        try clear hcz18_5
                        try clear hcz18_6
                        try clear hcz18_7
                        try clear hcz19_0
                        try clear hcz19_1
                        try clear hcz19_2
                        try clear hcz19_3
                        try clear hcz19_4
                        try clear hcz19_5
                        try clear hcz19_6
                        try clear hcz19_7
                        try clear hcz22_0
                        try clear hcz22_1
                        try clear hcz22_2
                        try clear hcz22_3
                        try clear hcz22_4
                        try clear hcz22_5
                        try clear hcz22_6
                        try clear hcz22_7
                        try clear hcz23_0
                        try clear hcz23_1
                        try clear hcz23_2
                        try clear hcz23_3
                        try clear hcz23_4
                        try clear hcz23_5
                        try clear hcz23_6
                        try clear hcz23_7
                        try clear hcz24_0
                        try clear hcz24_1
                        try clear hcz24_2
                        try clear hcz24_3
                        try clear hcz24_4
                        try clear hcz24_5
                        try clear hcz24_6
                        try clear hcz24_7
                        try clear hcz27_0
                        try clear hcz27_1
                        try clear hcz27_2
                        try clear hcz27_3
                        try clear hcz27_4
                        try clear hcz27_5
                        try clear hcz27_6
                        try clear hcz27_7
                        try clear hcz34_0
                        try clear hcz34_1
                        try clear hcz34_2
                        try clear hcz34_3
                        try clear hcz34_4
                        try clear hcz34_5
                        try clear hcz34_6
                        try clear hcz34_7
                        try clear hcz35_0
                        try clear hcz35_1
                        try clear hcz35_2
                        try clear hcz35_3
                        try clear hcz35_4
                        try clear hcz35_5
                        try clear hcz35_6
                        try clear hcz35_7
                        try clear hcz37_0
                        try clear hcz37_1
                        try clear hcz37_2
                        try clear hcz37_3
                        try clear hcz37_4
                        try clear hcz37_5
                        try clear hcz37_6
                        try clear hcz37_7
                        try clear hcz5_0
                        try clear hcz5_1
                        try clear hcz5_2
                        try clear hcz5_3
                        try clear hcz5_4
                        try clear hcz5_5
                        try clear hcz5_6
                        try clear hcz5_7
                        try clear hcz7_0
                        try clear hcz7_1
                        try clear hcz7_2
                        try clear hcz7_3
                        try clear hcz7_4
                        try clear hcz7_5
                        try clear hcz7_6
                        try clear hcz7_7
                        try clear hfz11_0
                        try clear hfz11_1
                        try clear hfz11_2
                        try clear hfz11_3
                        try clear hfz11_4
                        try clear hfz11_5
                        try clear hfz11_6
                        try clear hfz11_7
                        try clear hfz12_0
                        try clear hfz12_1
                        try clear hfz12_2
                        try clear hfz12_3
                        try clear hfz12_4
                        try clear hfz12_5
                        try clear hfz12_6
                        try clear hfz12_7
                        try clear hfz13_0
                        try clear hfz13_1
                        try clear hfz13_2
                        try clear hfz13_3
                        try clear hfz13_4
                        try clear hfz13_5
                        try clear hfz13_6
                        try clear hfz13_7
                        try clear hfz18_0
                        try clear hfz18_1
                        try clear hfz18_2
                        try clear hfz18_3
                        try clear hfz18_4
                        try clear hfz18_5
                        try clear hfz18_6
                        try clear hfz18_7
                        try clear hfz19_0
                        try clear hfz19_1
                        try clear hfz19_2
                        try clear hfz19_3
                        try clear hfz19_4
                        try clear hfz19_5
                        try clear hfz19_6
                        try clear hfz19_7
                        try clear hfz22_0
                        try clear hfz22_1
                        try clear hfz22_2
                        try clear hfz22_3
                        try clear hfz22_4
                        try clear hfz22_5
                        try clear hfz22_6
                        try clear hfz22_7
                        try clear hfz23_0
                        try clear hfz23_1
                        try clear hfz23_2
                        try clear hfz23_3
                        try clear hfz23_4
                        try clear hfz23_5
                        try clear hfz23_6
                        try clear hfz23_7
                        try clear hfz24_0
                        try clear hfz24_1
                        try clear hfz24_2
                        try clear hfz24_3
                        try clear hfz24_4
                        try clear hfz24_5
                        try clear hfz24_6
                        try clear hfz24_7
                        try clear hfz27_0
                        try clear hfz27_1
                        try clear hfz27_2
                        try clear hfz27_3
                        try clear hfz27_4
                        try clear hfz27_5
                        try clear hfz27_6
                        try clear hfz27_7
                        try clear hfz34_0
                        try clear hfz34_1
                        try clear hfz34_2
                        try clear hfz34_3
                        try clear hfz34_4
                        try clear hfz34_5
                        try clear hfz34_6
                        try clear hfz34_7
                        try clear hfz35_0
                        try clear hfz35_1
                        try clear hfz35_2
                        try clear hfz35_3
                        try clear hfz35_4
                        try clear hfz35_5
                        try clear hfz35_6
                        try clear hfz35_7
                        try clear hfz37_0
                        try clear hfz37_1
                        try clear hfz37_2
                        try clear hfz37_3
                        try clear hfz37_4
                        try clear hfz37_5
                        try clear hfz37_6
                        try clear hfz37_7
                        try clear hfz5_0
                        try clear hfz5_1
                        try clear hfz5_2
                        try clear hfz5_3
                        try clear hfz5_4
                        try clear hfz5_5
                        try clear hfz5_6
                        try clear hfz5_7
                        try clear hfz7_0
                        try clear hfz7_1
                        try clear hfz7_2
                        try clear hfz7_3
                        try clear hfz7_4
                        try clear hfz7_5
                        try clear hfz7_6
                        try clear hfz7_7
                        try clear p2
                        obtain ⟨x72_4, rfl, HA, HK4, BK120, HB⟩ := hrel
                        cases gk with
                        | zero => exact absurd HA.out (by simp [spec_GoodHeader.l0])
                        | succ k4 =>
                          have H := HA.out
                          clear HA
                          simp only [spec_GoodHeader.l0] at H
                          by_cases c38 : x72_4 < (l0_7.length : Int)
                          · rw [if_pos c38] at H
                            have c38b0 : decide (x72_4 < (l0_7.length : Int)) = true := decide_eq_true c38
                            clear c38
                            by_cases c39 : 0 ≤ x72_4
                            · rw [if_pos c39] at H
                              have c39b0 : decide (0 ≤ x72_4) = true := decide_eq_true c39
                              clear c39
                              by_cases c40 : x72_4 < (l0_7.length : Int)
                              · rw [if_pos c40] at H
                                have c40b0 : decide (x72_4 < (l0_7.length : Int)) = true := decide_eq_true c40
                                clear c40
                                replace H := Option.bind_eq_some_iff.mp H
                                obtain ⟨t124, A410, H⟩ := H
                                replace H : (if t124 = true then (spec_GoodHeader.l0 k4 l0_7 (l0_7.length : Int) (wrap64 (x72_4 + 1)) a0_0 a0_1 a0_2 a0_3 a0_4 a0_5 a0_6 l0_7) else (some false)) = some r := H
                                have A41 := Aside0.mk A410
                                clear A410
                                by_cases c42 : t124 = true
                                · subst c42
                                  have H1 : (spec_GoodHeader.l0 k4 l0_7 (l0_7.length : Int) (wrap64 (x72_4 + 1)) a0_0 a0_1 a0_2 a0_3 a0_4 a0_5 a0_6 l0_7) = some r := by rw [if_pos rfl] at H; exact H
                                  clear H
                                  have H := H1
                                  clear H1
                                  have H' := Aside0.mk H
                                  clear H
                                  have p123 : 0 ≤ (x72_4 : Int) := of_decide_eq_true (by first | (with_reducible assumption) | assumption)
                                  have q123 : x72_4 < (l0_7.length : Int) := of_decide_eq_true (by first | (with_reducible assumption) | assumption)
                                  obtain ⟨ad123, e123, hx123_0⟩ := Kd.at_int HR0_7.out x72_4 p123 q123
                                  cases e123
                                  replace hx123_0 := (HB.out.cell (World.block_lt_of_cell? w _ hx123_0)).trans hx123_0
                                  replace p123 := eq_true p123
                                  replace q123 := eq_true q123
                                  go_wp2_with (first | ((with_reducible refine gate_callee (f := 71) rfl ?_); refine goesL_ (some 77) rfl rfl Try.func71 (by kernel_rfl) rfl #[.int .i64 (rd l0_7 x72_4)] rfl (by (try simp only [List.map_toArray, List.map_cons, List.map_nil]); first | done | rfl | (simp only [List.length_drop, List.length_take]; rfl)) ?_; (with_reducible refine (spec_l2Word.calls (rd l0_7 x72_4) true _ A41.out).mono ?_); rintro e w' ⟨rfl, ⟨nd, rfl⟩⟩; refine ⟨_, rfl, ?_⟩))
                                  go_roundg k4
                                  case measure => have := HJ1.out; have := HJ14.out; have := HJ25.out; have := HK4.out; omega
                                  case rel => exact ⟨(wrap64 (x72_4 + 1)), (by first | rfl | (simp; done) | (simp [*]; done)), H', ⟨by have := HJ1.out; have := HJ14.out; have := HJ25.out; have := HK4.out; omega⟩, ⟨by (with_reducible repeat (first | refine blk_drewN ?_ _ | refine blk_drew ?_ | refine blk_alloc ?_ _)); exact BK120.out⟩, ⟨by repeat (first | (with_reducible first | exact HB.out | apply below_alloc | apply pw_below_drewN | apply below_drew1 | refine below_set ?_ GE120.out) | exact HB.out)⟩⟩
                                · replace c42 := Bool.eq_false_iff.mpr c42
                                  subst c42
                                  have H1 : (some false) = some r := by rw [if_neg (show ¬ (false = true) by decide)] at H; exact H
                                  clear H
                                  have H := H1
                                  clear H1
                                  obtain rfl := Option.some.inj H
                                  have p123 : 0 ≤ (x72_4 : Int) := of_decide_eq_true (by first | (with_reducible assumption) | assumption)
                                  have q123 : x72_4 < (l0_7.length : Int) := of_decide_eq_true (by first | (with_reducible assumption) | assumption)
                                  obtain ⟨ad123, e123, hx123_0⟩ := Kd.at_int HR0_7.out x72_4 p123 q123
                                  cases e123
                                  replace hx123_0 := (HB.out.cell (World.block_lt_of_cell? w _ hx123_0)).trans hx123_0
                                  replace p123 := eq_true p123
                                  replace q123 := eq_true q123
                                  go_wp2_with (first | ((with_reducible refine gate_callee (f := 71) rfl ?_); refine goesL_ (some 77) rfl rfl Try.func71 (by kernel_rfl) rfl #[.int .i64 (rd l0_7 x72_4)] rfl (by (try simp only [List.map_toArray, List.map_cons, List.map_nil]); first | done | rfl | (simp only [List.length_drop, List.length_take]; rfl)) ?_; (with_reducible refine (spec_l2Word.calls (rd l0_7 x72_4) false _ A41.out).mono ?_); rintro e w' ⟨rfl, ⟨nd, rfl⟩⟩; refine ⟨_, rfl, ?_⟩))
                                  go_ret
                                  exact ⟨by first | rfl | (simp [errW_none, errW_some] <;> rfl) | (simp [*, errW_none, errW_some] <;> rfl), by repeat (first | (with_reducible first | exact HB.out | apply below_alloc | apply pw_below_drewN | apply below_drew1 | refine below_set ?_ GE120.out) | exact HB.out)⟩
                              · rw [if_neg c40] at H
                                exact absurd H (by simp)
                            · rw [if_neg c39] at H
                              exact absurd H (by simp)
                          · rw [if_neg c38] at H
                            have c38b0 : decide (x72_4 < (l0_7.length : Int)) = false := decide_eq_false c38
                            clear c38
                            by_cases c43 : a0_2 = 0
                            · rw [if_pos c43] at H
                              have c43b0 : (a0_2 == 0) = true := beq_iff_eq.mpr c43
                              have c43b1 : (a0_2 != 0) = false := bne_eq_false_iff_eq.mpr c43
                              clear c43
                              by_cases c44 : a0_6.toList = ([] : List UInt8)
                              · rw [if_pos c44] at H
                                have c44b0 : (a0_6.toList == ([] : List UInt8)) = true := beq_iff_eq.mpr c44
                                have c44b1 : (a0_6.toList != ([] : List UInt8)) = false := bne_eq_false_iff_eq.mpr c44
                                clear c44
                                replace H := Option.bind_eq_some_iff.mp H
                                obtain ⟨t125, A450, H⟩ := H
                                replace H : (some t125) = some r := H
                                have A45 := Aside0.mk A450
                                clear A450
                                obtain rfl := Option.some.inj H
                                have hcz46_0 : wr.cell? ⟨gb120, 0, none⟩ = some (.int .i64 a0_0) := (blk_cell BK120.out 0).trans rfl
                                have hcz46_1 : wr.cell? ⟨gb120, 1, none⟩ = some (.int .i64 a0_1) := (blk_cell BK120.out 1).trans rfl
                                have hcz46_2 : wr.cell? ⟨gb120, 2, none⟩ = some (.int .i64 a0_2) := (blk_cell BK120.out 2).trans rfl
                                have hcz46_3 : wr.cell? ⟨gb120, 3, none⟩ = some (.string a0_3) := (blk_cell BK120.out 3).trans rfl
                                have hcz46_4 : wr.cell? ⟨gb120, 4, none⟩ = some (.string a0_4) := (blk_cell BK120.out 4).trans rfl
                                have hcz46_5 : wr.cell? ⟨gb120, 5, none⟩ = some (.string a0_5) := (blk_cell BK120.out 5).trans rfl
                                have hcz46_6 : wr.cell? ⟨gb120, 6, none⟩ = some (.string a0_6) := (blk_cell BK120.out 6).trans rfl
                                have hcz46_7 : wr.cell? ⟨gb120, 7, none⟩ = some (.slice A0_7 l0_7.length c0_7) := (blk_cell BK120.out 7).trans rfl
                                have hfz46_0 := blk_frozen BK120.out 0
                                have hfz46_1 := blk_frozen BK120.out 1
                                have hfz46_2 := blk_frozen BK120.out 2
                                have hfz46_3 := blk_frozen BK120.out 3
                                have hfz46_4 := blk_frozen BK120.out 4
                                have hfz46_5 := blk_frozen BK120.out 5
                                have hfz46_6 := blk_frozen BK120.out 6
                                have hfz46_7 := blk_frozen BK120.out 7
                                go_wp2_with (first | (go_at_call 56; (with_reducible refine (spec_l1In.calls (l0_7.length : Int) 1 20 t125 _ A45.out).mono ?_); rintro e w' ⟨rfl, ⟨nd, rfl⟩⟩))
                                go_ret
                                exact ⟨by first | rfl | (simp [errW_none, errW_some] <;> rfl) | (simp [*, errW_none, errW_some] <;> rfl), by repeat (first | (with_reducible first | exact HB.out | apply below_alloc | apply pw_below_drewN | apply below_drew1 | refine below_set ?_ GE120.out) | exact HB.out)⟩
                              · rw [if_neg c44] at H
                                have c44b0 : (a0_6.toList == ([] : List UInt8)) = false := beq_eq_false_iff_ne.mpr c44
                                have c44b1 : (a0_6.toList != ([] : List UInt8)) = true := bne_iff_ne.mpr c44
                                obtain rfl := Option.some.inj H
                                have hcz47_0 : wr.cell? ⟨gb120, 0, none⟩ = some (.int .i64 a0_0) := (blk_cell BK120.out 0).trans rfl
                                have hcz47_1 : wr.cell? ⟨gb120, 1, none⟩ = some (.int .i64 a0_1) := (blk_cell BK120.out 1).trans rfl
                                have hcz47_2 : wr.cell? ⟨gb120, 2, none⟩ = some (.int .i64 a0_2) := (blk_cell BK120.out 2).trans rfl
                                have hcz47_3 : wr.cell? ⟨gb120, 3, none⟩ = some (.string a0_3) := (blk_cell BK120.out 3).trans rfl
                                have hcz47_4 : wr.cell? ⟨gb120, 4, none⟩ = some (.string a0_4) := (blk_cell BK120.out 4).trans rfl
                                have hcz47_5 : wr.cell? ⟨gb120, 5, none⟩ = some (.string a0_5) := (blk_cell BK120.out 5).trans rfl
                                have hcz47_6 : wr.cell? ⟨gb120, 6, none⟩ = some (.string a0_6) := (blk_cell BK120.out 6).trans rfl
                                have hcz47_7 : wr.cell? ⟨gb120, 7, none⟩ = some (.slice A0_7 l0_7.length c0_7) := (blk_cell BK120.out 7).trans rfl
                                have hfz47_0 := blk_frozen BK120.out 0
                                have hfz47_1 := blk_frozen BK120.out 1
                                have hfz47_2 := blk_frozen BK120.out 2
                                have hfz47_3 := blk_frozen BK120.out 3
                                have hfz47_4 := blk_frozen BK120.out 4
                                have hfz47_5 := blk_frozen BK120.out 5
                                have hfz47_6 := blk_frozen BK120.out 6
                                have hfz47_7 := blk_frozen BK120.out 7
                                go_wp2
                                go_ret
                                exact ⟨by first | rfl | (simp [errW_none, errW_some] <;> rfl) | (simp [*, errW_none, errW_some] <;> rfl), by repeat (first | (with_reducible first | exact HB.out | apply below_alloc | apply pw_below_drewN | apply below_drew1 | refine below_set ?_ GE120.out) | exact HB.out)⟩
                            · rw [if_neg c43] at H
                              have c43b0 : (a0_2 == 0) = false := beq_eq_false_iff_ne.mpr c43
                              have c43b1 : (a0_2 != 0) = true := bne_iff_ne.mpr c43
                              obtain rfl := Option.some.inj H
                              have hcz48_0 : wr.cell? ⟨gb120, 0, none⟩ = some (.int .i64 a0_0) := (blk_cell BK120.out 0).trans rfl
                              have hcz48_1 : wr.cell? ⟨gb120, 1, none⟩ = some (.int .i64 a0_1) := (blk_cell BK120.out 1).trans rfl
                              have hcz48_2 : wr.cell? ⟨gb120, 2, none⟩ = some (.int .i64 a0_2) := (blk_cell BK120.out 2).trans rfl
                              have hcz48_3 : wr.cell? ⟨gb120, 3, none⟩ = some (.string a0_3) := (blk_cell BK120.out 3).trans rfl
                              have hcz48_4 : wr.cell? ⟨gb120, 4, none⟩ = some (.string a0_4) := (blk_cell BK120.out 4).trans rfl
                              have hcz48_5 : wr.cell? ⟨gb120, 5, none⟩ = some (.string a0_5) := (blk_cell BK120.out 5).trans rfl
                              have hcz48_6 : wr.cell? ⟨gb120, 6, none⟩ = some (.string a0_6) := (blk_cell BK120.out 6).trans rfl
                              have hcz48_7 : wr.cell? ⟨gb120, 7, none⟩ = some (.slice A0_7 l0_7.length c0_7) := (blk_cell BK120.out 7).trans rfl
                              have hfz48_0 := blk_frozen BK120.out 0
                              have hfz48_1 := blk_frozen BK120.out 1
                              have hfz48_2 := blk_frozen BK120.out 2
                              have hfz48_3 := blk_frozen BK120.out 3
                              have hfz48_4 := blk_frozen BK120.out 4
                              have hfz48_5 := blk_frozen BK120.out 5
                              have hfz48_6 := blk_frozen BK120.out 6
                              have hfz48_7 := blk_frozen BK120.out 7
                              go_wp2
                              go_ret
                              exact ⟨by first | rfl | (simp [errW_none, errW_some] <;> rfl) | (simp [*, errW_none, errW_some] <;> rfl), by repeat (first | (with_reducible first | exact HB.out | apply below_alloc | apply pw_below_drewN | apply below_drew1 | refine below_set ?_ GE120.out) | exact HB.out)⟩
                    · rw [if_neg c36] at H
                      have c36b0 : (a0_0 == 4) = false := beq_eq_false_iff_ne.mpr c36
                      have c36b1 : (a0_0 != 4) = true := bne_iff_ne.mpr c36
                      by_cases c49 : a0_0 = 5
                      · rw [if_pos c49] at H
                        have c49b0 : (a0_0 == 5) = true := beq_iff_eq.mpr c49
                        have c49b1 : (a0_0 != 5) = false := bne_eq_false_iff_eq.mpr c49
                        clear c49
                        by_cases c50 : a0_4.toList = ([] : List UInt8)
                        · rw [if_pos c50] at H
                          have c50b0 : (a0_4.toList == ([] : List UInt8)) = true := beq_iff_eq.mpr c50
                          have c50b1 : (a0_4.toList != ([] : List UInt8)) = false := bne_eq_false_iff_eq.mpr c50
                          clear c50
                          obtain rfl := Option.some.inj H
                          have hcz51_0 : wc.cell? ⟨gb120, 0, none⟩ = some (.int .i64 a0_0) := (blk_cell BK120.out 0).trans rfl
                          have hcz51_1 : wc.cell? ⟨gb120, 1, none⟩ = some (.int .i64 a0_1) := (blk_cell BK120.out 1).trans rfl
                          have hcz51_2 : wc.cell? ⟨gb120, 2, none⟩ = some (.int .i64 a0_2) := (blk_cell BK120.out 2).trans rfl
                          have hcz51_3 : wc.cell? ⟨gb120, 3, none⟩ = some (.string a0_3) := (blk_cell BK120.out 3).trans rfl
                          have hcz51_4 : wc.cell? ⟨gb120, 4, none⟩ = some (.string a0_4) := (blk_cell BK120.out 4).trans rfl
                          have hcz51_5 : wc.cell? ⟨gb120, 5, none⟩ = some (.string a0_5) := (blk_cell BK120.out 5).trans rfl
                          have hcz51_6 : wc.cell? ⟨gb120, 6, none⟩ = some (.string a0_6) := (blk_cell BK120.out 6).trans rfl
                          have hcz51_7 : wc.cell? ⟨gb120, 7, none⟩ = some (.slice A0_7 l0_7.length c0_7) := (blk_cell BK120.out 7).trans rfl
                          have hfz51_0 := blk_frozen BK120.out 0
                          have hfz51_1 := blk_frozen BK120.out 1
                          have hfz51_2 := blk_frozen BK120.out 2
                          have hfz51_3 := blk_frozen BK120.out 3
                          have hfz51_4 := blk_frozen BK120.out 4
                          have hfz51_5 := blk_frozen BK120.out 5
                          have hfz51_6 := blk_frozen BK120.out 6
                          have hfz51_7 := blk_frozen BK120.out 7
                          go_wp2
                          go_ret
                          exact ⟨by first | rfl | (simp [errW_none, errW_some] <;> rfl) | (simp [*, errW_none, errW_some] <;> rfl), by repeat (first | (with_reducible first | exact HB.out | apply below_alloc | apply pw_below_drewN | apply below_drew1 | refine below_set ?_ GE120.out) | exact HB.out)⟩
                        · rw [if_neg c50] at H
                          have c50b0 : (a0_4.toList == ([] : List UInt8)) = false := beq_eq_false_iff_ne.mpr c50
                          have c50b1 : (a0_4.toList != ([] : List UInt8)) = true := bne_iff_ne.mpr c50
                          obtain rfl := Option.some.inj H
                          have hcz52_0 : wc.cell? ⟨gb120, 0, none⟩ = some (.int .i64 a0_0) := (blk_cell BK120.out 0).trans rfl
                          have hcz52_1 : wc.cell? ⟨gb120, 1, none⟩ = some (.int .i64 a0_1) := (blk_cell BK120.out 1).trans rfl
                          have hcz52_2 : wc.cell? ⟨gb120, 2, none⟩ = some (.int .i64 a0_2) := (blk_cell BK120.out 2).trans rfl
                          have hcz52_3 : wc.cell? ⟨gb120, 3, none⟩ = some (.string a0_3) := (blk_cell BK120.out 3).trans rfl
                          have hcz52_4 : wc.cell? ⟨gb120, 4, none⟩ = some (.string a0_4) := (blk_cell BK120.out 4).trans rfl
                          have hcz52_5 : wc.cell? ⟨gb120, 5, none⟩ = some (.string a0_5) := (blk_cell BK120.out 5).trans rfl
                          have hcz52_6 : wc.cell? ⟨gb120, 6, none⟩ = some (.string a0_6) := (blk_cell BK120.out 6).trans rfl
                          have hcz52_7 : wc.cell? ⟨gb120, 7, none⟩ = some (.slice A0_7 l0_7.length c0_7) := (blk_cell BK120.out 7).trans rfl
                          have hfz52_0 := blk_frozen BK120.out 0
                          have hfz52_1 := blk_frozen BK120.out 1
                          have hfz52_2 := blk_frozen BK120.out 2
                          have hfz52_3 := blk_frozen BK120.out 3
                          have hfz52_4 := blk_frozen BK120.out 4
                          have hfz52_5 := blk_frozen BK120.out 5
                          have hfz52_6 := blk_frozen BK120.out 6
                          have hfz52_7 := blk_frozen BK120.out 7
                          go_wp2
                          go_ret
                          exact ⟨by first | rfl | (simp [errW_none, errW_some] <;> rfl) | (simp [*, errW_none, errW_some] <;> rfl), by repeat (first | (with_reducible first | exact HB.out | apply below_alloc | apply pw_below_drewN | apply below_drew1 | refine below_set ?_ GE120.out) | exact HB.out)⟩
                      · rw [if_neg c49] at H
                        have c49b0 : (a0_0 == 5) = false := beq_eq_false_iff_ne.mpr c49
                        have c49b1 : (a0_0 != 5) = true := bne_iff_ne.mpr c49
                        obtain rfl := Option.some.inj H
                        have hcz53_0 : wc.cell? ⟨gb120, 0, none⟩ = some (.int .i64 a0_0) := (blk_cell BK120.out 0).trans rfl
                        have hcz53_1 : wc.cell? ⟨gb120, 1, none⟩ = some (.int .i64 a0_1) := (blk_cell BK120.out 1).trans rfl
                        have hcz53_2 : wc.cell? ⟨gb120, 2, none⟩ = some (.int .i64 a0_2) := (blk_cell BK120.out 2).trans rfl
                        have hcz53_3 : wc.cell? ⟨gb120, 3, none⟩ = some (.string a0_3) := (blk_cell BK120.out 3).trans rfl
                        have hcz53_4 : wc.cell? ⟨gb120, 4, none⟩ = some (.string a0_4) := (blk_cell BK120.out 4).trans rfl
                        have hcz53_5 : wc.cell? ⟨gb120, 5, none⟩ = some (.string a0_5) := (blk_cell BK120.out 5).trans rfl
                        have hcz53_6 : wc.cell? ⟨gb120, 6, none⟩ = some (.string a0_6) := (blk_cell BK120.out 6).trans rfl
                        have hcz53_7 : wc.cell? ⟨gb120, 7, none⟩ = some (.slice A0_7 l0_7.length c0_7) := (blk_cell BK120.out 7).trans rfl
                        have hfz53_0 := blk_frozen BK120.out 0
                        have hfz53_1 := blk_frozen BK120.out 1
                        have hfz53_2 := blk_frozen BK120.out 2
                        have hfz53_3 := blk_frozen BK120.out 3
                        have hfz53_4 := blk_frozen BK120.out 4
                        have hfz53_5 := blk_frozen BK120.out 5
                        have hfz53_6 := blk_frozen BK120.out 6
                        have hfz53_7 := blk_frozen BK120.out 7
                        go_wp2
                        go_ret
                        exact ⟨by first | rfl | (simp [errW_none, errW_some] <;> rfl) | (simp [*, errW_none, errW_some] <;> rfl), by repeat (first | (with_reducible first | exact HB.out | apply below_alloc | apply pw_below_drewN | apply below_drew1 | refine below_set ?_ GE120.out) | exact HB.out)⟩

end Go.Proofs.Ytlohefjigggjiaa.PFnExactVersionAnswer
