-- FOLDED LAID BY A PROGRAM OF THIS SESSION (wip/tools/myprint.py) over the kit's print.
import Derived.Test.YtlohefjigggjiaaPFnExactVersionAnswerx6
namespace Go.Proofs.Ytlohefjigggjiaa.PFnExactVersionAnswer
open Go.RowKit Go.Proofs.YtlohefjigggjiaaV.PrintWords Go.Proofs.YtlohefjigggjiaaV.PrintLast Go.Proofs.YtlohefjigggjiaaV.PrintMore
attribute [local go_sem] max2_int min2_int max_two min_two max_three min_three max_four min_four   -- for this text's walks alone
set_option linter.unusedVariables false
set_option linter.unusedSimpArgs false

set_option maxHeartbeats 8000000 in
set_option maxRecDepth 100000 in
theorem laws_FnExactVersionAnswer.calls (k : Nat) (a0_0 : Int) (a0_1 : Int) (a0_2 : Int) (a0_3 : ByteArray) (a0_4 : ByteArray) (a0_5 : ByteArray) (a0_6 : ByteArray) (A0_7 : Option Addr) (c0_7 : Nat) (l0_7 : List Int) (A1 : Option Addr) (c1 : Nat) (l1 : List Int) (r : Bool) (w : World) (hr0_7 : Kd.C (Kd.int .i64) w A0_7 l0_7.length l0_7) (hc0_7 : l0_7.length ≤ c0_7) (hr1 : Kd.C (Kd.int .i64) w A1 l1.length l1) (hc1 : l1.length ≤ c1) (h : laws_FnExactVersionAnswer.f k a0_0 a0_1 a0_2 a0_3 a0_4 a0_5 a0_6 l0_7 l1 = some r) :
  Calls Try.prog 11 #[.agg #[.int .i64 a0_0, .int .i64 a0_1, .int .i64 a0_2, .string a0_3, .string a0_4, .string a0_5, .string a0_6, .slice A0_7 l0_7.length c0_7], .slice A1 l1.length c1] w fun e w' => e = .returned (.bool r) ∧ Below w.heap.size w w' := by
 have hu41 := Try.underlying41
 have hu44 := Try.underlying44
 have HR0_7 := A0 hr0_7
 have HC0_7 := A0 hc0_7
 clear hr0_7 hc0_7
 have HR1 := A0 hr1
 have HC1 := A0 hc1
 clear hr1 hc1
 have HB := A0 (Below.refl w.heap.size w)
 have H : (if (l1.length : Int) > 1048576 then (some true) else ((laws_szHeader.f a0_0 a0_1 a0_2 a0_3 a0_4 a0_5 a0_6 l0_7 1048576).bind fun t159 => (if t159 < 0 then (some true) else ((laws_toHeader.f k a0_0 a0_1 a0_2 a0_3 a0_4 a0_5 a0_6 l0_7).bind fun bt160 => ((laws_toIntS.f k l1).bind fun t170 => ((spec_VersionAnswer.f k bt160.1 bt160.2.1 bt160.2.2.1 bt160.2.2.2.1 bt160.2.2.2.2.1 bt160.2.2.2.2.2.1 bt160.2.2.2.2.2.2.1 bt160.2.2.2.2.2.2.2 t170).bind fun bt173 => ((laws_toHeader.f k a0_0 a0_1 a0_2 a0_3 a0_4 a0_5 a0_6 l0_7).bind fun bt185 => ((laws_toIntS.f k l1).bind fun t196 => ((impl_VersionAnswer.f k bt185.1 bt185.2.1 bt185.2.2.1 bt185.2.2.2.1 bt185.2.2.2.2.1 bt185.2.2.2.2.2.1 bt185.2.2.2.2.2.2.1 bt185.2.2.2.2.2.2.2 t196).bind fun bt199 => ((laws_eqHeader.f k bt199.1 bt199.2.1 bt199.2.2.1 bt199.2.2.2.1 bt199.2.2.2.2.1 bt199.2.2.2.2.2.1 bt199.2.2.2.2.2.2.1 bt199.2.2.2.2.2.2.2.1 bt173.1 bt173.2.1 bt173.2.2.1 bt173.2.2.2.1 bt173.2.2.2.2.1 bt173.2.2.2.2.2.1 bt173.2.2.2.2.2.2.1 bt173.2.2.2.2.2.2.2.1).bind fun t211 => (if t211 = true then (laws_FnExactVersionAnswer.j0 k l1 bt173.2.2.2.2.2.2.2.2 t196 bt199.2.2.2.2.2.2.2.2 (bt199.2.2.2.2.2.2.2.2 != bt173.2.2.2.2.2.2.2.2) a0_0 a0_1 a0_2 a0_3 a0_4 a0_5 a0_6 l0_7 bt173.1 bt173.2.1 bt173.2.2.1 bt173.2.2.2.1 bt173.2.2.2.2.1 bt173.2.2.2.2.2.1 bt173.2.2.2.2.2.2.1 bt173.2.2.2.2.2.2.2.1 bt185.1 bt185.2.1 bt185.2.2.1 bt185.2.2.2.1 bt185.2.2.2.2.1 bt185.2.2.2.2.2.1 bt185.2.2.2.2.2.2.1 bt185.2.2.2.2.2.2.2 bt199.1 bt199.2.1 bt199.2.2.1 bt199.2.2.2.1 bt199.2.2.2.2.1 bt199.2.2.2.2.2.1 bt199.2.2.2.2.2.2.1 bt199.2.2.2.2.2.2.2.1) else (laws_FnExactVersionAnswer.j0 k l1 bt173.2.2.2.2.2.2.2.2 t196 bt199.2.2.2.2.2.2.2.2 true a0_0 a0_1 a0_2 a0_3 a0_4 a0_5 a0_6 l0_7 bt173.1 bt173.2.1 bt173.2.2.1 bt173.2.2.2.1 bt173.2.2.2.2.1 bt173.2.2.2.2.2.1 bt173.2.2.2.2.2.2.1 bt173.2.2.2.2.2.2.2.1 bt185.1 bt185.2.1 bt185.2.2.1 bt185.2.2.2.1 bt185.2.2.2.2.1 bt185.2.2.2.2.2.1 bt185.2.2.2.2.2.2.1 bt185.2.2.2.2.2.2.2 bt199.1 bt199.2.1 bt199.2.2.1 bt199.2.2.2.1 bt199.2.2.2.2.1 bt199.2.2.2.2.2.1 bt199.2.2.2.2.2.2.1 bt199.2.2.2.2.2.2.2.1)))))))))))) = some r := h
 clear h
 by_cases c3 : (l1.length : Int) > 1048576
 ·rw [if_pos c3] at H
  have c3b0 : decide (1048576 < (l1.length : Int)) = true := decide_eq_true c3
  have c3b1 : decide (1048576 < l1.length) = true := decide_eq_true (by omega)
  clear c3
  obtain rfl := Option.some.inj H
  go_enter Try.func11, Try.ntmps11
  go_wp2_with (first | ((with_reducible refine gate_dst (N := 2) rfl ?_); refine box_event ?hg (N := 2) ?hd (cs := #[.int .i64 a0_0, .int .i64 a0_1, .int .i64 a0_2, .string a0_3, .string a0_4, .string a0_5, .string a0_6, .slice A0_7 l0_7.length c0_7]) (t := 41) ?hr ?_; (case hd => rfl); (case hg => rfl); (case hr => first | (go_simp; done) | (go_simp; rfl)); intro gb158 hg w4 hbox hb; have BK158 := A0 (hbox); have GW158 := A0 ((by rw [hg]; exact (below_size (by repeat (first | (with_reducible first | exact HB.out | apply wA | apply wN | apply wD) | exact HB.out))) : w.heap.size ≤ gb158)); have GE158 := A0 ((by rw [hg]; exact (below_size (by repeat (first | (with_reducible first | exact HB.out | apply wA | apply wN | apply wD) | exact HB.out))) : w.heap.size ≤ gb158)); replace HB := A0 (below_step (by repeat (first | (with_reducible first | exact HB.out | apply wA | apply wN | apply wD) | exact HB.out)) hb); clear hb hbox hg))
  go_ret
  exact ⟨by first | rfl | (simp [errW_none, errW_some] <;> rfl) | (simp [*, errW_none, errW_some] <;> rfl), by repeat (first | (with_reducible first | exact HB.out | apply wA | apply wN | apply wD | refine wS ?_ GE158.out) | exact HB.out)⟩
 ·rw [if_neg c3] at H
  have c3b0 : decide (1048576 < (l1.length : Int)) = false := decide_eq_false c3
  have c3b1 : decide (1048576 < l1.length) = false := decide_eq_false (by omega)
  clear c3
  replace H := Option.bind_eq_some_iff.mp H
  obtain ⟨t159, A50, H⟩ := H
  replace H : (if t159 < 0 then (some true) else ((laws_toHeader.f k a0_0 a0_1 a0_2 a0_3 a0_4 a0_5 a0_6 l0_7).bind fun bt160 => ((laws_toIntS.f k l1).bind fun t170 => ((spec_VersionAnswer.f k bt160.1 bt160.2.1 bt160.2.2.1 bt160.2.2.2.1 bt160.2.2.2.2.1 bt160.2.2.2.2.2.1 bt160.2.2.2.2.2.2.1 bt160.2.2.2.2.2.2.2 t170).bind fun bt173 => ((laws_toHeader.f k a0_0 a0_1 a0_2 a0_3 a0_4 a0_5 a0_6 l0_7).bind fun bt185 => ((laws_toIntS.f k l1).bind fun t196 => ((impl_VersionAnswer.f k bt185.1 bt185.2.1 bt185.2.2.1 bt185.2.2.2.1 bt185.2.2.2.2.1 bt185.2.2.2.2.2.1 bt185.2.2.2.2.2.2.1 bt185.2.2.2.2.2.2.2 t196).bind fun bt199 => ((laws_eqHeader.f k bt199.1 bt199.2.1 bt199.2.2.1 bt199.2.2.2.1 bt199.2.2.2.2.1 bt199.2.2.2.2.2.1 bt199.2.2.2.2.2.2.1 bt199.2.2.2.2.2.2.2.1 bt173.1 bt173.2.1 bt173.2.2.1 bt173.2.2.2.1 bt173.2.2.2.2.1 bt173.2.2.2.2.2.1 bt173.2.2.2.2.2.2.1 bt173.2.2.2.2.2.2.2.1).bind fun t211 => (if t211 = true then (laws_FnExactVersionAnswer.j0 k l1 bt173.2.2.2.2.2.2.2.2 t196 bt199.2.2.2.2.2.2.2.2 (bt199.2.2.2.2.2.2.2.2 != bt173.2.2.2.2.2.2.2.2) a0_0 a0_1 a0_2 a0_3 a0_4 a0_5 a0_6 l0_7 bt173.1 bt173.2.1 bt173.2.2.1 bt173.2.2.2.1 bt173.2.2.2.2.1 bt173.2.2.2.2.2.1 bt173.2.2.2.2.2.2.1 bt173.2.2.2.2.2.2.2.1 bt185.1 bt185.2.1 bt185.2.2.1 bt185.2.2.2.1 bt185.2.2.2.2.1 bt185.2.2.2.2.2.1 bt185.2.2.2.2.2.2.1 bt185.2.2.2.2.2.2.2 bt199.1 bt199.2.1 bt199.2.2.1 bt199.2.2.2.1 bt199.2.2.2.2.1 bt199.2.2.2.2.2.1 bt199.2.2.2.2.2.2.1 bt199.2.2.2.2.2.2.2.1) else (laws_FnExactVersionAnswer.j0 k l1 bt173.2.2.2.2.2.2.2.2 t196 bt199.2.2.2.2.2.2.2.2 true a0_0 a0_1 a0_2 a0_3 a0_4 a0_5 a0_6 l0_7 bt173.1 bt173.2.1 bt173.2.2.1 bt173.2.2.2.1 bt173.2.2.2.2.1 bt173.2.2.2.2.2.1 bt173.2.2.2.2.2.2.1 bt173.2.2.2.2.2.2.2.1 bt185.1 bt185.2.1 bt185.2.2.1 bt185.2.2.2.1 bt185.2.2.2.2.1 bt185.2.2.2.2.2.1 bt185.2.2.2.2.2.2.1 bt185.2.2.2.2.2.2.2 bt199.1 bt199.2.1 bt199.2.2.1 bt199.2.2.2.1 bt199.2.2.2.2.1 bt199.2.2.2.2.2.1 bt199.2.2.2.2.2.2.1 bt199.2.2.2.2.2.2.2.1)))))))))) = some r := H
  have A5 := A0 A50
  clear A50
  by_cases c6 : t159 < 0
  ·rw [if_pos c6] at H
   have c6b0 : decide (t159 < 0) = true := decide_eq_true c6
   clear c6
   obtain rfl := Option.some.inj H
   go_enter Try.func11, Try.ntmps11
   go_wp2_with (first | ((with_reducible refine gate_dst (N := 2) rfl ?_); refine box_event ?hg (N := 2) ?hd (cs := #[.int .i64 a0_0, .int .i64 a0_1, .int .i64 a0_2, .string a0_3, .string a0_4, .string a0_5, .string a0_6, .slice A0_7 l0_7.length c0_7]) (t := 41) ?hr ?_; (case hd => rfl); (case hg => rfl); (case hr => first | (go_simp; done) | (go_simp; rfl)); intro gb158 hg w7 hbox hb; have BK158 := A0 (hbox); have GW158 := A0 ((by rw [hg]; exact (below_size (by repeat (first | (with_reducible first | exact HB.out | apply wA | apply wN | apply wD) | exact HB.out))) : w.heap.size ≤ gb158)); have GE158 := A0 ((by rw [hg]; exact (below_size (by repeat (first | (with_reducible first | exact HB.out | apply wA | apply wN | apply wD) | exact HB.out))) : w.heap.size ≤ gb158)); replace HB := A0 (below_step (by repeat (first | (with_reducible first | exact HB.out | apply wA | apply wN | apply wD) | exact HB.out)) hb); clear hb hbox hg; obtain ⟨hcz8_0, hcz8_1, hcz8_2, hcz8_3, hcz8_4, hcz8_5, hcz8_6, hcz8_7, hfz8_0, hfz8_1, hfz8_2, hfz8_3, hfz8_4, hfz8_5, hfz8_6, hfz8_7⟩ := blk8 BK158.out) | ((with_reducible refine gate_callee (f := 27) rfl ?_); refine goesL_ (some 22) rfl rfl Try.func27 (by kernel_rfl) rfl #[.agg #[.int .i64 a0_0, .int .i64 a0_1, .int .i64 a0_2, .string a0_3, .string a0_4, .string a0_5, .string a0_6, .slice A0_7 l0_7.length c0_7], .int .i64 1048576] rfl (by (try simp only [List.map_toArray, List.map_cons, List.map_nil]); first | done | rfl) ?_; (with_reducible refine (laws_szHeader.calls a0_0 a0_1 a0_2 a0_3 a0_4 a0_5 a0_6 _ _ l0_7 1048576 t159 _ ?side1 ?side2 A5.out).mono ?_); (case side1 => repeat (first | exact (Kd.C_below HR0_7.out HB.out) | (with_reducible refine Kd.C_alloc ?_ _) | (with_reducible refine Kd.C_drewN ?_ _) | (with_reducible refine Kd.C_drew ?_))); (case side2 => exact HC0_7.out); rintro e w9 ⟨rfl, hb⟩; refine ⟨_, rfl, ?_⟩; replace BK158 := A0 (bB (g := gb158) (o := OB a0_0 a0_1 a0_2 a0_3 a0_4 a0_5 a0_6 (.slice A0_7 l0_7.length c0_7) 41) (by (with_reducible repeat (first | refine bN ?_ _ | refine bD ?_ | refine bA ?_ _)); exact BK158.out) hb); replace HB := A0 (below_step (by repeat (first | (with_reducible first | exact HB.out | apply wA | apply wN | apply wD | refine wS ?_ GE158.out) | exact HB.out)) hb); (try clear hb); (try clear hb2); (try clear hk); (try clear hi)))
   go_ret
   exact ⟨by first | rfl | (simp [errW_none, errW_some] <;> rfl) | (simp [*, errW_none, errW_some] <;> rfl), by repeat (first | (with_reducible first | exact HB.out | apply wA | apply wN | apply wD | refine wS ?_ GE158.out) | exact HB.out)⟩
  ·rw [if_neg c6] at H
   have c6b0 : decide (t159 < 0) = false := decide_eq_false c6
   clear c6
   replace H := Option.bind_eq_some_iff.mp H
   obtain ⟨⟨t160, t161, t162, t163, t164, t165, t166, t167⟩, A100, H⟩ := H
   replace H : ((laws_toIntS.f k l1).bind fun t170 => ((spec_VersionAnswer.f k t160 t161 t162 t163 t164 t165 t166 t167 t170).bind fun bt173 => ((laws_toHeader.f k a0_0 a0_1 a0_2 a0_3 a0_4 a0_5 a0_6 l0_7).bind fun bt185 => ((laws_toIntS.f k l1).bind fun t196 => ((impl_VersionAnswer.f k bt185.1 bt185.2.1 bt185.2.2.1 bt185.2.2.2.1 bt185.2.2.2.2.1 bt185.2.2.2.2.2.1 bt185.2.2.2.2.2.2.1 bt185.2.2.2.2.2.2.2 t196).bind fun bt199 => ((laws_eqHeader.f k bt199.1 bt199.2.1 bt199.2.2.1 bt199.2.2.2.1 bt199.2.2.2.2.1 bt199.2.2.2.2.2.1 bt199.2.2.2.2.2.2.1 bt199.2.2.2.2.2.2.2.1 bt173.1 bt173.2.1 bt173.2.2.1 bt173.2.2.2.1 bt173.2.2.2.2.1 bt173.2.2.2.2.2.1 bt173.2.2.2.2.2.2.1 bt173.2.2.2.2.2.2.2.1).bind fun t211 => (if t211 = true then (laws_FnExactVersionAnswer.j0 k l1 bt173.2.2.2.2.2.2.2.2 t196 bt199.2.2.2.2.2.2.2.2 (bt199.2.2.2.2.2.2.2.2 != bt173.2.2.2.2.2.2.2.2) a0_0 a0_1 a0_2 a0_3 a0_4 a0_5 a0_6 l0_7 bt173.1 bt173.2.1 bt173.2.2.1 bt173.2.2.2.1 bt173.2.2.2.2.1 bt173.2.2.2.2.2.1 bt173.2.2.2.2.2.2.1 bt173.2.2.2.2.2.2.2.1 bt185.1 bt185.2.1 bt185.2.2.1 bt185.2.2.2.1 bt185.2.2.2.2.1 bt185.2.2.2.2.2.1 bt185.2.2.2.2.2.2.1 bt185.2.2.2.2.2.2.2 bt199.1 bt199.2.1 bt199.2.2.1 bt199.2.2.2.1 bt199.2.2.2.2.1 bt199.2.2.2.2.2.1 bt199.2.2.2.2.2.2.1 bt199.2.2.2.2.2.2.2.1) else (laws_FnExactVersionAnswer.j0 k l1 bt173.2.2.2.2.2.2.2.2 t196 bt199.2.2.2.2.2.2.2.2 true a0_0 a0_1 a0_2 a0_3 a0_4 a0_5 a0_6 l0_7 bt173.1 bt173.2.1 bt173.2.2.1 bt173.2.2.2.1 bt173.2.2.2.2.1 bt173.2.2.2.2.2.1 bt173.2.2.2.2.2.2.1 bt173.2.2.2.2.2.2.2.1 bt185.1 bt185.2.1 bt185.2.2.1 bt185.2.2.2.1 bt185.2.2.2.2.1 bt185.2.2.2.2.2.1 bt185.2.2.2.2.2.2.1 bt185.2.2.2.2.2.2.2 bt199.1 bt199.2.1 bt199.2.2.1 bt199.2.2.2.1 bt199.2.2.2.2.1 bt199.2.2.2.2.2.1 bt199.2.2.2.2.2.2.1 bt199.2.2.2.2.2.2.2.1)))))))) = some r := H
   have A10 := A0 A100
   clear A100
   replace H := Option.bind_eq_some_iff.mp H
   obtain ⟨t170, A110, H⟩ := H
   replace H : ((spec_VersionAnswer.f k t160 t161 t162 t163 t164 t165 t166 t167 t170).bind fun bt173 => ((laws_toHeader.f k a0_0 a0_1 a0_2 a0_3 a0_4 a0_5 a0_6 l0_7).bind fun bt185 => ((laws_toIntS.f k l1).bind fun t196 => ((impl_VersionAnswer.f k bt185.1 bt185.2.1 bt185.2.2.1 bt185.2.2.2.1 bt185.2.2.2.2.1 bt185.2.2.2.2.2.1 bt185.2.2.2.2.2.2.1 bt185.2.2.2.2.2.2.2 t196).bind fun bt199 => ((laws_eqHeader.f k bt199.1 bt199.2.1 bt199.2.2.1 bt199.2.2.2.1 bt199.2.2.2.2.1 bt199.2.2.2.2.2.1 bt199.2.2.2.2.2.2.1 bt199.2.2.2.2.2.2.2.1 bt173.1 bt173.2.1 bt173.2.2.1 bt173.2.2.2.1 bt173.2.2.2.2.1 bt173.2.2.2.2.2.1 bt173.2.2.2.2.2.2.1 bt173.2.2.2.2.2.2.2.1).bind fun t211 => (if t211 = true then (laws_FnExactVersionAnswer.j0 k l1 bt173.2.2.2.2.2.2.2.2 t196 bt199.2.2.2.2.2.2.2.2 (bt199.2.2.2.2.2.2.2.2 != bt173.2.2.2.2.2.2.2.2) a0_0 a0_1 a0_2 a0_3 a0_4 a0_5 a0_6 l0_7 bt173.1 bt173.2.1 bt173.2.2.1 bt173.2.2.2.1 bt173.2.2.2.2.1 bt173.2.2.2.2.2.1 bt173.2.2.2.2.2.2.1 bt173.2.2.2.2.2.2.2.1 bt185.1 bt185.2.1 bt185.2.2.1 bt185.2.2.2.1 bt185.2.2.2.2.1 bt185.2.2.2.2.2.1 bt185.2.2.2.2.2.2.1 bt185.2.2.2.2.2.2.2 bt199.1 bt199.2.1 bt199.2.2.1 bt199.2.2.2.1 bt199.2.2.2.2.1 bt199.2.2.2.2.2.1 bt199.2.2.2.2.2.2.1 bt199.2.2.2.2.2.2.2.1) else (laws_FnExactVersionAnswer.j0 k l1 bt173.2.2.2.2.2.2.2.2 t196 bt199.2.2.2.2.2.2.2.2 true a0_0 a0_1 a0_2 a0_3 a0_4 a0_5 a0_6 l0_7 bt173.1 bt173.2.1 bt173.2.2.1 bt173.2.2.2.1 bt173.2.2.2.2.1 bt173.2.2.2.2.2.1 bt173.2.2.2.2.2.2.1 bt173.2.2.2.2.2.2.2.1 bt185.1 bt185.2.1 bt185.2.2.1 bt185.2.2.2.1 bt185.2.2.2.2.1 bt185.2.2.2.2.2.1 bt185.2.2.2.2.2.2.1 bt185.2.2.2.2.2.2.2 bt199.1 bt199.2.1 bt199.2.2.1 bt199.2.2.2.1 bt199.2.2.2.2.1 bt199.2.2.2.2.2.1 bt199.2.2.2.2.2.2.1 bt199.2.2.2.2.2.2.2.1))))))) = some r := H
   have A11 := A0 A110
   clear A110
   replace H := Option.bind_eq_some_iff.mp H
   obtain ⟨⟨t173, t174, t175, t176, t177, t178, t179, t180, t183⟩, A120, H⟩ := H
   replace H : ((laws_toHeader.f k a0_0 a0_1 a0_2 a0_3 a0_4 a0_5 a0_6 l0_7).bind fun bt185 => ((laws_toIntS.f k l1).bind fun t196 => ((impl_VersionAnswer.f k bt185.1 bt185.2.1 bt185.2.2.1 bt185.2.2.2.1 bt185.2.2.2.2.1 bt185.2.2.2.2.2.1 bt185.2.2.2.2.2.2.1 bt185.2.2.2.2.2.2.2 t196).bind fun bt199 => ((laws_eqHeader.f k bt199.1 bt199.2.1 bt199.2.2.1 bt199.2.2.2.1 bt199.2.2.2.2.1 bt199.2.2.2.2.2.1 bt199.2.2.2.2.2.2.1 bt199.2.2.2.2.2.2.2.1 t173 t174 t175 t176 t177 t178 t179 t180).bind fun t211 => (if t211 = true then (laws_FnExactVersionAnswer.j0 k l1 t183 t196 bt199.2.2.2.2.2.2.2.2 (bt199.2.2.2.2.2.2.2.2 != t183) a0_0 a0_1 a0_2 a0_3 a0_4 a0_5 a0_6 l0_7 t173 t174 t175 t176 t177 t178 t179 t180 bt185.1 bt185.2.1 bt185.2.2.1 bt185.2.2.2.1 bt185.2.2.2.2.1 bt185.2.2.2.2.2.1 bt185.2.2.2.2.2.2.1 bt185.2.2.2.2.2.2.2 bt199.1 bt199.2.1 bt199.2.2.1 bt199.2.2.2.1 bt199.2.2.2.2.1 bt199.2.2.2.2.2.1 bt199.2.2.2.2.2.2.1 bt199.2.2.2.2.2.2.2.1) else (laws_FnExactVersionAnswer.j0 k l1 t183 t196 bt199.2.2.2.2.2.2.2.2 true a0_0 a0_1 a0_2 a0_3 a0_4 a0_5 a0_6 l0_7 t173 t174 t175 t176 t177 t178 t179 t180 bt185.1 bt185.2.1 bt185.2.2.1 bt185.2.2.2.1 bt185.2.2.2.2.1 bt185.2.2.2.2.2.1 bt185.2.2.2.2.2.2.1 bt185.2.2.2.2.2.2.2 bt199.1 bt199.2.1 bt199.2.2.1 bt199.2.2.2.1 bt199.2.2.2.2.1 bt199.2.2.2.2.2.1 bt199.2.2.2.2.2.2.1 bt199.2.2.2.2.2.2.2.1)))))) = some r := H
   have A12 := A0 A120
   clear A120
   replace H := Option.bind_eq_some_iff.mp H
   obtain ⟨⟨t185, t186, t187, t188, t189, t190, t191, t192⟩, A130, H⟩ := H
   replace H : ((laws_toIntS.f k l1).bind fun t196 => ((impl_VersionAnswer.f k t185 t186 t187 t188 t189 t190 t191 t192 t196).bind fun bt199 => ((laws_eqHeader.f k bt199.1 bt199.2.1 bt199.2.2.1 bt199.2.2.2.1 bt199.2.2.2.2.1 bt199.2.2.2.2.2.1 bt199.2.2.2.2.2.2.1 bt199.2.2.2.2.2.2.2.1 t173 t174 t175 t176 t177 t178 t179 t180).bind fun t211 => (if t211 = true then (laws_FnExactVersionAnswer.j0 k l1 t183 t196 bt199.2.2.2.2.2.2.2.2 (bt199.2.2.2.2.2.2.2.2 != t183) a0_0 a0_1 a0_2 a0_3 a0_4 a0_5 a0_6 l0_7 t173 t174 t175 t176 t177 t178 t179 t180 t185 t186 t187 t188 t189 t190 t191 t192 bt199.1 bt199.2.1 bt199.2.2.1 bt199.2.2.2.1 bt199.2.2.2.2.1 bt199.2.2.2.2.2.1 bt199.2.2.2.2.2.2.1 bt199.2.2.2.2.2.2.2.1) else (laws_FnExactVersionAnswer.j0 k l1 t183 t196 bt199.2.2.2.2.2.2.2.2 true a0_0 a0_1 a0_2 a0_3 a0_4 a0_5 a0_6 l0_7 t173 t174 t175 t176 t177 t178 t179 t180 t185 t186 t187 t188 t189 t190 t191 t192 bt199.1 bt199.2.1 bt199.2.2.1 bt199.2.2.2.1 bt199.2.2.2.2.1 bt199.2.2.2.2.2.1 bt199.2.2.2.2.2.2.1 bt199.2.2.2.2.2.2.2.1))))) = some r := H
   have A13 := A0 A130
   clear A130
   replace H := Option.bind_eq_some_iff.mp H
   obtain ⟨t196, A140, H⟩ := H
   replace H : ((impl_VersionAnswer.f k t185 t186 t187 t188 t189 t190 t191 t192 t196).bind fun bt199 => ((laws_eqHeader.f k bt199.1 bt199.2.1 bt199.2.2.1 bt199.2.2.2.1 bt199.2.2.2.2.1 bt199.2.2.2.2.2.1 bt199.2.2.2.2.2.2.1 bt199.2.2.2.2.2.2.2.1 t173 t174 t175 t176 t177 t178 t179 t180).bind fun t211 => (if t211 = true then (laws_FnExactVersionAnswer.j0 k l1 t183 t196 bt199.2.2.2.2.2.2.2.2 (bt199.2.2.2.2.2.2.2.2 != t183) a0_0 a0_1 a0_2 a0_3 a0_4 a0_5 a0_6 l0_7 t173 t174 t175 t176 t177 t178 t179 t180 t185 t186 t187 t188 t189 t190 t191 t192 bt199.1 bt199.2.1 bt199.2.2.1 bt199.2.2.2.1 bt199.2.2.2.2.1 bt199.2.2.2.2.2.1 bt199.2.2.2.2.2.2.1 bt199.2.2.2.2.2.2.2.1) else (laws_FnExactVersionAnswer.j0 k l1 t183 t196 bt199.2.2.2.2.2.2.2.2 true a0_0 a0_1 a0_2 a0_3 a0_4 a0_5 a0_6 l0_7 t173 t174 t175 t176 t177 t178 t179 t180 t185 t186 t187 t188 t189 t190 t191 t192 bt199.1 bt199.2.1 bt199.2.2.1 bt199.2.2.2.1 bt199.2.2.2.2.1 bt199.2.2.2.2.2.1 bt199.2.2.2.2.2.2.1 bt199.2.2.2.2.2.2.2.1)))) = some r := H
   have A14 := A0 A140
   clear A140
   replace H := Option.bind_eq_some_iff.mp H
   obtain ⟨⟨t199, t200, t201, t202, t203, t204, t205, t206, t209⟩, A150, H⟩ := H
   replace H : ((laws_eqHeader.f k t199 t200 t201 t202 t203 t204 t205 t206 t173 t174 t175 t176 t177 t178 t179 t180).bind fun t211 => (if t211 = true then (laws_FnExactVersionAnswer.j0 k l1 t183 t196 t209 (t209 != t183) a0_0 a0_1 a0_2 a0_3 a0_4 a0_5 a0_6 l0_7 t173 t174 t175 t176 t177 t178 t179 t180 t185 t186 t187 t188 t189 t190 t191 t192 t199 t200 t201 t202 t203 t204 t205 t206) else (laws_FnExactVersionAnswer.j0 k l1 t183 t196 t209 true a0_0 a0_1 a0_2 a0_3 a0_4 a0_5 a0_6 l0_7 t173 t174 t175 t176 t177 t178 t179 t180 t185 t186 t187 t188 t189 t190 t191 t192 t199 t200 t201 t202 t203 t204 t205 t206))) = some r := H
   have A15 := A0 A150
   clear A150
   have HC16 := A0 H
   clear H
   go_enter Try.func11, Try.ntmps11
   go_upto_region 11 with (first | ((with_reducible refine gate_dst (N := 2) rfl ?_); refine box_event ?hg (N := 2) ?hd (cs := #[.int .i64 a0_0, .int .i64 a0_1, .int .i64 a0_2, .string a0_3, .string a0_4, .string a0_5, .string a0_6, .slice A0_7 l0_7.length c0_7]) (t := 41) ?hr ?_; (case hd => rfl); (case hg => rfl); (case hr => first | (go_simp; done) | (go_simp; rfl)); intro gb158 hg w17 hbox hb; have BK158 := A0 (hbox); have GW158 := A0 ((by rw [hg]; exact (below_size (by repeat (first | (with_reducible first | exact HB.out | apply wA | apply wN | apply wD) | exact HB.out))) : w.heap.size ≤ gb158)); have GE158 := A0 ((by rw [hg]; exact (below_size (by repeat (first | (with_reducible first | exact HB.out | apply wA | apply wN | apply wD) | exact HB.out))) : w.heap.size ≤ gb158)); replace HB := A0 (below_step (by repeat (first | (with_reducible first | exact HB.out | apply wA | apply wN | apply wD) | exact HB.out)) hb); clear hb hbox hg; obtain ⟨hcz18_0, hcz18_1, hcz18_2, hcz18_3, hcz18_4, hcz18_5, hcz18_6, hcz18_7, hfz18_0, hfz18_1, hfz18_2, hfz18_3, hfz18_4, hfz18_5, hfz18_6, hfz18_7⟩ := blk8 BK158.out) | ((with_reducible refine gate_callee (f := 27) rfl ?_); refine goesL_ (some 22) rfl rfl Try.func27 (by kernel_rfl) rfl #[.agg #[.int .i64 a0_0, .int .i64 a0_1, .int .i64 a0_2, .string a0_3, .string a0_4, .string a0_5, .string a0_6, .slice A0_7 l0_7.length c0_7], .int .i64 1048576] rfl (by (try simp only [List.map_toArray, List.map_cons, List.map_nil]); first | done | rfl) ?_; (with_reducible refine (laws_szHeader.calls a0_0 a0_1 a0_2 a0_3 a0_4 a0_5 a0_6 _ _ l0_7 1048576 t159 _ ?side1 ?side2 A5.out).mono ?_); (case side1 => repeat (first | exact (Kd.C_below HR0_7.out HB.out) | (with_reducible refine Kd.C_alloc ?_ _) | (with_reducible refine Kd.C_drewN ?_ _) | (with_reducible refine Kd.C_drew ?_))); (case side2 => exact HC0_7.out); rintro e w19 ⟨rfl, hb⟩; refine ⟨_, rfl, ?_⟩; replace BK158 := A0 (bB (g := gb158) (o := OB a0_0 a0_1 a0_2 a0_3 a0_4 a0_5 a0_6 (.slice A0_7 l0_7.length c0_7) 41) (by (with_reducible repeat (first | refine bN ?_ _ | refine bD ?_ | refine bA ?_ _)); exact BK158.out) hb); replace HB := A0 (below_step (by repeat (first | (with_reducible first | exact HB.out | apply wA | apply wN | apply wD | refine wS ?_ GE158.out) | exact HB.out)) hb); (try clear hb); (try clear hb2); (try clear hk); (try clear hi); obtain ⟨hcz20_0, hcz20_1, hcz20_2, hcz20_3, hcz20_4, hcz20_5, hcz20_6, hcz20_7, hfz20_0, hfz20_1, hfz20_2, hfz20_3, hfz20_4, hfz20_5, hfz20_6, hfz20_7⟩ := blk8 BK158.out) | ((with_reducible refine gate_callee (f := 29) rfl ?_); refine goesL_ (some 27) rfl rfl Try.func29 (by kernel_rfl) rfl #[.agg #[.int .i64 a0_0, .int .i64 a0_1, .int .i64 a0_2, .string a0_3, .string a0_4, .string a0_5, .string a0_6, .slice A0_7 l0_7.length c0_7]] rfl (by (try simp only [List.map_toArray, List.map_cons, List.map_nil]); first | done | rfl) ?_; (with_reducible refine (laws_toHeader.calls k a0_0 a0_1 a0_2 a0_3 a0_4 a0_5 a0_6 _ _ l0_7 t160 t161 t162 t163 t164 t165 t166 t167 _ ?side1 ?side2 A10.out).mono ?_); (case side1 => repeat (first | exact (Kd.C_below HR0_7.out HB.out) | (with_reducible refine Kd.C_alloc ?_ _) | (with_reducible refine Kd.C_drewN ?_ _) | (with_reducible refine Kd.C_drew ?_))); (case side2 => exact HC0_7.out); rintro e w21 ⟨v168, rfl, ho0, hb⟩; refine ⟨_, rfl, ?_⟩; have HO169 := A0 (Kd.R_lower ho0 (below_size (by repeat (first | (with_reducible first | exact HB.out | apply wA | apply wN | apply wD | refine wS ?_ GE158.out) | exact HB.out)))); replace BK158 := A0 (bB (g := gb158) (o := OB a0_0 a0_1 a0_2 a0_3 a0_4 a0_5 a0_6 (.slice A0_7 l0_7.length c0_7) 41) (by (with_reducible repeat (first | refine bN ?_ _ | refine bD ?_ | refine bA ?_ _)); exact BK158.out) hb); replace HB := A0 (below_step (by repeat (first | (with_reducible first | exact HB.out | apply wA | apply wN | apply wD | refine wS ?_ GE158.out) | exact HB.out)) hb); (try clear hb); (try clear hb2); (try clear hk); (try clear hi); (try clear ho0)) | ((with_reducible refine gate_callee (f := 38) rfl ?_); refine goesL_ (some 29) rfl rfl Try.func38 (by kernel_rfl) rfl #[.slice A1 l1.length c1] rfl (by (try simp only [List.map_toArray, List.map_cons, List.map_nil]); first | done | rfl) ?_; (with_reducible refine (laws_toIntS.calls k _ _ l1 t170 _ ?side1 ?side2 A11.out).mono ?_); (case side1 => repeat (first | exact (Kd.C_below HR1.out HB.out) | (with_reducible refine Kd.C_alloc ?_ _) | (with_reducible refine Kd.C_drewN ?_ _) | (with_reducible refine Kd.C_drew ?_))); (case side2 => exact HC1.out); rintro e w22 ⟨v171, rfl, ho0, hb⟩; refine ⟨_, rfl, ?_⟩; have HO172 := A0 (Kd.R_lower (Kd.R_new' ho0 (Kd.R_lt (by (with_reducible repeat (first | apply rA | apply rN | apply rD)); exact HO169.out))) (below_size (by repeat (first | (with_reducible first | exact HB.out | apply wA | apply wN | apply wD | refine wS ?_ GE158.out) | exact HB.out)))); replace HO169 := A0 (Kd.R_elder' (by (with_reducible repeat (first | apply rA | apply rN | apply rD)); exact HO169.out) (Kd.R_base ho0) hb); replace BK158 := A0 (bB (g := gb158) (o := OB a0_0 a0_1 a0_2 a0_3 a0_4 a0_5 a0_6 (.slice A0_7 l0_7.length c0_7) 41) (by (with_reducible repeat (first | refine bN ?_ _ | refine bD ?_ | refine bA ?_ _)); exact BK158.out) hb); replace HB := A0 (below_step (by repeat (first | (with_reducible first | exact HB.out | apply wA | apply wN | apply wD | refine wS ?_ GE158.out) | exact HB.out)) hb); (try clear hb); (try clear hb2); (try clear hk); (try clear hi); (try clear ho0); obtain ⟨Ao23, co23, eo23⟩ := Kd.R_slice HO169.out; subst eo23; obtain ⟨Ao24, co24, eo24⟩ := Kd.R_slice HO172.out; subst eo24) | ((with_reducible refine gate_callee (f := 37) rfl ?_); refine goesL_ (some 30) rfl rfl Try.func37 (by kernel_rfl) rfl #[.agg #[.int .i64 t160, .int .i64 t161, .int .i64 t162, .string t163, .string t164, .string t165, .string t166, .slice Ao23 t167.length co23], .slice Ao24 t170.length co24] rfl (by (try simp only [List.map_toArray, List.map_cons, List.map_nil]); first | done | rfl) ?_; (with_reducible refine (spec_VersionAnswer.calls k t160 t161 t162 t163 t164 t165 t166 _ _ t167 _ _ t170 t173 t174 t175 t176 t177 t178 t179 t180 t183 _ ?side1 ?side2 ?side3 ?side4 A12.out).mono ?_); (case side1 => repeat (first | exact (Kd.R_reads' HO169.out).2.2 | (with_reducible refine Kd.C_alloc ?_ _) | (with_reducible refine Kd.C_drewN ?_ _) | (with_reducible refine Kd.C_drew ?_))); (case side2 => exact (Kd.R_reads' HO169.out).2.1); (case side3 => repeat (first | exact (Kd.R_reads' HO172.out).2.2 | (with_reducible refine Kd.C_alloc ?_ _) | (with_reducible refine Kd.C_drewN ?_ _) | (with_reducible refine Kd.C_drew ?_))); (case side4 => exact (Kd.R_reads' HO172.out).2.1); rintro e w25 ⟨v181, rfl, ho0, hb⟩; refine ⟨_, rfl, ?_⟩; have HO182 := A0 (Kd.R_lower (Kd.R_new' (Kd.R_new' ho0 (Kd.R_lt (by (with_reducible repeat (first | apply rA | apply rN | apply rD)); exact HO169.out))) (Kd.R_lt (by (with_reducible repeat (first | apply rA | apply rN | apply rD)); exact HO172.out))) (below_size (by repeat (first | (with_reducible first | exact HB.out | apply wA | apply wN | apply wD | refine wS ?_ GE158.out) | exact HB.out)))); replace HO169 := A0 (Kd.R_elder' (by (with_reducible repeat (first | apply rA | apply rN | apply rD)); exact HO169.out) (Kd.R_base ho0) hb); replace HO172 := A0 (Kd.R_elder' (by (with_reducible repeat (first | apply rA | apply rN | apply rD)); exact HO172.out) (Kd.R_base ho0) hb); replace BK158 := A0 (bB (g := gb158) (o := OB a0_0 a0_1 a0_2 a0_3 a0_4 a0_5 a0_6 (.slice A0_7 l0_7.length c0_7) 41) (by (with_reducible repeat (first | refine bN ?_ _ | refine bD ?_ | refine bA ?_ _)); exact BK158.out) hb); replace HB := A0 (below_step (by repeat (first | (with_reducible first | exact HB.out | apply wA | apply wN | apply wD | refine wS ?_ GE158.out) | exact HB.out)) hb); (try clear hb); (try clear hb2); (try clear hk); (try clear hi); (try clear ho0)) | ((with_reducible refine gate_dst (N := 6) rfl ?_); refine box_event ?hg (N := 6) ?hd (cs := #[.int .i64 0, .int .i64 0, .int .i64 0, .string (⟨#[]⟩ : ByteArray), .string (⟨#[]⟩ : ByteArray), .string (⟨#[]⟩ : ByteArray), .string (⟨#[]⟩ : ByteArray), .slice none 0 0]) (t := 44) ?hr ?_; (case hd => rfl); (case hg => rfl); (case hr => first | (go_simp; done) | (go_simp; rfl)); intro gb184 hg w26 hbox hb; replace HO169 := A0 (rB (by (with_reducible repeat (first | apply rA | apply rN | apply rD)); exact HO169.out) hb); replace HO172 := A0 (rB (by (with_reducible repeat (first | apply rA | apply rN | apply rD)); exact HO172.out) hb); replace HO182 := A0 (rB (by (with_reducible repeat (first | apply rA | apply rN | apply rD)); exact HO182.out) hb); have BK184 := A0 (hbox); have GW184 := A0 ((by rw [hg]; exact (below_size (by repeat (first | (with_reducible first | exact HB.out | apply wA | apply wN | apply wD | refine wS ?_ GE158.out) | exact HB.out))) : w.heap.size ≤ gb184)); have GE184 := A0 ((by rw [hg]; exact (below_size (by repeat (first | (with_reducible first | exact HB.out | apply wA | apply wN | apply wD | refine wS ?_ GE158.out) | exact HB.out))) : w.heap.size ≤ gb184)); replace HB := A0 (below_step (by repeat (first | (with_reducible first | exact HB.out | apply wA | apply wN | apply wD | refine wS ?_ GE158.out) | exact HB.out)) hb); have NB158_184 := A0 ((by rw [hg]; exact Nat.ne_of_lt (blk_lt (g := gb158) (o := OB a0_0 a0_1 a0_2 a0_3 a0_4 a0_5 a0_6 (.slice A0_7 l0_7.length c0_7) 41) (by (with_reducible repeat (first | refine bN ?_ _ | refine bD ?_ | refine bA ?_ _)); exact BK158.out)) : gb158 ≠ gb184)); have NB184_158 := A0 ((by rw [hg]; exact Nat.ne_of_gt (blk_lt (g := gb158) (o := OB a0_0 a0_1 a0_2 a0_3 a0_4 a0_5 a0_6 (.slice A0_7 l0_7.length c0_7) 41) (by (with_reducible repeat (first | refine bN ?_ _ | refine bD ?_ | refine bA ?_ _)); exact BK158.out)) : gb184 ≠ gb158)); replace BK158 := A0 (bB (g := gb158) (o := OB a0_0 a0_1 a0_2 a0_3 a0_4 a0_5 a0_6 (.slice A0_7 l0_7.length c0_7) 41) (by (with_reducible repeat (first | refine bN ?_ _ | refine bD ?_ | refine bA ?_ _)); exact BK158.out) hb); clear hb hbox hg; have hnb27 := NB184_158.out; have hnc27 := NB158_184.out; obtain ⟨hcz28_0, hcz28_1, hcz28_2, hcz28_3, hcz28_4, hcz28_5, hcz28_6, hcz28_7, hfz28_0, hfz28_1, hfz28_2, hfz28_3, hfz28_4, hfz28_5, hfz28_6, hfz28_7⟩ := blk8 BK184.out; obtain ⟨Ao29, co29, eo29⟩ := Kd.R_slice HO182.out; subst eo29; obtain ⟨hcz30_0, hcz30_1, hcz30_2, hcz30_3, hcz30_4, hcz30_5, hcz30_6, hcz30_7, hfz30_0, hfz30_1, hfz30_2, hfz30_3, hfz30_4, hfz30_5, hfz30_6, hfz30_7⟩ := blk8 BK158.out) | ((with_reducible refine gate_callee (f := 29) rfl ?_); refine goesL_ (some 34) rfl rfl Try.func29 (by kernel_rfl) rfl #[.agg #[.int .i64 a0_0, .int .i64 a0_1, .int .i64 a0_2, .string a0_3, .string a0_4, .string a0_5, .string a0_6, .slice A0_7 l0_7.length c0_7]] rfl (by (try simp only [List.map_toArray, List.map_cons, List.map_nil]); first | done | rfl) ?_; (with_reducible refine (laws_toHeader.calls k a0_0 a0_1 a0_2 a0_3 a0_4 a0_5 a0_6 _ _ l0_7 t185 t186 t187 t188 t189 t190 t191 t192 _ ?side1 ?side2 A13.out).mono ?_); (case side1 => exact Kd.C_below HR0_7.out (by repeat (first | (with_reducible first | exact HB.out | apply wA | apply wN | apply wD | refine wS ?_ GE158.out | refine wS ?_ GE184.out) | exact HB.out))); (case side2 => exact HC0_7.out); rintro e w31 ⟨v193, rfl, ho0, hb⟩; refine ⟨_, rfl, ?_⟩; have HO194 := A0 (Kd.R_lower (Kd.R_new' (Kd.R_new' (Kd.R_new' ho0 (Kd.R_lt (by (with_reducible repeat (first | apply rA | apply rN | apply rD)); exact (Kd.R_mono (Kd.R_far8 (g := gb184) (Kd.R_types HO169.out BK184.out (by decide)) (fun _ hk => hk.2)) (fun _ h_ => h_.1))))) (Kd.R_lt (by (with_reducible repeat (first | apply rA | apply rN | apply rD)); exact (Kd.R_mono (Kd.R_far8 (g := gb184) (Kd.R_types HO172.out BK184.out (by decide)) (fun _ hk => hk.2)) (fun _ h_ => h_.1))))) (Kd.R_lt (by (with_reducible repeat (first | apply rA | apply rN | apply rD)); exact (Kd.R_mono (Kd.R_far8 (g := gb184) (Kd.R_types HO182.out BK184.out (by decide)) (fun _ hk => hk.2)) (fun _ h_ => h_.1))))) (below_size (by repeat (first | (with_reducible first | exact HB.out | apply wA | apply wN | apply wD | refine wS ?_ GE158.out | refine wS ?_ GE184.out) | exact HB.out)))); replace HO169 := A0 (Kd.R_elder' (by (with_reducible repeat (first | apply rA | apply rN | apply rD)); exact (Kd.R_mono (Kd.R_far8 (g := gb184) (Kd.R_types HO169.out BK184.out (by decide)) (fun _ hk => hk.2)) (fun _ h_ => h_.1))) (Kd.R_base ho0) hb); replace HO172 := A0 (Kd.R_elder' (by (with_reducible repeat (first | apply rA | apply rN | apply rD)); exact (Kd.R_mono (Kd.R_far8 (g := gb184) (Kd.R_types HO172.out BK184.out (by decide)) (fun _ hk => hk.2)) (fun _ h_ => h_.1))) (Kd.R_base ho0) hb); replace HO182 := A0 (Kd.R_elder' (by (with_reducible repeat (first | apply rA | apply rN | apply rD)); exact (Kd.R_mono (Kd.R_far8 (g := gb184) (Kd.R_types HO182.out BK184.out (by decide)) (fun _ hk => hk.2)) (fun _ h_ => h_.1))) (Kd.R_base ho0) hb); replace BK158 := A0 (bB (g := gb158) (o := OB a0_0 a0_1 a0_2 a0_3 a0_4 a0_5 a0_6 (.slice A0_7 l0_7.length c0_7) 41) (by (with_reducible repeat (first | refine bN ?_ _ | refine bD ?_ | refine bA ?_ _)); refine blk_far ?_ NB158_184.out _; (with_reducible repeat (first | refine bN ?_ _ | refine bD ?_ | refine bA ?_ _)); refine blk_far ?_ NB158_184.out _; (with_reducible repeat (first | refine bN ?_ _ | refine bD ?_ | refine bA ?_ _)); refine blk_far ?_ NB158_184.out _; (with_reducible repeat (first | refine bN ?_ _ | refine bD ?_ | refine bA ?_ _)); refine blk_far ?_ NB158_184.out _; (with_reducible repeat (first | refine bN ?_ _ | refine bD ?_ | refine bA ?_ _)); refine blk_far ?_ NB158_184.out _; (with_reducible repeat (first | refine bN ?_ _ | refine bD ?_ | refine bA ?_ _)); refine blk_far ?_ NB158_184.out _; (with_reducible repeat (first | refine bN ?_ _ | refine bD ?_ | refine bA ?_ _)); refine blk_far ?_ NB158_184.out _; (with_reducible repeat (first | refine bN ?_ _ | refine bD ?_ | refine bA ?_ _)); refine blk_far ?_ NB158_184.out _; (with_reducible repeat (first | refine bN ?_ _ | refine bD ?_ | refine bA ?_ _)); exact BK158.out) hb); replace BK184 := A0 (bB (g := gb184) (o := OB t173 t174 t175 t176 t177 t178 t179 (.slice Ao29 t180.length co29) 44) (by (with_reducible repeat (first | refine bN ?_ _ | refine bD ?_ | refine bA ?_ _)); refine blk_put (cs := #[.int .i64 t173, .int .i64 t174, .int .i64 t175, .string t176, .string t177, .string t178, .string t179, .slice none 0 0]) ?_ 7 _ rfl; (with_reducible repeat (first | refine bN ?_ _ | refine bD ?_ | refine bA ?_ _)); refine blk_put (cs := #[.int .i64 t173, .int .i64 t174, .int .i64 t175, .string t176, .string t177, .string t178, .string (⟨#[]⟩ : ByteArray), .slice none 0 0]) ?_ 6 _ rfl; (with_reducible repeat (first | refine bN ?_ _ | refine bD ?_ | refine bA ?_ _)); refine blk_put (cs := #[.int .i64 t173, .int .i64 t174, .int .i64 t175, .string t176, .string t177, .string (⟨#[]⟩ : ByteArray), .string (⟨#[]⟩ : ByteArray), .slice none 0 0]) ?_ 5 _ rfl; (with_reducible repeat (first | refine bN ?_ _ | refine bD ?_ | refine bA ?_ _)); refine blk_put (cs := #[.int .i64 t173, .int .i64 t174, .int .i64 t175, .string t176, .string (⟨#[]⟩ : ByteArray), .string (⟨#[]⟩ : ByteArray), .string (⟨#[]⟩ : ByteArray), .slice none 0 0]) ?_ 4 _ rfl; (with_reducible repeat (first | refine bN ?_ _ | refine bD ?_ | refine bA ?_ _)); refine blk_put (cs := #[.int .i64 t173, .int .i64 t174, .int .i64 t175, .string (⟨#[]⟩ : ByteArray), .string (⟨#[]⟩ : ByteArray), .string (⟨#[]⟩ : ByteArray), .string (⟨#[]⟩ : ByteArray), .slice none 0 0]) ?_ 3 _ rfl; (with_reducible repeat (first | refine bN ?_ _ | refine bD ?_ | refine bA ?_ _)); refine blk_put (cs := #[.int .i64 t173, .int .i64 t174, .int .i64 0, .string (⟨#[]⟩ : ByteArray), .string (⟨#[]⟩ : ByteArray), .string (⟨#[]⟩ : ByteArray), .string (⟨#[]⟩ : ByteArray), .slice none 0 0]) ?_ 2 _ rfl; (with_reducible repeat (first | refine bN ?_ _ | refine bD ?_ | refine bA ?_ _)); refine blk_put (cs := #[.int .i64 t173, .int .i64 0, .int .i64 0, .string (⟨#[]⟩ : ByteArray), .string (⟨#[]⟩ : ByteArray), .string (⟨#[]⟩ : ByteArray), .string (⟨#[]⟩ : ByteArray), .slice none 0 0]) ?_ 1 _ rfl; (with_reducible repeat (first | refine bN ?_ _ | refine bD ?_ | refine bA ?_ _)); refine blk_put (cs := #[.int .i64 0, .int .i64 0, .int .i64 0, .string (⟨#[]⟩ : ByteArray), .string (⟨#[]⟩ : ByteArray), .string (⟨#[]⟩ : ByteArray), .string (⟨#[]⟩ : ByteArray), .slice none 0 0]) ?_ 0 _ rfl; (with_reducible repeat (first | refine bN ?_ _ | refine bD ?_ | refine bA ?_ _)); exact BK184.out) hb); replace HB := A0 (below_step (by repeat (first | (with_reducible first | exact HB.out | apply wA | apply wN | apply wD | refine wS ?_ GE158.out | refine wS ?_ GE184.out) | exact HB.out)) hb); (try clear hb); (try clear hb2); (try clear hk); (try clear hi); (try clear ho0)) | ((with_reducible refine gate_dst (N := 8) rfl ?_); refine box_event ?hg (N := 8) ?hd (cs := #[.int .i64 0, .int .i64 0, .int .i64 0, .string (⟨#[]⟩ : ByteArray), .string (⟨#[]⟩ : ByteArray), .string (⟨#[]⟩ : ByteArray), .string (⟨#[]⟩ : ByteArray), .slice none 0 0]) (t := 44) ?hr ?_; (case hd => rfl); (case hg => rfl); (case hr => first | (go_simp; done) | (go_simp; rfl)); intro gb195 hg w32 hbox hb; replace HO169 := A0 (rB (by (with_reducible repeat (first | apply rA | apply rN | apply rD)); exact HO169.out) hb); replace HO172 := A0 (rB (by (with_reducible repeat (first | apply rA | apply rN | apply rD)); exact HO172.out) hb); replace HO182 := A0 (rB (by (with_reducible repeat (first | apply rA | apply rN | apply rD)); exact HO182.out) hb); replace HO194 := A0 (rB (by (with_reducible repeat (first | apply rA | apply rN | apply rD)); exact HO194.out) hb); have BK195 := A0 (hbox); have GW195 := A0 ((by rw [hg]; exact (below_size (by repeat (first | (with_reducible first | exact HB.out | apply wA | apply wN | apply wD | refine wS ?_ GE158.out | refine wS ?_ GE184.out) | exact HB.out))) : w.heap.size ≤ gb195)); have GE195 := A0 ((by rw [hg]; exact (below_size (by repeat (first | (with_reducible first | exact HB.out | apply wA | apply wN | apply wD | refine wS ?_ GE158.out | refine wS ?_ GE184.out) | exact HB.out))) : w.heap.size ≤ gb195)); replace HB := A0 (below_step (by repeat (first | (with_reducible first | exact HB.out | apply wA | apply wN | apply wD | refine wS ?_ GE158.out | refine wS ?_ GE184.out) | exact HB.out)) hb); have NB158_195 := A0 ((by rw [hg]; exact Nat.ne_of_lt (blk_lt (g := gb158) (o := OB a0_0 a0_1 a0_2 a0_3 a0_4 a0_5 a0_6 (.slice A0_7 l0_7.length c0_7) 41) (by (with_reducible repeat (first | refine bN ?_ _ | refine bD ?_ | refine bA ?_ _)); exact BK158.out)) : gb158 ≠ gb195)); have NB195_158 := A0 ((by rw [hg]; exact Nat.ne_of_gt (blk_lt (g := gb158) (o := OB a0_0 a0_1 a0_2 a0_3 a0_4 a0_5 a0_6 (.slice A0_7 l0_7.length c0_7) 41) (by (with_reducible repeat (first | refine bN ?_ _ | refine bD ?_ | refine bA ?_ _)); exact BK158.out)) : gb195 ≠ gb158)); replace BK158 := A0 (bB (g := gb158) (o := OB a0_0 a0_1 a0_2 a0_3 a0_4 a0_5 a0_6 (.slice A0_7 l0_7.length c0_7) 41) (by (with_reducible repeat (first | refine bN ?_ _ | refine bD ?_ | refine bA ?_ _)); exact BK158.out) hb); have NB184_195 := A0 ((by rw [hg]; exact Nat.ne_of_lt (blk_lt (g := gb184) (o := OB t173 t174 t175 t176 t177 t178 t179 (.slice Ao29 t180.length co29) 44) (by (with_reducible repeat (first | refine bN ?_ _ | refine bD ?_ | refine bA ?_ _)); exact BK184.out)) : gb184 ≠ gb195)); have NB195_184 := A0 ((by rw [hg]; exact Nat.ne_of_gt (blk_lt (g := gb184) (o := OB t173 t174 t175 t176 t177 t178 t179 (.slice Ao29 t180.length co29) 44) (by (with_reducible repeat (first | refine bN ?_ _ | refine bD ?_ | refine bA ?_ _)); exact BK184.out)) : gb195 ≠ gb184)); replace BK184 := A0 (bB (g := gb184) (o := OB t173 t174 t175 t176 t177 t178 t179 (.slice Ao29 t180.length co29) 44) (by (with_reducible repeat (first | refine bN ?_ _ | refine bD ?_ | refine bA ?_ _)); exact BK184.out) hb); clear hb hbox hg; have hnb33 := NB195_158.out; have hnc33 := NB158_195.out; have hnb34 := NB195_184.out; have hnc34 := NB184_195.out; obtain ⟨hcz35_0, hcz35_1, hcz35_2, hcz35_3, hcz35_4, hcz35_5, hcz35_6, hcz35_7, hfz35_0, hfz35_1, hfz35_2, hfz35_3, hfz35_4, hfz35_5, hfz35_6, hfz35_7⟩ := blk8 BK195.out; obtain ⟨Ao36, co36, eo36⟩ := Kd.R_slice HO194.out; subst eo36) | ((with_reducible refine gate_callee (f := 38) rfl ?_); refine goesL_ (some 36) rfl rfl Try.func38 (by kernel_rfl) rfl #[.slice A1 l1.length c1] rfl (by (try simp only [List.map_toArray, List.map_cons, List.map_nil]); first | done | rfl) ?_; (with_reducible refine (laws_toIntS.calls k _ _ l1 t196 _ ?side1 ?side2 A14.out).mono ?_); (case side1 => exact Kd.C_below HR1.out (by repeat (first | (with_reducible first | exact HB.out | apply wA | apply wN | apply wD | refine wS ?_ GE158.out | refine wS ?_ GE184.out | refine wS ?_ GE195.out) | exact HB.out))); (case side2 => exact HC1.out); rintro e w37 ⟨v197, rfl, ho0, hb⟩; refine ⟨_, rfl, ?_⟩; have HO198 := A0 (Kd.R_lower (Kd.R_new' (Kd.R_new' (Kd.R_new' (Kd.R_new' ho0 (Kd.R_lt (by (with_reducible repeat (first | apply rA | apply rN | apply rD)); exact (Kd.R_mono (Kd.R_far8 (g := gb195) (Kd.R_types HO169.out BK195.out (by decide)) (fun _ hk => hk.2)) (fun _ h_ => h_.1))))) (Kd.R_lt (by (with_reducible repeat (first | apply rA | apply rN | apply rD)); exact (Kd.R_mono (Kd.R_far8 (g := gb195) (Kd.R_types HO172.out BK195.out (by decide)) (fun _ hk => hk.2)) (fun _ h_ => h_.1))))) (Kd.R_lt (by (with_reducible repeat (first | apply rA | apply rN | apply rD)); exact (Kd.R_mono (Kd.R_far8 (g := gb195) (Kd.R_types HO182.out BK195.out (by decide)) (fun _ hk => hk.2)) (fun _ h_ => h_.1))))) (Kd.R_lt (by (with_reducible repeat (first | apply rA | apply rN | apply rD)); exact (Kd.R_mono (Kd.R_far8 (g := gb195) (Kd.R_types HO194.out BK195.out (by decide)) (fun _ hk => hk.2)) (fun _ h_ => h_.1))))) (below_size (by repeat (first | (with_reducible first | exact HB.out | apply wA | apply wN | apply wD | refine wS ?_ GE158.out | refine wS ?_ GE184.out | refine wS ?_ GE195.out) | exact HB.out)))); replace HO169 := A0 (Kd.R_elder' (by (with_reducible repeat (first | apply rA | apply rN | apply rD)); exact (Kd.R_mono (Kd.R_far8 (g := gb195) (Kd.R_types HO169.out BK195.out (by decide)) (fun _ hk => hk.2)) (fun _ h_ => h_.1))) (Kd.R_base ho0) hb); replace HO172 := A0 (Kd.R_elder' (by (with_reducible repeat (first | apply rA | apply rN | apply rD)); exact (Kd.R_mono (Kd.R_far8 (g := gb195) (Kd.R_types HO172.out BK195.out (by decide)) (fun _ hk => hk.2)) (fun _ h_ => h_.1))) (Kd.R_base ho0) hb); replace HO182 := A0 (Kd.R_elder' (by (with_reducible repeat (first | apply rA | apply rN | apply rD)); exact (Kd.R_mono (Kd.R_far8 (g := gb195) (Kd.R_types HO182.out BK195.out (by decide)) (fun _ hk => hk.2)) (fun _ h_ => h_.1))) (Kd.R_base ho0) hb); replace HO194 := A0 (Kd.R_elder' (by (with_reducible repeat (first | apply rA | apply rN | apply rD)); exact (Kd.R_mono (Kd.R_far8 (g := gb195) (Kd.R_types HO194.out BK195.out (by decide)) (fun _ hk => hk.2)) (fun _ h_ => h_.1))) (Kd.R_base ho0) hb); replace BK158 := A0 (bB (g := gb158) (o := OB a0_0 a0_1 a0_2 a0_3 a0_4 a0_5 a0_6 (.slice A0_7 l0_7.length c0_7) 41) (by (with_reducible repeat (first | refine bN ?_ _ | refine bD ?_ | refine bA ?_ _)); refine blk_far ?_ NB158_195.out _; (with_reducible repeat (first | refine bN ?_ _ | refine bD ?_ | refine bA ?_ _)); refine blk_far ?_ NB158_195.out _; (with_reducible repeat (first | refine bN ?_ _ | refine bD ?_ | refine bA ?_ _)); refine blk_far ?_ NB158_195.out _; (with_reducible repeat (first | refine bN ?_ _ | refine bD ?_ | refine bA ?_ _)); refine blk_far ?_ NB158_195.out _; (with_reducible repeat (first | refine bN ?_ _ | refine bD ?_ | refine bA ?_ _)); refine blk_far ?_ NB158_195.out _; (with_reducible repeat (first | refine bN ?_ _ | refine bD ?_ | refine bA ?_ _)); refine blk_far ?_ NB158_195.out _; (with_reducible repeat (first | refine bN ?_ _ | refine bD ?_ | refine bA ?_ _)); refine blk_far ?_ NB158_195.out _; (with_reducible repeat (first | refine bN ?_ _ | refine bD ?_ | refine bA ?_ _)); refine blk_far ?_ NB158_195.out _; (with_reducible repeat (first | refine bN ?_ _ | refine bD ?_ | refine bA ?_ _)); exact BK158.out) hb); replace BK184 := A0 (bB (g := gb184) (o := OB t173 t174 t175 t176 t177 t178 t179 (.slice Ao29 t180.length co29) 44) (by (with_reducible repeat (first | refine bN ?_ _ | refine bD ?_ | refine bA ?_ _)); refine blk_far ?_ NB184_195.out _; (with_reducible repeat (first | refine bN ?_ _ | refine bD ?_ | refine bA ?_ _)); refine blk_far ?_ NB184_195.out _; (with_reducible repeat (first | refine bN ?_ _ | refine bD ?_ | refine bA ?_ _)); refine blk_far ?_ NB184_195.out _; (with_reducible repeat (first | refine bN ?_ _ | refine bD ?_ | refine bA ?_ _)); refine blk_far ?_ NB184_195.out _; (with_reducible repeat (first | refine bN ?_ _ | refine bD ?_ | refine bA ?_ _)); refine blk_far ?_ NB184_195.out _; (with_reducible repeat (first | refine bN ?_ _ | refine bD ?_ | refine bA ?_ _)); refine blk_far ?_ NB184_195.out _; (with_reducible repeat (first | refine bN ?_ _ | refine bD ?_ | refine bA ?_ _)); refine blk_far ?_ NB184_195.out _; (with_reducible repeat (first | refine bN ?_ _ | refine bD ?_ | refine bA ?_ _)); refine blk_far ?_ NB184_195.out _; (with_reducible repeat (first | refine bN ?_ _ | refine bD ?_ | refine bA ?_ _)); exact BK184.out) hb); replace BK195 := A0 (bB (g := gb195) (o := OB t185 t186 t187 t188 t189 t190 t191 (.slice Ao36 t192.length co36) 44) (by (with_reducible repeat (first | refine bN ?_ _ | refine bD ?_ | refine bA ?_ _)); refine blk_put (cs := #[.int .i64 t185, .int .i64 t186, .int .i64 t187, .string t188, .string t189, .string t190, .string t191, .slice none 0 0]) ?_ 7 _ rfl; (with_reducible repeat (first | refine bN ?_ _ | refine bD ?_ | refine bA ?_ _)); refine blk_put (cs := #[.int .i64 t185, .int .i64 t186, .int .i64 t187, .string t188, .string t189, .string t190, .string (⟨#[]⟩ : ByteArray), .slice none 0 0]) ?_ 6 _ rfl; (with_reducible repeat (first | refine bN ?_ _ | refine bD ?_ | refine bA ?_ _)); refine blk_put (cs := #[.int .i64 t185, .int .i64 t186, .int .i64 t187, .string t188, .string t189, .string (⟨#[]⟩ : ByteArray), .string (⟨#[]⟩ : ByteArray), .slice none 0 0]) ?_ 5 _ rfl; (with_reducible repeat (first | refine bN ?_ _ | refine bD ?_ | refine bA ?_ _)); refine blk_put (cs := #[.int .i64 t185, .int .i64 t186, .int .i64 t187, .string t188, .string (⟨#[]⟩ : ByteArray), .string (⟨#[]⟩ : ByteArray), .string (⟨#[]⟩ : ByteArray), .slice none 0 0]) ?_ 4 _ rfl; (with_reducible repeat (first | refine bN ?_ _ | refine bD ?_ | refine bA ?_ _)); refine blk_put (cs := #[.int .i64 t185, .int .i64 t186, .int .i64 t187, .string (⟨#[]⟩ : ByteArray), .string (⟨#[]⟩ : ByteArray), .string (⟨#[]⟩ : ByteArray), .string (⟨#[]⟩ : ByteArray), .slice none 0 0]) ?_ 3 _ rfl; (with_reducible repeat (first | refine bN ?_ _ | refine bD ?_ | refine bA ?_ _)); refine blk_put (cs := #[.int .i64 t185, .int .i64 t186, .int .i64 0, .string (⟨#[]⟩ : ByteArray), .string (⟨#[]⟩ : ByteArray), .string (⟨#[]⟩ : ByteArray), .string (⟨#[]⟩ : ByteArray), .slice none 0 0]) ?_ 2 _ rfl; (with_reducible repeat (first | refine bN ?_ _ | refine bD ?_ | refine bA ?_ _)); refine blk_put (cs := #[.int .i64 t185, .int .i64 0, .int .i64 0, .string (⟨#[]⟩ : ByteArray), .string (⟨#[]⟩ : ByteArray), .string (⟨#[]⟩ : ByteArray), .string (⟨#[]⟩ : ByteArray), .slice none 0 0]) ?_ 1 _ rfl; (with_reducible repeat (first | refine bN ?_ _ | refine bD ?_ | refine bA ?_ _)); refine blk_put (cs := #[.int .i64 0, .int .i64 0, .int .i64 0, .string (⟨#[]⟩ : ByteArray), .string (⟨#[]⟩ : ByteArray), .string (⟨#[]⟩ : ByteArray), .string (⟨#[]⟩ : ByteArray), .slice none 0 0]) ?_ 0 _ rfl; (with_reducible repeat (first | refine bN ?_ _ | refine bD ?_ | refine bA ?_ _)); exact BK195.out) hb); replace HB := A0 (below_step (by repeat (first | (with_reducible first | exact HB.out | apply wA | apply wN | apply wD | refine wS ?_ GE158.out | refine wS ?_ GE184.out | refine wS ?_ GE195.out) | exact HB.out)) hb); (try clear hb); (try clear hb2); (try clear hk); (try clear hi); (try clear ho0); obtain ⟨hcz38_0, hcz38_1, hcz38_2, hcz38_3, hcz38_4, hcz38_5, hcz38_6, hcz38_7, hfz38_0, hfz38_1, hfz38_2, hfz38_3, hfz38_4, hfz38_5, hfz38_6, hfz38_7⟩ := blk8 BK195.out; obtain ⟨Ao39, co39, eo39⟩ := Kd.R_slice HO198.out; subst eo39) | ((with_reducible refine gate_callee (f := 39) rfl ?_); refine goesL_ (some 40) rfl rfl Try.func39 (by kernel_rfl) rfl #[.agg #[.int .i64 t185, .int .i64 t186, .int .i64 t187, .string t188, .string t189, .string t190, .string t191, .slice Ao36 t192.length co36], .slice Ao39 t196.length co39] rfl (by (try simp only [List.map_toArray, List.map_cons, List.map_nil]); first | done | rfl) ?_; (with_reducible refine (impl_VersionAnswer.calls k t185 t186 t187 t188 t189 t190 t191 _ _ t192 _ _ t196 t199 t200 t201 t202 t203 t204 t205 t206 t209 _ ?side1 ?side2 ?side3 ?side4 A15.out).mono ?_); (case side1 => repeat (first | exact (Kd.R_reads' HO194.out).2.2 | (with_reducible refine Kd.C_alloc ?_ _) | (with_reducible refine Kd.C_drewN ?_ _) | (with_reducible refine Kd.C_drew ?_))); (case side2 => exact (Kd.R_reads' HO194.out).2.1); (case side3 => repeat (first | exact (Kd.R_reads' HO198.out).2.2 | (with_reducible refine Kd.C_alloc ?_ _) | (with_reducible refine Kd.C_drewN ?_ _) | (with_reducible refine Kd.C_drew ?_))); (case side4 => exact (Kd.R_reads' HO198.out).2.1); rintro e w40 ⟨v207, rfl, ho0, hb⟩; refine ⟨_, rfl, ?_⟩; have HO208 := A0 (Kd.R_lower (Kd.R_new' (Kd.R_new' (Kd.R_new' (Kd.R_new' (Kd.R_new' ho0 (Kd.R_lt (by (with_reducible repeat (first | apply rA | apply rN | apply rD)); exact HO169.out))) (Kd.R_lt (by (with_reducible repeat (first | apply rA | apply rN | apply rD)); exact HO172.out))) (Kd.R_lt (by (with_reducible repeat (first | apply rA | apply rN | apply rD)); exact HO182.out))) (Kd.R_lt (by (with_reducible repeat (first | apply rA | apply rN | apply rD)); exact HO194.out))) (Kd.R_lt (by (with_reducible repeat (first | apply rA | apply rN | apply rD)); exact HO198.out))) (below_size (by repeat (first | (with_reducible first | exact HB.out | apply wA | apply wN | apply wD | refine wS ?_ GE158.out | refine wS ?_ GE184.out | refine wS ?_ GE195.out) | exact HB.out)))); replace HO169 := A0 (Kd.R_elder' (by (with_reducible repeat (first | apply rA | apply rN | apply rD)); exact HO169.out) (Kd.R_base ho0) hb); replace HO172 := A0 (Kd.R_elder' (by (with_reducible repeat (first | apply rA | apply rN | apply rD)); exact HO172.out) (Kd.R_base ho0) hb); replace HO182 := A0 (Kd.R_elder' (by (with_reducible repeat (first | apply rA | apply rN | apply rD)); exact HO182.out) (Kd.R_base ho0) hb); replace HO194 := A0 (Kd.R_elder' (by (with_reducible repeat (first | apply rA | apply rN | apply rD)); exact HO194.out) (Kd.R_base ho0) hb); replace HO198 := A0 (Kd.R_elder' (by (with_reducible repeat (first | apply rA | apply rN | apply rD)); exact HO198.out) (Kd.R_base ho0) hb); replace BK158 := A0 (bB (g := gb158) (o := OB a0_0 a0_1 a0_2 a0_3 a0_4 a0_5 a0_6 (.slice A0_7 l0_7.length c0_7) 41) (by (with_reducible repeat (first | refine bN ?_ _ | refine bD ?_ | refine bA ?_ _)); exact BK158.out) hb); replace BK184 := A0 (bB (g := gb184) (o := OB t173 t174 t175 t176 t177 t178 t179 (.slice Ao29 t180.length co29) 44) (by (with_reducible repeat (first | refine bN ?_ _ | refine bD ?_ | refine bA ?_ _)); exact BK184.out) hb); replace BK195 := A0 (bB (g := gb195) (o := OB t185 t186 t187 t188 t189 t190 t191 (.slice Ao36 t192.length co36) 44) (by (with_reducible repeat (first | refine bN ?_ _ | refine bD ?_ | refine bA ?_ _)); exact BK195.out) hb); replace HB := A0 (below_step (by repeat (first | (with_reducible first | exact HB.out | apply wA | apply wN | apply wD | refine wS ?_ GE158.out | refine wS ?_ GE184.out | refine wS ?_ GE195.out) | exact HB.out)) hb); (try clear hb); (try clear hb2); (try clear hk); (try clear hi); (try clear ho0)) | ((with_reducible refine gate_dst (N := 10) rfl ?_); refine box_event ?hg (N := 10) ?hd (cs := #[.int .i64 0, .int .i64 0, .int .i64 0, .string (⟨#[]⟩ : ByteArray), .string (⟨#[]⟩ : ByteArray), .string (⟨#[]⟩ : ByteArray), .string (⟨#[]⟩ : ByteArray), .slice none 0 0]) (t := 44) ?hr ?_; (case hd => rfl); (case hg => rfl); (case hr => first | (go_simp; done) | (go_simp; rfl)); intro gb210 hg w41 hbox hb; replace HO169 := A0 (rB (by (with_reducible repeat (first | apply rA | apply rN | apply rD)); exact HO169.out) hb); replace HO172 := A0 (rB (by (with_reducible repeat (first | apply rA | apply rN | apply rD)); exact HO172.out) hb); replace HO182 := A0 (rB (by (with_reducible repeat (first | apply rA | apply rN | apply rD)); exact HO182.out) hb); replace HO194 := A0 (rB (by (with_reducible repeat (first | apply rA | apply rN | apply rD)); exact HO194.out) hb); replace HO198 := A0 (rB (by (with_reducible repeat (first | apply rA | apply rN | apply rD)); exact HO198.out) hb); replace HO208 := A0 (rB (by (with_reducible repeat (first | apply rA | apply rN | apply rD)); exact HO208.out) hb); have BK210 := A0 (hbox); have GW210 := A0 ((by rw [hg]; exact (below_size (by repeat (first | (with_reducible first | exact HB.out | apply wA | apply wN | apply wD | refine wS ?_ GE158.out | refine wS ?_ GE184.out | refine wS ?_ GE195.out) | exact HB.out))) : w.heap.size ≤ gb210)); have GE210 := A0 ((by rw [hg]; exact (below_size (by repeat (first | (with_reducible first | exact HB.out | apply wA | apply wN | apply wD | refine wS ?_ GE158.out | refine wS ?_ GE184.out | refine wS ?_ GE195.out) | exact HB.out))) : w.heap.size ≤ gb210)); replace HB := A0 (below_step (by repeat (first | (with_reducible first | exact HB.out | apply wA | apply wN | apply wD | refine wS ?_ GE158.out | refine wS ?_ GE184.out | refine wS ?_ GE195.out) | exact HB.out)) hb); have NB158_210 := A0 ((by rw [hg]; exact Nat.ne_of_lt (blk_lt (g := gb158) (o := OB a0_0 a0_1 a0_2 a0_3 a0_4 a0_5 a0_6 (.slice A0_7 l0_7.length c0_7) 41) (by (with_reducible repeat (first | refine bN ?_ _ | refine bD ?_ | refine bA ?_ _)); exact BK158.out)) : gb158 ≠ gb210)); have NB210_158 := A0 ((by rw [hg]; exact Nat.ne_of_gt (blk_lt (g := gb158) (o := OB a0_0 a0_1 a0_2 a0_3 a0_4 a0_5 a0_6 (.slice A0_7 l0_7.length c0_7) 41) (by (with_reducible repeat (first | refine bN ?_ _ | refine bD ?_ | refine bA ?_ _)); exact BK158.out)) : gb210 ≠ gb158)); replace BK158 := A0 (bB (g := gb158) (o := OB a0_0 a0_1 a0_2 a0_3 a0_4 a0_5 a0_6 (.slice A0_7 l0_7.length c0_7) 41) (by (with_reducible repeat (first | refine bN ?_ _ | refine bD ?_ | refine bA ?_ _)); exact BK158.out) hb); have NB184_210 := A0 ((by rw [hg]; exact Nat.ne_of_lt (blk_lt (g := gb184) (o := OB t173 t174 t175 t176 t177 t178 t179 (.slice Ao29 t180.length co29) 44) (by (with_reducible repeat (first | refine bN ?_ _ | refine bD ?_ | refine bA ?_ _)); exact BK184.out)) : gb184 ≠ gb210)); have NB210_184 := A0 ((by rw [hg]; exact Nat.ne_of_gt (blk_lt (g := gb184) (o := OB t173 t174 t175 t176 t177 t178 t179 (.slice Ao29 t180.length co29) 44) (by (with_reducible repeat (first | refine bN ?_ _ | refine bD ?_ | refine bA ?_ _)); exact BK184.out)) : gb210 ≠ gb184)); replace BK184 := A0 (bB (g := gb184) (o := OB t173 t174 t175 t176 t177 t178 t179 (.slice Ao29 t180.length co29) 44) (by (with_reducible repeat (first | refine bN ?_ _ | refine bD ?_ | refine bA ?_ _)); exact BK184.out) hb); have NB195_210 := A0 ((by rw [hg]; exact Nat.ne_of_lt (blk_lt (g := gb195) (o := OB t185 t186 t187 t188 t189 t190 t191 (.slice Ao36 t192.length co36) 44) (by (with_reducible repeat (first | refine bN ?_ _ | refine bD ?_ | refine bA ?_ _)); exact BK195.out)) : gb195 ≠ gb210)); have NB210_195 := A0 ((by rw [hg]; exact Nat.ne_of_gt (blk_lt (g := gb195) (o := OB t185 t186 t187 t188 t189 t190 t191 (.slice Ao36 t192.length co36) 44) (by (with_reducible repeat (first | refine bN ?_ _ | refine bD ?_ | refine bA ?_ _)); exact BK195.out)) : gb210 ≠ gb195)); replace BK195 := A0 (bB (g := gb195) (o := OB t185 t186 t187 t188 t189 t190 t191 (.slice Ao36 t192.length co36) 44) (by (with_reducible repeat (first | refine bN ?_ _ | refine bD ?_ | refine bA ?_ _)); exact BK195.out) hb); clear hb hbox hg; have hnb42 := NB210_158.out; have hnc42 := NB158_210.out; have hnb43 := NB210_184.out; have hnc43 := NB184_210.out; have hnb44 := NB210_195.out; have hnc44 := NB195_210.out; obtain ⟨hcz45_0, hcz45_1, hcz45_2, hcz45_3, hcz45_4, hcz45_5, hcz45_6, hcz45_7, hfz45_0, hfz45_1, hfz45_2, hfz45_3, hfz45_4, hfz45_5, hfz45_6, hfz45_7⟩ := blk8 BK210.out; obtain ⟨Ao46, co46, eo46⟩ := Kd.R_slice HO208.out; subst eo46))
   (try simp only [Act.put, List.setIfInBounds_toArray, List.set_cons_zero, List.set_cons_succ])
   go_cut [51] (fun v51 wc => ∃ (kq : Nat) (x51_15 : Bool), v51 = .bool x51_15 ∧ Aside0 (laws_FnExactVersionAnswer.j0 kq l1 t183 t196 t209 x51_15 a0_0 a0_1 a0_2 a0_3 a0_4 a0_5 a0_6 l0_7 t173 t174 t175 t176 t177 t178 t179 t180 t185 t186 t187 t188 t189 t190 t191 t192 t199 t200 t201 t202 t203 t204 t205 t206 = some r) ∧ Aside0 (kq ≤ k) ∧ Aside0 (Kd.R (Kd.int .i64) 3 wc w.heap.size (fun k_ => some k_ ≠ ((.slice Ao29 t180.length co29) : Value).ownBlock ∧ some k_ ≠ ((.slice Ao36 t192.length co36) : Value).ownBlock ∧ some k_ ≠ ((.slice Ao46 t206.length co46) : Value).ownBlock) (.slice Ao39 t196.length co39) t196) ∧ Aside0 (Kd.R (Kd.int .i64) 3 wc w.heap.size (fun k_ => some k_ ≠ ((.slice Ao39 t196.length co39) : Value).ownBlock ∧ some k_ ≠ ((.slice Ao36 t192.length co36) : Value).ownBlock ∧ some k_ ≠ ((.slice Ao46 t206.length co46) : Value).ownBlock) (.slice Ao29 t180.length co29) t180) ∧ Aside0 (Kd.R (Kd.int .i64) 3 wc w.heap.size (fun k_ => some k_ ≠ ((.slice Ao39 t196.length co39) : Value).ownBlock ∧ some k_ ≠ ((.slice Ao29 t180.length co29) : Value).ownBlock ∧ some k_ ≠ ((.slice Ao46 t206.length co46) : Value).ownBlock) (.slice Ao36 t192.length co36) t192) ∧ Aside0 (Kd.R (Kd.int .i64) 3 wc w.heap.size (fun k_ => some k_ ≠ ((.slice Ao39 t196.length co39) : Value).ownBlock ∧ some k_ ≠ ((.slice Ao29 t180.length co29) : Value).ownBlock ∧ some k_ ≠ ((.slice Ao36 t192.length co36) : Value).ownBlock) (.slice Ao46 t206.length co46) t206) ∧ Aside0 (wc.heap[gb158]? = some (.cells #[.int .i64 a0_0, .int .i64 a0_1, .int .i64 a0_2, .string a0_3, .string a0_4, .string a0_5, .string a0_6, (.slice A0_7 l0_7.length c0_7)] 41 (0, 0))) ∧ Aside0 (wc.heap[gb184]? = some (.cells #[.int .i64 t173, .int .i64 t174, .int .i64 t175, .string t176, .string t177, .string t178, .string t179, (.slice Ao29 t180.length co29)] 44 (0, 0))) ∧ Aside0 (wc.heap[gb195]? = some (.cells #[.int .i64 t185, .int .i64 t186, .int .i64 t187, .string t188, .string t189, .string t190, .string t191, (.slice Ao36 t192.length co36)] 44 (0, 0))) ∧ Aside0 (wc.heap[gb210]? = some (.cells #[.int .i64 t199, .int .i64 t200, .int .i64 t201, .string t202, .string t203, .string t204, .string t205, (.slice Ao46 t206.length co46)] 44 (0, 0))) ∧ Aside0 (Below w.heap.size w wc))
   case first =>
    have H := HC16.out
    clear HC16
    replace H := Option.bind_eq_some_iff.mp H
    obtain ⟨t211, A470, H⟩ := H
    replace H : (if t211 = true then (laws_FnExactVersionAnswer.j0 k l1 t183 t196 t209 (t209 != t183) a0_0 a0_1 a0_2 a0_3 a0_4 a0_5 a0_6 l0_7 t173 t174 t175 t176 t177 t178 t179 t180 t185 t186 t187 t188 t189 t190 t191 t192 t199 t200 t201 t202 t203 t204 t205 t206) else (laws_FnExactVersionAnswer.j0 k l1 t183 t196 t209 true a0_0 a0_1 a0_2 a0_3 a0_4 a0_5 a0_6 l0_7 t173 t174 t175 t176 t177 t178 t179 t180 t185 t186 t187 t188 t189 t190 t191 t192 t199 t200 t201 t202 t203 t204 t205 t206)) = some r := H
    have A47 := A0 A470
    clear A470
    by_cases c48 : t211 = true
    ·subst c48
     have H1 : (laws_FnExactVersionAnswer.j0 k l1 t183 t196 t209 (t209 != t183) a0_0 a0_1 a0_2 a0_3 a0_4 a0_5 a0_6 l0_7 t173 t174 t175 t176 t177 t178 t179 t180 t185 t186 t187 t188 t189 t190 t191 t192 t199 t200 t201 t202 t203 t204 t205 t206) = some r := by rw [if_pos rfl] at H; exact H
     clear H
     have H := H1
     clear H1
     have H' := A0 H
     clear H
     have hnb49 := NB210_158.out
     have hnc49 := NB158_210.out
     have hnb50 := NB210_184.out
     have hnc50 := NB184_210.out
     have hnb51 := NB210_195.out
     have hnc51 := NB195_210.out
     obtain ⟨hcz52_0, hcz52_1, hcz52_2, hcz52_3, hcz52_4, hcz52_5, hcz52_6, hcz52_7, hfz52_0, hfz52_1, hfz52_2, hfz52_3, hfz52_4, hfz52_5, hfz52_6, hfz52_7⟩ := blk8 BK210.out
     have hnb53 := NB184_158.out
     have hnc53 := NB158_184.out
     have hnb54 := NB184_195.out
     have hnc54 := NB195_184.out
     obtain ⟨hcz55_0, hcz55_1, hcz55_2, hcz55_3, hcz55_4, hcz55_5, hcz55_6, hcz55_7, hfz55_0, hfz55_1, hfz55_2, hfz55_3, hfz55_4, hfz55_5, hfz55_6, hfz55_7⟩ := blk8 BK184.out
     go_wp2_with (first | ((with_reducible refine gate_callee (f := 31) rfl ?_); refine goesL_ (some 45) rfl rfl Try.func31 (by kernel_rfl) rfl #[.agg #[.int .i64 t199, .int .i64 t200, .int .i64 t201, .string t202, .string t203, .string t204, .string t205, .slice Ao46 t206.length co46], .agg #[.int .i64 t173, .int .i64 t174, .int .i64 t175, .string t176, .string t177, .string t178, .string t179, .slice Ao29 t180.length co29]] rfl (by (try simp only [List.map_toArray, List.map_cons, List.map_nil]); first | done | rfl) ?_; (with_reducible refine (laws_eqHeader.calls k t199 t200 t201 t202 t203 t204 t205 _ _ t206 t173 t174 t175 t176 t177 t178 t179 _ _ t180 true _ ?side1 ?side2 ?side3 ?side4 A47.out).mono ?_); (case side1 => refine (Kd.R_reads' (e := 3) (base := w.heap.size) (ok := fun k_ => (((((True ∧ some k_ ≠ (.slice Ao23 t167.length co23 : Value).ownBlock) ∧ some k_ ≠ (.slice Ao24 t170.length co24 : Value).ownBlock) ∧ some k_ ≠ (.slice Ao29 t180.length co29 : Value).ownBlock) ∧ some k_ ≠ (.slice Ao36 t192.length co36 : Value).ownBlock) ∧ some k_ ≠ (.slice Ao39 t196.length co39 : Value).ownBlock)) (n := t206.length) (c := co46) ?_).2.2; exact (by (with_reducible repeat (first | apply rA | apply rN | apply rD)); exact (Kd.R_mono (Kd.R_far8 (g := gb210) (Kd.R_types HO208.out BK210.out (by decide)) (fun _ hk => hk.2)) (fun _ h_ => h_.1)))); (case side2 => exact (Kd.R_reads' HO208.out).2.1); (case side3 => refine (Kd.R_reads' (e := 3) (base := w.heap.size) (ok := fun k_ => (((((True ∧ some k_ ≠ (.slice Ao23 t167.length co23 : Value).ownBlock) ∧ some k_ ≠ (.slice Ao24 t170.length co24 : Value).ownBlock) ∧ some k_ ≠ (.slice Ao36 t192.length co36 : Value).ownBlock) ∧ some k_ ≠ (.slice Ao39 t196.length co39 : Value).ownBlock) ∧ some k_ ≠ (.slice Ao46 t206.length co46 : Value).ownBlock)) (n := t180.length) (c := co29) ?_).2.2; exact (by (with_reducible repeat (first | apply rA | apply rN | apply rD)); exact (Kd.R_mono (Kd.R_far8 (g := gb210) (Kd.R_types HO182.out BK210.out (by decide)) (fun _ hk => hk.2)) (fun _ h_ => h_.1)))); (case side4 => exact (Kd.R_reads' HO182.out).2.1); rintro e w56 ⟨rfl, hb⟩; refine ⟨_, rfl, ?_⟩; replace HO169 := A0 (rB (by (with_reducible repeat (first | apply rA | apply rN | apply rD)); exact (Kd.R_mono (Kd.R_far8 (g := gb210) (Kd.R_types HO169.out BK210.out (by decide)) (fun _ hk => hk.2)) (fun _ h_ => h_.1))) hb); replace HO172 := A0 (rB (by (with_reducible repeat (first | apply rA | apply rN | apply rD)); exact (Kd.R_mono (Kd.R_far8 (g := gb210) (Kd.R_types HO172.out BK210.out (by decide)) (fun _ hk => hk.2)) (fun _ h_ => h_.1))) hb); replace HO182 := A0 (rB (by (with_reducible repeat (first | apply rA | apply rN | apply rD)); exact (Kd.R_mono (Kd.R_far8 (g := gb210) (Kd.R_types HO182.out BK210.out (by decide)) (fun _ hk => hk.2)) (fun _ h_ => h_.1))) hb); replace HO194 := A0 (rB (by (with_reducible repeat (first | apply rA | apply rN | apply rD)); exact (Kd.R_mono (Kd.R_far8 (g := gb210) (Kd.R_types HO194.out BK210.out (by decide)) (fun _ hk => hk.2)) (fun _ h_ => h_.1))) hb); replace HO198 := A0 (rB (by (with_reducible repeat (first | apply rA | apply rN | apply rD)); exact (Kd.R_mono (Kd.R_far8 (g := gb210) (Kd.R_types HO198.out BK210.out (by decide)) (fun _ hk => hk.2)) (fun _ h_ => h_.1))) hb); replace HO208 := A0 (rB (by (with_reducible repeat (first | apply rA | apply rN | apply rD)); exact (Kd.R_mono (Kd.R_far8 (g := gb210) (Kd.R_types HO208.out BK210.out (by decide)) (fun _ hk => hk.2)) (fun _ h_ => h_.1))) hb); replace BK158 := A0 (bB (g := gb158) (o := OB a0_0 a0_1 a0_2 a0_3 a0_4 a0_5 a0_6 (.slice A0_7 l0_7.length c0_7) 41) (by (with_reducible repeat (first | refine bN ?_ _ | refine bD ?_ | refine bA ?_ _)); refine blk_far ?_ NB158_210.out _; (with_reducible repeat (first | refine bN ?_ _ | refine bD ?_ | refine bA ?_ _)); refine blk_far ?_ NB158_210.out _; (with_reducible repeat (first | refine bN ?_ _ | refine bD ?_ | refine bA ?_ _)); refine blk_far ?_ NB158_210.out _; (with_reducible repeat (first | refine bN ?_ _ | refine bD ?_ | refine bA ?_ _)); refine blk_far ?_ NB158_210.out _; (with_reducible repeat (first | refine bN ?_ _ | refine bD ?_ | refine bA ?_ _)); refine blk_far ?_ NB158_210.out _; (with_reducible repeat (first | refine bN ?_ _ | refine bD ?_ | refine bA ?_ _)); refine blk_far ?_ NB158_210.out _; (with_reducible repeat (first | refine bN ?_ _ | refine bD ?_ | refine bA ?_ _)); refine blk_far ?_ NB158_210.out _; (with_reducible repeat (first | refine bN ?_ _ | refine bD ?_ | refine bA ?_ _)); refine blk_far ?_ NB158_210.out _; (with_reducible repeat (first | refine bN ?_ _ | refine bD ?_ | refine bA ?_ _)); exact BK158.out) hb); replace BK184 := A0 (bB (g := gb184) (o := OB t173 t174 t175 t176 t177 t178 t179 (.slice Ao29 t180.length co29) 44) (by (with_reducible repeat (first | refine bN ?_ _ | refine bD ?_ | refine bA ?_ _)); refine blk_far ?_ NB184_210.out _; (with_reducible repeat (first | refine bN ?_ _ | refine bD ?_ | refine bA ?_ _)); refine blk_far ?_ NB184_210.out _; (with_reducible repeat (first | refine bN ?_ _ | refine bD ?_ | refine bA ?_ _)); refine blk_far ?_ NB184_210.out _; (with_reducible repeat (first | refine bN ?_ _ | refine bD ?_ | refine bA ?_ _)); refine blk_far ?_ NB184_210.out _; (with_reducible repeat (first | refine bN ?_ _ | refine bD ?_ | refine bA ?_ _)); refine blk_far ?_ NB184_210.out _; (with_reducible repeat (first | refine bN ?_ _ | refine bD ?_ | refine bA ?_ _)); refine blk_far ?_ NB184_210.out _; (with_reducible repeat (first | refine bN ?_ _ | refine bD ?_ | refine bA ?_ _)); refine blk_far ?_ NB184_210.out _; (with_reducible repeat (first | refine bN ?_ _ | refine bD ?_ | refine bA ?_ _)); refine blk_far ?_ NB184_210.out _; (with_reducible repeat (first | refine bN ?_ _ | refine bD ?_ | refine bA ?_ _)); exact BK184.out) hb); replace BK195 := A0 (bB (g := gb195) (o := OB t185 t186 t187 t188 t189 t190 t191 (.slice Ao36 t192.length co36) 44) (by (with_reducible repeat (first | refine bN ?_ _ | refine bD ?_ | refine bA ?_ _)); refine blk_far ?_ NB195_210.out _; (with_reducible repeat (first | refine bN ?_ _ | refine bD ?_ | refine bA ?_ _)); refine blk_far ?_ NB195_210.out _; (with_reducible repeat (first | refine bN ?_ _ | refine bD ?_ | refine bA ?_ _)); refine blk_far ?_ NB195_210.out _; (with_reducible repeat (first | refine bN ?_ _ | refine bD ?_ | refine bA ?_ _)); refine blk_far ?_ NB195_210.out _; (with_reducible repeat (first | refine bN ?_ _ | refine bD ?_ | refine bA ?_ _)); refine blk_far ?_ NB195_210.out _; (with_reducible repeat (first | refine bN ?_ _ | refine bD ?_ | refine bA ?_ _)); refine blk_far ?_ NB195_210.out _; (with_reducible repeat (first | refine bN ?_ _ | refine bD ?_ | refine bA ?_ _)); refine blk_far ?_ NB195_210.out _; (with_reducible repeat (first | refine bN ?_ _ | refine bD ?_ | refine bA ?_ _)); refine blk_far ?_ NB195_210.out _; (with_reducible repeat (first | refine bN ?_ _ | refine bD ?_ | refine bA ?_ _)); exact BK195.out) hb); replace BK210 := A0 (bB (g := gb210) (o := OB t199 t200 t201 t202 t203 t204 t205 (.slice Ao46 t206.length co46) 44) (by (with_reducible repeat (first | refine bN ?_ _ | refine bD ?_ | refine bA ?_ _)); refine blk_put (cs := #[.int .i64 t199, .int .i64 t200, .int .i64 t201, .string t202, .string t203, .string t204, .string t205, .slice none 0 0]) ?_ 7 _ rfl; (with_reducible repeat (first | refine bN ?_ _ | refine bD ?_ | refine bA ?_ _)); refine blk_put (cs := #[.int .i64 t199, .int .i64 t200, .int .i64 t201, .string t202, .string t203, .string t204, .string (⟨#[]⟩ : ByteArray), .slice none 0 0]) ?_ 6 _ rfl; (with_reducible repeat (first | refine bN ?_ _ | refine bD ?_ | refine bA ?_ _)); refine blk_put (cs := #[.int .i64 t199, .int .i64 t200, .int .i64 t201, .string t202, .string t203, .string (⟨#[]⟩ : ByteArray), .string (⟨#[]⟩ : ByteArray), .slice none 0 0]) ?_ 5 _ rfl; (with_reducible repeat (first | refine bN ?_ _ | refine bD ?_ | refine bA ?_ _)); refine blk_put (cs := #[.int .i64 t199, .int .i64 t200, .int .i64 t201, .string t202, .string (⟨#[]⟩ : ByteArray), .string (⟨#[]⟩ : ByteArray), .string (⟨#[]⟩ : ByteArray), .slice none 0 0]) ?_ 4 _ rfl; (with_reducible repeat (first | refine bN ?_ _ | refine bD ?_ | refine bA ?_ _)); refine blk_put (cs := #[.int .i64 t199, .int .i64 t200, .int .i64 t201, .string (⟨#[]⟩ : ByteArray), .string (⟨#[]⟩ : ByteArray), .string (⟨#[]⟩ : ByteArray), .string (⟨#[]⟩ : ByteArray), .slice none 0 0]) ?_ 3 _ rfl; (with_reducible repeat (first | refine bN ?_ _ | refine bD ?_ | refine bA ?_ _)); refine blk_put (cs := #[.int .i64 t199, .int .i64 t200, .int .i64 0, .string (⟨#[]⟩ : ByteArray), .string (⟨#[]⟩ : ByteArray), .string (⟨#[]⟩ : ByteArray), .string (⟨#[]⟩ : ByteArray), .slice none 0 0]) ?_ 2 _ rfl; (with_reducible repeat (first | refine bN ?_ _ | refine bD ?_ | refine bA ?_ _)); refine blk_put (cs := #[.int .i64 t199, .int .i64 0, .int .i64 0, .string (⟨#[]⟩ : ByteArray), .string (⟨#[]⟩ : ByteArray), .string (⟨#[]⟩ : ByteArray), .string (⟨#[]⟩ : ByteArray), .slice none 0 0]) ?_ 1 _ rfl; (with_reducible repeat (first | refine bN ?_ _ | refine bD ?_ | refine bA ?_ _)); refine blk_put (cs := #[.int .i64 0, .int .i64 0, .int .i64 0, .string (⟨#[]⟩ : ByteArray), .string (⟨#[]⟩ : ByteArray), .string (⟨#[]⟩ : ByteArray), .string (⟨#[]⟩ : ByteArray), .slice none 0 0]) ?_ 0 _ rfl; (with_reducible repeat (first | refine bN ?_ _ | refine bD ?_ | refine bA ?_ _)); exact BK210.out) hb); replace HB := A0 (below_step (by repeat (first | (with_reducible first | exact HB.out | apply wA | apply wN | apply wD | refine wS ?_ GE158.out | refine wS ?_ GE184.out | refine wS ?_ GE195.out | refine wS ?_ GE210.out) | exact HB.out)) hb); (try clear hb); (try clear hb2); (try clear hk); (try clear hi)))
     go_meet
     case rel => exact ⟨_, ((t209 != t183)), (by first | rfl | (simp; done) | (simp [*]; done)), H', ⟨by first | omega | exact Nat.le_refl _⟩, ⟨by (with_reducible repeat (first | apply rA | apply rN | apply rD)); exact Kd.R_mono HO198.out (fun _ hk => ⟨hk.1.1.2, ⟨hk.1.2, hk.2⟩⟩)⟩, ⟨by (with_reducible repeat (first | apply rA | apply rN | apply rD)); exact Kd.R_mono HO182.out (fun _ hk => ⟨hk.1.2, ⟨hk.1.1.2, hk.2⟩⟩)⟩, ⟨by (with_reducible repeat (first | apply rA | apply rN | apply rD)); exact Kd.R_mono HO194.out (fun _ hk => ⟨hk.1.2, ⟨hk.1.1.2, hk.2⟩⟩)⟩, ⟨by (with_reducible repeat (first | apply rA | apply rN | apply rD)); exact Kd.R_mono HO208.out (fun _ hk => ⟨hk.2, ⟨hk.1.1.2, hk.1.2⟩⟩)⟩, ⟨by (with_reducible repeat (first | refine bN ?_ _ | refine bD ?_ | refine bA ?_ _)); exact BK158.out⟩, ⟨by (with_reducible repeat (first | refine bN ?_ _ | refine bD ?_ | refine bA ?_ _)); exact BK184.out⟩, ⟨by (with_reducible repeat (first | refine bN ?_ _ | refine bD ?_ | refine bA ?_ _)); exact BK195.out⟩, ⟨by (with_reducible repeat (first | refine bN ?_ _ | refine bD ?_ | refine bA ?_ _)); exact BK210.out⟩, ⟨by repeat (first | (with_reducible first | exact HB.out | apply wA | apply wN | apply wD | refine wS ?_ GE158.out | refine wS ?_ GE184.out | refine wS ?_ GE195.out | refine wS ?_ GE210.out) | exact HB.out)⟩⟩
    ·replace c48 := Bool.eq_false_iff.mpr c48
     subst c48
     have H1 : (laws_FnExactVersionAnswer.j0 k l1 t183 t196 t209 true a0_0 a0_1 a0_2 a0_3 a0_4 a0_5 a0_6 l0_7 t173 t174 t175 t176 t177 t178 t179 t180 t185 t186 t187 t188 t189 t190 t191 t192 t199 t200 t201 t202 t203 t204 t205 t206) = some r := by rw [if_neg (show ¬ (false = true) by decide)] at H; exact H
     clear H
     have H := H1
     clear H1
     have H' := A0 H
     clear H
     have hnb57 := NB210_158.out
     have hnc57 := NB158_210.out
     have hnb58 := NB210_184.out
     have hnc58 := NB184_210.out
     have hnb59 := NB210_195.out
     have hnc59 := NB195_210.out
     obtain ⟨hcz60_0, hcz60_1, hcz60_2, hcz60_3, hcz60_4, hcz60_5, hcz60_6, hcz60_7, hfz60_0, hfz60_1, hfz60_2, hfz60_3, hfz60_4, hfz60_5, hfz60_6, hfz60_7⟩ := blk8 BK210.out
     have hnb61 := NB184_158.out
     have hnc61 := NB158_184.out
     have hnb62 := NB184_195.out
     have hnc62 := NB195_184.out
     obtain ⟨hcz63_0, hcz63_1, hcz63_2, hcz63_3, hcz63_4, hcz63_5, hcz63_6, hcz63_7, hfz63_0, hfz63_1, hfz63_2, hfz63_3, hfz63_4, hfz63_5, hfz63_6, hfz63_7⟩ := blk8 BK184.out
     go_wp2_with (first | ((with_reducible refine gate_callee (f := 31) rfl ?_); refine goesL_ (some 45) rfl rfl Try.func31 (by kernel_rfl) rfl #[.agg #[.int .i64 t199, .int .i64 t200, .int .i64 t201, .string t202, .string t203, .string t204, .string t205, .slice Ao46 t206.length co46], .agg #[.int .i64 t173, .int .i64 t174, .int .i64 t175, .string t176, .string t177, .string t178, .string t179, .slice Ao29 t180.length co29]] rfl (by (try simp only [List.map_toArray, List.map_cons, List.map_nil]); first | done | rfl) ?_; (with_reducible refine (laws_eqHeader.calls k t199 t200 t201 t202 t203 t204 t205 _ _ t206 t173 t174 t175 t176 t177 t178 t179 _ _ t180 false _ ?side1 ?side2 ?side3 ?side4 A47.out).mono ?_); (case side1 => refine (Kd.R_reads' (e := 3) (base := w.heap.size) (ok := fun k_ => (((((True ∧ some k_ ≠ (.slice Ao23 t167.length co23 : Value).ownBlock) ∧ some k_ ≠ (.slice Ao24 t170.length co24 : Value).ownBlock) ∧ some k_ ≠ (.slice Ao29 t180.length co29 : Value).ownBlock) ∧ some k_ ≠ (.slice Ao36 t192.length co36 : Value).ownBlock) ∧ some k_ ≠ (.slice Ao39 t196.length co39 : Value).ownBlock)) (n := t206.length) (c := co46) ?_).2.2; exact (by (with_reducible repeat (first | apply rA | apply rN | apply rD)); exact (Kd.R_mono (Kd.R_far8 (g := gb210) (Kd.R_types HO208.out BK210.out (by decide)) (fun _ hk => hk.2)) (fun _ h_ => h_.1)))); (case side2 => exact (Kd.R_reads' HO208.out).2.1); (case side3 => refine (Kd.R_reads' (e := 3) (base := w.heap.size) (ok := fun k_ => (((((True ∧ some k_ ≠ (.slice Ao23 t167.length co23 : Value).ownBlock) ∧ some k_ ≠ (.slice Ao24 t170.length co24 : Value).ownBlock) ∧ some k_ ≠ (.slice Ao36 t192.length co36 : Value).ownBlock) ∧ some k_ ≠ (.slice Ao39 t196.length co39 : Value).ownBlock) ∧ some k_ ≠ (.slice Ao46 t206.length co46 : Value).ownBlock)) (n := t180.length) (c := co29) ?_).2.2; exact (by (with_reducible repeat (first | apply rA | apply rN | apply rD)); exact (Kd.R_mono (Kd.R_far8 (g := gb210) (Kd.R_types HO182.out BK210.out (by decide)) (fun _ hk => hk.2)) (fun _ h_ => h_.1)))); (case side4 => exact (Kd.R_reads' HO182.out).2.1); rintro e w64 ⟨rfl, hb⟩; refine ⟨_, rfl, ?_⟩; replace HO169 := A0 (rB (by (with_reducible repeat (first | apply rA | apply rN | apply rD)); exact (Kd.R_mono (Kd.R_far8 (g := gb210) (Kd.R_types HO169.out BK210.out (by decide)) (fun _ hk => hk.2)) (fun _ h_ => h_.1))) hb); replace HO172 := A0 (rB (by (with_reducible repeat (first | apply rA | apply rN | apply rD)); exact (Kd.R_mono (Kd.R_far8 (g := gb210) (Kd.R_types HO172.out BK210.out (by decide)) (fun _ hk => hk.2)) (fun _ h_ => h_.1))) hb); replace HO182 := A0 (rB (by (with_reducible repeat (first | apply rA | apply rN | apply rD)); exact (Kd.R_mono (Kd.R_far8 (g := gb210) (Kd.R_types HO182.out BK210.out (by decide)) (fun _ hk => hk.2)) (fun _ h_ => h_.1))) hb); replace HO194 := A0 (rB (by (with_reducible repeat (first | apply rA | apply rN | apply rD)); exact (Kd.R_mono (Kd.R_far8 (g := gb210) (Kd.R_types HO194.out BK210.out (by decide)) (fun _ hk => hk.2)) (fun _ h_ => h_.1))) hb); replace HO198 := A0 (rB (by (with_reducible repeat (first | apply rA | apply rN | apply rD)); exact (Kd.R_mono (Kd.R_far8 (g := gb210) (Kd.R_types HO198.out BK210.out (by decide)) (fun _ hk => hk.2)) (fun _ h_ => h_.1))) hb); replace HO208 := A0 (rB (by (with_reducible repeat (first | apply rA | apply rN | apply rD)); exact (Kd.R_mono (Kd.R_far8 (g := gb210) (Kd.R_types HO208.out BK210.out (by decide)) (fun _ hk => hk.2)) (fun _ h_ => h_.1))) hb); replace BK158 := A0 (bB (g := gb158) (o := OB a0_0 a0_1 a0_2 a0_3 a0_4 a0_5 a0_6 (.slice A0_7 l0_7.length c0_7) 41) (by (with_reducible repeat (first | refine bN ?_ _ | refine bD ?_ | refine bA ?_ _)); refine blk_far ?_ NB158_210.out _; (with_reducible repeat (first | refine bN ?_ _ | refine bD ?_ | refine bA ?_ _)); refine blk_far ?_ NB158_210.out _; (with_reducible repeat (first | refine bN ?_ _ | refine bD ?_ | refine bA ?_ _)); refine blk_far ?_ NB158_210.out _; (with_reducible repeat (first | refine bN ?_ _ | refine bD ?_ | refine bA ?_ _)); refine blk_far ?_ NB158_210.out _; (with_reducible repeat (first | refine bN ?_ _ | refine bD ?_ | refine bA ?_ _)); refine blk_far ?_ NB158_210.out _; (with_reducible repeat (first | refine bN ?_ _ | refine bD ?_ | refine bA ?_ _)); refine blk_far ?_ NB158_210.out _; (with_reducible repeat (first | refine bN ?_ _ | refine bD ?_ | refine bA ?_ _)); refine blk_far ?_ NB158_210.out _; (with_reducible repeat (first | refine bN ?_ _ | refine bD ?_ | refine bA ?_ _)); refine blk_far ?_ NB158_210.out _; (with_reducible repeat (first | refine bN ?_ _ | refine bD ?_ | refine bA ?_ _)); exact BK158.out) hb); replace BK184 := A0 (bB (g := gb184) (o := OB t173 t174 t175 t176 t177 t178 t179 (.slice Ao29 t180.length co29) 44) (by (with_reducible repeat (first | refine bN ?_ _ | refine bD ?_ | refine bA ?_ _)); refine blk_far ?_ NB184_210.out _; (with_reducible repeat (first | refine bN ?_ _ | refine bD ?_ | refine bA ?_ _)); refine blk_far ?_ NB184_210.out _; (with_reducible repeat (first | refine bN ?_ _ | refine bD ?_ | refine bA ?_ _)); refine blk_far ?_ NB184_210.out _; (with_reducible repeat (first | refine bN ?_ _ | refine bD ?_ | refine bA ?_ _)); refine blk_far ?_ NB184_210.out _; (with_reducible repeat (first | refine bN ?_ _ | refine bD ?_ | refine bA ?_ _)); refine blk_far ?_ NB184_210.out _; (with_reducible repeat (first | refine bN ?_ _ | refine bD ?_ | refine bA ?_ _)); refine blk_far ?_ NB184_210.out _; (with_reducible repeat (first | refine bN ?_ _ | refine bD ?_ | refine bA ?_ _)); refine blk_far ?_ NB184_210.out _; (with_reducible repeat (first | refine bN ?_ _ | refine bD ?_ | refine bA ?_ _)); refine blk_far ?_ NB184_210.out _; (with_reducible repeat (first | refine bN ?_ _ | refine bD ?_ | refine bA ?_ _)); exact BK184.out) hb); replace BK195 := A0 (bB (g := gb195) (o := OB t185 t186 t187 t188 t189 t190 t191 (.slice Ao36 t192.length co36) 44) (by (with_reducible repeat (first | refine bN ?_ _ | refine bD ?_ | refine bA ?_ _)); refine blk_far ?_ NB195_210.out _; (with_reducible repeat (first | refine bN ?_ _ | refine bD ?_ | refine bA ?_ _)); refine blk_far ?_ NB195_210.out _; (with_reducible repeat (first | refine bN ?_ _ | refine bD ?_ | refine bA ?_ _)); refine blk_far ?_ NB195_210.out _; (with_reducible repeat (first | refine bN ?_ _ | refine bD ?_ | refine bA ?_ _)); refine blk_far ?_ NB195_210.out _; (with_reducible repeat (first | refine bN ?_ _ | refine bD ?_ | refine bA ?_ _)); refine blk_far ?_ NB195_210.out _; (with_reducible repeat (first | refine bN ?_ _ | refine bD ?_ | refine bA ?_ _)); refine blk_far ?_ NB195_210.out _; (with_reducible repeat (first | refine bN ?_ _ | refine bD ?_ | refine bA ?_ _)); refine blk_far ?_ NB195_210.out _; (with_reducible repeat (first | refine bN ?_ _ | refine bD ?_ | refine bA ?_ _)); refine blk_far ?_ NB195_210.out _; (with_reducible repeat (first | refine bN ?_ _ | refine bD ?_ | refine bA ?_ _)); exact BK195.out) hb); replace BK210 := A0 (bB (g := gb210) (o := OB t199 t200 t201 t202 t203 t204 t205 (.slice Ao46 t206.length co46) 44) (by (with_reducible repeat (first | refine bN ?_ _ | refine bD ?_ | refine bA ?_ _)); refine blk_put (cs := #[.int .i64 t199, .int .i64 t200, .int .i64 t201, .string t202, .string t203, .string t204, .string t205, .slice none 0 0]) ?_ 7 _ rfl; (with_reducible repeat (first | refine bN ?_ _ | refine bD ?_ | refine bA ?_ _)); refine blk_put (cs := #[.int .i64 t199, .int .i64 t200, .int .i64 t201, .string t202, .string t203, .string t204, .string (⟨#[]⟩ : ByteArray), .slice none 0 0]) ?_ 6 _ rfl; (with_reducible repeat (first | refine bN ?_ _ | refine bD ?_ | refine bA ?_ _)); refine blk_put (cs := #[.int .i64 t199, .int .i64 t200, .int .i64 t201, .string t202, .string t203, .string (⟨#[]⟩ : ByteArray), .string (⟨#[]⟩ : ByteArray), .slice none 0 0]) ?_ 5 _ rfl; (with_reducible repeat (first | refine bN ?_ _ | refine bD ?_ | refine bA ?_ _)); refine blk_put (cs := #[.int .i64 t199, .int .i64 t200, .int .i64 t201, .string t202, .string (⟨#[]⟩ : ByteArray), .string (⟨#[]⟩ : ByteArray), .string (⟨#[]⟩ : ByteArray), .slice none 0 0]) ?_ 4 _ rfl; (with_reducible repeat (first | refine bN ?_ _ | refine bD ?_ | refine bA ?_ _)); refine blk_put (cs := #[.int .i64 t199, .int .i64 t200, .int .i64 t201, .string (⟨#[]⟩ : ByteArray), .string (⟨#[]⟩ : ByteArray), .string (⟨#[]⟩ : ByteArray), .string (⟨#[]⟩ : ByteArray), .slice none 0 0]) ?_ 3 _ rfl; (with_reducible repeat (first | refine bN ?_ _ | refine bD ?_ | refine bA ?_ _)); refine blk_put (cs := #[.int .i64 t199, .int .i64 t200, .int .i64 0, .string (⟨#[]⟩ : ByteArray), .string (⟨#[]⟩ : ByteArray), .string (⟨#[]⟩ : ByteArray), .string (⟨#[]⟩ : ByteArray), .slice none 0 0]) ?_ 2 _ rfl; (with_reducible repeat (first | refine bN ?_ _ | refine bD ?_ | refine bA ?_ _)); refine blk_put (cs := #[.int .i64 t199, .int .i64 0, .int .i64 0, .string (⟨#[]⟩ : ByteArray), .string (⟨#[]⟩ : ByteArray), .string (⟨#[]⟩ : ByteArray), .string (⟨#[]⟩ : ByteArray), .slice none 0 0]) ?_ 1 _ rfl; (with_reducible repeat (first | refine bN ?_ _ | refine bD ?_ | refine bA ?_ _)); refine blk_put (cs := #[.int .i64 0, .int .i64 0, .int .i64 0, .string (⟨#[]⟩ : ByteArray), .string (⟨#[]⟩ : ByteArray), .string (⟨#[]⟩ : ByteArray), .string (⟨#[]⟩ : ByteArray), .slice none 0 0]) ?_ 0 _ rfl; (with_reducible repeat (first | refine bN ?_ _ | refine bD ?_ | refine bA ?_ _)); exact BK210.out) hb); replace HB := A0 (below_step (by repeat (first | (with_reducible first | exact HB.out | apply wA | apply wN | apply wD | refine wS ?_ GE158.out | refine wS ?_ GE184.out | refine wS ?_ GE195.out | refine wS ?_ GE210.out) | exact HB.out)) hb); (try clear hb); (try clear hb2); (try clear hk); (try clear hi)))
     go_meet
     case rel => exact ⟨_, (true), (by first | rfl | (simp; done) | (simp [*]; done)), H', ⟨by first | omega | exact Nat.le_refl _⟩, ⟨by (with_reducible repeat (first | apply rA | apply rN | apply rD)); exact Kd.R_mono HO198.out (fun _ hk => ⟨hk.1.1.2, ⟨hk.1.2, hk.2⟩⟩)⟩, ⟨by (with_reducible repeat (first | apply rA | apply rN | apply rD)); exact Kd.R_mono HO182.out (fun _ hk => ⟨hk.1.2, ⟨hk.1.1.2, hk.2⟩⟩)⟩, ⟨by (with_reducible repeat (first | apply rA | apply rN | apply rD)); exact Kd.R_mono HO194.out (fun _ hk => ⟨hk.1.2, ⟨hk.1.1.2, hk.2⟩⟩)⟩, ⟨by (with_reducible repeat (first | apply rA | apply rN | apply rD)); exact Kd.R_mono HO208.out (fun _ hk => ⟨hk.2, ⟨hk.1.1.2, hk.1.2⟩⟩)⟩, ⟨by (with_reducible repeat (first | refine bN ?_ _ | refine bD ?_ | refine bA ?_ _)); exact BK158.out⟩, ⟨by (with_reducible repeat (first | refine bN ?_ _ | refine bD ?_ | refine bA ?_ _)); exact BK184.out⟩, ⟨by (with_reducible repeat (first | refine bN ?_ _ | refine bD ?_ | refine bA ?_ _)); exact BK195.out⟩, ⟨by (with_reducible repeat (first | refine bN ?_ _ | refine bD ?_ | refine bA ?_ _)); exact BK210.out⟩, ⟨by repeat (first | (with_reducible first | exact HB.out | apply wA | apply wN | apply wD | refine wS ?_ GE158.out | refine wS ?_ GE184.out | refine wS ?_ GE195.out | refine wS ?_ GE210.out) | exact HB.out)⟩⟩
   case rest =>
    clear HC16
    try clear c1
    try clear c2
    try clear p2
    try clear c3
    try clear c3b0
    try clear c3b1
    try clear c4
    try clear c5
    try clear c6
    try clear c6b0
    try clear c11
    try clear c27
    try clear c29
    try clear c31
    try clear c33
    try clear c34
    try clear c37
    try clear c38
    try clear c39
    try clear c42
    try clear c43
    try clear c44
    try clear c48
    try clear c49
    try clear c50
    try clear c51
    try clear c53
    try clear c54
    try clear c57
    try clear c58
    try clear c59
    try clear c61
    try clear c62
    try clear hcz18_0
    try clear hcz18_1
    try clear hcz18_2
    try clear hcz18_3
    try clear hcz18_4
    try clear hcz18_5
    try clear hcz18_6
    try clear hcz18_7
    try clear hcz20_0
    try clear hcz20_1
    try clear hcz20_2
    try clear hcz20_3
    try clear hcz20_4
    try clear hcz20_5
    try clear hcz20_6
    try clear hcz20_7
    try clear hcz28_0
    try clear hcz28_1
    try clear hcz28_2
    try clear hcz28_3
    try clear hcz28_4
    try clear hcz28_5
    try clear hcz28_6
    try clear hcz28_7
    try clear hcz30_0
    try clear hcz30_1
    try clear hcz30_2
    try clear hcz30_3
    try clear hcz30_4
    try clear hcz30_5
    try clear hcz30_6
    try clear hcz30_7
    try clear hcz35_0
    try clear hcz35_1
    try clear hcz35_2
    try clear hcz35_3
    try clear hcz35_4
    try clear hcz35_5
    try clear hcz35_6
    try clear hcz35_7
    try clear hcz38_0
    try clear hcz38_1
    try clear hcz38_2
    try clear hcz38_3
    try clear hcz38_4
    try clear hcz38_5
    try clear hcz38_6
    try clear hcz38_7
    try clear hcz45_0
    try clear hcz45_1
    try clear hcz45_2
    try clear hcz45_3
    try clear hcz45_4
    try clear hcz45_5
    try clear hcz45_6
    try clear hcz45_7
    try clear hcz52_0
    try clear hcz52_1
    try clear hcz52_2
    try clear hcz52_3
    try clear hcz52_4
    try clear hcz52_5
    try clear hcz52_6
    try clear hcz52_7
    try clear hcz55_0
    try clear hcz55_1
    try clear hcz55_2
    try clear hcz55_3
    try clear hcz55_4
    try clear hcz55_5
    try clear hcz55_6
    try clear hcz55_7
    try clear hcz60_0
    try clear hcz60_1
    try clear hcz60_2
    try clear hcz60_3
    try clear hcz60_4
    try clear hcz60_5
    try clear hcz60_6
    try clear hcz60_7
    try clear hcz63_0
    try clear hcz63_1
    try clear hcz63_2
    try clear hcz63_3
    try clear hcz63_4
    try clear hcz63_5
    try clear hcz63_6
    try clear hcz63_7
    try clear hcz8_0
    try clear hcz8_1
    try clear hcz8_2
    try clear hcz8_3
    try clear hcz8_4
    try clear hcz8_5
    try clear hcz8_6
    try clear hcz8_7
    try clear hfz18_0
    try clear hfz18_1
    try clear hfz18_2
    try clear hfz18_3
    try clear hfz18_4
    try clear hfz18_5
    try clear hfz18_6
    try clear hfz18_7
    try clear hfz20_0
    try clear hfz20_1
    try clear hfz20_2
    try clear hfz20_3
    try clear hfz20_4
    try clear hfz20_5
    try clear hfz20_6
    try clear hfz20_7
    try clear hfz28_0
    try clear hfz28_1
    try clear hfz28_2
    try clear hfz28_3
    try clear hfz28_4
    try clear hfz28_5
    try clear hfz28_6
    try clear hfz28_7
    try clear hfz30_0
    try clear hfz30_1
    try clear hfz30_2
    try clear hfz30_3
    try clear hfz30_4
    try clear hfz30_5
    try clear hfz30_6
    try clear hfz30_7
    try clear hfz35_0
    try clear hfz35_1
    try clear hfz35_2
    try clear hfz35_3
    try clear hfz35_4
    try clear hfz35_5
    try clear hfz35_6
    try clear hfz35_7
    try clear hfz38_0
    try clear hfz38_1
    try clear hfz38_2
    try clear hfz38_3
    try clear hfz38_4
    try clear hfz38_5
    try clear hfz38_6
    try clear hfz38_7
    try clear hfz45_0
    try clear hfz45_1
    try clear hfz45_2
    try clear hfz45_3
    try clear hfz45_4
    try clear hfz45_5
    try clear hfz45_6
    try clear hfz45_7
    try clear hfz52_0
    try clear hfz52_1
    try clear hfz52_2
    try clear hfz52_3
    try clear hfz52_4
    try clear hfz52_5
    try clear hfz52_6
    try clear hfz52_7
    try clear hfz55_0
    try clear hfz55_1
    try clear hfz55_2
    try clear hfz55_3
    try clear hfz55_4
    try clear hfz55_5
    try clear hfz55_6
    try clear hfz55_7
    try clear hfz60_0
    try clear hfz60_1
    try clear hfz60_2
    try clear hfz60_3
    try clear hfz60_4
    try clear hfz60_5
    try clear hfz60_6
    try clear hfz60_7
    try clear hfz63_0
    try clear hfz63_1
    try clear hfz63_2
    try clear hfz63_3
    try clear hfz63_4
    try clear hfz63_5
    try clear hfz63_6
    try clear hfz63_7
    try clear hfz8_0
    try clear hfz8_1
    try clear hfz8_2
    try clear hfz8_3
    try clear hfz8_4
    try clear hfz8_5
    try clear hfz8_6
    try clear hfz8_7
    obtain ⟨kq, x51_15, rfl, HA, HJ15, HO_9, HO_185007, HO_196007, HO_211007, BK158, BK184, BK195, BK210, HB⟩ := hcut
    cases kq with
    | zero => exact absurd HA.out (by simp [laws_FnExactVersionAnswer.j0])
    | succ kj15 =>
     have H := HA.out
     clear HA
     simp only [laws_FnExactVersionAnswer.j0] at H
     by_cases c65 : x51_15 = true
     ·subst c65
      have H1 : (some false) = some r := by rw [if_pos rfl] at H; exact H
      clear H
      have H := H1
      clear H1
      obtain rfl := Option.some.inj H
      go_wp2
      go_ret
      exact ⟨by first | rfl | (simp [errW_none, errW_some] <;> rfl) | (simp [*, errW_none, errW_some] <;> rfl), by repeat (first | (with_reducible first | exact HB.out | apply wA | apply wN | apply wD | refine wS ?_ GE158.out | refine wS ?_ GE184.out | refine wS ?_ GE195.out | refine wS ?_ GE210.out) | exact HB.out)⟩
     ·replace c65 := Bool.eq_false_iff.mpr c65
      subst c65
      have H1 : ((laws_toHeader.f kj15 a0_0 a0_1 a0_2 a0_3 a0_4 a0_5 a0_6 l0_7).bind fun bt212 => ((laws_eqHeader.f kj15 t185 t186 t187 t188 t189 t190 t191 t192 bt212.1 bt212.2.1 bt212.2.2.1 bt212.2.2.2.1 bt212.2.2.2.2.1 bt212.2.2.2.2.2.1 bt212.2.2.2.2.2.2.1 bt212.2.2.2.2.2.2.2).bind fun t222 => (if t222 = true then ((laws_toIntS.f kj15 l1).bind fun t223 => ((laws_eqIntS.f kj15 t196 t223).bind fun t226 => (if t226 = true then ((laws_markHeader.f kj15 t185 t186 t187 t188 t189 t190 t191 t192 1).bind fun bt227 => ((laws_markIntS.f kj15 t196 bt227.1).bind fun bt229 => (if bt229.1 < 0 then (laws_FnExactVersionAnswer.j1 kj15 l1 t183 true a0_0 a0_1 a0_2 a0_3 a0_4 a0_5 a0_6 l0_7 t173 t174 t175 t176 t177 t178 t179 t180 t199 t200 t201 t202 t203 t204 t205 t206) else ((laws_eqHeader.f kj15 t199 t200 t201 t202 t203 t204 t205 t206 t173 t174 t175 t176 t177 t178 t179 t180).bind fun t231 => (if t231 = true then (laws_FnExactVersionAnswer.j1 kj15 l1 t183 (t209 != t183) a0_0 a0_1 a0_2 a0_3 a0_4 a0_5 a0_6 l0_7 t173 t174 t175 t176 t177 t178 t179 t180 t199 t200 t201 t202 t203 t204 t205 t206) else (laws_FnExactVersionAnswer.j1 kj15 l1 t183 true a0_0 a0_1 a0_2 a0_3 a0_4 a0_5 a0_6 l0_7 t173 t174 t175 t176 t177 t178 t179 t180 t199 t200 t201 t202 t203 t204 t205 t206)))))) else (some false)))) else (some false)))) = some r := by rw [if_neg (show ¬ (false = true) by decide)] at H; exact H
      clear H
      have H := H1
      clear H1
      replace H := Option.bind_eq_some_iff.mp H
      obtain ⟨⟨t212, t213, t214, t215, t216, t217, t218, t219⟩, A660, H⟩ := H
      replace H : ((laws_eqHeader.f kj15 t185 t186 t187 t188 t189 t190 t191 t192 t212 t213 t214 t215 t216 t217 t218 t219).bind fun t222 => (if t222 = true then ((laws_toIntS.f kj15 l1).bind fun t223 => ((laws_eqIntS.f kj15 t196 t223).bind fun t226 => (if t226 = true then ((laws_markHeader.f kj15 t185 t186 t187 t188 t189 t190 t191 t192 1).bind fun bt227 => ((laws_markIntS.f kj15 t196 bt227.1).bind fun bt229 => (if bt229.1 < 0 then (laws_FnExactVersionAnswer.j1 kj15 l1 t183 true a0_0 a0_1 a0_2 a0_3 a0_4 a0_5 a0_6 l0_7 t173 t174 t175 t176 t177 t178 t179 t180 t199 t200 t201 t202 t203 t204 t205 t206) else ((laws_eqHeader.f kj15 t199 t200 t201 t202 t203 t204 t205 t206 t173 t174 t175 t176 t177 t178 t179 t180).bind fun t231 => (if t231 = true then (laws_FnExactVersionAnswer.j1 kj15 l1 t183 (t209 != t183) a0_0 a0_1 a0_2 a0_3 a0_4 a0_5 a0_6 l0_7 t173 t174 t175 t176 t177 t178 t179 t180 t199 t200 t201 t202 t203 t204 t205 t206) else (laws_FnExactVersionAnswer.j1 kj15 l1 t183 true a0_0 a0_1 a0_2 a0_3 a0_4 a0_5 a0_6 l0_7 t173 t174 t175 t176 t177 t178 t179 t180 t199 t200 t201 t202 t203 t204 t205 t206)))))) else (some false)))) else (some false))) = some r := H
      have A66 := A0 A660
      clear A660
      replace H := Option.bind_eq_some_iff.mp H
      obtain ⟨t222, A670, H⟩ := H
      replace H : (if t222 = true then ((laws_toIntS.f kj15 l1).bind fun t223 => ((laws_eqIntS.f kj15 t196 t223).bind fun t226 => (if t226 = true then ((laws_markHeader.f kj15 t185 t186 t187 t188 t189 t190 t191 t192 1).bind fun bt227 => ((laws_markIntS.f kj15 t196 bt227.1).bind fun bt229 => (if bt229.1 < 0 then (laws_FnExactVersionAnswer.j1 kj15 l1 t183 true a0_0 a0_1 a0_2 a0_3 a0_4 a0_5 a0_6 l0_7 t173 t174 t175 t176 t177 t178 t179 t180 t199 t200 t201 t202 t203 t204 t205 t206) else ((laws_eqHeader.f kj15 t199 t200 t201 t202 t203 t204 t205 t206 t173 t174 t175 t176 t177 t178 t179 t180).bind fun t231 => (if t231 = true then (laws_FnExactVersionAnswer.j1 kj15 l1 t183 (t209 != t183) a0_0 a0_1 a0_2 a0_3 a0_4 a0_5 a0_6 l0_7 t173 t174 t175 t176 t177 t178 t179 t180 t199 t200 t201 t202 t203 t204 t205 t206) else (laws_FnExactVersionAnswer.j1 kj15 l1 t183 true a0_0 a0_1 a0_2 a0_3 a0_4 a0_5 a0_6 l0_7 t173 t174 t175 t176 t177 t178 t179 t180 t199 t200 t201 t202 t203 t204 t205 t206)))))) else (some false)))) else (some false)) = some r := H
      have A67 := A0 A670
      clear A670
      by_cases c68 : t222 = true
      ·subst c68
       have H1 : ((laws_toIntS.f kj15 l1).bind fun t223 => ((laws_eqIntS.f kj15 t196 t223).bind fun t226 => (if t226 = true then ((laws_markHeader.f kj15 t185 t186 t187 t188 t189 t190 t191 t192 1).bind fun bt227 => ((laws_markIntS.f kj15 t196 bt227.1).bind fun bt229 => (if bt229.1 < 0 then (laws_FnExactVersionAnswer.j1 kj15 l1 t183 true a0_0 a0_1 a0_2 a0_3 a0_4 a0_5 a0_6 l0_7 t173 t174 t175 t176 t177 t178 t179 t180 t199 t200 t201 t202 t203 t204 t205 t206) else ((laws_eqHeader.f kj15 t199 t200 t201 t202 t203 t204 t205 t206 t173 t174 t175 t176 t177 t178 t179 t180).bind fun t231 => (if t231 = true then (laws_FnExactVersionAnswer.j1 kj15 l1 t183 (t209 != t183) a0_0 a0_1 a0_2 a0_3 a0_4 a0_5 a0_6 l0_7 t173 t174 t175 t176 t177 t178 t179 t180 t199 t200 t201 t202 t203 t204 t205 t206) else (laws_FnExactVersionAnswer.j1 kj15 l1 t183 true a0_0 a0_1 a0_2 a0_3 a0_4 a0_5 a0_6 l0_7 t173 t174 t175 t176 t177 t178 t179 t180 t199 t200 t201 t202 t203 t204 t205 t206)))))) else (some false)))) = some r := by rw [if_pos rfl] at H; exact H
       clear H
       have H := H1
       clear H1
       replace H := Option.bind_eq_some_iff.mp H
       obtain ⟨t223, A690, H⟩ := H
       replace H : ((laws_eqIntS.f kj15 t196 t223).bind fun t226 => (if t226 = true then ((laws_markHeader.f kj15 t185 t186 t187 t188 t189 t190 t191 t192 1).bind fun bt227 => ((laws_markIntS.f kj15 t196 bt227.1).bind fun bt229 => (if bt229.1 < 0 then (laws_FnExactVersionAnswer.j1 kj15 l1 t183 true a0_0 a0_1 a0_2 a0_3 a0_4 a0_5 a0_6 l0_7 t173 t174 t175 t176 t177 t178 t179 t180 t199 t200 t201 t202 t203 t204 t205 t206) else ((laws_eqHeader.f kj15 t199 t200 t201 t202 t203 t204 t205 t206 t173 t174 t175 t176 t177 t178 t179 t180).bind fun t231 => (if t231 = true then (laws_FnExactVersionAnswer.j1 kj15 l1 t183 (t209 != t183) a0_0 a0_1 a0_2 a0_3 a0_4 a0_5 a0_6 l0_7 t173 t174 t175 t176 t177 t178 t179 t180 t199 t200 t201 t202 t203 t204 t205 t206) else (laws_FnExactVersionAnswer.j1 kj15 l1 t183 true a0_0 a0_1 a0_2 a0_3 a0_4 a0_5 a0_6 l0_7 t173 t174 t175 t176 t177 t178 t179 t180 t199 t200 t201 t202 t203 t204 t205 t206)))))) else (some false))) = some r := H
       have A69 := A0 A690
       clear A690
       replace H := Option.bind_eq_some_iff.mp H
       obtain ⟨t226, A700, H⟩ := H
       replace H : (if t226 = true then ((laws_markHeader.f kj15 t185 t186 t187 t188 t189 t190 t191 t192 1).bind fun bt227 => ((laws_markIntS.f kj15 t196 bt227.1).bind fun bt229 => (if bt229.1 < 0 then (laws_FnExactVersionAnswer.j1 kj15 l1 t183 true a0_0 a0_1 a0_2 a0_3 a0_4 a0_5 a0_6 l0_7 t173 t174 t175 t176 t177 t178 t179 t180 t199 t200 t201 t202 t203 t204 t205 t206) else ((laws_eqHeader.f kj15 t199 t200 t201 t202 t203 t204 t205 t206 t173 t174 t175 t176 t177 t178 t179 t180).bind fun t231 => (if t231 = true then (laws_FnExactVersionAnswer.j1 kj15 l1 t183 (t209 != t183) a0_0 a0_1 a0_2 a0_3 a0_4 a0_5 a0_6 l0_7 t173 t174 t175 t176 t177 t178 t179 t180 t199 t200 t201 t202 t203 t204 t205 t206) else (laws_FnExactVersionAnswer.j1 kj15 l1 t183 true a0_0 a0_1 a0_2 a0_3 a0_4 a0_5 a0_6 l0_7 t173 t174 t175 t176 t177 t178 t179 t180 t199 t200 t201 t202 t203 t204 t205 t206)))))) else (some false)) = some r := H
       have A70 := A0 A700
       clear A700
       by_cases c71 : t226 = true
       ·subst c71
        have H1 : ((laws_markHeader.f kj15 t185 t186 t187 t188 t189 t190 t191 t192 1).bind fun bt227 => ((laws_markIntS.f kj15 t196 bt227.1).bind fun bt229 => (if bt229.1 < 0 then (laws_FnExactVersionAnswer.j1 kj15 l1 t183 true a0_0 a0_1 a0_2 a0_3 a0_4 a0_5 a0_6 l0_7 t173 t174 t175 t176 t177 t178 t179 t180 t199 t200 t201 t202 t203 t204 t205 t206) else ((laws_eqHeader.f kj15 t199 t200 t201 t202 t203 t204 t205 t206 t173 t174 t175 t176 t177 t178 t179 t180).bind fun t231 => (if t231 = true then (laws_FnExactVersionAnswer.j1 kj15 l1 t183 (t209 != t183) a0_0 a0_1 a0_2 a0_3 a0_4 a0_5 a0_6 l0_7 t173 t174 t175 t176 t177 t178 t179 t180 t199 t200 t201 t202 t203 t204 t205 t206) else (laws_FnExactVersionAnswer.j1 kj15 l1 t183 true a0_0 a0_1 a0_2 a0_3 a0_4 a0_5 a0_6 l0_7 t173 t174 t175 t176 t177 t178 t179 t180 t199 t200 t201 t202 t203 t204 t205 t206)))))) = some r := by rw [if_pos rfl] at H; exact H
        clear H
        have H := H1
        clear H1
        replace H := Option.bind_eq_some_iff.mp H
        obtain ⟨⟨t227, t228⟩, A720, H⟩ := H
        replace H : ((laws_markIntS.f kj15 t196 t227).bind fun bt229 => (if bt229.1 < 0 then (laws_FnExactVersionAnswer.j1 kj15 l1 t183 true a0_0 a0_1 a0_2 a0_3 a0_4 a0_5 a0_6 l0_7 t173 t174 t175 t176 t177 t178 t179 t180 t199 t200 t201 t202 t203 t204 t205 t206) else ((laws_eqHeader.f kj15 t199 t200 t201 t202 t203 t204 t205 t206 t173 t174 t175 t176 t177 t178 t179 t180).bind fun t231 => (if t231 = true then (laws_FnExactVersionAnswer.j1 kj15 l1 t183 (t209 != t183) a0_0 a0_1 a0_2 a0_3 a0_4 a0_5 a0_6 l0_7 t173 t174 t175 t176 t177 t178 t179 t180 t199 t200 t201 t202 t203 t204 t205 t206) else (laws_FnExactVersionAnswer.j1 kj15 l1 t183 true a0_0 a0_1 a0_2 a0_3 a0_4 a0_5 a0_6 l0_7 t173 t174 t175 t176 t177 t178 t179 t180 t199 t200 t201 t202 t203 t204 t205 t206))))) = some r := H
        have A72 := A0 A720
        clear A720
        replace H := Option.bind_eq_some_iff.mp H
        obtain ⟨⟨t229, t230⟩, A730, H⟩ := H
        replace H : (if t229 < 0 then (laws_FnExactVersionAnswer.j1 kj15 l1 t183 true a0_0 a0_1 a0_2 a0_3 a0_4 a0_5 a0_6 l0_7 t173 t174 t175 t176 t177 t178 t179 t180 t199 t200 t201 t202 t203 t204 t205 t206) else ((laws_eqHeader.f kj15 t199 t200 t201 t202 t203 t204 t205 t206 t173 t174 t175 t176 t177 t178 t179 t180).bind fun t231 => (if t231 = true then (laws_FnExactVersionAnswer.j1 kj15 l1 t183 (t209 != t183) a0_0 a0_1 a0_2 a0_3 a0_4 a0_5 a0_6 l0_7 t173 t174 t175 t176 t177 t178 t179 t180 t199 t200 t201 t202 t203 t204 t205 t206) else (laws_FnExactVersionAnswer.j1 kj15 l1 t183 true a0_0 a0_1 a0_2 a0_3 a0_4 a0_5 a0_6 l0_7 t173 t174 t175 t176 t177 t178 t179 t180 t199 t200 t201 t202 t203 t204 t205 t206)))) = some r := H
        have A73 := A0 A730
        clear A730
        have HC74 := A0 H
        clear H
        try go_wp2
        replace HO_9 := A0 (rD HO_9.out)
        replace HO_185007 := A0 (rD HO_185007.out)
        replace HO_196007 := A0 (rD HO_196007.out)
        replace HO_211007 := A0 (rD HO_211007.out)
        replace BK158 := A0 (bD BK158.out)
        replace BK184 := A0 (bD BK184.out)
        replace BK195 := A0 (bD BK195.out)
        replace BK210 := A0 (bD BK210.out)
        replace HB := A0 (wD HB.out)
        refine start_ (n := 5) (S := fun w' => w'.cell? ⟨gb195, 0, none⟩ = some (.int .i64 t185) ∧ w'.cell? ⟨gb195, 1, none⟩ = some (.int .i64 t186) ∧ w'.cell? ⟨gb195, 2, none⟩ = some (.int .i64 t187) ∧ w'.cell? ⟨gb195, 3, none⟩ = some (.string t188) ∧ w'.cell? ⟨gb195, 4, none⟩ = some (.string t189) ∧ w'.cell? ⟨gb195, 5, none⟩ = some (.string t190) ∧ w'.cell? ⟨gb195, 6, none⟩ = some (.string t191) ∧ w'.cell? ⟨gb195, 7, none⟩ = some (.slice Ao36 t192.length co36) ∧ w'.cell? ⟨gb158, 0, none⟩ = some (.int .i64 a0_0) ∧ w'.cell? ⟨gb158, 1, none⟩ = some (.int .i64 a0_1) ∧ w'.cell? ⟨gb158, 2, none⟩ = some (.int .i64 a0_2) ∧ w'.cell? ⟨gb158, 3, none⟩ = some (.string a0_3) ∧ w'.cell? ⟨gb158, 4, none⟩ = some (.string a0_4) ∧ w'.cell? ⟨gb158, 5, none⟩ = some (.string a0_5) ∧ w'.cell? ⟨gb158, 6, none⟩ = some (.string a0_6) ∧ w'.cell? ⟨gb158, 7, none⟩ = some (.slice A0_7 l0_7.length c0_7)) (ds := []) #[false, false, false, false, false] (by kernel_rfl) rfl rfl ⟨(blk_cell BK195.out 0).trans rfl, (blk_cell BK195.out 1).trans rfl, (blk_cell BK195.out 2).trans rfl, (blk_cell BK195.out 3).trans rfl, (blk_cell BK195.out 4).trans rfl, (blk_cell BK195.out 5).trans rfl, (blk_cell BK195.out 6).trans rfl, (blk_cell BK195.out 7).trans rfl, (blk_cell BK158.out 0).trans rfl, (blk_cell BK158.out 1).trans rfl, (blk_cell BK158.out 2).trans rfl, (blk_cell BK158.out 3).trans rfl, (blk_cell BK158.out 4).trans rfl, (blk_cell BK158.out 5).trans rfl, (blk_cell BK158.out 6).trans rfl, (blk_cell BK158.out 7).trans rfl⟩ (fun hHeld => ?_)
        generalize wc.drew = w75 at HO_9 HO_185007 HO_196007 HO_211007 BK158 BK184 BK195 BK210 HB hHeld ⊢
        refine take_ (i := 0) (N := some 52) (v := ?_) (a' := ?_) #[true, false, false, false, false] rfl rfl (by kernel_rfl) (fun _ _ _ h => h) (Or.inl ⟨by rfl, ?_⟩) hHeld ?_ ?_
        rotate_left
        ·rintro w' ⟨s0, s1, s2, s3, s4, s5, s6, s7, s8, s9, s10, s11, s12, s13, s14, s15⟩
         go_simp
         with_reducible rfl
        rotate_left
        ·simp only [Act.put, List.setIfInBounds_toArray, List.set_cons_zero, List.set_cons_succ, i64_w, i32_w]
         rfl
        refine take_ (i := 1) (N := some 53) (v := ?_) (a' := ?_) #[true, true, false, false, false] rfl rfl (by kernel_rfl) (fun _ _ _ h => h) (Or.inl ⟨by rfl, ?_⟩) hHeld ?_ ?_
        rotate_left
        ·rintro w' ⟨s0, s1, s2, s3, s4, s5, s6, s7, s8, s9, s10, s11, s12, s13, s14, s15⟩
         go_simp
         with_reducible rfl
        rotate_left
        ·simp only [Act.put, List.setIfInBounds_toArray, List.set_cons_zero, List.set_cons_succ, i64_w, i32_w]
         rfl
        refine one_ (i := 2) (N := some 54) #[true, true, true, false, false] rfl rfl (by kernel_rfl) (by decide) (fun K hK => ?_)
        refine goes_ Try.func29 (by kernel_rfl) rfl #[.agg #[.int .i64 a0_0, .int .i64 a0_1, .int .i64 a0_2, .string a0_3, .string a0_4, .string a0_5, .string a0_6, .slice A0_7 l0_7.length c0_7]] (by rfl) rfl rfl (by (try simp only [List.map_toArray, List.map_cons, List.map_nil]); first | done | rfl) ?_
        with_reducible refine (laws_toHeader.calls kj15 a0_0 a0_1 a0_2 a0_3 a0_4 a0_5 a0_6 _ _ l0_7 t212 t213 t214 t215 t216 t217 t218 t219 _ ?side1 ?side2 A66.out).mono ?_
        (case side1 => repeat (first | exact (Kd.C_below HR0_7.out HB.out) | (with_reducible refine Kd.C_alloc ?_ _) | (with_reducible refine Kd.C_drewN ?_ _) | (with_reducible refine Kd.C_drew ?_)))
        (case side2 => exact HC0_7.out)
        rintro e w76 ⟨v220, rfl, ho0, hb⟩
        refine ⟨_, rfl, ?_⟩
        have HO221 := A0 (Kd.R_lower (Kd.R_new' (Kd.R_new' (Kd.R_new' (Kd.R_new' ho0 (Kd.R_lt (by (with_reducible repeat (first | apply rA | apply rN | apply rD)); exact HO_9.out))) (Kd.R_lt (by (with_reducible repeat (first | apply rA | apply rN | apply rD)); exact HO_185007.out))) (Kd.R_lt (by (with_reducible repeat (first | apply rA | apply rN | apply rD)); exact HO_196007.out))) (Kd.R_lt (by (with_reducible repeat (first | apply rA | apply rN | apply rD)); exact HO_211007.out))) (below_size (by repeat (first | (with_reducible first | exact HB.out | apply wA | apply wN | apply wD | refine wS ?_ GE158.out | refine wS ?_ GE184.out | refine wS ?_ GE195.out | refine wS ?_ GE210.out) | exact HB.out))))
        replace HO_9 := A0 (Kd.R_elder' (by (with_reducible repeat (first | apply rA | apply rN | apply rD)); exact HO_9.out) (Kd.R_base ho0) hb)
        replace HO_185007 := A0 (Kd.R_elder' (by (with_reducible repeat (first | apply rA | apply rN | apply rD)); exact HO_185007.out) (Kd.R_base ho0) hb)
        replace HO_196007 := A0 (Kd.R_elder' (by (with_reducible repeat (first | apply rA | apply rN | apply rD)); exact HO_196007.out) (Kd.R_base ho0) hb)
        replace HO_211007 := A0 (Kd.R_elder' (by (with_reducible repeat (first | apply rA | apply rN | apply rD)); exact HO_211007.out) (Kd.R_base ho0) hb)
        replace BK158 := A0 (bB (g := gb158) (o := OB a0_0 a0_1 a0_2 a0_3 a0_4 a0_5 a0_6 (.slice A0_7 l0_7.length c0_7) 41) (by (with_reducible repeat (first | refine bN ?_ _ | refine bD ?_ | refine bA ?_ _)); exact BK158.out) hb)
        replace BK184 := A0 (bB (g := gb184) (o := OB t173 t174 t175 t176 t177 t178 t179 (.slice Ao29 t180.length co29) 44) (by (with_reducible repeat (first | refine bN ?_ _ | refine bD ?_ | refine bA ?_ _)); exact BK184.out) hb)
        replace BK195 := A0 (bB (g := gb195) (o := OB t185 t186 t187 t188 t189 t190 t191 (.slice Ao36 t192.length co36) 44) (by (with_reducible repeat (first | refine bN ?_ _ | refine bD ?_ | refine bA ?_ _)); exact BK195.out) hb)
        replace BK210 := A0 (bB (g := gb210) (o := OB t199 t200 t201 t202 t203 t204 t205 (.slice Ao46 t206.length co46) 44) (by (with_reducible repeat (first | refine bN ?_ _ | refine bD ?_ | refine bA ?_ _)); exact BK210.out) hb)
        replace HB := A0 (below_step (by repeat (first | (with_reducible first | exact HB.out | apply wA | apply wN | apply wD | refine wS ?_ GE158.out | refine wS ?_ GE184.out | refine wS ?_ GE195.out | refine wS ?_ GE210.out) | exact HB.out)) hb)
        (try clear hb)
        (try clear hb2)
        (try clear hk)
        (try clear hi)
        (try clear ho0)
        obtain ⟨Ao77, co77, eo77⟩ := Kd.R_slice HO221.out
        (first | subst eo77 | (injection eo77 with f1_ f2_ f3_; have f4_ := f1_.symm; have f5_ := f3_.symm; clear f1_ f2_ f3_; subst f4_; subst f5_))
        refine hK.out _ _ ⟨(blk_cell BK195.out 0).trans rfl, (blk_cell BK195.out 1).trans rfl, (blk_cell BK195.out 2).trans rfl, (blk_cell BK195.out 3).trans rfl, (blk_cell BK195.out 4).trans rfl, (blk_cell BK195.out 5).trans rfl, (blk_cell BK195.out 6).trans rfl, (blk_cell BK195.out 7).trans rfl, (blk_cell BK158.out 0).trans rfl, (blk_cell BK158.out 1).trans rfl, (blk_cell BK158.out 2).trans rfl, (blk_cell BK158.out 3).trans rfl, (blk_cell BK158.out 4).trans rfl, (blk_cell BK158.out 5).trans rfl, (blk_cell BK158.out 6).trans rfl, (blk_cell BK158.out 7).trans rfl⟩ (fun hHeld => ?_)
        clear hK K
        refine norm_ (a' := ?_) ?_ ?_
        rotate_left
        ·show Act.put _ (some 54) _ = _
         simp only [Act.put, List.setIfInBounds_toArray, List.set_cons_zero, List.set_cons_succ, i64_w, i32_w]
         rfl
        refine one_ (i := 3) (N := some 55) #[true, true, true, true, false] rfl rfl (by kernel_rfl) (by decide) (fun K hK => ?_)
        refine goes_ Try.func31 (by kernel_rfl) rfl #[.agg #[.int .i64 t185, .int .i64 t186, .int .i64 t187, .string t188, .string t189, .string t190, .string t191, .slice Ao36 t192.length co36], .agg #[.int .i64 t212, .int .i64 t213, .int .i64 t214, .string t215, .string t216, .string t217, .string t218, .slice Ao77 t219.length co77]] (by rfl) rfl rfl (by (try simp only [List.map_toArray, List.map_cons, List.map_nil]); first | done | rfl) ?_
        with_reducible refine (laws_eqHeader.calls kj15 t185 t186 t187 t188 t189 t190 t191 _ _ t192 t212 t213 t214 t215 t216 t217 t218 _ _ t219 true _ ?side1 ?side2 ?side3 ?side4 A67.out).mono ?_
        (case side1 => repeat (first | exact (Kd.R_reads' HO_196007.out).2.2 | (with_reducible refine Kd.C_alloc ?_ _) | (with_reducible refine Kd.C_drewN ?_ _) | (with_reducible refine Kd.C_drew ?_)))
        (case side2 => exact (Kd.R_reads' HO_196007.out).2.1)
        (case side3 => repeat (first | exact (Kd.R_reads' HO221.out).2.2 | (with_reducible refine Kd.C_alloc ?_ _) | (with_reducible refine Kd.C_drewN ?_ _) | (with_reducible refine Kd.C_drew ?_)))
        (case side4 => exact (Kd.R_reads' HO221.out).2.1)
        rintro e w78 ⟨rfl, hb⟩
        refine ⟨_, rfl, ?_⟩
        replace HO_9 := A0 (rB (by (with_reducible repeat (first | apply rA | apply rN | apply rD)); exact HO_9.out) hb)
        replace HO_185007 := A0 (rB (by (with_reducible repeat (first | apply rA | apply rN | apply rD)); exact HO_185007.out) hb)
        replace HO_196007 := A0 (rB (by (with_reducible repeat (first | apply rA | apply rN | apply rD)); exact HO_196007.out) hb)
        replace HO_211007 := A0 (rB (by (with_reducible repeat (first | apply rA | apply rN | apply rD)); exact HO_211007.out) hb)
        replace HO221 := A0 (rB (by (with_reducible repeat (first | apply rA | apply rN | apply rD)); exact HO221.out) hb)
        replace BK158 := A0 (bB (g := gb158) (o := OB a0_0 a0_1 a0_2 a0_3 a0_4 a0_5 a0_6 (.slice A0_7 l0_7.length c0_7) 41) (by (with_reducible repeat (first | refine bN ?_ _ | refine bD ?_ | refine bA ?_ _)); exact BK158.out) hb)
        replace BK184 := A0 (bB (g := gb184) (o := OB t173 t174 t175 t176 t177 t178 t179 (.slice Ao29 t180.length co29) 44) (by (with_reducible repeat (first | refine bN ?_ _ | refine bD ?_ | refine bA ?_ _)); exact BK184.out) hb)
        replace BK195 := A0 (bB (g := gb195) (o := OB t185 t186 t187 t188 t189 t190 t191 (.slice Ao36 t192.length co36) 44) (by (with_reducible repeat (first | refine bN ?_ _ | refine bD ?_ | refine bA ?_ _)); exact BK195.out) hb)
        replace BK210 := A0 (bB (g := gb210) (o := OB t199 t200 t201 t202 t203 t204 t205 (.slice Ao46 t206.length co46) 44) (by (with_reducible repeat (first | refine bN ?_ _ | refine bD ?_ | refine bA ?_ _)); exact BK210.out) hb)
        replace HB := A0 (below_step (by repeat (first | (with_reducible first | exact HB.out | apply wA | apply wN | apply wD | refine wS ?_ GE158.out | refine wS ?_ GE184.out | refine wS ?_ GE195.out | refine wS ?_ GE210.out) | exact HB.out)) hb)
        (try clear hb)
        (try clear hb2)
        (try clear hk)
        (try clear hi)
        refine hK.out _ _ ⟨(blk_cell BK195.out 0).trans rfl, (blk_cell BK195.out 1).trans rfl, (blk_cell BK195.out 2).trans rfl, (blk_cell BK195.out 3).trans rfl, (blk_cell BK195.out 4).trans rfl, (blk_cell BK195.out 5).trans rfl, (blk_cell BK195.out 6).trans rfl, (blk_cell BK195.out 7).trans rfl, (blk_cell BK158.out 0).trans rfl, (blk_cell BK158.out 1).trans rfl, (blk_cell BK158.out 2).trans rfl, (blk_cell BK158.out 3).trans rfl, (blk_cell BK158.out 4).trans rfl, (blk_cell BK158.out 5).trans rfl, (blk_cell BK158.out 6).trans rfl, (blk_cell BK158.out 7).trans rfl⟩ (fun hHeld => ?_)
        clear hK K
        refine norm_ (a' := ?_) ?_ ?_
        rotate_left
        ·show Act.put _ (some 55) _ = _
         simp only [Act.put, List.setIfInBounds_toArray, List.set_cons_zero, List.set_cons_succ, i64_w, i32_w]
         rfl
        refine pure_ (i := 4) (N := some 56) (v := ?_) (a' := ?_) #[true, true, true, true, true] rfl rfl (by kernel_rfl) (fun _ _ _ h => h) (Or.inl ⟨by rfl, ?_⟩) ?_ ?_
        rotate_left
        ·intro w'
         go_simp
         with_reducible rfl
        rotate_left
        ·simp only [Act.put, List.setIfInBounds_toArray, List.set_cons_zero, List.set_cons_succ, i64_w, i32_w]
         rfl
        refine done_ (by kernel_rfl) ?_
        go_upto_region 20 with (first | ((with_reducible refine gate_callee (f := 38) rfl ?_); refine goesL_ (some 59) rfl rfl Try.func38 (by kernel_rfl) rfl #[.slice A1 l1.length c1] rfl (by (try simp only [List.map_toArray, List.map_cons, List.map_nil]); first | done | rfl) ?_; (with_reducible refine (laws_toIntS.calls kj15 _ _ l1 t223 _ ?side1 ?side2 A69.out).mono ?_); (case side1 => repeat (first | exact (Kd.C_below HR1.out HB.out) | (with_reducible refine Kd.C_alloc ?_ _) | (with_reducible refine Kd.C_drewN ?_ _) | (with_reducible refine Kd.C_drew ?_))); (case side2 => exact HC1.out); rintro e w79 ⟨v224, rfl, ho0, hb⟩; refine ⟨_, rfl, ?_⟩; have HO225 := A0 (Kd.R_lower (Kd.R_new' (Kd.R_new' (Kd.R_new' (Kd.R_new' (Kd.R_new' ho0 (Kd.R_lt (by (with_reducible repeat (first | apply rA | apply rN | apply rD)); exact HO_9.out))) (Kd.R_lt (by (with_reducible repeat (first | apply rA | apply rN | apply rD)); exact HO_185007.out))) (Kd.R_lt (by (with_reducible repeat (first | apply rA | apply rN | apply rD)); exact HO_196007.out))) (Kd.R_lt (by (with_reducible repeat (first | apply rA | apply rN | apply rD)); exact HO_211007.out))) (Kd.R_lt (by (with_reducible repeat (first | apply rA | apply rN | apply rD)); exact HO221.out))) (below_size (by repeat (first | (with_reducible first | exact HB.out | apply wA | apply wN | apply wD | refine wS ?_ GE158.out | refine wS ?_ GE184.out | refine wS ?_ GE195.out | refine wS ?_ GE210.out) | exact HB.out)))); replace HO_9 := A0 (Kd.R_elder' (by (with_reducible repeat (first | apply rA | apply rN | apply rD)); exact HO_9.out) (Kd.R_base ho0) hb); replace HO_185007 := A0 (Kd.R_elder' (by (with_reducible repeat (first | apply rA | apply rN | apply rD)); exact HO_185007.out) (Kd.R_base ho0) hb); replace HO_196007 := A0 (Kd.R_elder' (by (with_reducible repeat (first | apply rA | apply rN | apply rD)); exact HO_196007.out) (Kd.R_base ho0) hb); replace HO_211007 := A0 (Kd.R_elder' (by (with_reducible repeat (first | apply rA | apply rN | apply rD)); exact HO_211007.out) (Kd.R_base ho0) hb); replace HO221 := A0 (Kd.R_elder' (by (with_reducible repeat (first | apply rA | apply rN | apply rD)); exact HO221.out) (Kd.R_base ho0) hb); replace BK158 := A0 (bB (g := gb158) (o := OB a0_0 a0_1 a0_2 a0_3 a0_4 a0_5 a0_6 (.slice A0_7 l0_7.length c0_7) 41) (by (with_reducible repeat (first | refine bN ?_ _ | refine bD ?_ | refine bA ?_ _)); exact BK158.out) hb); replace BK184 := A0 (bB (g := gb184) (o := OB t173 t174 t175 t176 t177 t178 t179 (.slice Ao29 t180.length co29) 44) (by (with_reducible repeat (first | refine bN ?_ _ | refine bD ?_ | refine bA ?_ _)); exact BK184.out) hb); replace BK195 := A0 (bB (g := gb195) (o := OB t185 t186 t187 t188 t189 t190 t191 (.slice Ao36 t192.length co36) 44) (by (with_reducible repeat (first | refine bN ?_ _ | refine bD ?_ | refine bA ?_ _)); exact BK195.out) hb); replace BK210 := A0 (bB (g := gb210) (o := OB t199 t200 t201 t202 t203 t204 t205 (.slice Ao46 t206.length co46) 44) (by (with_reducible repeat (first | refine bN ?_ _ | refine bD ?_ | refine bA ?_ _)); exact BK210.out) hb); replace HB := A0 (below_step (by repeat (first | (with_reducible first | exact HB.out | apply wA | apply wN | apply wD | refine wS ?_ GE158.out | refine wS ?_ GE184.out | refine wS ?_ GE195.out | refine wS ?_ GE210.out) | exact HB.out)) hb); (try clear hb); (try clear hb2); (try clear hk); (try clear hi); (try clear ho0); obtain ⟨Ao80, co80, eo80⟩ := Kd.R_slice HO225.out; subst eo80) | ((with_reducible refine gate_callee (f := 40) rfl ?_); refine goesL_ (some 60) rfl rfl Try.func40 (by kernel_rfl) rfl #[.slice Ao39 t196.length co39, .slice Ao80 t223.length co80] rfl (by (try simp only [List.map_toArray, List.map_cons, List.map_nil]); first | done | rfl) ?_; (with_reducible refine (laws_eqIntS.calls kj15 _ _ t196 _ _ t223 true _ ?side1 ?side2 ?side3 ?side4 A70.out).mono ?_); (case side1 => repeat (first | exact (Kd.R_reads' HO_9.out).2.2 | (with_reducible refine Kd.C_alloc ?_ _) | (with_reducible refine Kd.C_drewN ?_ _) | (with_reducible refine Kd.C_drew ?_))); (case side2 => exact (Kd.R_reads' HO_9.out).2.1); (case side3 => repeat (first | exact (Kd.R_reads' HO225.out).2.2 | (with_reducible refine Kd.C_alloc ?_ _) | (with_reducible refine Kd.C_drewN ?_ _) | (with_reducible refine Kd.C_drew ?_))); (case side4 => exact (Kd.R_reads' HO225.out).2.1); rintro e w' ⟨rfl, ⟨nd, rfl⟩⟩; refine ⟨_, rfl, ?_⟩; have hnb81 := NB195_158.out; have hnc81 := NB158_195.out; have hnb82 := NB195_184.out; have hnc82 := NB184_195.out; have hnb83 := NB195_210.out; have hnc83 := NB210_195.out; obtain ⟨hcz84_0, hcz84_1, hcz84_2, hcz84_3, hcz84_4, hcz84_5, hcz84_6, hcz84_7, hfz84_0, hfz84_1, hfz84_2, hfz84_3, hfz84_4, hfz84_5, hfz84_6, hfz84_7⟩ := blk8 BK195.out) | ((with_reducible refine gate_callee (f := 41) rfl ?_); refine goesL_ (some 64) rfl rfl Try.func41 (by kernel_rfl) rfl #[.agg #[.int .i64 t185, .int .i64 t186, .int .i64 t187, .string t188, .string t189, .string t190, .string t191, .slice Ao36 t192.length co36], .int .i64 1] rfl (by (try simp only [List.map_toArray, List.map_cons, List.map_nil]); first | done | rfl) ?_; (with_reducible refine (laws_markHeader.calls kj15 t185 t186 t187 t188 t189 t190 t191 (fun k_ => some k_ = (.slice Ao36 t192.length co36 : Value).ownBlock) (.slice Ao36 t192.length co36) t192 1 t227 t228 w _ ?side1 ?side2 A72.out).mono ?_); (case side1 => repeat (first | (with_reducible first | exact HB.out | apply wA | apply wN | apply wD | refine wS ?_ GE158.out | refine wS ?_ GE184.out | refine wS ?_ GE195.out | refine wS ?_ GE210.out) | exact HB.out)); (case side2 => exact Kd.R_tight rfl HO_196007.out); rintro e w85 ⟨rfl, hy0, hb, hkp⟩; refine ⟨_, rfl, ?_⟩; replace HO_9 := A0 (Kd.R_mono (ok' := fun k_ => some k_ ≠ (.slice Ao29 t180.length co29 : Value).ownBlock ∧ some k_ ≠ (.slice Ao36 t192.length co36 : Value).ownBlock ∧ some k_ ≠ (.slice Ao46 t206.length co46 : Value).ownBlock ∧ some k_ ≠ (.slice Ao77 t219.length co77 : Value).ownBlock ∧ some k_ ≠ (.slice Ao80 t223.length co80 : Value).ownBlock) (Kd.R_keptB (HO_9.out) hkp (fun k_ hk_ hs_ => (hk_.1.1.2.1) hs_)) (fun k_ hk_ => ⟨hk_.1.1.1.1, hk_.1.1.1.2.1, hk_.1.1.1.2.2, hk_.1.1.2, hk_.1.2⟩)); replace HO_185007 := A0 (Kd.R_mono (ok' := fun k_ => some k_ ≠ (.slice Ao39 t196.length co39 : Value).ownBlock ∧ some k_ ≠ (.slice Ao36 t192.length co36 : Value).ownBlock ∧ some k_ ≠ (.slice Ao46 t206.length co46 : Value).ownBlock ∧ some k_ ≠ (.slice Ao77 t219.length co77 : Value).ownBlock ∧ some k_ ≠ (.slice Ao80 t223.length co80 : Value).ownBlock) (Kd.R_keptB (HO_185007.out) hkp (fun k_ hk_ hs_ => (hk_.1.1.2.1) hs_)) (fun k_ hk_ => ⟨hk_.1.1.1.1, hk_.1.1.1.2.1, hk_.1.1.1.2.2, hk_.1.1.2, hk_.1.2⟩)); replace HO_211007 := A0 (Kd.R_mono (ok' := fun k_ => some k_ ≠ (.slice Ao39 t196.length co39 : Value).ownBlock ∧ some k_ ≠ (.slice Ao29 t180.length co29 : Value).ownBlock ∧ some k_ ≠ (.slice Ao36 t192.length co36 : Value).ownBlock ∧ some k_ ≠ (.slice Ao77 t219.length co77 : Value).ownBlock ∧ some k_ ≠ (.slice Ao80 t223.length co80 : Value).ownBlock) (Kd.R_keptB (HO_211007.out) hkp (fun k_ hk_ hs_ => (hk_.1.1.2.2) hs_)) (fun k_ hk_ => ⟨hk_.1.1.1.1, hk_.1.1.1.2.1, hk_.1.1.1.2.2, hk_.1.1.2, hk_.1.2⟩)); replace BK158 := A0 (blk_kept (by (with_reducible repeat (first | refine bN ?_ _ | refine bD ?_ | refine bA ?_ _)); exact BK158.out) hkp (fun hs_ => (fun e_ => (Kd.R_ne HO_196007.out BK158.out (by decide)) e_) hs_)); replace BK184 := A0 (blk_kept (by (with_reducible repeat (first | refine bN ?_ _ | refine bD ?_ | refine bA ?_ _)); exact BK184.out) hkp (fun hs_ => (fun e_ => (Kd.R_ne HO_196007.out BK184.out (by decide)) e_) hs_)); replace BK195 := A0 (blk_kept (by (with_reducible repeat (first | refine bN ?_ _ | refine bD ?_ | refine bA ?_ _)); exact BK195.out) hkp (fun hs_ => (fun e_ => (Kd.R_ne HO_196007.out BK195.out (by decide)) e_) hs_)); replace BK210 := A0 (blk_kept (by (with_reducible repeat (first | refine bN ?_ _ | refine bD ?_ | refine bA ?_ _)); exact BK210.out) hkp (fun hs_ => (fun e_ => (Kd.R_ne HO_196007.out BK210.out (by decide)) e_) hs_)); replace HO_196007 := A0 (Kd.R_reok rfl hy0 (fun k_ e_ => HO_196007.out.1 k_ e_)); replace HO221 := A0 (Kd.R_mono (ok' := fun k_ => some k_ ≠ (.slice Ao39 t196.length co39 : Value).ownBlock ∧ some k_ ≠ (.slice Ao29 t180.length co29 : Value).ownBlock ∧ some k_ ≠ (.slice Ao36 t192.length co36 : Value).ownBlock ∧ some k_ ≠ (.slice Ao46 t206.length co46 : Value).ownBlock ∧ some k_ ≠ (.slice Ao80 t223.length co80 : Value).ownBlock) (Kd.R_keptB (HO221.out) hkp (fun k_ hk_ hs_ => (hk_.1.1.2) hs_)) (fun k_ hk_ => ⟨hk_.1.1.1.1.1.2, hk_.1.1.1.1.2, hk_.1.1.1.2, hk_.1.1.2, hk_.1.2⟩)); replace HO225 := A0 (Kd.R_mono (ok' := fun k_ => some k_ ≠ (.slice Ao39 t196.length co39 : Value).ownBlock ∧ some k_ ≠ (.slice Ao29 t180.length co29 : Value).ownBlock ∧ some k_ ≠ (.slice Ao36 t192.length co36 : Value).ownBlock ∧ some k_ ≠ (.slice Ao46 t206.length co46 : Value).ownBlock ∧ some k_ ≠ (.slice Ao77 t219.length co77 : Value).ownBlock) (Kd.R_keptB (HO225.out) hkp (fun k_ hk_ hs_ => (hk_.1.1.2) hs_)) (fun k_ hk_ => ⟨hk_.1.1.1.1.1.2, hk_.1.1.1.1.2, hk_.1.1.1.2, hk_.1.1.2, hk_.1.2⟩)); replace HB := A0 (hb); (try clear hb); (try clear hkp); (try clear hy0)) | ((with_reducible refine gate_callee (f := 42) rfl ?_); refine goesL_ (some 67) rfl rfl Try.func42 (by kernel_rfl) rfl #[.slice Ao39 t196.length co39, .int .i64 t227] rfl (by (try simp only [List.map_toArray, List.map_cons, List.map_nil]); first | done | rfl) ?_; (with_reducible refine (laws_markIntS.calls kj15 (fun k_ => some k_ = (.slice Ao39 t196.length co39 : Value).ownBlock) (.slice Ao39 t196.length co39) t196 t227 t229 t230 w _ ?side1 ?side2 A73.out).mono ?_); (case side1 => repeat (first | (with_reducible first | exact HB.out | apply wA | apply wN | apply wD | refine wS ?_ GE158.out | refine wS ?_ GE184.out | refine wS ?_ GE195.out | refine wS ?_ GE210.out) | exact HB.out)); (case side2 => exact Kd.R_tight rfl HO_9.out); rintro e w86 ⟨rfl, hy0, hb, hkp⟩; refine ⟨_, rfl, ?_⟩; replace HO_185007 := A0 (Kd.R_mono (ok' := fun k_ => some k_ ≠ (.slice Ao39 t196.length co39 : Value).ownBlock ∧ some k_ ≠ (.slice Ao36 t192.length co36 : Value).ownBlock ∧ some k_ ≠ (.slice Ao46 t206.length co46 : Value).ownBlock ∧ some k_ ≠ (.slice Ao77 t219.length co77 : Value).ownBlock ∧ some k_ ≠ (.slice Ao80 t223.length co80 : Value).ownBlock) (Kd.R_keptB (HO_185007.out) hkp (fun k_ hk_ hs_ => (hk_.1) hs_)) (fun k_ hk_ => ⟨hk_.1.1, hk_.1.2.1, hk_.1.2.2.1, hk_.1.2.2.2.1, hk_.1.2.2.2.2⟩)); replace HO_196007 := A0 (Kd.R_mono (ok' := fun k_ => some k_ ≠ (.slice Ao39 t196.length co39 : Value).ownBlock ∧ some k_ ≠ (.slice Ao29 t180.length co29 : Value).ownBlock ∧ some k_ ≠ (.slice Ao46 t206.length co46 : Value).ownBlock ∧ some k_ ≠ (.slice Ao77 t219.length co77 : Value).ownBlock ∧ some k_ ≠ (.slice Ao80 t223.length co80 : Value).ownBlock) (Kd.R_keptB (HO_196007.out) hkp (fun k_ hk_ hs_ => (hk_.1.1.1) hs_)) (fun k_ hk_ => ⟨hk_.1.1.1.1, hk_.1.1.1.2.1, hk_.1.1.1.2.2, hk_.1.1.2, hk_.1.2⟩)); replace HO_211007 := A0 (Kd.R_mono (ok' := fun k_ => some k_ ≠ (.slice Ao39 t196.length co39 : Value).ownBlock ∧ some k_ ≠ (.slice Ao29 t180.length co29 : Value).ownBlock ∧ some k_ ≠ (.slice Ao36 t192.length co36 : Value).ownBlock ∧ some k_ ≠ (.slice Ao77 t219.length co77 : Value).ownBlock ∧ some k_ ≠ (.slice Ao80 t223.length co80 : Value).ownBlock) (Kd.R_keptB (HO_211007.out) hkp (fun k_ hk_ hs_ => (hk_.1) hs_)) (fun k_ hk_ => ⟨hk_.1.1, hk_.1.2.1, hk_.1.2.2.1, hk_.1.2.2.2.1, hk_.1.2.2.2.2⟩)); replace BK158 := A0 (blk_kept (by (with_reducible repeat (first | refine bN ?_ _ | refine bD ?_ | refine bA ?_ _)); exact BK158.out) hkp (fun hs_ => (fun e_ => (Kd.R_ne HO_9.out BK158.out (by decide)) e_) hs_)); replace BK184 := A0 (blk_kept (by (with_reducible repeat (first | refine bN ?_ _ | refine bD ?_ | refine bA ?_ _)); exact BK184.out) hkp (fun hs_ => (fun e_ => (Kd.R_ne HO_9.out BK184.out (by decide)) e_) hs_)); replace BK195 := A0 (blk_kept (by (with_reducible repeat (first | refine bN ?_ _ | refine bD ?_ | refine bA ?_ _)); exact BK195.out) hkp (fun hs_ => (fun e_ => (Kd.R_ne HO_9.out BK195.out (by decide)) e_) hs_)); replace BK210 := A0 (blk_kept (by (with_reducible repeat (first | refine bN ?_ _ | refine bD ?_ | refine bA ?_ _)); exact BK210.out) hkp (fun hs_ => (fun e_ => (Kd.R_ne HO_9.out BK210.out (by decide)) e_) hs_)); replace HO_9 := A0 (Kd.R_reok rfl hy0 (fun k_ e_ => HO_9.out.1 k_ e_)); replace HO221 := A0 (Kd.R_mono (ok' := fun k_ => some k_ ≠ (.slice Ao39 t196.length co39 : Value).ownBlock ∧ some k_ ≠ (.slice Ao29 t180.length co29 : Value).ownBlock ∧ some k_ ≠ (.slice Ao36 t192.length co36 : Value).ownBlock ∧ some k_ ≠ (.slice Ao46 t206.length co46 : Value).ownBlock ∧ some k_ ≠ (.slice Ao80 t223.length co80 : Value).ownBlock) (Kd.R_keptB (HO221.out) hkp (fun k_ hk_ hs_ => (hk_.1) hs_)) (fun k_ hk_ => ⟨hk_.1.1, hk_.1.2.1, hk_.1.2.2.1, hk_.1.2.2.2.1, hk_.1.2.2.2.2⟩)); replace HO225 := A0 (Kd.R_mono (ok' := fun k_ => some k_ ≠ (.slice Ao39 t196.length co39 : Value).ownBlock ∧ some k_ ≠ (.slice Ao29 t180.length co29 : Value).ownBlock ∧ some k_ ≠ (.slice Ao36 t192.length co36 : Value).ownBlock ∧ some k_ ≠ (.slice Ao46 t206.length co46 : Value).ownBlock ∧ some k_ ≠ (.slice Ao77 t219.length co77 : Value).ownBlock) (Kd.R_keptB (HO225.out) hkp (fun k_ hk_ hs_ => (hk_.1) hs_)) (fun k_ hk_ => ⟨hk_.1.1, hk_.1.2.1, hk_.1.2.2.1, hk_.1.2.2.2.1, hk_.1.2.2.2.2⟩)); replace HB := A0 (hb); (try clear hb); (try clear hkp); (try clear hy0)))
        (try simp only [Act.put, List.setIfInBounds_toArray, List.set_cons_zero, List.set_cons_succ])
        go_cut [80] (fun v80 wc => ∃ (kq : Nat) (x80_73 : Bool), v80 = .bool x80_73 ∧ Aside0 (laws_FnExactVersionAnswer.j1 kq l1 t183 x80_73 a0_0 a0_1 a0_2 a0_3 a0_4 a0_5 a0_6 l0_7 t173 t174 t175 t176 t177 t178 t179 t180 t199 t200 t201 t202 t203 t204 t205 t206 = some r) ∧ Aside0 (kq ≤ kj15) ∧ Aside0 (Kd.R (Kd.int .i64) 3 wc w.heap.size (fun k_ => some k_ ≠ ((.slice Ao36 t192.length co36) : Value).ownBlock ∧ some k_ ≠ ((.slice Ao46 t206.length co46) : Value).ownBlock) (.slice Ao29 t180.length co29) t180) ∧ Aside0 (Kd.R (Kd.int .i64) 3 wc w.heap.size (fun k_ => some k_ ≠ ((.slice Ao29 t180.length co29) : Value).ownBlock ∧ some k_ ≠ ((.slice Ao46 t206.length co46) : Value).ownBlock) (.slice Ao36 t192.length co36) t228) ∧ Aside0 (Kd.R (Kd.int .i64) 3 wc w.heap.size (fun k_ => some k_ ≠ ((.slice Ao29 t180.length co29) : Value).ownBlock ∧ some k_ ≠ ((.slice Ao36 t192.length co36) : Value).ownBlock) (.slice Ao46 t206.length co46) t206) ∧ Aside0 (wc.heap[gb158]? = some (.cells #[.int .i64 a0_0, .int .i64 a0_1, .int .i64 a0_2, .string a0_3, .string a0_4, .string a0_5, .string a0_6, (.slice A0_7 l0_7.length c0_7)] 41 (0, 0))) ∧ Aside0 (wc.heap[gb184]? = some (.cells #[.int .i64 t173, .int .i64 t174, .int .i64 t175, .string t176, .string t177, .string t178, .string t179, (.slice Ao29 t180.length co29)] 44 (0, 0))) ∧ Aside0 (wc.heap[gb195]? = some (.cells #[.int .i64 t185, .int .i64 t186, .int .i64 t187, .string t188, .string t189, .string t190, .string t191, (.slice Ao36 t192.length co36)] 44 (0, 0))) ∧ Aside0 (wc.heap[gb210]? = some (.cells #[.int .i64 t199, .int .i64 t200, .int .i64 t201, .string t202, .string t203, .string t204, .string t205, (.slice Ao46 t206.length co46)] 44 (0, 0))) ∧ Aside0 (Below w.heap.size w wc))
        case first =>
         have H := HC74.out
         clear HC74
         by_cases c87 : t229 < 0
         ·rw [if_pos c87] at H
          have c87b0 : decide (t229 < 0) = true := decide_eq_true c87
          clear c87
          (first | rw [c87b0] | (simp only [i64_w, i32_w]; rw [c87b0]) | skip)
          have H' := A0 H
          clear H
          go_wp2
          go_meet
          case rel => exact ⟨_, (true), (by first | rfl | (simp; done) | (simp [*]; done)), H', ⟨by have := HJ15.out; first | omega | exact Nat.le_refl _⟩, ⟨by (with_reducible repeat (first | apply rA | apply rN | apply rD)); exact Kd.R_mono HO_185007.out (fun _ hk => ⟨hk.2.1, hk.2.2.1⟩)⟩, ⟨by (with_reducible repeat (first | apply rA | apply rN | apply rD)); exact Kd.R_mono HO_196007.out (fun _ hk => ⟨hk.2.1, hk.2.2.1⟩)⟩, ⟨by (with_reducible repeat (first | apply rA | apply rN | apply rD)); exact Kd.R_mono HO_211007.out (fun _ hk => ⟨hk.2.1, hk.2.2.1⟩)⟩, ⟨by (with_reducible repeat (first | refine bN ?_ _ | refine bD ?_ | refine bA ?_ _)); exact BK158.out⟩, ⟨by (with_reducible repeat (first | refine bN ?_ _ | refine bD ?_ | refine bA ?_ _)); exact BK184.out⟩, ⟨by (with_reducible repeat (first | refine bN ?_ _ | refine bD ?_ | refine bA ?_ _)); exact BK195.out⟩, ⟨by (with_reducible repeat (first | refine bN ?_ _ | refine bD ?_ | refine bA ?_ _)); exact BK210.out⟩, ⟨by repeat (first | (with_reducible first | exact HB.out | apply wA | apply wN | apply wD | refine wS ?_ GE158.out | refine wS ?_ GE184.out | refine wS ?_ GE195.out | refine wS ?_ GE210.out) | exact HB.out)⟩⟩
         ·rw [if_neg c87] at H
          have c87b0 : decide (t229 < 0) = false := decide_eq_false c87
          clear c87
          (first | rw [c87b0] | (simp only [i64_w, i32_w]; rw [c87b0]) | skip)
          replace H := Option.bind_eq_some_iff.mp H
          obtain ⟨t231, A880, H⟩ := H
          replace H : (if t231 = true then (laws_FnExactVersionAnswer.j1 kj15 l1 t183 (t209 != t183) a0_0 a0_1 a0_2 a0_3 a0_4 a0_5 a0_6 l0_7 t173 t174 t175 t176 t177 t178 t179 t180 t199 t200 t201 t202 t203 t204 t205 t206) else (laws_FnExactVersionAnswer.j1 kj15 l1 t183 true a0_0 a0_1 a0_2 a0_3 a0_4 a0_5 a0_6 l0_7 t173 t174 t175 t176 t177 t178 t179 t180 t199 t200 t201 t202 t203 t204 t205 t206)) = some r := H
          have A88 := A0 A880
          clear A880
          by_cases c89 : t231 = true
          ·subst c89
           have H1 : (laws_FnExactVersionAnswer.j1 kj15 l1 t183 (t209 != t183) a0_0 a0_1 a0_2 a0_3 a0_4 a0_5 a0_6 l0_7 t173 t174 t175 t176 t177 t178 t179 t180 t199 t200 t201 t202 t203 t204 t205 t206) = some r := by rw [if_pos rfl] at H; exact H
           clear H
           have H := H1
           clear H1
           have H' := A0 H
           clear H
           have hnb90 := NB210_158.out
           have hnc90 := NB158_210.out
           have hnb91 := NB210_184.out
           have hnc91 := NB184_210.out
           have hnb92 := NB210_195.out
           have hnc92 := NB195_210.out
           obtain ⟨hcz93_0, hcz93_1, hcz93_2, hcz93_3, hcz93_4, hcz93_5, hcz93_6, hcz93_7, hfz93_0, hfz93_1, hfz93_2, hfz93_3, hfz93_4, hfz93_5, hfz93_6, hfz93_7⟩ := blk8 BK210.out
           have hnb94 := NB184_158.out
           have hnc94 := NB158_184.out
           have hnb95 := NB184_195.out
           have hnc95 := NB195_184.out
           obtain ⟨hcz96_0, hcz96_1, hcz96_2, hcz96_3, hcz96_4, hcz96_5, hcz96_6, hcz96_7, hfz96_0, hfz96_1, hfz96_2, hfz96_3, hfz96_4, hfz96_5, hfz96_6, hfz96_7⟩ := blk8 BK184.out
           go_wp2_with (first | (go_at_call 31; (with_reducible refine (laws_eqHeader.calls kj15 t199 t200 t201 t202 t203 t204 t205 _ _ t206 t173 t174 t175 t176 t177 t178 t179 _ _ t180 true _ ?side1 ?side2 ?side3 ?side4 A88.out).mono ?_); (case side1 => repeat (first | exact (Kd.R_reads' HO_211007.out).2.2 | (with_reducible refine Kd.C_alloc ?_ _) | (with_reducible refine Kd.C_drewN ?_ _) | (with_reducible refine Kd.C_drew ?_))); (case side2 => exact (Kd.R_reads' HO_211007.out).2.1); (case side3 => repeat (first | exact (Kd.R_reads' HO_185007.out).2.2 | (with_reducible refine Kd.C_alloc ?_ _) | (with_reducible refine Kd.C_drewN ?_ _) | (with_reducible refine Kd.C_drew ?_))); (case side4 => exact (Kd.R_reads' HO_185007.out).2.1); rintro e w97 ⟨rfl, hb⟩; replace HO_9 := A0 (rB (by (with_reducible repeat (first | apply rA | apply rN | apply rD)); exact HO_9.out) hb); replace HO_185007 := A0 (rB (by (with_reducible repeat (first | apply rA | apply rN | apply rD)); exact HO_185007.out) hb); replace HO_196007 := A0 (rB (by (with_reducible repeat (first | apply rA | apply rN | apply rD)); exact HO_196007.out) hb); replace HO_211007 := A0 (rB (by (with_reducible repeat (first | apply rA | apply rN | apply rD)); exact HO_211007.out) hb); replace HO221 := A0 (rB (by (with_reducible repeat (first | apply rA | apply rN | apply rD)); exact HO221.out) hb); replace HO225 := A0 (rB (by (with_reducible repeat (first | apply rA | apply rN | apply rD)); exact HO225.out) hb); replace BK158 := A0 (bB (g := gb158) (o := OB a0_0 a0_1 a0_2 a0_3 a0_4 a0_5 a0_6 (.slice A0_7 l0_7.length c0_7) 41) (by (with_reducible repeat (first | refine bN ?_ _ | refine bD ?_ | refine bA ?_ _)); exact BK158.out) hb); replace BK184 := A0 (bB (g := gb184) (o := OB t173 t174 t175 t176 t177 t178 t179 (.slice Ao29 t180.length co29) 44) (by (with_reducible repeat (first | refine bN ?_ _ | refine bD ?_ | refine bA ?_ _)); exact BK184.out) hb); replace BK195 := A0 (bB (g := gb195) (o := OB t185 t186 t187 t188 t189 t190 t191 (.slice Ao36 t192.length co36) 44) (by (with_reducible repeat (first | refine bN ?_ _ | refine bD ?_ | refine bA ?_ _)); exact BK195.out) hb); replace BK210 := A0 (bB (g := gb210) (o := OB t199 t200 t201 t202 t203 t204 t205 (.slice Ao46 t206.length co46) 44) (by (with_reducible repeat (first | refine bN ?_ _ | refine bD ?_ | refine bA ?_ _)); exact BK210.out) hb); replace HB := A0 (below_step (by repeat (first | (with_reducible first | exact HB.out | apply wA | apply wN | apply wD | refine wS ?_ GE158.out | refine wS ?_ GE184.out | refine wS ?_ GE195.out | refine wS ?_ GE210.out) | exact HB.out)) hb); (try clear hb); (try clear hb2); (try clear hk); (try clear hi)))
           go_meet
           case rel => exact ⟨_, ((t209 != t183)), (by first | rfl | (simp; done) | (simp [*]; done)), H', ⟨by have := HJ15.out; first | omega | exact Nat.le_refl _⟩, ⟨by (with_reducible repeat (first | apply rA | apply rN | apply rD)); exact Kd.R_mono HO_185007.out (fun _ hk => ⟨hk.2.1, hk.2.2.1⟩)⟩, ⟨by (with_reducible repeat (first | apply rA | apply rN | apply rD)); exact Kd.R_mono HO_196007.out (fun _ hk => ⟨hk.2.1, hk.2.2.1⟩)⟩, ⟨by (with_reducible repeat (first | apply rA | apply rN | apply rD)); exact Kd.R_mono HO_211007.out (fun _ hk => ⟨hk.2.1, hk.2.2.1⟩)⟩, ⟨by (with_reducible repeat (first | refine bN ?_ _ | refine bD ?_ | refine bA ?_ _)); exact BK158.out⟩, ⟨by (with_reducible repeat (first | refine bN ?_ _ | refine bD ?_ | refine bA ?_ _)); exact BK184.out⟩, ⟨by (with_reducible repeat (first | refine bN ?_ _ | refine bD ?_ | refine bA ?_ _)); exact BK195.out⟩, ⟨by (with_reducible repeat (first | refine bN ?_ _ | refine bD ?_ | refine bA ?_ _)); exact BK210.out⟩, ⟨by repeat (first | (with_reducible first | exact HB.out | apply wA | apply wN | apply wD | refine wS ?_ GE158.out | refine wS ?_ GE184.out | refine wS ?_ GE195.out | refine wS ?_ GE210.out) | exact HB.out)⟩⟩
          ·replace c89 := Bool.eq_false_iff.mpr c89
           subst c89
           have H1 : (laws_FnExactVersionAnswer.j1 kj15 l1 t183 true a0_0 a0_1 a0_2 a0_3 a0_4 a0_5 a0_6 l0_7 t173 t174 t175 t176 t177 t178 t179 t180 t199 t200 t201 t202 t203 t204 t205 t206) = some r := by rw [if_neg (show ¬ (false = true) by decide)] at H; exact H
           clear H
           have H := H1
           clear H1
           have H' := A0 H
           clear H
           have hnb98 := NB210_158.out
           have hnc98 := NB158_210.out
           have hnb99 := NB210_184.out
           have hnc99 := NB184_210.out
           have hnb100 := NB210_195.out
           have hnc100 := NB195_210.out
           obtain ⟨hcz101_0, hcz101_1, hcz101_2, hcz101_3, hcz101_4, hcz101_5, hcz101_6, hcz101_7, hfz101_0, hfz101_1, hfz101_2, hfz101_3, hfz101_4, hfz101_5, hfz101_6, hfz101_7⟩ := blk8 BK210.out
           have hnb102 := NB184_158.out
           have hnc102 := NB158_184.out
           have hnb103 := NB184_195.out
           have hnc103 := NB195_184.out
           obtain ⟨hcz104_0, hcz104_1, hcz104_2, hcz104_3, hcz104_4, hcz104_5, hcz104_6, hcz104_7, hfz104_0, hfz104_1, hfz104_2, hfz104_3, hfz104_4, hfz104_5, hfz104_6, hfz104_7⟩ := blk8 BK184.out
           go_wp2_with (first | (go_at_call 31; (with_reducible refine (laws_eqHeader.calls kj15 t199 t200 t201 t202 t203 t204 t205 _ _ t206 t173 t174 t175 t176 t177 t178 t179 _ _ t180 false _ ?side1 ?side2 ?side3 ?side4 A88.out).mono ?_); (case side1 => repeat (first | exact (Kd.R_reads' HO_211007.out).2.2 | (with_reducible refine Kd.C_alloc ?_ _) | (with_reducible refine Kd.C_drewN ?_ _) | (with_reducible refine Kd.C_drew ?_))); (case side2 => exact (Kd.R_reads' HO_211007.out).2.1); (case side3 => repeat (first | exact (Kd.R_reads' HO_185007.out).2.2 | (with_reducible refine Kd.C_alloc ?_ _) | (with_reducible refine Kd.C_drewN ?_ _) | (with_reducible refine Kd.C_drew ?_))); (case side4 => exact (Kd.R_reads' HO_185007.out).2.1); rintro e w105 ⟨rfl, hb⟩; replace HO_9 := A0 (rB (by (with_reducible repeat (first | apply rA | apply rN | apply rD)); exact HO_9.out) hb); replace HO_185007 := A0 (rB (by (with_reducible repeat (first | apply rA | apply rN | apply rD)); exact HO_185007.out) hb); replace HO_196007 := A0 (rB (by (with_reducible repeat (first | apply rA | apply rN | apply rD)); exact HO_196007.out) hb); replace HO_211007 := A0 (rB (by (with_reducible repeat (first | apply rA | apply rN | apply rD)); exact HO_211007.out) hb); replace HO221 := A0 (rB (by (with_reducible repeat (first | apply rA | apply rN | apply rD)); exact HO221.out) hb); replace HO225 := A0 (rB (by (with_reducible repeat (first | apply rA | apply rN | apply rD)); exact HO225.out) hb); replace BK158 := A0 (bB (g := gb158) (o := OB a0_0 a0_1 a0_2 a0_3 a0_4 a0_5 a0_6 (.slice A0_7 l0_7.length c0_7) 41) (by (with_reducible repeat (first | refine bN ?_ _ | refine bD ?_ | refine bA ?_ _)); exact BK158.out) hb); replace BK184 := A0 (bB (g := gb184) (o := OB t173 t174 t175 t176 t177 t178 t179 (.slice Ao29 t180.length co29) 44) (by (with_reducible repeat (first | refine bN ?_ _ | refine bD ?_ | refine bA ?_ _)); exact BK184.out) hb); replace BK195 := A0 (bB (g := gb195) (o := OB t185 t186 t187 t188 t189 t190 t191 (.slice Ao36 t192.length co36) 44) (by (with_reducible repeat (first | refine bN ?_ _ | refine bD ?_ | refine bA ?_ _)); exact BK195.out) hb); replace BK210 := A0 (bB (g := gb210) (o := OB t199 t200 t201 t202 t203 t204 t205 (.slice Ao46 t206.length co46) 44) (by (with_reducible repeat (first | refine bN ?_ _ | refine bD ?_ | refine bA ?_ _)); exact BK210.out) hb); replace HB := A0 (below_step (by repeat (first | (with_reducible first | exact HB.out | apply wA | apply wN | apply wD | refine wS ?_ GE158.out | refine wS ?_ GE184.out | refine wS ?_ GE195.out | refine wS ?_ GE210.out) | exact HB.out)) hb); (try clear hb); (try clear hb2); (try clear hk); (try clear hi)))
           go_meet
           case rel => exact ⟨_, (true), (by first | rfl | (simp; done) | (simp [*]; done)), H', ⟨by have := HJ15.out; first | omega | exact Nat.le_refl _⟩, ⟨by (with_reducible repeat (first | apply rA | apply rN | apply rD)); exact Kd.R_mono HO_185007.out (fun _ hk => ⟨hk.2.1, hk.2.2.1⟩)⟩, ⟨by (with_reducible repeat (first | apply rA | apply rN | apply rD)); exact Kd.R_mono HO_196007.out (fun _ hk => ⟨hk.2.1, hk.2.2.1⟩)⟩, ⟨by (with_reducible repeat (first | apply rA | apply rN | apply rD)); exact Kd.R_mono HO_211007.out (fun _ hk => ⟨hk.2.1, hk.2.2.1⟩)⟩, ⟨by (with_reducible repeat (first | refine bN ?_ _ | refine bD ?_ | refine bA ?_ _)); exact BK158.out⟩, ⟨by (with_reducible repeat (first | refine bN ?_ _ | refine bD ?_ | refine bA ?_ _)); exact BK184.out⟩, ⟨by (with_reducible repeat (first | refine bN ?_ _ | refine bD ?_ | refine bA ?_ _)); exact BK195.out⟩, ⟨by (with_reducible repeat (first | refine bN ?_ _ | refine bD ?_ | refine bA ?_ _)); exact BK210.out⟩, ⟨by repeat (first | (with_reducible first | exact HB.out | apply wA | apply wN | apply wD | refine wS ?_ GE158.out | refine wS ?_ GE184.out | refine wS ?_ GE195.out | refine wS ?_ GE210.out) | exact HB.out)⟩⟩
        case rest =>
         clear HC74
         try clear c1
         try clear c2
         try clear p2
         try clear c3
         try clear c3b0
         try clear c3b1
         try clear c4
         try clear c5
         try clear c6
         try clear c6b0
         try clear c7
         try clear c8
         try clear c9
         try clear c10
         try clear c11
         try clear c27
         try clear c29
         try clear c31
         try clear c33
         try clear c34
         try clear c37
         try clear c38
         try clear c39
         try clear c40
         try clear c41
         try clear c42
         try clear c43
         try clear c44
         try clear c48
         try clear c49
         try clear c50
         try clear c51
         try clear c53
         try clear c54
         try clear c57
         try clear c58
         try clear c59
         try clear c61
         try clear c62
         try clear c65
         try clear c68
         try clear c71
         try clear c81
         try clear c82
         try clear c83
         try clear c87
         try clear c87b0
         try clear c89
         try clear c90
         try clear c91
         try clear c92
         try clear c94
         try clear c95
         try clear c98
         try clear c99
         try clear c100
         try clear c102
         try clear c103
         try clear hcz101_0
         try clear hcz101_1
         try clear hcz101_2
         try clear hcz101_3
         try clear hcz101_4
         try clear hcz101_5
         try clear hcz101_6
         try clear hcz101_7
         try clear hcz104_0
         try clear hcz104_1
         try clear hcz104_2
         try clear hcz104_3
         try clear hcz104_4
         try clear hcz104_5
         try clear hcz104_6
         try clear hcz104_7
         try clear hcz18_0
         try clear hcz18_1
         try clear hcz18_2
         try clear hcz18_3
         try clear hcz18_4
         try clear hcz18_5
         try clear hcz18_6
         try clear hcz18_7
         try clear hcz20_0
         try clear hcz20_1
         try clear hcz20_2
         try clear hcz20_3
         try clear hcz20_4
         try clear hcz20_5
         try clear hcz20_6
         try clear hcz20_7
         try clear hcz28_0
         try clear hcz28_1
         try clear hcz28_2
         try clear hcz28_3
         try clear hcz28_4
         try clear hcz28_5
         try clear hcz28_6
         try clear hcz28_7
         try clear hcz30_0
         try clear hcz30_1
         try clear hcz30_2
         try clear hcz30_3
         try clear hcz30_4
         try clear hcz30_5
         try clear hcz30_6
         try clear hcz30_7
         try clear hcz35_0
         try clear hcz35_1
         try clear hcz35_2
         try clear hcz35_3
         try clear hcz35_4
         try clear hcz35_5
         try clear hcz35_6
         try clear hcz35_7
         try clear hcz38_0
         try clear hcz38_1
         try clear hcz38_2
         try clear hcz38_3
         try clear hcz38_4
         try clear hcz38_5
         try clear hcz38_6
         try clear hcz38_7
         try clear hcz45_0
         try clear hcz45_1
         try clear hcz45_2
         try clear hcz45_3
         try clear hcz45_4
         try clear hcz45_5
         try clear hcz45_6
         try clear hcz45_7
         try clear hcz52_0
         try clear hcz52_1
         try clear hcz52_2
         try clear hcz52_3
         try clear hcz52_4
         try clear hcz52_5
         try clear hcz52_6
         try clear hcz52_7
         try clear hcz55_0
         try clear hcz55_1
         try clear hcz55_2
         try clear hcz55_3
         try clear hcz55_4
         try clear hcz55_5
         try clear hcz55_6
         try clear hcz55_7
         try clear hcz60_0
         try clear hcz60_1
         try clear hcz60_2
         try clear hcz60_3
         try clear hcz60_4
         try clear hcz60_5
         try clear hcz60_6
         try clear hcz60_7
         try clear hcz63_0
         try clear hcz63_1
         try clear hcz63_2
         try clear hcz63_3
         try clear hcz63_4
         try clear hcz63_5
         try clear hcz63_6
         try clear hcz63_7
         try clear hcz84_0
         try clear hcz84_1
         try clear hcz84_2
         try clear hcz84_3
         try clear hcz84_4
         try clear hcz84_5
         try clear hcz84_6
         try clear hcz84_7
         try clear hcz8_0
         try clear hcz8_1
         try clear hcz8_2
         try clear hcz8_3
         try clear hcz8_4
         try clear hcz8_5
         try clear hcz8_6
         try clear hcz8_7
         try clear hcz93_0
         try clear hcz93_1
         try clear hcz93_2
         try clear hcz93_3
         try clear hcz93_4
         try clear hcz93_5
         try clear hcz93_6
         try clear hcz93_7
         try clear hcz96_0
         try clear hcz96_1
         try clear hcz96_2
         try clear hcz96_3
         try clear hcz96_4
         try clear hcz96_5
         try clear hcz96_6
         try clear hcz96_7
         try clear hfz101_0
         try clear hfz101_1
         try clear hfz101_2
         try clear hfz101_3
         try clear hfz101_4
         try clear hfz101_5
         try clear hfz101_6
         try clear hfz101_7
         try clear hfz104_0
         try clear hfz104_1
         try clear hfz104_2
         try clear hfz104_3
         try clear hfz104_4
         try clear hfz104_5
         try clear hfz104_6
         try clear hfz104_7
         try clear hfz18_0
         try clear hfz18_1
         try clear hfz18_2
         try clear hfz18_3
         try clear hfz18_4
         try clear hfz18_5
         try clear hfz18_6
         try clear hfz18_7
         try clear hfz20_0
         try clear hfz20_1
         try clear hfz20_2
         try clear hfz20_3
         try clear hfz20_4
         try clear hfz20_5
         try clear hfz20_6
         try clear hfz20_7
         try clear hfz28_0
         try clear hfz28_1
         try clear hfz28_2
         try clear hfz28_3
         try clear hfz28_4
         try clear hfz28_5
         try clear hfz28_6
         try clear hfz28_7
         try clear hfz30_0
         try clear hfz30_1
         try clear hfz30_2
         try clear hfz30_3
         try clear hfz30_4
         try clear hfz30_5
         try clear hfz30_6
         try clear hfz30_7
         try clear hfz35_0
         try clear hfz35_1
         try clear hfz35_2
         try clear hfz35_3
         try clear hfz35_4
         try clear hfz35_5
         try clear hfz35_6
         try clear hfz35_7
         try clear hfz38_0
         try clear hfz38_1
         try clear hfz38_2
         try clear hfz38_3
         try clear hfz38_4
         try clear hfz38_5
         try clear hfz38_6
         try clear hfz38_7
         try clear hfz45_0
         try clear hfz45_1
         try clear hfz45_2
         try clear hfz45_3
         try clear hfz45_4
         try clear hfz45_5
         try clear hfz45_6
         try clear hfz45_7
         try clear hfz52_0
         try clear hfz52_1
         try clear hfz52_2
         try clear hfz52_3
         try clear hfz52_4
         try clear hfz52_5
         try clear hfz52_6
         try clear hfz52_7
         try clear hfz55_0
         try clear hfz55_1
         try clear hfz55_2
         try clear hfz55_3
         try clear hfz55_4
         try clear hfz55_5
         try clear hfz55_6
         try clear hfz55_7
         try clear hfz60_0
         try clear hfz60_1
         try clear hfz60_2
         try clear hfz60_3
         try clear hfz60_4
         try clear hfz60_5
         try clear hfz60_6
         try clear hfz60_7
         try clear hfz63_0
         try clear hfz63_1
         try clear hfz63_2
         try clear hfz63_3
         try clear hfz63_4
         try clear hfz63_5
         try clear hfz63_6
         try clear hfz63_7
         try clear hfz84_0
         try clear hfz84_1
         try clear hfz84_2
         try clear hfz84_3
         try clear hfz84_4
         try clear hfz84_5
         try clear hfz84_6
         try clear hfz84_7
         try clear hfz8_0
         try clear hfz8_1
         try clear hfz8_2
         try clear hfz8_3
         try clear hfz8_4
         try clear hfz8_5
         try clear hfz8_6
         try clear hfz8_7
         try clear hfz93_0
         try clear hfz93_1
         try clear hfz93_2
         try clear hfz93_3
         try clear hfz93_4
         try clear hfz93_5
         try clear hfz93_6
         try clear hfz93_7
         try clear hfz96_0
         try clear hfz96_1
         try clear hfz96_2
         try clear hfz96_3
         try clear hfz96_4
         try clear hfz96_5
         try clear hfz96_6
         try clear hfz96_7
         try clear p2
         obtain ⟨kq, x80_73, rfl, HA, HJ73, HO_185007, HO_196007, HO_211007, BK158, BK184, BK195, BK210, HB⟩ := hcut
         have hl196007_73 := (Kd.R_reads' HO_196007.out).1
         rw [hl196007_73] at HO_196007
         (try simp only [hl196007_73])
         (try simp only [hl196007_73] at BK158)
         (try simp only [hl196007_73] at BK184)
         (try simp only [hl196007_73] at BK195)
         (try simp only [hl196007_73] at BK210)
         (try simp only [hl196007_73] at HO_185007)
         (try simp only [hl196007_73] at HO_211007)
         cases kq with
         | zero => exact absurd HA.out (by simp [laws_FnExactVersionAnswer.j1])
         | succ kj73 =>
          have H := HA.out
          clear HA
          simp only [laws_FnExactVersionAnswer.j1] at H
          by_cases c106 : x80_73 = true
          ·subst c106
           have H1 : (some false) = some r := by rw [if_pos rfl] at H; exact H
           clear H
           have H := H1
           clear H1
           obtain rfl := Option.some.inj H
           go_wp2
           go_ret
           exact ⟨by first | rfl | (simp [errW_none, errW_some] <;> rfl) | (simp [*, errW_none, errW_some] <;> rfl), by repeat (first | (with_reducible first | exact HB.out | apply wA | apply wN | apply wD | refine wS ?_ GE158.out | refine wS ?_ GE184.out | refine wS ?_ GE195.out | refine wS ?_ GE210.out) | exact HB.out)⟩
          ·replace c106 := Bool.eq_false_iff.mpr c106
           subst c106
           have H1 : ((laws_markHeader.f kj73 t199 t200 t201 t202 t203 t204 t205 t206 1).bind fun bt232 => ((laws_heldHeader.f kj73 t199 t200 t201 t202 t203 t204 t205 bt232.2 1).bind fun t234 => (if t234 < 0 then (some false) else (if t234 = bt232.1 then ((laws_toHeader.f kj73 a0_0 a0_1 a0_2 a0_3 a0_4 a0_5 a0_6 l0_7).bind fun bt235 => ((laws_toIntS.f kj73 l1).bind fun t245 => ((impl_VersionAnswer.f kj73 bt235.1 bt235.2.1 bt235.2.2.1 bt235.2.2.2.1 bt235.2.2.2.2.1 bt235.2.2.2.2.2.1 bt235.2.2.2.2.2.2.1 bt235.2.2.2.2.2.2.2 t245).bind fun bt248 => ((laws_eqHeader.f kj73 bt248.1 bt248.2.1 bt248.2.2.1 bt248.2.2.2.1 bt248.2.2.2.2.1 bt248.2.2.2.2.2.1 bt248.2.2.2.2.2.2.1 bt248.2.2.2.2.2.2.2.1 t173 t174 t175 t176 t177 t178 t179 t180).bind fun t260 => (if t260 = true then (laws_FnExactVersionAnswer.j2 kj73 bt232.1 (bt248.2.2.2.2.2.2.2.2 != t183) t199 t200 t201 t202 t203 t204 t205 bt232.2) else (laws_FnExactVersionAnswer.j2 kj73 bt232.1 true t199 t200 t201 t202 t203 t204 t205 bt232.2)))))) else (some false))))) = some r := by rw [if_neg (show ¬ (false = true) by decide)] at H; exact H
           clear H
           have H := H1
           clear H1
           replace H := Option.bind_eq_some_iff.mp H
           obtain ⟨⟨t232, t233⟩, A1070, H⟩ := H
           replace H : ((laws_heldHeader.f kj73 t199 t200 t201 t202 t203 t204 t205 t233 1).bind fun t234 => (if t234 < 0 then (some false) else (if t234 = t232 then ((laws_toHeader.f kj73 a0_0 a0_1 a0_2 a0_3 a0_4 a0_5 a0_6 l0_7).bind fun bt235 => ((laws_toIntS.f kj73 l1).bind fun t245 => ((impl_VersionAnswer.f kj73 bt235.1 bt235.2.1 bt235.2.2.1 bt235.2.2.2.1 bt235.2.2.2.2.1 bt235.2.2.2.2.2.1 bt235.2.2.2.2.2.2.1 bt235.2.2.2.2.2.2.2 t245).bind fun bt248 => ((laws_eqHeader.f kj73 bt248.1 bt248.2.1 bt248.2.2.1 bt248.2.2.2.1 bt248.2.2.2.2.1 bt248.2.2.2.2.2.1 bt248.2.2.2.2.2.2.1 bt248.2.2.2.2.2.2.2.1 t173 t174 t175 t176 t177 t178 t179 t180).bind fun t260 => (if t260 = true then (laws_FnExactVersionAnswer.j2 kj73 t232 (bt248.2.2.2.2.2.2.2.2 != t183) t199 t200 t201 t202 t203 t204 t205 t233) else (laws_FnExactVersionAnswer.j2 kj73 t232 true t199 t200 t201 t202 t203 t204 t205 t233)))))) else (some false)))) = some r := H
           have A107 := A0 A1070
           clear A1070
           replace H := Option.bind_eq_some_iff.mp H
           obtain ⟨t234, A1080, H⟩ := H
           replace H : (if t234 < 0 then (some false) else (if t234 = t232 then ((laws_toHeader.f kj73 a0_0 a0_1 a0_2 a0_3 a0_4 a0_5 a0_6 l0_7).bind fun bt235 => ((laws_toIntS.f kj73 l1).bind fun t245 => ((impl_VersionAnswer.f kj73 bt235.1 bt235.2.1 bt235.2.2.1 bt235.2.2.2.1 bt235.2.2.2.2.1 bt235.2.2.2.2.2.1 bt235.2.2.2.2.2.2.1 bt235.2.2.2.2.2.2.2 t245).bind fun bt248 => ((laws_eqHeader.f kj73 bt248.1 bt248.2.1 bt248.2.2.1 bt248.2.2.2.1 bt248.2.2.2.2.1 bt248.2.2.2.2.2.1 bt248.2.2.2.2.2.2.1 bt248.2.2.2.2.2.2.2.1 t173 t174 t175 t176 t177 t178 t179 t180).bind fun t260 => (if t260 = true then (laws_FnExactVersionAnswer.j2 kj73 t232 (bt248.2.2.2.2.2.2.2.2 != t183) t199 t200 t201 t202 t203 t204 t205 t233) else (laws_FnExactVersionAnswer.j2 kj73 t232 true t199 t200 t201 t202 t203 t204 t205 t233)))))) else (some false))) = some r := H
           have A108 := A0 A1080
           clear A1080
           by_cases c109 : t234 < 0
           ·rw [if_pos c109] at H
            have c109b0 : decide (t234 < 0) = true := decide_eq_true c109
            clear c109
            obtain rfl := Option.some.inj H
            have hnb110 := NB210_158.out
            have hnc110 := NB158_210.out
            have hnb111 := NB210_184.out
            have hnc111 := NB184_210.out
            have hnb112 := NB210_195.out
            have hnc112 := NB195_210.out
            obtain ⟨hcz113_0, hcz113_1, hcz113_2, hcz113_3, hcz113_4, hcz113_5, hcz113_6, hcz113_7, hfz113_0, hfz113_1, hfz113_2, hfz113_3, hfz113_4, hfz113_5, hfz113_6, hfz113_7⟩ := blk8 BK210.out
            go_wp2_with (first | ((with_reducible refine gate_callee (f := 41) rfl ?_); refine goesL_ (some 83) rfl rfl Try.func41 (by kernel_rfl) rfl #[.agg #[.int .i64 t199, .int .i64 t200, .int .i64 t201, .string t202, .string t203, .string t204, .string t205, .slice Ao46 t206.length co46], .int .i64 1] rfl (by (try simp only [List.map_toArray, List.map_cons, List.map_nil]); first | done | rfl) ?_; (with_reducible refine (laws_markHeader.calls kj73 t199 t200 t201 t202 t203 t204 t205 (fun k_ => some k_ = (.slice Ao46 t206.length co46 : Value).ownBlock) (.slice Ao46 t206.length co46) t206 1 t232 t233 w _ ?side1 ?side2 A107.out).mono ?_); (case side1 => repeat (first | (with_reducible first | exact HB.out | apply wA | apply wN | apply wD | refine wS ?_ GE158.out | refine wS ?_ GE184.out | refine wS ?_ GE195.out | refine wS ?_ GE210.out) | exact HB.out)); (case side2 => exact Kd.R_tight rfl HO_211007.out); rintro e w114 ⟨rfl, hy0, hb, hkp⟩; refine ⟨_, rfl, ?_⟩; replace HO_185007 := A0 (Kd.R_mono (ok' := fun k_ => some k_ ≠ (.slice Ao36 t228.length co36 : Value).ownBlock ∧ some k_ ≠ (.slice Ao46 t206.length co46 : Value).ownBlock) (Kd.R_keptB (HO_185007.out) hkp (fun k_ hk_ hs_ => (hk_.2) hs_)) (fun k_ hk_ => ⟨hk_.1.1, hk_.1.2⟩)); replace HO_196007 := A0 (Kd.R_mono (ok' := fun k_ => some k_ ≠ (.slice Ao29 t180.length co29 : Value).ownBlock ∧ some k_ ≠ (.slice Ao46 t206.length co46 : Value).ownBlock) (Kd.R_keptB (HO_196007.out) hkp (fun k_ hk_ hs_ => (hk_.2) hs_)) (fun k_ hk_ => ⟨hk_.1.1, hk_.1.2⟩)); replace BK158 := A0 (blk_kept (by (with_reducible repeat (first | refine bN ?_ _ | refine bD ?_ | refine bA ?_ _)); exact BK158.out) hkp (fun hs_ => (fun e_ => (Kd.R_ne HO_211007.out BK158.out (by decide)) e_) hs_)); replace BK184 := A0 (blk_kept (by (with_reducible repeat (first | refine bN ?_ _ | refine bD ?_ | refine bA ?_ _)); exact BK184.out) hkp (fun hs_ => (fun e_ => (Kd.R_ne HO_211007.out BK184.out (by decide)) e_) hs_)); replace BK195 := A0 (blk_kept (by (with_reducible repeat (first | refine bN ?_ _ | refine bD ?_ | refine bA ?_ _)); exact BK195.out) hkp (fun hs_ => (fun e_ => (Kd.R_ne HO_211007.out BK195.out (by decide)) e_) hs_)); replace BK210 := A0 (blk_kept (by (with_reducible repeat (first | refine bN ?_ _ | refine bD ?_ | refine bA ?_ _)); exact BK210.out) hkp (fun hs_ => (fun e_ => (Kd.R_ne HO_211007.out BK210.out (by decide)) e_) hs_)); replace HO_211007 := A0 (Kd.R_reok rfl hy0 (fun k_ e_ => HO_211007.out.1 k_ e_)); replace HB := A0 (hb); (try clear hb); (try clear hkp); (try clear hy0); obtain ⟨hcz115_0, hcz115_1, hcz115_2, hcz115_3, hcz115_4, hcz115_5, hcz115_6, hcz115_7, hfz115_0, hfz115_1, hfz115_2, hfz115_3, hfz115_4, hfz115_5, hfz115_6, hfz115_7⟩ := blk8 BK210.out) | ((with_reducible refine gate_callee (f := 43) rfl ?_); refine goesL_ (some 86) rfl rfl Try.func43 (by kernel_rfl) rfl #[.agg #[.int .i64 t199, .int .i64 t200, .int .i64 t201, .string t202, .string t203, .string t204, .string t205, .slice Ao46 t233.length co46], .int .i64 1] rfl (by (try simp only [List.map_toArray, List.map_cons, List.map_nil]); first | done | (rw [show t233.length = t206.length from (Kd.R_reads' HO_211007.out).1.symm] <;> rfl) | rfl) ?_; (with_reducible refine (laws_heldHeader.calls kj73 t199 t200 t201 t202 t203 t204 t205 _ _ t233 1 t234 _ ?side1 ?side2 A108.out).mono ?_); (case side1 => repeat (first | exact (Kd.R_reads' HO_211007.out).2.2 | (with_reducible refine Kd.C_alloc ?_ _) | (with_reducible refine Kd.C_drewN ?_ _) | (with_reducible refine Kd.C_drew ?_))); (case side2 => rw [show t233.length = t206.length from (Kd.R_reads' HO_211007.out).1.symm]; exact (Kd.R_reads' HO_211007.out).2.1); rintro e w116 ⟨rfl, hb⟩; refine ⟨_, rfl, ?_⟩; replace HO_185007 := A0 (rB (by (with_reducible repeat (first | apply rA | apply rN | apply rD)); exact HO_185007.out) hb); replace HO_196007 := A0 (rB (by (with_reducible repeat (first | apply rA | apply rN | apply rD)); exact HO_196007.out) hb); replace HO_211007 := A0 (rB (by (with_reducible repeat (first | apply rA | apply rN | apply rD)); exact HO_211007.out) hb); replace BK158 := A0 (bB (g := gb158) (o := OB a0_0 a0_1 a0_2 a0_3 a0_4 a0_5 a0_6 (.slice A0_7 l0_7.length c0_7) 41) (by (with_reducible repeat (first | refine bN ?_ _ | refine bD ?_ | refine bA ?_ _)); exact BK158.out) hb); replace BK184 := A0 (bB (g := gb184) (o := OB t173 t174 t175 t176 t177 t178 t179 (.slice Ao29 t180.length co29) 44) (by (with_reducible repeat (first | refine bN ?_ _ | refine bD ?_ | refine bA ?_ _)); exact BK184.out) hb); replace BK195 := A0 (bB (g := gb195) (o := OB t185 t186 t187 t188 t189 t190 t191 (.slice Ao36 t228.length co36) 44) (by (with_reducible repeat (first | refine bN ?_ _ | refine bD ?_ | refine bA ?_ _)); exact BK195.out) hb); replace BK210 := A0 (bB (g := gb210) (o := OB t199 t200 t201 t202 t203 t204 t205 (.slice Ao46 t206.length co46) 44) (by (with_reducible repeat (first | refine bN ?_ _ | refine bD ?_ | refine bA ?_ _)); exact BK210.out) hb); replace HB := A0 (below_step (by repeat (first | (with_reducible first | exact HB.out | apply wA | apply wN | apply wD | refine wS ?_ GE158.out | refine wS ?_ GE184.out | refine wS ?_ GE195.out | refine wS ?_ GE210.out) | exact HB.out)) hb); (try clear hb); (try clear hb2); (try clear hk); (try clear hi)))
            go_ret
            exact ⟨by first | rfl | (simp [errW_none, errW_some] <;> rfl) | (simp [*, errW_none, errW_some] <;> rfl), by repeat (first | (with_reducible first | exact HB.out | apply wA | apply wN | apply wD | refine wS ?_ GE158.out | refine wS ?_ GE184.out | refine wS ?_ GE195.out | refine wS ?_ GE210.out) | exact HB.out)⟩
           ·rw [if_neg c109] at H
            have c109b0 : decide (t234 < 0) = false := decide_eq_false c109
            clear c109
            by_cases c117 : t234 = t232
            ·rw [if_pos c117] at H
             have c117b0 : (t234 == t232) = true := beq_iff_eq.mpr c117
             have c117b1 : (t234 != t232) = false := bne_eq_false_iff_eq.mpr c117
             clear c117
             replace H := Option.bind_eq_some_iff.mp H
             obtain ⟨⟨t235, t236, t237, t238, t239, t240, t241, t242⟩, A1180, H⟩ := H
             replace H : ((laws_toIntS.f kj73 l1).bind fun t245 => ((impl_VersionAnswer.f kj73 t235 t236 t237 t238 t239 t240 t241 t242 t245).bind fun bt248 => ((laws_eqHeader.f kj73 bt248.1 bt248.2.1 bt248.2.2.1 bt248.2.2.2.1 bt248.2.2.2.2.1 bt248.2.2.2.2.2.1 bt248.2.2.2.2.2.2.1 bt248.2.2.2.2.2.2.2.1 t173 t174 t175 t176 t177 t178 t179 t180).bind fun t260 => (if t260 = true then (laws_FnExactVersionAnswer.j2 kj73 t232 (bt248.2.2.2.2.2.2.2.2 != t183) t199 t200 t201 t202 t203 t204 t205 t233) else (laws_FnExactVersionAnswer.j2 kj73 t232 true t199 t200 t201 t202 t203 t204 t205 t233))))) = some r := H
             have A118 := A0 A1180
             clear A1180
             replace H := Option.bind_eq_some_iff.mp H
             obtain ⟨t245, A1190, H⟩ := H
             replace H : ((impl_VersionAnswer.f kj73 t235 t236 t237 t238 t239 t240 t241 t242 t245).bind fun bt248 => ((laws_eqHeader.f kj73 bt248.1 bt248.2.1 bt248.2.2.1 bt248.2.2.2.1 bt248.2.2.2.2.1 bt248.2.2.2.2.2.1 bt248.2.2.2.2.2.2.1 bt248.2.2.2.2.2.2.2.1 t173 t174 t175 t176 t177 t178 t179 t180).bind fun t260 => (if t260 = true then (laws_FnExactVersionAnswer.j2 kj73 t232 (bt248.2.2.2.2.2.2.2.2 != t183) t199 t200 t201 t202 t203 t204 t205 t233) else (laws_FnExactVersionAnswer.j2 kj73 t232 true t199 t200 t201 t202 t203 t204 t205 t233)))) = some r := H
             have A119 := A0 A1190
             clear A1190
             replace H := Option.bind_eq_some_iff.mp H
             obtain ⟨⟨t248, t249, t250, t251, t252, t253, t254, t255, t258⟩, A1200, H⟩ := H
             replace H : ((laws_eqHeader.f kj73 t248 t249 t250 t251 t252 t253 t254 t255 t173 t174 t175 t176 t177 t178 t179 t180).bind fun t260 => (if t260 = true then (laws_FnExactVersionAnswer.j2 kj73 t232 (t258 != t183) t199 t200 t201 t202 t203 t204 t205 t233) else (laws_FnExactVersionAnswer.j2 kj73 t232 true t199 t200 t201 t202 t203 t204 t205 t233))) = some r := H
             have A120 := A0 A1200
             clear A1200
             have HC121 := A0 H
             clear H
             have hnb122 := NB210_158.out
             have hnc122 := NB158_210.out
             have hnb123 := NB210_184.out
             have hnc123 := NB184_210.out
             have hnb124 := NB210_195.out
             have hnc124 := NB195_210.out
             obtain ⟨hcz125_0, hcz125_1, hcz125_2, hcz125_3, hcz125_4, hcz125_5, hcz125_6, hcz125_7, hfz125_0, hfz125_1, hfz125_2, hfz125_3, hfz125_4, hfz125_5, hfz125_6, hfz125_7⟩ := blk8 BK210.out
             go_upto_region 31 with (first | ((with_reducible refine gate_callee (f := 41) rfl ?_); refine goesL_ (some 83) rfl rfl Try.func41 (by kernel_rfl) rfl #[.agg #[.int .i64 t199, .int .i64 t200, .int .i64 t201, .string t202, .string t203, .string t204, .string t205, .slice Ao46 t206.length co46], .int .i64 1] rfl (by (try simp only [List.map_toArray, List.map_cons, List.map_nil]); first | done | rfl) ?_; (with_reducible refine (laws_markHeader.calls kj73 t199 t200 t201 t202 t203 t204 t205 (fun k_ => some k_ = (.slice Ao46 t206.length co46 : Value).ownBlock) (.slice Ao46 t206.length co46) t206 1 t232 t233 w _ ?side1 ?side2 A107.out).mono ?_); (case side1 => repeat (first | (with_reducible first | exact HB.out | apply wA | apply wN | apply wD | refine wS ?_ GE158.out | refine wS ?_ GE184.out | refine wS ?_ GE195.out | refine wS ?_ GE210.out) | exact HB.out)); (case side2 => exact Kd.R_tight rfl HO_211007.out); rintro e w126 ⟨rfl, hy0, hb, hkp⟩; refine ⟨_, rfl, ?_⟩; replace HO_185007 := A0 (Kd.R_mono (ok' := fun k_ => some k_ ≠ (.slice Ao36 t228.length co36 : Value).ownBlock ∧ some k_ ≠ (.slice Ao46 t206.length co46 : Value).ownBlock) (Kd.R_keptB (HO_185007.out) hkp (fun k_ hk_ hs_ => (hk_.2) hs_)) (fun k_ hk_ => ⟨hk_.1.1, hk_.1.2⟩)); replace HO_196007 := A0 (Kd.R_mono (ok' := fun k_ => some k_ ≠ (.slice Ao29 t180.length co29 : Value).ownBlock ∧ some k_ ≠ (.slice Ao46 t206.length co46 : Value).ownBlock) (Kd.R_keptB (HO_196007.out) hkp (fun k_ hk_ hs_ => (hk_.2) hs_)) (fun k_ hk_ => ⟨hk_.1.1, hk_.1.2⟩)); replace BK158 := A0 (blk_kept (by (with_reducible repeat (first | refine bN ?_ _ | refine bD ?_ | refine bA ?_ _)); exact BK158.out) hkp (fun hs_ => (fun e_ => (Kd.R_ne HO_211007.out BK158.out (by decide)) e_) hs_)); replace BK184 := A0 (blk_kept (by (with_reducible repeat (first | refine bN ?_ _ | refine bD ?_ | refine bA ?_ _)); exact BK184.out) hkp (fun hs_ => (fun e_ => (Kd.R_ne HO_211007.out BK184.out (by decide)) e_) hs_)); replace BK195 := A0 (blk_kept (by (with_reducible repeat (first | refine bN ?_ _ | refine bD ?_ | refine bA ?_ _)); exact BK195.out) hkp (fun hs_ => (fun e_ => (Kd.R_ne HO_211007.out BK195.out (by decide)) e_) hs_)); replace BK210 := A0 (blk_kept (by (with_reducible repeat (first | refine bN ?_ _ | refine bD ?_ | refine bA ?_ _)); exact BK210.out) hkp (fun hs_ => (fun e_ => (Kd.R_ne HO_211007.out BK210.out (by decide)) e_) hs_)); replace HO_211007 := A0 (Kd.R_reok rfl hy0 (fun k_ e_ => HO_211007.out.1 k_ e_)); replace HB := A0 (hb); (try clear hb); (try clear hkp); (try clear hy0); obtain ⟨hcz127_0, hcz127_1, hcz127_2, hcz127_3, hcz127_4, hcz127_5, hcz127_6, hcz127_7, hfz127_0, hfz127_1, hfz127_2, hfz127_3, hfz127_4, hfz127_5, hfz127_6, hfz127_7⟩ := blk8 BK210.out) | ((with_reducible refine gate_callee (f := 43) rfl ?_); refine goesL_ (some 86) rfl rfl Try.func43 (by kernel_rfl) rfl #[.agg #[.int .i64 t199, .int .i64 t200, .int .i64 t201, .string t202, .string t203, .string t204, .string t205, .slice Ao46 t233.length co46], .int .i64 1] rfl (by (try simp only [List.map_toArray, List.map_cons, List.map_nil]); first | done | (rw [show t233.length = t206.length from (Kd.R_reads' HO_211007.out).1.symm] <;> rfl) | rfl) ?_; (with_reducible refine (laws_heldHeader.calls kj73 t199 t200 t201 t202 t203 t204 t205 _ _ t233 1 t234 _ ?side1 ?side2 A108.out).mono ?_); (case side1 => repeat (first | exact (Kd.R_reads' HO_211007.out).2.2 | (with_reducible refine Kd.C_alloc ?_ _) | (with_reducible refine Kd.C_drewN ?_ _) | (with_reducible refine Kd.C_drew ?_))); (case side2 => rw [show t233.length = t206.length from (Kd.R_reads' HO_211007.out).1.symm]; exact (Kd.R_reads' HO_211007.out).2.1); rintro e w128 ⟨rfl, hb⟩; refine ⟨_, rfl, ?_⟩; replace HO_185007 := A0 (rB (by (with_reducible repeat (first | apply rA | apply rN | apply rD)); exact HO_185007.out) hb); replace HO_196007 := A0 (rB (by (with_reducible repeat (first | apply rA | apply rN | apply rD)); exact HO_196007.out) hb); replace HO_211007 := A0 (rB (by (with_reducible repeat (first | apply rA | apply rN | apply rD)); exact HO_211007.out) hb); replace BK158 := A0 (bB (g := gb158) (o := OB a0_0 a0_1 a0_2 a0_3 a0_4 a0_5 a0_6 (.slice A0_7 l0_7.length c0_7) 41) (by (with_reducible repeat (first | refine bN ?_ _ | refine bD ?_ | refine bA ?_ _)); exact BK158.out) hb); replace BK184 := A0 (bB (g := gb184) (o := OB t173 t174 t175 t176 t177 t178 t179 (.slice Ao29 t180.length co29) 44) (by (with_reducible repeat (first | refine bN ?_ _ | refine bD ?_ | refine bA ?_ _)); exact BK184.out) hb); replace BK195 := A0 (bB (g := gb195) (o := OB t185 t186 t187 t188 t189 t190 t191 (.slice Ao36 t228.length co36) 44) (by (with_reducible repeat (first | refine bN ?_ _ | refine bD ?_ | refine bA ?_ _)); exact BK195.out) hb); replace BK210 := A0 (bB (g := gb210) (o := OB t199 t200 t201 t202 t203 t204 t205 (.slice Ao46 t206.length co46) 44) (by (with_reducible repeat (first | refine bN ?_ _ | refine bD ?_ | refine bA ?_ _)); exact BK210.out) hb); replace HB := A0 (below_step (by repeat (first | (with_reducible first | exact HB.out | apply wA | apply wN | apply wD | refine wS ?_ GE158.out | refine wS ?_ GE184.out | refine wS ?_ GE195.out | refine wS ?_ GE210.out) | exact HB.out)) hb); (try clear hb); (try clear hb2); (try clear hk); (try clear hi); have hnb129 := NB158_184.out; have hnc129 := NB184_158.out; have hnb130 := NB158_195.out; have hnc130 := NB195_158.out; obtain ⟨hcz131_0, hcz131_1, hcz131_2, hcz131_3, hcz131_4, hcz131_5, hcz131_6, hcz131_7, hfz131_0, hfz131_1, hfz131_2, hfz131_3, hfz131_4, hfz131_5, hfz131_6, hfz131_7⟩ := blk8 BK158.out) | ((with_reducible refine gate_callee (f := 29) rfl ?_); refine goesL_ (some 94) rfl rfl Try.func29 (by kernel_rfl) rfl #[.agg #[.int .i64 a0_0, .int .i64 a0_1, .int .i64 a0_2, .string a0_3, .string a0_4, .string a0_5, .string a0_6, .slice A0_7 l0_7.length c0_7]] rfl (by (try simp only [List.map_toArray, List.map_cons, List.map_nil]); first | done | rfl) ?_; (with_reducible refine (laws_toHeader.calls kj73 a0_0 a0_1 a0_2 a0_3 a0_4 a0_5 a0_6 _ _ l0_7 t235 t236 t237 t238 t239 t240 t241 t242 _ ?side1 ?side2 A118.out).mono ?_); (case side1 => repeat (first | exact (Kd.C_below HR0_7.out HB.out) | (with_reducible refine Kd.C_alloc ?_ _) | (with_reducible refine Kd.C_drewN ?_ _) | (with_reducible refine Kd.C_drew ?_))); (case side2 => exact HC0_7.out); rintro e w132 ⟨v243, rfl, ho0, hb⟩; refine ⟨_, rfl, ?_⟩; have HO244 := A0 (Kd.R_lower (Kd.R_new' (Kd.R_new' (Kd.R_new' ho0 (Kd.R_lt (by (with_reducible repeat (first | apply rA | apply rN | apply rD)); exact HO_185007.out))) (Kd.R_lt (by (with_reducible repeat (first | apply rA | apply rN | apply rD)); exact HO_196007.out))) (Kd.R_lt (by (with_reducible repeat (first | apply rA | apply rN | apply rD)); exact HO_211007.out))) (below_size (by repeat (first | (with_reducible first | exact HB.out | apply wA | apply wN | apply wD | refine wS ?_ GE158.out | refine wS ?_ GE184.out | refine wS ?_ GE195.out | refine wS ?_ GE210.out) | exact HB.out)))); replace HO_185007 := A0 (Kd.R_elder' (by (with_reducible repeat (first | apply rA | apply rN | apply rD)); exact HO_185007.out) (Kd.R_base ho0) hb); replace HO_196007 := A0 (Kd.R_elder' (by (with_reducible repeat (first | apply rA | apply rN | apply rD)); exact HO_196007.out) (Kd.R_base ho0) hb); replace HO_211007 := A0 (Kd.R_elder' (by (with_reducible repeat (first | apply rA | apply rN | apply rD)); exact HO_211007.out) (Kd.R_base ho0) hb); replace BK158 := A0 (bB (g := gb158) (o := OB a0_0 a0_1 a0_2 a0_3 a0_4 a0_5 a0_6 (.slice A0_7 l0_7.length c0_7) 41) (by (with_reducible repeat (first | refine bN ?_ _ | refine bD ?_ | refine bA ?_ _)); exact BK158.out) hb); replace BK184 := A0 (bB (g := gb184) (o := OB t173 t174 t175 t176 t177 t178 t179 (.slice Ao29 t180.length co29) 44) (by (with_reducible repeat (first | refine bN ?_ _ | refine bD ?_ | refine bA ?_ _)); exact BK184.out) hb); replace BK195 := A0 (bB (g := gb195) (o := OB t185 t186 t187 t188 t189 t190 t191 (.slice Ao36 t228.length co36) 44) (by (with_reducible repeat (first | refine bN ?_ _ | refine bD ?_ | refine bA ?_ _)); exact BK195.out) hb); replace BK210 := A0 (bB (g := gb210) (o := OB t199 t200 t201 t202 t203 t204 t205 (.slice Ao46 t206.length co46) 44) (by (with_reducible repeat (first | refine bN ?_ _ | refine bD ?_ | refine bA ?_ _)); exact BK210.out) hb); replace HB := A0 (below_step (by repeat (first | (with_reducible first | exact HB.out | apply wA | apply wN | apply wD | refine wS ?_ GE158.out | refine wS ?_ GE184.out | refine wS ?_ GE195.out | refine wS ?_ GE210.out) | exact HB.out)) hb); (try clear hb); (try clear hb2); (try clear hk); (try clear hi); (try clear ho0)) | ((with_reducible refine gate_callee (f := 38) rfl ?_); refine goesL_ (some 96) rfl rfl Try.func38 (by kernel_rfl) rfl #[.slice A1 l1.length c1] rfl (by (try simp only [List.map_toArray, List.map_cons, List.map_nil]); first | done | rfl) ?_; (with_reducible refine (laws_toIntS.calls kj73 _ _ l1 t245 _ ?side1 ?side2 A119.out).mono ?_); (case side1 => repeat (first | exact (Kd.C_below HR1.out HB.out) | (with_reducible refine Kd.C_alloc ?_ _) | (with_reducible refine Kd.C_drewN ?_ _) | (with_reducible refine Kd.C_drew ?_))); (case side2 => exact HC1.out); rintro e w133 ⟨v246, rfl, ho0, hb⟩; refine ⟨_, rfl, ?_⟩; have HO247 := A0 (Kd.R_lower (Kd.R_new' (Kd.R_new' (Kd.R_new' (Kd.R_new' ho0 (Kd.R_lt (by (with_reducible repeat (first | apply rA | apply rN | apply rD)); exact HO_185007.out))) (Kd.R_lt (by (with_reducible repeat (first | apply rA | apply rN | apply rD)); exact HO_196007.out))) (Kd.R_lt (by (with_reducible repeat (first | apply rA | apply rN | apply rD)); exact HO_211007.out))) (Kd.R_lt (by (with_reducible repeat (first | apply rA | apply rN | apply rD)); exact HO244.out))) (below_size (by repeat (first | (with_reducible first | exact HB.out | apply wA | apply wN | apply wD | refine wS ?_ GE158.out | refine wS ?_ GE184.out | refine wS ?_ GE195.out | refine wS ?_ GE210.out) | exact HB.out)))); replace HO_185007 := A0 (Kd.R_elder' (by (with_reducible repeat (first | apply rA | apply rN | apply rD)); exact HO_185007.out) (Kd.R_base ho0) hb); replace HO_196007 := A0 (Kd.R_elder' (by (with_reducible repeat (first | apply rA | apply rN | apply rD)); exact HO_196007.out) (Kd.R_base ho0) hb); replace HO_211007 := A0 (Kd.R_elder' (by (with_reducible repeat (first | apply rA | apply rN | apply rD)); exact HO_211007.out) (Kd.R_base ho0) hb); replace HO244 := A0 (Kd.R_elder' (by (with_reducible repeat (first | apply rA | apply rN | apply rD)); exact HO244.out) (Kd.R_base ho0) hb); replace BK158 := A0 (bB (g := gb158) (o := OB a0_0 a0_1 a0_2 a0_3 a0_4 a0_5 a0_6 (.slice A0_7 l0_7.length c0_7) 41) (by (with_reducible repeat (first | refine bN ?_ _ | refine bD ?_ | refine bA ?_ _)); exact BK158.out) hb); replace BK184 := A0 (bB (g := gb184) (o := OB t173 t174 t175 t176 t177 t178 t179 (.slice Ao29 t180.length co29) 44) (by (with_reducible repeat (first | refine bN ?_ _ | refine bD ?_ | refine bA ?_ _)); exact BK184.out) hb); replace BK195 := A0 (bB (g := gb195) (o := OB t185 t186 t187 t188 t189 t190 t191 (.slice Ao36 t228.length co36) 44) (by (with_reducible repeat (first | refine bN ?_ _ | refine bD ?_ | refine bA ?_ _)); exact BK195.out) hb); replace BK210 := A0 (bB (g := gb210) (o := OB t199 t200 t201 t202 t203 t204 t205 (.slice Ao46 t206.length co46) 44) (by (with_reducible repeat (first | refine bN ?_ _ | refine bD ?_ | refine bA ?_ _)); exact BK210.out) hb); replace HB := A0 (below_step (by repeat (first | (with_reducible first | exact HB.out | apply wA | apply wN | apply wD | refine wS ?_ GE158.out | refine wS ?_ GE184.out | refine wS ?_ GE195.out | refine wS ?_ GE210.out) | exact HB.out)) hb); (try clear hb); (try clear hb2); (try clear hk); (try clear hi); (try clear ho0); obtain ⟨Ao134, co134, eo134⟩ := Kd.R_slice HO244.out; subst eo134; obtain ⟨Ao135, co135, eo135⟩ := Kd.R_slice HO247.out; subst eo135) | ((with_reducible refine gate_callee (f := 39) rfl ?_); refine goesL_ (some 97) rfl rfl Try.func39 (by kernel_rfl) rfl #[.agg #[.int .i64 t235, .int .i64 t236, .int .i64 t237, .string t238, .string t239, .string t240, .string t241, .slice Ao134 t242.length co134], .slice Ao135 t245.length co135] rfl (by (try simp only [List.map_toArray, List.map_cons, List.map_nil]); first | done | rfl) ?_; (with_reducible refine (impl_VersionAnswer.calls kj73 t235 t236 t237 t238 t239 t240 t241 _ _ t242 _ _ t245 t248 t249 t250 t251 t252 t253 t254 t255 t258 _ ?side1 ?side2 ?side3 ?side4 A120.out).mono ?_); (case side1 => repeat (first | exact (Kd.R_reads' HO244.out).2.2 | (with_reducible refine Kd.C_alloc ?_ _) | (with_reducible refine Kd.C_drewN ?_ _) | (with_reducible refine Kd.C_drew ?_))); (case side2 => exact (Kd.R_reads' HO244.out).2.1); (case side3 => repeat (first | exact (Kd.R_reads' HO247.out).2.2 | (with_reducible refine Kd.C_alloc ?_ _) | (with_reducible refine Kd.C_drewN ?_ _) | (with_reducible refine Kd.C_drew ?_))); (case side4 => exact (Kd.R_reads' HO247.out).2.1); rintro e w136 ⟨v256, rfl, ho0, hb⟩; refine ⟨_, rfl, ?_⟩; have HO257 := A0 (Kd.R_lower (Kd.R_new' (Kd.R_new' (Kd.R_new' (Kd.R_new' (Kd.R_new' ho0 (Kd.R_lt (by (with_reducible repeat (first | apply rA | apply rN | apply rD)); exact HO_185007.out))) (Kd.R_lt (by (with_reducible repeat (first | apply rA | apply rN | apply rD)); exact HO_196007.out))) (Kd.R_lt (by (with_reducible repeat (first | apply rA | apply rN | apply rD)); exact HO_211007.out))) (Kd.R_lt (by (with_reducible repeat (first | apply rA | apply rN | apply rD)); exact HO244.out))) (Kd.R_lt (by (with_reducible repeat (first | apply rA | apply rN | apply rD)); exact HO247.out))) (below_size (by repeat (first | (with_reducible first | exact HB.out | apply wA | apply wN | apply wD | refine wS ?_ GE158.out | refine wS ?_ GE184.out | refine wS ?_ GE195.out | refine wS ?_ GE210.out) | exact HB.out)))); replace HO_185007 := A0 (Kd.R_elder' (by (with_reducible repeat (first | apply rA | apply rN | apply rD)); exact HO_185007.out) (Kd.R_base ho0) hb); replace HO_196007 := A0 (Kd.R_elder' (by (with_reducible repeat (first | apply rA | apply rN | apply rD)); exact HO_196007.out) (Kd.R_base ho0) hb); replace HO_211007 := A0 (Kd.R_elder' (by (with_reducible repeat (first | apply rA | apply rN | apply rD)); exact HO_211007.out) (Kd.R_base ho0) hb); replace HO244 := A0 (Kd.R_elder' (by (with_reducible repeat (first | apply rA | apply rN | apply rD)); exact HO244.out) (Kd.R_base ho0) hb); replace HO247 := A0 (Kd.R_elder' (by (with_reducible repeat (first | apply rA | apply rN | apply rD)); exact HO247.out) (Kd.R_base ho0) hb); replace BK158 := A0 (bB (g := gb158) (o := OB a0_0 a0_1 a0_2 a0_3 a0_4 a0_5 a0_6 (.slice A0_7 l0_7.length c0_7) 41) (by (with_reducible repeat (first | refine bN ?_ _ | refine bD ?_ | refine bA ?_ _)); exact BK158.out) hb); replace BK184 := A0 (bB (g := gb184) (o := OB t173 t174 t175 t176 t177 t178 t179 (.slice Ao29 t180.length co29) 44) (by (with_reducible repeat (first | refine bN ?_ _ | refine bD ?_ | refine bA ?_ _)); exact BK184.out) hb); replace BK195 := A0 (bB (g := gb195) (o := OB t185 t186 t187 t188 t189 t190 t191 (.slice Ao36 t228.length co36) 44) (by (with_reducible repeat (first | refine bN ?_ _ | refine bD ?_ | refine bA ?_ _)); exact BK195.out) hb); replace BK210 := A0 (bB (g := gb210) (o := OB t199 t200 t201 t202 t203 t204 t205 (.slice Ao46 t206.length co46) 44) (by (with_reducible repeat (first | refine bN ?_ _ | refine bD ?_ | refine bA ?_ _)); exact BK210.out) hb); replace HB := A0 (below_step (by repeat (first | (with_reducible first | exact HB.out | apply wA | apply wN | apply wD | refine wS ?_ GE158.out | refine wS ?_ GE184.out | refine wS ?_ GE195.out | refine wS ?_ GE210.out) | exact HB.out)) hb); (try clear hb); (try clear hb2); (try clear hk); (try clear hi); (try clear ho0)) | ((with_reducible refine gate_dst (N := 15) rfl ?_); refine box_event ?hg (N := 15) ?hd (cs := #[.int .i64 0, .int .i64 0, .int .i64 0, .string (⟨#[]⟩ : ByteArray), .string (⟨#[]⟩ : ByteArray), .string (⟨#[]⟩ : ByteArray), .string (⟨#[]⟩ : ByteArray), .slice none 0 0]) (t := 44) ?hr ?_; (case hd => rfl); (case hg => rfl); (case hr => first | (go_simp; done) | (go_simp; rfl)); intro gb259 hg w137 hbox hb; replace HO_185007 := A0 (rB (by (with_reducible repeat (first | apply rA | apply rN | apply rD)); exact HO_185007.out) hb); replace HO_196007 := A0 (rB (by (with_reducible repeat (first | apply rA | apply rN | apply rD)); exact HO_196007.out) hb); replace HO_211007 := A0 (rB (by (with_reducible repeat (first | apply rA | apply rN | apply rD)); exact HO_211007.out) hb); replace HO244 := A0 (rB (by (with_reducible repeat (first | apply rA | apply rN | apply rD)); exact HO244.out) hb); replace HO247 := A0 (rB (by (with_reducible repeat (first | apply rA | apply rN | apply rD)); exact HO247.out) hb); replace HO257 := A0 (rB (by (with_reducible repeat (first | apply rA | apply rN | apply rD)); exact HO257.out) hb); have BK259 := A0 (hbox); have GW259 := A0 ((by rw [hg]; exact (below_size (by repeat (first | (with_reducible first | exact HB.out | apply wA | apply wN | apply wD | refine wS ?_ GE158.out | refine wS ?_ GE184.out | refine wS ?_ GE195.out | refine wS ?_ GE210.out) | exact HB.out))) : w.heap.size ≤ gb259)); have GE259 := A0 ((by rw [hg]; exact (below_size (by repeat (first | (with_reducible first | exact HB.out | apply wA | apply wN | apply wD | refine wS ?_ GE158.out | refine wS ?_ GE184.out | refine wS ?_ GE195.out | refine wS ?_ GE210.out) | exact HB.out))) : w.heap.size ≤ gb259)); replace HB := A0 (below_step (by repeat (first | (with_reducible first | exact HB.out | apply wA | apply wN | apply wD | refine wS ?_ GE158.out | refine wS ?_ GE184.out | refine wS ?_ GE195.out | refine wS ?_ GE210.out) | exact HB.out)) hb); have NB158_259 := A0 ((by rw [hg]; exact Nat.ne_of_lt (blk_lt (g := gb158) (o := OB a0_0 a0_1 a0_2 a0_3 a0_4 a0_5 a0_6 (.slice A0_7 l0_7.length c0_7) 41) (by (with_reducible repeat (first | refine bN ?_ _ | refine bD ?_ | refine bA ?_ _)); exact BK158.out)) : gb158 ≠ gb259)); have NB259_158 := A0 ((by rw [hg]; exact Nat.ne_of_gt (blk_lt (g := gb158) (o := OB a0_0 a0_1 a0_2 a0_3 a0_4 a0_5 a0_6 (.slice A0_7 l0_7.length c0_7) 41) (by (with_reducible repeat (first | refine bN ?_ _ | refine bD ?_ | refine bA ?_ _)); exact BK158.out)) : gb259 ≠ gb158)); replace BK158 := A0 (bB (g := gb158) (o := OB a0_0 a0_1 a0_2 a0_3 a0_4 a0_5 a0_6 (.slice A0_7 l0_7.length c0_7) 41) (by (with_reducible repeat (first | refine bN ?_ _ | refine bD ?_ | refine bA ?_ _)); exact BK158.out) hb); have NB184_259 := A0 ((by rw [hg]; exact Nat.ne_of_lt (blk_lt (g := gb184) (o := OB t173 t174 t175 t176 t177 t178 t179 (.slice Ao29 t180.length co29) 44) (by (with_reducible repeat (first | refine bN ?_ _ | refine bD ?_ | refine bA ?_ _)); exact BK184.out)) : gb184 ≠ gb259)); have NB259_184 := A0 ((by rw [hg]; exact Nat.ne_of_gt (blk_lt (g := gb184) (o := OB t173 t174 t175 t176 t177 t178 t179 (.slice Ao29 t180.length co29) 44) (by (with_reducible repeat (first | refine bN ?_ _ | refine bD ?_ | refine bA ?_ _)); exact BK184.out)) : gb259 ≠ gb184)); replace BK184 := A0 (bB (g := gb184) (o := OB t173 t174 t175 t176 t177 t178 t179 (.slice Ao29 t180.length co29) 44) (by (with_reducible repeat (first | refine bN ?_ _ | refine bD ?_ | refine bA ?_ _)); exact BK184.out) hb); have NB195_259 := A0 ((by rw [hg]; exact Nat.ne_of_lt (blk_lt (g := gb195) (o := OB t185 t186 t187 t188 t189 t190 t191 (.slice Ao36 t228.length co36) 44) (by (with_reducible repeat (first | refine bN ?_ _ | refine bD ?_ | refine bA ?_ _)); exact BK195.out)) : gb195 ≠ gb259)); have NB259_195 := A0 ((by rw [hg]; exact Nat.ne_of_gt (blk_lt (g := gb195) (o := OB t185 t186 t187 t188 t189 t190 t191 (.slice Ao36 t228.length co36) 44) (by (with_reducible repeat (first | refine bN ?_ _ | refine bD ?_ | refine bA ?_ _)); exact BK195.out)) : gb259 ≠ gb195)); replace BK195 := A0 (bB (g := gb195) (o := OB t185 t186 t187 t188 t189 t190 t191 (.slice Ao36 t228.length co36) 44) (by (with_reducible repeat (first | refine bN ?_ _ | refine bD ?_ | refine bA ?_ _)); exact BK195.out) hb); have NB210_259 := A0 ((by rw [hg]; exact Nat.ne_of_lt (blk_lt (g := gb210) (o := OB t199 t200 t201 t202 t203 t204 t205 (.slice Ao46 t206.length co46) 44) (by (with_reducible repeat (first | refine bN ?_ _ | refine bD ?_ | refine bA ?_ _)); exact BK210.out)) : gb210 ≠ gb259)); have NB259_210 := A0 ((by rw [hg]; exact Nat.ne_of_gt (blk_lt (g := gb210) (o := OB t199 t200 t201 t202 t203 t204 t205 (.slice Ao46 t206.length co46) 44) (by (with_reducible repeat (first | refine bN ?_ _ | refine bD ?_ | refine bA ?_ _)); exact BK210.out)) : gb259 ≠ gb210)); replace BK210 := A0 (bB (g := gb210) (o := OB t199 t200 t201 t202 t203 t204 t205 (.slice Ao46 t206.length co46) 44) (by (with_reducible repeat (first | refine bN ?_ _ | refine bD ?_ | refine bA ?_ _)); exact BK210.out) hb); clear hb hbox hg; have hnb138 := NB259_158.out; have hnc138 := NB158_259.out; have hnb139 := NB259_184.out; have hnc139 := NB184_259.out; have hnb140 := NB259_195.out; have hnc140 := NB195_259.out; have hnb141 := NB259_210.out; have hnc141 := NB210_259.out; obtain ⟨hcz142_0, hcz142_1, hcz142_2, hcz142_3, hcz142_4, hcz142_5, hcz142_6, hcz142_7, hfz142_0, hfz142_1, hfz142_2, hfz142_3, hfz142_4, hfz142_5, hfz142_6, hfz142_7⟩ := blk8 BK259.out; obtain ⟨Ao143, co143, eo143⟩ := Kd.R_slice HO257.out; subst eo143))
             (try simp only [Act.put, List.setIfInBounds_toArray, List.set_cons_zero, List.set_cons_succ])
             go_cut [108] (fun v108 wc => ∃ (kq : Nat) (x108_120 : Bool), v108 = .bool x108_120 ∧ Aside0 (laws_FnExactVersionAnswer.j2 kq t232 x108_120 t199 t200 t201 t202 t203 t204 t205 t233 = some r) ∧ Aside0 (kq ≤ kj73) ∧ Aside0 (Kd.R (Kd.int .i64) 3 wc w.heap.size (fun k_ => some k_ ≠ ((.slice Ao36 t228.length co36) : Value).ownBlock ∧ some k_ ≠ ((.slice Ao46 t206.length co46) : Value).ownBlock ∧ some k_ ≠ ((.slice Ao143 t255.length co143) : Value).ownBlock) (.slice Ao29 t180.length co29) t180) ∧ Aside0 (Kd.R (Kd.int .i64) 3 wc w.heap.size (fun k_ => some k_ ≠ ((.slice Ao29 t180.length co29) : Value).ownBlock ∧ some k_ ≠ ((.slice Ao46 t206.length co46) : Value).ownBlock ∧ some k_ ≠ ((.slice Ao143 t255.length co143) : Value).ownBlock) (.slice Ao36 t228.length co36) t228) ∧ Aside0 (Kd.R (Kd.int .i64) 3 wc w.heap.size (fun k_ => some k_ ≠ ((.slice Ao29 t180.length co29) : Value).ownBlock ∧ some k_ ≠ ((.slice Ao36 t228.length co36) : Value).ownBlock ∧ some k_ ≠ ((.slice Ao143 t255.length co143) : Value).ownBlock) (.slice Ao46 t206.length co46) t233) ∧ Aside0 (Kd.R (Kd.int .i64) 3 wc w.heap.size (fun k_ => some k_ ≠ ((.slice Ao29 t180.length co29) : Value).ownBlock ∧ some k_ ≠ ((.slice Ao36 t228.length co36) : Value).ownBlock ∧ some k_ ≠ ((.slice Ao46 t206.length co46) : Value).ownBlock) (.slice Ao143 t255.length co143) t255) ∧ Aside0 (wc.heap[gb158]? = some (.cells #[.int .i64 a0_0, .int .i64 a0_1, .int .i64 a0_2, .string a0_3, .string a0_4, .string a0_5, .string a0_6, (.slice A0_7 l0_7.length c0_7)] 41 (0, 0))) ∧ Aside0 (wc.heap[gb184]? = some (.cells #[.int .i64 t173, .int .i64 t174, .int .i64 t175, .string t176, .string t177, .string t178, .string t179, (.slice Ao29 t180.length co29)] 44 (0, 0))) ∧ Aside0 (wc.heap[gb195]? = some (.cells #[.int .i64 t185, .int .i64 t186, .int .i64 t187, .string t188, .string t189, .string t190, .string t191, (.slice Ao36 t228.length co36)] 44 (0, 0))) ∧ Aside0 (wc.heap[gb210]? = some (.cells #[.int .i64 t199, .int .i64 t200, .int .i64 t201, .string t202, .string t203, .string t204, .string t205, (.slice Ao46 t206.length co46)] 44 (0, 0))) ∧ Aside0 (wc.heap[gb259]? = some (.cells #[.int .i64 t248, .int .i64 t249, .int .i64 t250, .string t251, .string t252, .string t253, .string t254, (.slice Ao143 t255.length co143)] 44 (0, 0))) ∧ Aside0 (Below w.heap.size w wc))
             case first =>
              have H := HC121.out
              clear HC121
              replace H := Option.bind_eq_some_iff.mp H
              obtain ⟨t260, A1440, H⟩ := H
              replace H : (if t260 = true then (laws_FnExactVersionAnswer.j2 kj73 t232 (t258 != t183) t199 t200 t201 t202 t203 t204 t205 t233) else (laws_FnExactVersionAnswer.j2 kj73 t232 true t199 t200 t201 t202 t203 t204 t205 t233)) = some r := H
              have A144 := A0 A1440
              clear A1440
              by_cases c145 : t260 = true
              ·subst c145
               have H1 : (laws_FnExactVersionAnswer.j2 kj73 t232 (t258 != t183) t199 t200 t201 t202 t203 t204 t205 t233) = some r := by rw [if_pos rfl] at H; exact H
               clear H
               have H := H1
               clear H1
               have H' := A0 H
               clear H
               have hnb146 := NB259_158.out
               have hnc146 := NB158_259.out
               have hnb147 := NB259_184.out
               have hnc147 := NB184_259.out
               have hnb148 := NB259_195.out
               have hnc148 := NB195_259.out
               have hnb149 := NB259_210.out
               have hnc149 := NB210_259.out
               obtain ⟨hcz150_0, hcz150_1, hcz150_2, hcz150_3, hcz150_4, hcz150_5, hcz150_6, hcz150_7, hfz150_0, hfz150_1, hfz150_2, hfz150_3, hfz150_4, hfz150_5, hfz150_6, hfz150_7⟩ := blk8 BK259.out
               have hnb151 := NB184_158.out
               have hnc151 := NB158_184.out
               have hnb152 := NB184_195.out
               have hnc152 := NB195_184.out
               have hnb153 := NB184_210.out
               have hnc153 := NB210_184.out
               obtain ⟨hcz154_0, hcz154_1, hcz154_2, hcz154_3, hcz154_4, hcz154_5, hcz154_6, hcz154_7, hfz154_0, hfz154_1, hfz154_2, hfz154_3, hfz154_4, hfz154_5, hfz154_6, hfz154_7⟩ := blk8 BK184.out
               go_wp2_with (first | ((with_reducible refine gate_callee (f := 31) rfl ?_); refine goesL_ (some 102) rfl rfl Try.func31 (by kernel_rfl) rfl #[.agg #[.int .i64 t248, .int .i64 t249, .int .i64 t250, .string t251, .string t252, .string t253, .string t254, .slice Ao143 t255.length co143], .agg #[.int .i64 t173, .int .i64 t174, .int .i64 t175, .string t176, .string t177, .string t178, .string t179, .slice Ao29 t180.length co29]] rfl (by (try simp only [List.map_toArray, List.map_cons, List.map_nil]); first | done | rfl) ?_; (with_reducible refine (laws_eqHeader.calls kj73 t248 t249 t250 t251 t252 t253 t254 _ _ t255 t173 t174 t175 t176 t177 t178 t179 _ _ t180 true _ ?side1 ?side2 ?side3 ?side4 A144.out).mono ?_); (case side1 => refine (Kd.R_reads' (e := 3) (base := w.heap.size) (ok := fun k_ => (((((True ∧ some k_ ≠ (.slice Ao29 t180.length co29 : Value).ownBlock) ∧ some k_ ≠ (.slice Ao36 t228.length co36 : Value).ownBlock) ∧ some k_ ≠ (.slice Ao46 t206.length co46 : Value).ownBlock) ∧ some k_ ≠ (.slice Ao134 t242.length co134 : Value).ownBlock) ∧ some k_ ≠ (.slice Ao135 t245.length co135 : Value).ownBlock)) (n := t255.length) (c := co143) ?_).2.2; exact (by (with_reducible repeat (first | apply rA | apply rN | apply rD)); exact (Kd.R_mono (Kd.R_far8 (g := gb259) (Kd.R_types HO257.out BK259.out (by decide)) (fun _ hk => hk.2)) (fun _ h_ => h_.1)))); (case side2 => exact (Kd.R_reads' HO257.out).2.1); (case side3 => refine (Kd.R_reads' (e := 3) (base := w.heap.size) (ok := fun k_ => ((((some k_ ≠ (.slice Ao36 t228.length co36 : Value).ownBlock ∧ some k_ ≠ (.slice Ao46 t206.length co46 : Value).ownBlock) ∧ some k_ ≠ (.slice Ao134 t242.length co134 : Value).ownBlock) ∧ some k_ ≠ (.slice Ao135 t245.length co135 : Value).ownBlock) ∧ some k_ ≠ (.slice Ao143 t255.length co143 : Value).ownBlock)) (n := t180.length) (c := co29) ?_).2.2; exact (by (with_reducible repeat (first | apply rA | apply rN | apply rD)); exact (Kd.R_mono (Kd.R_far8 (g := gb259) (Kd.R_types HO_185007.out BK259.out (by decide)) (fun _ hk => hk.2)) (fun _ h_ => h_.1)))); (case side4 => exact (Kd.R_reads' HO_185007.out).2.1); rintro e w155 ⟨rfl, hb⟩; refine ⟨_, rfl, ?_⟩; replace HO_185007 := A0 (rB (by (with_reducible repeat (first | apply rA | apply rN | apply rD)); exact (Kd.R_mono (Kd.R_far8 (g := gb259) (Kd.R_types HO_185007.out BK259.out (by decide)) (fun _ hk => hk.2)) (fun _ h_ => h_.1))) hb); replace HO_196007 := A0 (rB (by (with_reducible repeat (first | apply rA | apply rN | apply rD)); exact (Kd.R_mono (Kd.R_far8 (g := gb259) (Kd.R_types HO_196007.out BK259.out (by decide)) (fun _ hk => hk.2)) (fun _ h_ => h_.1))) hb); replace HO_211007 := A0 (rB (by (with_reducible repeat (first | apply rA | apply rN | apply rD)); exact (Kd.R_mono (Kd.R_far8 (g := gb259) (Kd.R_types HO_211007.out BK259.out (by decide)) (fun _ hk => hk.2)) (fun _ h_ => h_.1))) hb); replace HO244 := A0 (rB (by (with_reducible repeat (first | apply rA | apply rN | apply rD)); exact (Kd.R_mono (Kd.R_far8 (g := gb259) (Kd.R_types HO244.out BK259.out (by decide)) (fun _ hk => hk.2)) (fun _ h_ => h_.1))) hb); replace HO247 := A0 (rB (by (with_reducible repeat (first | apply rA | apply rN | apply rD)); exact (Kd.R_mono (Kd.R_far8 (g := gb259) (Kd.R_types HO247.out BK259.out (by decide)) (fun _ hk => hk.2)) (fun _ h_ => h_.1))) hb); replace HO257 := A0 (rB (by (with_reducible repeat (first | apply rA | apply rN | apply rD)); exact (Kd.R_mono (Kd.R_far8 (g := gb259) (Kd.R_types HO257.out BK259.out (by decide)) (fun _ hk => hk.2)) (fun _ h_ => h_.1))) hb); replace BK158 := A0 (bB (g := gb158) (o := OB a0_0 a0_1 a0_2 a0_3 a0_4 a0_5 a0_6 (.slice A0_7 l0_7.length c0_7) 41) (by (with_reducible repeat (first | refine bN ?_ _ | refine bD ?_ | refine bA ?_ _)); refine blk_far ?_ NB158_259.out _; (with_reducible repeat (first | refine bN ?_ _ | refine bD ?_ | refine bA ?_ _)); refine blk_far ?_ NB158_259.out _; (with_reducible repeat (first | refine bN ?_ _ | refine bD ?_ | refine bA ?_ _)); refine blk_far ?_ NB158_259.out _; (with_reducible repeat (first | refine bN ?_ _ | refine bD ?_ | refine bA ?_ _)); refine blk_far ?_ NB158_259.out _; (with_reducible repeat (first | refine bN ?_ _ | refine bD ?_ | refine bA ?_ _)); refine blk_far ?_ NB158_259.out _; (with_reducible repeat (first | refine bN ?_ _ | refine bD ?_ | refine bA ?_ _)); refine blk_far ?_ NB158_259.out _; (with_reducible repeat (first | refine bN ?_ _ | refine bD ?_ | refine bA ?_ _)); refine blk_far ?_ NB158_259.out _; (with_reducible repeat (first | refine bN ?_ _ | refine bD ?_ | refine bA ?_ _)); refine blk_far ?_ NB158_259.out _; (with_reducible repeat (first | refine bN ?_ _ | refine bD ?_ | refine bA ?_ _)); exact BK158.out) hb); replace BK184 := A0 (bB (g := gb184) (o := OB t173 t174 t175 t176 t177 t178 t179 (.slice Ao29 t180.length co29) 44) (by (with_reducible repeat (first | refine bN ?_ _ | refine bD ?_ | refine bA ?_ _)); refine blk_far ?_ NB184_259.out _; (with_reducible repeat (first | refine bN ?_ _ | refine bD ?_ | refine bA ?_ _)); refine blk_far ?_ NB184_259.out _; (with_reducible repeat (first | refine bN ?_ _ | refine bD ?_ | refine bA ?_ _)); refine blk_far ?_ NB184_259.out _; (with_reducible repeat (first | refine bN ?_ _ | refine bD ?_ | refine bA ?_ _)); refine blk_far ?_ NB184_259.out _; (with_reducible repeat (first | refine bN ?_ _ | refine bD ?_ | refine bA ?_ _)); refine blk_far ?_ NB184_259.out _; (with_reducible repeat (first | refine bN ?_ _ | refine bD ?_ | refine bA ?_ _)); refine blk_far ?_ NB184_259.out _; (with_reducible repeat (first | refine bN ?_ _ | refine bD ?_ | refine bA ?_ _)); refine blk_far ?_ NB184_259.out _; (with_reducible repeat (first | refine bN ?_ _ | refine bD ?_ | refine bA ?_ _)); refine blk_far ?_ NB184_259.out _; (with_reducible repeat (first | refine bN ?_ _ | refine bD ?_ | refine bA ?_ _)); exact BK184.out) hb); replace BK195 := A0 (bB (g := gb195) (o := OB t185 t186 t187 t188 t189 t190 t191 (.slice Ao36 t228.length co36) 44) (by (with_reducible repeat (first | refine bN ?_ _ | refine bD ?_ | refine bA ?_ _)); refine blk_far ?_ NB195_259.out _; (with_reducible repeat (first | refine bN ?_ _ | refine bD ?_ | refine bA ?_ _)); refine blk_far ?_ NB195_259.out _; (with_reducible repeat (first | refine bN ?_ _ | refine bD ?_ | refine bA ?_ _)); refine blk_far ?_ NB195_259.out _; (with_reducible repeat (first | refine bN ?_ _ | refine bD ?_ | refine bA ?_ _)); refine blk_far ?_ NB195_259.out _; (with_reducible repeat (first | refine bN ?_ _ | refine bD ?_ | refine bA ?_ _)); refine blk_far ?_ NB195_259.out _; (with_reducible repeat (first | refine bN ?_ _ | refine bD ?_ | refine bA ?_ _)); refine blk_far ?_ NB195_259.out _; (with_reducible repeat (first | refine bN ?_ _ | refine bD ?_ | refine bA ?_ _)); refine blk_far ?_ NB195_259.out _; (with_reducible repeat (first | refine bN ?_ _ | refine bD ?_ | refine bA ?_ _)); refine blk_far ?_ NB195_259.out _; (with_reducible repeat (first | refine bN ?_ _ | refine bD ?_ | refine bA ?_ _)); exact BK195.out) hb); replace BK210 := A0 (bB (g := gb210) (o := OB t199 t200 t201 t202 t203 t204 t205 (.slice Ao46 t206.length co46) 44) (by (with_reducible repeat (first | refine bN ?_ _ | refine bD ?_ | refine bA ?_ _)); refine blk_far ?_ NB210_259.out _; (with_reducible repeat (first | refine bN ?_ _ | refine bD ?_ | refine bA ?_ _)); refine blk_far ?_ NB210_259.out _; (with_reducible repeat (first | refine bN ?_ _ | refine bD ?_ | refine bA ?_ _)); refine blk_far ?_ NB210_259.out _; (with_reducible repeat (first | refine bN ?_ _ | refine bD ?_ | refine bA ?_ _)); refine blk_far ?_ NB210_259.out _; (with_reducible repeat (first | refine bN ?_ _ | refine bD ?_ | refine bA ?_ _)); refine blk_far ?_ NB210_259.out _; (with_reducible repeat (first | refine bN ?_ _ | refine bD ?_ | refine bA ?_ _)); refine blk_far ?_ NB210_259.out _; (with_reducible repeat (first | refine bN ?_ _ | refine bD ?_ | refine bA ?_ _)); refine blk_far ?_ NB210_259.out _; (with_reducible repeat (first | refine bN ?_ _ | refine bD ?_ | refine bA ?_ _)); refine blk_far ?_ NB210_259.out _; (with_reducible repeat (first | refine bN ?_ _ | refine bD ?_ | refine bA ?_ _)); exact BK210.out) hb); replace BK259 := A0 (bB (g := gb259) (o := OB t248 t249 t250 t251 t252 t253 t254 (.slice Ao143 t255.length co143) 44) (by (with_reducible repeat (first | refine bN ?_ _ | refine bD ?_ | refine bA ?_ _)); refine blk_put (cs := #[.int .i64 t248, .int .i64 t249, .int .i64 t250, .string t251, .string t252, .string t253, .string t254, .slice none 0 0]) ?_ 7 _ rfl; (with_reducible repeat (first | refine bN ?_ _ | refine bD ?_ | refine bA ?_ _)); refine blk_put (cs := #[.int .i64 t248, .int .i64 t249, .int .i64 t250, .string t251, .string t252, .string t253, .string (⟨#[]⟩ : ByteArray), .slice none 0 0]) ?_ 6 _ rfl; (with_reducible repeat (first | refine bN ?_ _ | refine bD ?_ | refine bA ?_ _)); refine blk_put (cs := #[.int .i64 t248, .int .i64 t249, .int .i64 t250, .string t251, .string t252, .string (⟨#[]⟩ : ByteArray), .string (⟨#[]⟩ : ByteArray), .slice none 0 0]) ?_ 5 _ rfl; (with_reducible repeat (first | refine bN ?_ _ | refine bD ?_ | refine bA ?_ _)); refine blk_put (cs := #[.int .i64 t248, .int .i64 t249, .int .i64 t250, .string t251, .string (⟨#[]⟩ : ByteArray), .string (⟨#[]⟩ : ByteArray), .string (⟨#[]⟩ : ByteArray), .slice none 0 0]) ?_ 4 _ rfl; (with_reducible repeat (first | refine bN ?_ _ | refine bD ?_ | refine bA ?_ _)); refine blk_put (cs := #[.int .i64 t248, .int .i64 t249, .int .i64 t250, .string (⟨#[]⟩ : ByteArray), .string (⟨#[]⟩ : ByteArray), .string (⟨#[]⟩ : ByteArray), .string (⟨#[]⟩ : ByteArray), .slice none 0 0]) ?_ 3 _ rfl; (with_reducible repeat (first | refine bN ?_ _ | refine bD ?_ | refine bA ?_ _)); refine blk_put (cs := #[.int .i64 t248, .int .i64 t249, .int .i64 0, .string (⟨#[]⟩ : ByteArray), .string (⟨#[]⟩ : ByteArray), .string (⟨#[]⟩ : ByteArray), .string (⟨#[]⟩ : ByteArray), .slice none 0 0]) ?_ 2 _ rfl; (with_reducible repeat (first | refine bN ?_ _ | refine bD ?_ | refine bA ?_ _)); refine blk_put (cs := #[.int .i64 t248, .int .i64 0, .int .i64 0, .string (⟨#[]⟩ : ByteArray), .string (⟨#[]⟩ : ByteArray), .string (⟨#[]⟩ : ByteArray), .string (⟨#[]⟩ : ByteArray), .slice none 0 0]) ?_ 1 _ rfl; (with_reducible repeat (first | refine bN ?_ _ | refine bD ?_ | refine bA ?_ _)); refine blk_put (cs := #[.int .i64 0, .int .i64 0, .int .i64 0, .string (⟨#[]⟩ : ByteArray), .string (⟨#[]⟩ : ByteArray), .string (⟨#[]⟩ : ByteArray), .string (⟨#[]⟩ : ByteArray), .slice none 0 0]) ?_ 0 _ rfl; (with_reducible repeat (first | refine bN ?_ _ | refine bD ?_ | refine bA ?_ _)); exact BK259.out) hb); replace HB := A0 (below_step (by repeat (first | (with_reducible first | exact HB.out | apply wA | apply wN | apply wD | refine wS ?_ GE158.out | refine wS ?_ GE184.out | refine wS ?_ GE195.out | refine wS ?_ GE210.out | refine wS ?_ GE259.out) | exact HB.out)) hb); (try clear hb); (try clear hb2); (try clear hk); (try clear hi)))
               go_meet
               case rel => exact ⟨_, ((t258 != t183)), (by first | rfl | (simp; done) | (simp [*]; done)), H', ⟨by have := HJ15.out; have := HJ73.out; first | omega | exact Nat.le_refl _⟩, ⟨by (try simp only [hl196007_73]); (with_reducible repeat (first | apply rA | apply rN | apply rD)); exact Kd.R_mono HO_185007.out (fun _ hk => ⟨hk.1.1.1.1, ⟨hk.1.1.1.2, hk.2⟩⟩)⟩, ⟨by (try simp only [hl196007_73]); (with_reducible repeat (first | apply rA | apply rN | apply rD)); exact Kd.R_mono HO_196007.out (fun _ hk => ⟨hk.1.1.1.1, ⟨hk.1.1.1.2, hk.2⟩⟩)⟩, ⟨by (try simp only [hl196007_73]); (with_reducible repeat (first | apply rA | apply rN | apply rD)); exact Kd.R_mono HO_211007.out (fun _ hk => ⟨hk.1.1.1.1, ⟨hk.1.1.1.2, hk.2⟩⟩)⟩, ⟨by (try simp only [hl196007_73]); (with_reducible repeat (first | apply rA | apply rN | apply rD)); exact Kd.R_mono HO257.out (fun _ hk => ⟨hk.1.1.1.1.2, ⟨hk.1.1.1.2, hk.1.1.2⟩⟩)⟩, ⟨by (try simp only [hl196007_73]); (with_reducible repeat (first | refine bN ?_ _ | refine bD ?_ | refine bA ?_ _)); exact BK158.out⟩, ⟨by (try simp only [hl196007_73]); (with_reducible repeat (first | refine bN ?_ _ | refine bD ?_ | refine bA ?_ _)); exact BK184.out⟩, ⟨by (try simp only [hl196007_73]); (with_reducible repeat (first | refine bN ?_ _ | refine bD ?_ | refine bA ?_ _)); exact BK195.out⟩, ⟨by (try simp only [hl196007_73]); (with_reducible repeat (first | refine bN ?_ _ | refine bD ?_ | refine bA ?_ _)); exact BK210.out⟩, ⟨by (try simp only [hl196007_73]); (with_reducible repeat (first | refine bN ?_ _ | refine bD ?_ | refine bA ?_ _)); exact BK259.out⟩, ⟨by repeat (first | (with_reducible first | exact HB.out | apply wA | apply wN | apply wD | refine wS ?_ GE158.out | refine wS ?_ GE184.out | refine wS ?_ GE195.out | refine wS ?_ GE210.out | refine wS ?_ GE259.out) | exact HB.out)⟩⟩
              ·replace c145 := Bool.eq_false_iff.mpr c145
               subst c145
               have H1 : (laws_FnExactVersionAnswer.j2 kj73 t232 true t199 t200 t201 t202 t203 t204 t205 t233) = some r := by rw [if_neg (show ¬ (false = true) by decide)] at H; exact H
               clear H
               have H := H1
               clear H1
               have H' := A0 H
               clear H
               have hnb156 := NB259_158.out
               have hnc156 := NB158_259.out
               have hnb157 := NB259_184.out
               have hnc157 := NB184_259.out
               have hnb158 := NB259_195.out
               have hnc158 := NB195_259.out
               have hnb159 := NB259_210.out
               have hnc159 := NB210_259.out
               obtain ⟨hcz160_0, hcz160_1, hcz160_2, hcz160_3, hcz160_4, hcz160_5, hcz160_6, hcz160_7, hfz160_0, hfz160_1, hfz160_2, hfz160_3, hfz160_4, hfz160_5, hfz160_6, hfz160_7⟩ := blk8 BK259.out
               have hnb161 := NB184_158.out
               have hnc161 := NB158_184.out
               have hnb162 := NB184_195.out
               have hnc162 := NB195_184.out
               have hnb163 := NB184_210.out
               have hnc163 := NB210_184.out
               obtain ⟨hcz164_0, hcz164_1, hcz164_2, hcz164_3, hcz164_4, hcz164_5, hcz164_6, hcz164_7, hfz164_0, hfz164_1, hfz164_2, hfz164_3, hfz164_4, hfz164_5, hfz164_6, hfz164_7⟩ := blk8 BK184.out
               go_wp2_with (first | ((with_reducible refine gate_callee (f := 31) rfl ?_); refine goesL_ (some 102) rfl rfl Try.func31 (by kernel_rfl) rfl #[.agg #[.int .i64 t248, .int .i64 t249, .int .i64 t250, .string t251, .string t252, .string t253, .string t254, .slice Ao143 t255.length co143], .agg #[.int .i64 t173, .int .i64 t174, .int .i64 t175, .string t176, .string t177, .string t178, .string t179, .slice Ao29 t180.length co29]] rfl (by (try simp only [List.map_toArray, List.map_cons, List.map_nil]); first | done | rfl) ?_; (with_reducible refine (laws_eqHeader.calls kj73 t248 t249 t250 t251 t252 t253 t254 _ _ t255 t173 t174 t175 t176 t177 t178 t179 _ _ t180 false _ ?side1 ?side2 ?side3 ?side4 A144.out).mono ?_); (case side1 => refine (Kd.R_reads' (e := 3) (base := w.heap.size) (ok := fun k_ => (((((True ∧ some k_ ≠ (.slice Ao29 t180.length co29 : Value).ownBlock) ∧ some k_ ≠ (.slice Ao36 t228.length co36 : Value).ownBlock) ∧ some k_ ≠ (.slice Ao46 t206.length co46 : Value).ownBlock) ∧ some k_ ≠ (.slice Ao134 t242.length co134 : Value).ownBlock) ∧ some k_ ≠ (.slice Ao135 t245.length co135 : Value).ownBlock)) (n := t255.length) (c := co143) ?_).2.2; exact (by (with_reducible repeat (first | apply rA | apply rN | apply rD)); exact (Kd.R_mono (Kd.R_far8 (g := gb259) (Kd.R_types HO257.out BK259.out (by decide)) (fun _ hk => hk.2)) (fun _ h_ => h_.1)))); (case side2 => exact (Kd.R_reads' HO257.out).2.1); (case side3 => refine (Kd.R_reads' (e := 3) (base := w.heap.size) (ok := fun k_ => ((((some k_ ≠ (.slice Ao36 t228.length co36 : Value).ownBlock ∧ some k_ ≠ (.slice Ao46 t206.length co46 : Value).ownBlock) ∧ some k_ ≠ (.slice Ao134 t242.length co134 : Value).ownBlock) ∧ some k_ ≠ (.slice Ao135 t245.length co135 : Value).ownBlock) ∧ some k_ ≠ (.slice Ao143 t255.length co143 : Value).ownBlock)) (n := t180.length) (c := co29) ?_).2.2; exact (by (with_reducible repeat (first | apply rA | apply rN | apply rD)); exact (Kd.R_mono (Kd.R_far8 (g := gb259) (Kd.R_types HO_185007.out BK259.out (by decide)) (fun _ hk => hk.2)) (fun _ h_ => h_.1)))); (case side4 => exact (Kd.R_reads' HO_185007.out).2.1); rintro e w165 ⟨rfl, hb⟩; refine ⟨_, rfl, ?_⟩; replace HO_185007 := A0 (rB (by (with_reducible repeat (first | apply rA | apply rN | apply rD)); exact (Kd.R_mono (Kd.R_far8 (g := gb259) (Kd.R_types HO_185007.out BK259.out (by decide)) (fun _ hk => hk.2)) (fun _ h_ => h_.1))) hb); replace HO_196007 := A0 (rB (by (with_reducible repeat (first | apply rA | apply rN | apply rD)); exact (Kd.R_mono (Kd.R_far8 (g := gb259) (Kd.R_types HO_196007.out BK259.out (by decide)) (fun _ hk => hk.2)) (fun _ h_ => h_.1))) hb); replace HO_211007 := A0 (rB (by (with_reducible repeat (first | apply rA | apply rN | apply rD)); exact (Kd.R_mono (Kd.R_far8 (g := gb259) (Kd.R_types HO_211007.out BK259.out (by decide)) (fun _ hk => hk.2)) (fun _ h_ => h_.1))) hb); replace HO244 := A0 (rB (by (with_reducible repeat (first | apply rA | apply rN | apply rD)); exact (Kd.R_mono (Kd.R_far8 (g := gb259) (Kd.R_types HO244.out BK259.out (by decide)) (fun _ hk => hk.2)) (fun _ h_ => h_.1))) hb); replace HO247 := A0 (rB (by (with_reducible repeat (first | apply rA | apply rN | apply rD)); exact (Kd.R_mono (Kd.R_far8 (g := gb259) (Kd.R_types HO247.out BK259.out (by decide)) (fun _ hk => hk.2)) (fun _ h_ => h_.1))) hb); replace HO257 := A0 (rB (by (with_reducible repeat (first | apply rA | apply rN | apply rD)); exact (Kd.R_mono (Kd.R_far8 (g := gb259) (Kd.R_types HO257.out BK259.out (by decide)) (fun _ hk => hk.2)) (fun _ h_ => h_.1))) hb); replace BK158 := A0 (bB (g := gb158) (o := OB a0_0 a0_1 a0_2 a0_3 a0_4 a0_5 a0_6 (.slice A0_7 l0_7.length c0_7) 41) (by (with_reducible repeat (first | refine bN ?_ _ | refine bD ?_ | refine bA ?_ _)); refine blk_far ?_ NB158_259.out _; (with_reducible repeat (first | refine bN ?_ _ | refine bD ?_ | refine bA ?_ _)); refine blk_far ?_ NB158_259.out _; (with_reducible repeat (first | refine bN ?_ _ | refine bD ?_ | refine bA ?_ _)); refine blk_far ?_ NB158_259.out _; (with_reducible repeat (first | refine bN ?_ _ | refine bD ?_ | refine bA ?_ _)); refine blk_far ?_ NB158_259.out _; (with_reducible repeat (first | refine bN ?_ _ | refine bD ?_ | refine bA ?_ _)); refine blk_far ?_ NB158_259.out _; (with_reducible repeat (first | refine bN ?_ _ | refine bD ?_ | refine bA ?_ _)); refine blk_far ?_ NB158_259.out _; (with_reducible repeat (first | refine bN ?_ _ | refine bD ?_ | refine bA ?_ _)); refine blk_far ?_ NB158_259.out _; (with_reducible repeat (first | refine bN ?_ _ | refine bD ?_ | refine bA ?_ _)); refine blk_far ?_ NB158_259.out _; (with_reducible repeat (first | refine bN ?_ _ | refine bD ?_ | refine bA ?_ _)); exact BK158.out) hb); replace BK184 := A0 (bB (g := gb184) (o := OB t173 t174 t175 t176 t177 t178 t179 (.slice Ao29 t180.length co29) 44) (by (with_reducible repeat (first | refine bN ?_ _ | refine bD ?_ | refine bA ?_ _)); refine blk_far ?_ NB184_259.out _; (with_reducible repeat (first | refine bN ?_ _ | refine bD ?_ | refine bA ?_ _)); refine blk_far ?_ NB184_259.out _; (with_reducible repeat (first | refine bN ?_ _ | refine bD ?_ | refine bA ?_ _)); refine blk_far ?_ NB184_259.out _; (with_reducible repeat (first | refine bN ?_ _ | refine bD ?_ | refine bA ?_ _)); refine blk_far ?_ NB184_259.out _; (with_reducible repeat (first | refine bN ?_ _ | refine bD ?_ | refine bA ?_ _)); refine blk_far ?_ NB184_259.out _; (with_reducible repeat (first | refine bN ?_ _ | refine bD ?_ | refine bA ?_ _)); refine blk_far ?_ NB184_259.out _; (with_reducible repeat (first | refine bN ?_ _ | refine bD ?_ | refine bA ?_ _)); refine blk_far ?_ NB184_259.out _; (with_reducible repeat (first | refine bN ?_ _ | refine bD ?_ | refine bA ?_ _)); refine blk_far ?_ NB184_259.out _; (with_reducible repeat (first | refine bN ?_ _ | refine bD ?_ | refine bA ?_ _)); exact BK184.out) hb); replace BK195 := A0 (bB (g := gb195) (o := OB t185 t186 t187 t188 t189 t190 t191 (.slice Ao36 t228.length co36) 44) (by (with_reducible repeat (first | refine bN ?_ _ | refine bD ?_ | refine bA ?_ _)); refine blk_far ?_ NB195_259.out _; (with_reducible repeat (first | refine bN ?_ _ | refine bD ?_ | refine bA ?_ _)); refine blk_far ?_ NB195_259.out _; (with_reducible repeat (first | refine bN ?_ _ | refine bD ?_ | refine bA ?_ _)); refine blk_far ?_ NB195_259.out _; (with_reducible repeat (first | refine bN ?_ _ | refine bD ?_ | refine bA ?_ _)); refine blk_far ?_ NB195_259.out _; (with_reducible repeat (first | refine bN ?_ _ | refine bD ?_ | refine bA ?_ _)); refine blk_far ?_ NB195_259.out _; (with_reducible repeat (first | refine bN ?_ _ | refine bD ?_ | refine bA ?_ _)); refine blk_far ?_ NB195_259.out _; (with_reducible repeat (first | refine bN ?_ _ | refine bD ?_ | refine bA ?_ _)); refine blk_far ?_ NB195_259.out _; (with_reducible repeat (first | refine bN ?_ _ | refine bD ?_ | refine bA ?_ _)); refine blk_far ?_ NB195_259.out _; (with_reducible repeat (first | refine bN ?_ _ | refine bD ?_ | refine bA ?_ _)); exact BK195.out) hb); replace BK210 := A0 (bB (g := gb210) (o := OB t199 t200 t201 t202 t203 t204 t205 (.slice Ao46 t206.length co46) 44) (by (with_reducible repeat (first | refine bN ?_ _ | refine bD ?_ | refine bA ?_ _)); refine blk_far ?_ NB210_259.out _; (with_reducible repeat (first | refine bN ?_ _ | refine bD ?_ | refine bA ?_ _)); refine blk_far ?_ NB210_259.out _; (with_reducible repeat (first | refine bN ?_ _ | refine bD ?_ | refine bA ?_ _)); refine blk_far ?_ NB210_259.out _; (with_reducible repeat (first | refine bN ?_ _ | refine bD ?_ | refine bA ?_ _)); refine blk_far ?_ NB210_259.out _; (with_reducible repeat (first | refine bN ?_ _ | refine bD ?_ | refine bA ?_ _)); refine blk_far ?_ NB210_259.out _; (with_reducible repeat (first | refine bN ?_ _ | refine bD ?_ | refine bA ?_ _)); refine blk_far ?_ NB210_259.out _; (with_reducible repeat (first | refine bN ?_ _ | refine bD ?_ | refine bA ?_ _)); refine blk_far ?_ NB210_259.out _; (with_reducible repeat (first | refine bN ?_ _ | refine bD ?_ | refine bA ?_ _)); refine blk_far ?_ NB210_259.out _; (with_reducible repeat (first | refine bN ?_ _ | refine bD ?_ | refine bA ?_ _)); exact BK210.out) hb); replace BK259 := A0 (bB (g := gb259) (o := OB t248 t249 t250 t251 t252 t253 t254 (.slice Ao143 t255.length co143) 44) (by (with_reducible repeat (first | refine bN ?_ _ | refine bD ?_ | refine bA ?_ _)); refine blk_put (cs := #[.int .i64 t248, .int .i64 t249, .int .i64 t250, .string t251, .string t252, .string t253, .string t254, .slice none 0 0]) ?_ 7 _ rfl; (with_reducible repeat (first | refine bN ?_ _ | refine bD ?_ | refine bA ?_ _)); refine blk_put (cs := #[.int .i64 t248, .int .i64 t249, .int .i64 t250, .string t251, .string t252, .string t253, .string (⟨#[]⟩ : ByteArray), .slice none 0 0]) ?_ 6 _ rfl; (with_reducible repeat (first | refine bN ?_ _ | refine bD ?_ | refine bA ?_ _)); refine blk_put (cs := #[.int .i64 t248, .int .i64 t249, .int .i64 t250, .string t251, .string t252, .string (⟨#[]⟩ : ByteArray), .string (⟨#[]⟩ : ByteArray), .slice none 0 0]) ?_ 5 _ rfl; (with_reducible repeat (first | refine bN ?_ _ | refine bD ?_ | refine bA ?_ _)); refine blk_put (cs := #[.int .i64 t248, .int .i64 t249, .int .i64 t250, .string t251, .string (⟨#[]⟩ : ByteArray), .string (⟨#[]⟩ : ByteArray), .string (⟨#[]⟩ : ByteArray), .slice none 0 0]) ?_ 4 _ rfl; (with_reducible repeat (first | refine bN ?_ _ | refine bD ?_ | refine bA ?_ _)); refine blk_put (cs := #[.int .i64 t248, .int .i64 t249, .int .i64 t250, .string (⟨#[]⟩ : ByteArray), .string (⟨#[]⟩ : ByteArray), .string (⟨#[]⟩ : ByteArray), .string (⟨#[]⟩ : ByteArray), .slice none 0 0]) ?_ 3 _ rfl; (with_reducible repeat (first | refine bN ?_ _ | refine bD ?_ | refine bA ?_ _)); refine blk_put (cs := #[.int .i64 t248, .int .i64 t249, .int .i64 0, .string (⟨#[]⟩ : ByteArray), .string (⟨#[]⟩ : ByteArray), .string (⟨#[]⟩ : ByteArray), .string (⟨#[]⟩ : ByteArray), .slice none 0 0]) ?_ 2 _ rfl; (with_reducible repeat (first | refine bN ?_ _ | refine bD ?_ | refine bA ?_ _)); refine blk_put (cs := #[.int .i64 t248, .int .i64 0, .int .i64 0, .string (⟨#[]⟩ : ByteArray), .string (⟨#[]⟩ : ByteArray), .string (⟨#[]⟩ : ByteArray), .string (⟨#[]⟩ : ByteArray), .slice none 0 0]) ?_ 1 _ rfl; (with_reducible repeat (first | refine bN ?_ _ | refine bD ?_ | refine bA ?_ _)); refine blk_put (cs := #[.int .i64 0, .int .i64 0, .int .i64 0, .string (⟨#[]⟩ : ByteArray), .string (⟨#[]⟩ : ByteArray), .string (⟨#[]⟩ : ByteArray), .string (⟨#[]⟩ : ByteArray), .slice none 0 0]) ?_ 0 _ rfl; (with_reducible repeat (first | refine bN ?_ _ | refine bD ?_ | refine bA ?_ _)); exact BK259.out) hb); replace HB := A0 (below_step (by repeat (first | (with_reducible first | exact HB.out | apply wA | apply wN | apply wD | refine wS ?_ GE158.out | refine wS ?_ GE184.out | refine wS ?_ GE195.out | refine wS ?_ GE210.out | refine wS ?_ GE259.out) | exact HB.out)) hb); (try clear hb); (try clear hb2); (try clear hk); (try clear hi)))
               go_meet
               case rel => exact ⟨_, (true), (by first | rfl | (simp; done) | (simp [*]; done)), H', ⟨by have := HJ15.out; have := HJ73.out; first | omega | exact Nat.le_refl _⟩, ⟨by (try simp only [hl196007_73]); (with_reducible repeat (first | apply rA | apply rN | apply rD)); exact Kd.R_mono HO_185007.out (fun _ hk => ⟨hk.1.1.1.1, ⟨hk.1.1.1.2, hk.2⟩⟩)⟩, ⟨by (try simp only [hl196007_73]); (with_reducible repeat (first | apply rA | apply rN | apply rD)); exact Kd.R_mono HO_196007.out (fun _ hk => ⟨hk.1.1.1.1, ⟨hk.1.1.1.2, hk.2⟩⟩)⟩, ⟨by (try simp only [hl196007_73]); (with_reducible repeat (first | apply rA | apply rN | apply rD)); exact Kd.R_mono HO_211007.out (fun _ hk => ⟨hk.1.1.1.1, ⟨hk.1.1.1.2, hk.2⟩⟩)⟩, ⟨by (try simp only [hl196007_73]); (with_reducible repeat (first | apply rA | apply rN | apply rD)); exact Kd.R_mono HO257.out (fun _ hk => ⟨hk.1.1.1.1.2, ⟨hk.1.1.1.2, hk.1.1.2⟩⟩)⟩, ⟨by (try simp only [hl196007_73]); (with_reducible repeat (first | refine bN ?_ _ | refine bD ?_ | refine bA ?_ _)); exact BK158.out⟩, ⟨by (try simp only [hl196007_73]); (with_reducible repeat (first | refine bN ?_ _ | refine bD ?_ | refine bA ?_ _)); exact BK184.out⟩, ⟨by (try simp only [hl196007_73]); (with_reducible repeat (first | refine bN ?_ _ | refine bD ?_ | refine bA ?_ _)); exact BK195.out⟩, ⟨by (try simp only [hl196007_73]); (with_reducible repeat (first | refine bN ?_ _ | refine bD ?_ | refine bA ?_ _)); exact BK210.out⟩, ⟨by (try simp only [hl196007_73]); (with_reducible repeat (first | refine bN ?_ _ | refine bD ?_ | refine bA ?_ _)); exact BK259.out⟩, ⟨by repeat (first | (with_reducible first | exact HB.out | apply wA | apply wN | apply wD | refine wS ?_ GE158.out | refine wS ?_ GE184.out | refine wS ?_ GE195.out | refine wS ?_ GE210.out | refine wS ?_ GE259.out) | exact HB.out)⟩⟩
             case rest =>
              clear HC121
              try clear c1
              try clear c2
              try clear p2
              try clear c3
              try clear c3b0
              try clear c3b1
              try clear c4
              try clear c5
              try clear c6
              try clear c6b0
              try clear c7
              try clear c8
              try clear c9
              try clear c10
              try clear c11
              try clear c12
              try clear c13
              try clear c14
              try clear c15
              try clear c16
              try clear c27
              try clear c29
              try clear c31
              try clear c33
              try clear c34
              try clear c37
              try clear c38
              try clear c39
              try clear c40
              try clear c41
              try clear c42
              try clear c43
              try clear c44
              try clear c48
              try clear c49
              try clear c50
              try clear c51
              try clear c53
              try clear c54
              try clear c57
              try clear c58
              try clear c59
              try clear c61
              try clear c62
              try clear c65
              try clear c68
              try clear c71
              try clear c81
              try clear c82
              try clear c83
              try clear c87
              try clear c87b0
              try clear c89
              try clear c90
              try clear c91
              try clear c92
              try clear c94
              try clear c95
              try clear c98
              try clear c99
              try clear c100
              try clear c102
              try clear c103
              try clear c106
              try clear c109
              try clear c109b0
              try clear c110
              try clear c111
              try clear c112
              try clear c117
              try clear c117b0
              try clear c117b1
              try clear c122
              try clear c123
              try clear c124
              try clear c129
              try clear c130
              try clear c138
              try clear c139
              try clear c140
              try clear c141
              try clear c145
              try clear c146
              try clear c147
              try clear c148
              try clear c149
              try clear c151
              try clear c152
              try clear c153
              try clear c156
              try clear c157
              try clear c158
              try clear c159
              try clear c161
              try clear c162
              try clear c163
              try clear hcz101_0
              try clear hcz101_1
              try clear hcz101_2
              try clear hcz101_3
              try clear hcz101_4
              try clear hcz101_5
              try clear hcz101_6
              try clear hcz101_7
              try clear hcz104_0
              try clear hcz104_1
              try clear hcz104_2
              try clear hcz104_3
              try clear hcz104_4
              try clear hcz104_5
              try clear hcz104_6
              try clear hcz104_7
              try clear hcz113_0
              try clear hcz113_1
              try clear hcz113_2
              try clear hcz113_3
              try clear hcz113_4
              try clear hcz113_5
              try clear hcz113_6
              try clear hcz113_7
              try clear hcz115_0
              try clear hcz115_1
              try clear hcz115_2
              try clear hcz115_3
              try clear hcz115_4
              try clear hcz115_5
              try clear hcz115_6
              try clear hcz115_7
              try clear hcz125_0
              try clear hcz125_1
              try clear hcz125_2
              try clear hcz125_3
              try clear hcz125_4
              try clear hcz125_5
              try clear hcz125_6
              try clear hcz125_7
              try clear hcz127_0
              try clear hcz127_1
              try clear hcz127_2
              try clear hcz127_3
              try clear hcz127_4
              try clear hcz127_5
              try clear hcz127_6
              try clear hcz127_7
              try clear hcz131_0
              try clear hcz131_1
              try clear hcz131_2
              try clear hcz131_3
              try clear hcz131_4
              try clear hcz131_5
              try clear hcz131_6
              try clear hcz131_7
              try clear hcz142_0
              try clear hcz142_1
              try clear hcz142_2
              try clear hcz142_3
              try clear hcz142_4
              try clear hcz142_5
              try clear hcz142_6
              try clear hcz142_7
              try clear hcz150_0
              try clear hcz150_1
              try clear hcz150_2
              try clear hcz150_3
              try clear hcz150_4
              try clear hcz150_5
              try clear hcz150_6
              try clear hcz150_7
              try clear hcz154_0
              try clear hcz154_1
              try clear hcz154_2
              try clear hcz154_3
              try clear hcz154_4
              try clear hcz154_5
              try clear hcz154_6
              try clear hcz154_7
              try clear hcz160_0
              try clear hcz160_1
              try clear hcz160_2
              try clear hcz160_3
              try clear hcz160_4
              try clear hcz160_5
              try clear hcz160_6
              try clear hcz160_7
              try clear hcz164_0
              try clear hcz164_1
              try clear hcz164_2
              try clear hcz164_3
              try clear hcz164_4
              try clear hcz164_5
              try clear hcz164_6
              try clear hcz164_7
              try clear hcz18_0
              try clear hcz18_1
              try clear hcz18_2
              try clear hcz18_3
              try clear hcz18_4
              try clear hcz18_5
              try clear hcz18_6
              try clear hcz18_7
              try clear hcz20_0
              try clear hcz20_1
              try clear hcz20_2
              try clear hcz20_3
              try clear hcz20_4
              try clear hcz20_5
              try clear hcz20_6
              try clear hcz20_7
              try clear hcz28_0
              try clear hcz28_1
              try clear hcz28_2
              try clear hcz28_3
              try clear hcz28_4
              try clear hcz28_5
              try clear hcz28_6
              try clear hcz28_7
              try clear hcz30_0
              try clear hcz30_1
              try clear hcz30_2
              try clear hcz30_3
              try clear hcz30_4
              try clear hcz30_5
              try clear hcz30_6
              try clear hcz30_7
              try clear hcz35_0
              try clear hcz35_1
              try clear hcz35_2
              try clear hcz35_3
              try clear hcz35_4
              try clear hcz35_5
              try clear hcz35_6
              try clear hcz35_7
              try clear hcz38_0
              try clear hcz38_1
              try clear hcz38_2
              try clear hcz38_3
              try clear hcz38_4
              try clear hcz38_5
              try clear hcz38_6
              try clear hcz38_7
              try clear hcz45_0
              try clear hcz45_1
              try clear hcz45_2
              try clear hcz45_3
              try clear hcz45_4
              try clear hcz45_5
              try clear hcz45_6
              try clear hcz45_7
              try clear hcz52_0
              try clear hcz52_1
              try clear hcz52_2
              try clear hcz52_3
              try clear hcz52_4
              try clear hcz52_5
              try clear hcz52_6
              try clear hcz52_7
              try clear hcz55_0
              try clear hcz55_1
              try clear hcz55_2
              try clear hcz55_3
              try clear hcz55_4
              try clear hcz55_5
              try clear hcz55_6
              try clear hcz55_7
              try clear hcz60_0
              try clear hcz60_1
              try clear hcz60_2
              try clear hcz60_3
              try clear hcz60_4
              try clear hcz60_5
              try clear hcz60_6
              try clear hcz60_7
              try clear hcz63_0
              try clear hcz63_1
              try clear hcz63_2
              try clear hcz63_3
              try clear hcz63_4
              try clear hcz63_5
              try clear hcz63_6
              try clear hcz63_7
              try clear hcz84_0
              try clear hcz84_1
              try clear hcz84_2
              try clear hcz84_3
              try clear hcz84_4
              try clear hcz84_5
              try clear hcz84_6
              try clear hcz84_7
              try clear hcz8_0
              try clear hcz8_1
              try clear hcz8_2
              try clear hcz8_3
              try clear hcz8_4
              try clear hcz8_5
              try clear hcz8_6
              try clear hcz8_7
              try clear hcz93_0
              try clear hcz93_1
              try clear hcz93_2
              try clear hcz93_3
              try clear hcz93_4
              try clear hcz93_5
              try clear hcz93_6
              try clear hcz93_7
              try clear hcz96_0
              try clear hcz96_1
              try clear hcz96_2
              try clear hcz96_3
              try clear hcz96_4
              try clear hcz96_5
              try clear hcz96_6
              try clear hcz96_7
              try clear hfz101_0
              try clear hfz101_1
              try clear hfz101_2
              try clear hfz101_3
              try clear hfz101_4
              try clear hfz101_5
              try clear hfz101_6
              try clear hfz101_7
              try clear hfz104_0
              try clear hfz104_1
              try clear hfz104_2
              try clear hfz104_3
              try clear hfz104_4
              try clear hfz104_5
              try clear hfz104_6
              try clear hfz104_7
              try clear hfz113_0
              try clear hfz113_1
              try clear hfz113_2
              try clear hfz113_3
              try clear hfz113_4
              try clear hfz113_5
              try clear hfz113_6
              try clear hfz113_7
              try clear hfz115_0
              try clear hfz115_1
              try clear hfz115_2
              try clear hfz115_3
              try clear hfz115_4
              try clear hfz115_5
              try clear hfz115_6
              try clear hfz115_7
              try clear hfz125_0
              try clear hfz125_1
              try clear hfz125_2
              try clear hfz125_3
              try clear hfz125_4
              try clear hfz125_5
              try clear hfz125_6
              try clear hfz125_7
              try clear hfz127_0
              try clear hfz127_1
              try clear hfz127_2
              try clear hfz127_3
              try clear hfz127_4
              try clear hfz127_5
              try clear hfz127_6
              try clear hfz127_7
              try clear hfz131_0
              try clear hfz131_1
              try clear hfz131_2
              try clear hfz131_3
              try clear hfz131_4
              try clear hfz131_5
              try clear hfz131_6
              try clear hfz131_7
              try clear hfz142_0
              try clear hfz142_1
              try clear hfz142_2
              try clear hfz142_3
              try clear hfz142_4
              try clear hfz142_5
              try clear hfz142_6
              try clear hfz142_7
              try clear hfz150_0
              try clear hfz150_1
              try clear hfz150_2
              try clear hfz150_3
              try clear hfz150_4
              try clear hfz150_5
              try clear hfz150_6
              try clear hfz150_7
              try clear hfz154_0
              try clear hfz154_1
              try clear hfz154_2
              try clear hfz154_3
              try clear hfz154_4
              try clear hfz154_5
              try clear hfz154_6
              try clear hfz154_7
              try clear hfz160_0
              try clear hfz160_1
              try clear hfz160_2
              try clear hfz160_3
              try clear hfz160_4
              try clear hfz160_5
              try clear hfz160_6
              try clear hfz160_7
              try clear hfz164_0
              try clear hfz164_1
              try clear hfz164_2
              try clear hfz164_3
              try clear hfz164_4
              try clear hfz164_5
              try clear hfz164_6
              try clear hfz164_7
              try clear hfz18_0
              try clear hfz18_1
              try clear hfz18_2
              try clear hfz18_3
              try clear hfz18_4
              try clear hfz18_5
              try clear hfz18_6
              try clear hfz18_7
              try clear hfz20_0
              try clear hfz20_1
              try clear hfz20_2
              try clear hfz20_3
              try clear hfz20_4
              try clear hfz20_5
              try clear hfz20_6
              try clear hfz20_7
              try clear hfz28_0
              try clear hfz28_1
              try clear hfz28_2
              try clear hfz28_3
              try clear hfz28_4
              try clear hfz28_5
              try clear hfz28_6
              try clear hfz28_7
              try clear hfz30_0
              try clear hfz30_1
              try clear hfz30_2
              try clear hfz30_3
              try clear hfz30_4
              try clear hfz30_5
              try clear hfz30_6
              try clear hfz30_7
              try clear hfz35_0
              try clear hfz35_1
              try clear hfz35_2
              try clear hfz35_3
              try clear hfz35_4
              try clear hfz35_5
              try clear hfz35_6
              try clear hfz35_7
              try clear hfz38_0
              try clear hfz38_1
              try clear hfz38_2
              try clear hfz38_3
              try clear hfz38_4
              try clear hfz38_5
              try clear hfz38_6
              try clear hfz38_7
              try clear hfz45_0
              try clear hfz45_1
              try clear hfz45_2
              try clear hfz45_3
              try clear hfz45_4
              try clear hfz45_5
              try clear hfz45_6
              try clear hfz45_7
              try clear hfz52_0
              try clear hfz52_1
              try clear hfz52_2
              try clear hfz52_3
              try clear hfz52_4
              try clear hfz52_5
              try clear hfz52_6
              try clear hfz52_7
              try clear hfz55_0
              try clear hfz55_1
              try clear hfz55_2
              try clear hfz55_3
              try clear hfz55_4
              try clear hfz55_5
              try clear hfz55_6
              try clear hfz55_7
              try clear hfz60_0
              try clear hfz60_1
              try clear hfz60_2
              try clear hfz60_3
              try clear hfz60_4
              try clear hfz60_5
              try clear hfz60_6
              try clear hfz60_7
              try clear hfz63_0
              try clear hfz63_1
              try clear hfz63_2
              try clear hfz63_3
              try clear hfz63_4
              try clear hfz63_5
              try clear hfz63_6
              try clear hfz63_7
              try clear hfz84_0
              try clear hfz84_1
              try clear hfz84_2
              try clear hfz84_3
              try clear hfz84_4
              try clear hfz84_5
              try clear hfz84_6
              try clear hfz84_7
              try clear hfz8_0
              try clear hfz8_1
              try clear hfz8_2
              try clear hfz8_3
              try clear hfz8_4
              try clear hfz8_5
              try clear hfz8_6
              try clear hfz8_7
              try clear hfz93_0
              try clear hfz93_1
              try clear hfz93_2
              try clear hfz93_3
              try clear hfz93_4
              try clear hfz93_5
              try clear hfz93_6
              try clear hfz93_7
              try clear hfz96_0
              try clear hfz96_1
              try clear hfz96_2
              try clear hfz96_3
              try clear hfz96_4
              try clear hfz96_5
              try clear hfz96_6
              try clear hfz96_7
              try clear p2
              obtain ⟨kq, x108_120, rfl, HA, HJ120, HO_185007, HO_196007, HO_211007, HO_260007, BK158, BK184, BK195, BK210, BK259, HB⟩ := hcut
              have hl211007_120 := (Kd.R_reads' HO_211007.out).1
              rw [hl211007_120] at HO_211007
              (try simp only [hl211007_120])
              (try simp only [hl211007_120] at BK158)
              (try simp only [hl211007_120] at BK184)
              (try simp only [hl211007_120] at BK195)
              (try simp only [hl211007_120] at BK210)
              (try simp only [hl211007_120] at BK259)
              (try simp only [hl211007_120] at HO_185007)
              (try simp only [hl211007_120] at HO_196007)
              (try simp only [hl211007_120] at HO_260007)
              cases kq with
              | zero => exact absurd HA.out (by simp [laws_FnExactVersionAnswer.j2])
              | succ kj120 =>
               have H := HA.out
               clear HA
               simp only [laws_FnExactVersionAnswer.j2] at H
               by_cases c166 : x108_120 = true
               ·subst c166
                have H1 : (some false) = some r := by rw [if_pos rfl] at H; exact H
                clear H
                have H := H1
                clear H1
                obtain rfl := Option.some.inj H
                go_wp2
                go_ret
                exact ⟨by first | rfl | (simp [errW_none, errW_some] <;> rfl) | (simp [*, errW_none, errW_some] <;> rfl), by repeat (first | (with_reducible first | exact HB.out | apply wA | apply wN | apply wD | refine wS ?_ GE158.out | refine wS ?_ GE184.out | refine wS ?_ GE195.out | refine wS ?_ GE210.out | refine wS ?_ GE259.out) | exact HB.out)⟩
               ·replace c166 := Bool.eq_false_iff.mpr c166
                subst c166
                have H1 : ((laws_heldHeader.f kj120 t199 t200 t201 t202 t203 t204 t205 t233 1).bind fun t261 => (if t261 < 0 then (some false) else (if t261 = t232 then (some true) else (some false)))) = some r := by rw [if_neg (show ¬ (false = true) by decide)] at H; exact H
                clear H
                have H := H1
                clear H1
                replace H := Option.bind_eq_some_iff.mp H
                obtain ⟨t261, A1670, H⟩ := H
                replace H : (if t261 < 0 then (some false) else (if t261 = t232 then (some true) else (some false))) = some r := H
                have A167 := A0 A1670
                clear A1670
                by_cases c168 : t261 < 0
                ·rw [if_pos c168] at H
                 have c168b0 : decide (t261 < 0) = true := decide_eq_true c168
                 clear c168
                 obtain rfl := Option.some.inj H
                 have hnb169 := NB210_158.out
                 have hnc169 := NB158_210.out
                 have hnb170 := NB210_184.out
                 have hnc170 := NB184_210.out
                 have hnb171 := NB210_195.out
                 have hnc171 := NB195_210.out
                 have hnb172 := NB210_259.out
                 have hnc172 := NB259_210.out
                 obtain ⟨hcz173_0, hcz173_1, hcz173_2, hcz173_3, hcz173_4, hcz173_5, hcz173_6, hcz173_7, hfz173_0, hfz173_1, hfz173_2, hfz173_3, hfz173_4, hfz173_5, hfz173_6, hfz173_7⟩ := blk8 BK210.out
                 go_wp2_with (first | ((with_reducible refine gate_callee (f := 43) rfl ?_); refine goesL_ (some 111) rfl rfl Try.func43 (by kernel_rfl) rfl #[.agg #[.int .i64 t199, .int .i64 t200, .int .i64 t201, .string t202, .string t203, .string t204, .string t205, .slice Ao46 t233.length co46], .int .i64 1] rfl (by (try simp only [List.map_toArray, List.map_cons, List.map_nil]); first | done | rfl) ?_; (with_reducible refine (laws_heldHeader.calls kj120 t199 t200 t201 t202 t203 t204 t205 _ _ t233 1 t261 _ ?side1 ?side2 A167.out).mono ?_); (case side1 => repeat (first | exact (Kd.R_reads' HO_211007.out).2.2 | (with_reducible refine Kd.C_alloc ?_ _) | (with_reducible refine Kd.C_drewN ?_ _) | (with_reducible refine Kd.C_drew ?_))); (case side2 => exact (Kd.R_reads' HO_211007.out).2.1); rintro e w174 ⟨rfl, hb⟩; refine ⟨_, rfl, ?_⟩; replace HO_185007 := A0 (rB (by (with_reducible repeat (first | apply rA | apply rN | apply rD)); exact HO_185007.out) hb); replace HO_196007 := A0 (rB (by (with_reducible repeat (first | apply rA | apply rN | apply rD)); exact HO_196007.out) hb); replace HO_211007 := A0 (rB (by (with_reducible repeat (first | apply rA | apply rN | apply rD)); exact HO_211007.out) hb); replace HO_260007 := A0 (rB (by (with_reducible repeat (first | apply rA | apply rN | apply rD)); exact HO_260007.out) hb); replace BK158 := A0 (bB (g := gb158) (o := OB a0_0 a0_1 a0_2 a0_3 a0_4 a0_5 a0_6 (.slice A0_7 l0_7.length c0_7) 41) (by (with_reducible repeat (first | refine bN ?_ _ | refine bD ?_ | refine bA ?_ _)); exact BK158.out) hb); replace BK184 := A0 (bB (g := gb184) (o := OB t173 t174 t175 t176 t177 t178 t179 (.slice Ao29 t180.length co29) 44) (by (with_reducible repeat (first | refine bN ?_ _ | refine bD ?_ | refine bA ?_ _)); exact BK184.out) hb); replace BK195 := A0 (bB (g := gb195) (o := OB t185 t186 t187 t188 t189 t190 t191 (.slice Ao36 t228.length co36) 44) (by (with_reducible repeat (first | refine bN ?_ _ | refine bD ?_ | refine bA ?_ _)); exact BK195.out) hb); replace BK210 := A0 (bB (g := gb210) (o := OB t199 t200 t201 t202 t203 t204 t205 (.slice Ao46 t233.length co46) 44) (by (with_reducible repeat (first | refine bN ?_ _ | refine bD ?_ | refine bA ?_ _)); exact BK210.out) hb); replace BK259 := A0 (bB (g := gb259) (o := OB t248 t249 t250 t251 t252 t253 t254 (.slice Ao143 t255.length co143) 44) (by (with_reducible repeat (first | refine bN ?_ _ | refine bD ?_ | refine bA ?_ _)); exact BK259.out) hb); replace HB := A0 (below_step (by repeat (first | (with_reducible first | exact HB.out | apply wA | apply wN | apply wD | refine wS ?_ GE158.out | refine wS ?_ GE184.out | refine wS ?_ GE195.out | refine wS ?_ GE210.out | refine wS ?_ GE259.out) | exact HB.out)) hb); (try clear hb); (try clear hb2); (try clear hk); (try clear hi)))
                 go_ret
                 exact ⟨by first | rfl | (simp [errW_none, errW_some] <;> rfl) | (simp [*, errW_none, errW_some] <;> rfl), by repeat (first | (with_reducible first | exact HB.out | apply wA | apply wN | apply wD | refine wS ?_ GE158.out | refine wS ?_ GE184.out | refine wS ?_ GE195.out | refine wS ?_ GE210.out | refine wS ?_ GE259.out) | exact HB.out)⟩
                ·rw [if_neg c168] at H
                 have c168b0 : decide (t261 < 0) = false := decide_eq_false c168
                 clear c168
                 by_cases c175 : t261 = t232
                 ·rw [if_pos c175] at H
                  have c175b0 : (t261 == t232) = true := beq_iff_eq.mpr c175
                  have c175b1 : (t261 != t232) = false := bne_eq_false_iff_eq.mpr c175
                  clear c175
                  obtain rfl := Option.some.inj H
                  have hnb176 := NB210_158.out
                  have hnc176 := NB158_210.out
                  have hnb177 := NB210_184.out
                  have hnc177 := NB184_210.out
                  have hnb178 := NB210_195.out
                  have hnc178 := NB195_210.out
                  have hnb179 := NB210_259.out
                  have hnc179 := NB259_210.out
                  obtain ⟨hcz180_0, hcz180_1, hcz180_2, hcz180_3, hcz180_4, hcz180_5, hcz180_6, hcz180_7, hfz180_0, hfz180_1, hfz180_2, hfz180_3, hfz180_4, hfz180_5, hfz180_6, hfz180_7⟩ := blk8 BK210.out
                  go_wp2_with (first | ((with_reducible refine gate_callee (f := 43) rfl ?_); refine goesL_ (some 111) rfl rfl Try.func43 (by kernel_rfl) rfl #[.agg #[.int .i64 t199, .int .i64 t200, .int .i64 t201, .string t202, .string t203, .string t204, .string t205, .slice Ao46 t233.length co46], .int .i64 1] rfl (by (try simp only [List.map_toArray, List.map_cons, List.map_nil]); first | done | rfl) ?_; (with_reducible refine (laws_heldHeader.calls kj120 t199 t200 t201 t202 t203 t204 t205 _ _ t233 1 t261 _ ?side1 ?side2 A167.out).mono ?_); (case side1 => repeat (first | exact (Kd.R_reads' HO_211007.out).2.2 | (with_reducible refine Kd.C_alloc ?_ _) | (with_reducible refine Kd.C_drewN ?_ _) | (with_reducible refine Kd.C_drew ?_))); (case side2 => exact (Kd.R_reads' HO_211007.out).2.1); rintro e w181 ⟨rfl, hb⟩; refine ⟨_, rfl, ?_⟩; replace HO_185007 := A0 (rB (by (with_reducible repeat (first | apply rA | apply rN | apply rD)); exact HO_185007.out) hb); replace HO_196007 := A0 (rB (by (with_reducible repeat (first | apply rA | apply rN | apply rD)); exact HO_196007.out) hb); replace HO_211007 := A0 (rB (by (with_reducible repeat (first | apply rA | apply rN | apply rD)); exact HO_211007.out) hb); replace HO_260007 := A0 (rB (by (with_reducible repeat (first | apply rA | apply rN | apply rD)); exact HO_260007.out) hb); replace BK158 := A0 (bB (g := gb158) (o := OB a0_0 a0_1 a0_2 a0_3 a0_4 a0_5 a0_6 (.slice A0_7 l0_7.length c0_7) 41) (by (with_reducible repeat (first | refine bN ?_ _ | refine bD ?_ | refine bA ?_ _)); exact BK158.out) hb); replace BK184 := A0 (bB (g := gb184) (o := OB t173 t174 t175 t176 t177 t178 t179 (.slice Ao29 t180.length co29) 44) (by (with_reducible repeat (first | refine bN ?_ _ | refine bD ?_ | refine bA ?_ _)); exact BK184.out) hb); replace BK195 := A0 (bB (g := gb195) (o := OB t185 t186 t187 t188 t189 t190 t191 (.slice Ao36 t228.length co36) 44) (by (with_reducible repeat (first | refine bN ?_ _ | refine bD ?_ | refine bA ?_ _)); exact BK195.out) hb); replace BK210 := A0 (bB (g := gb210) (o := OB t199 t200 t201 t202 t203 t204 t205 (.slice Ao46 t233.length co46) 44) (by (with_reducible repeat (first | refine bN ?_ _ | refine bD ?_ | refine bA ?_ _)); exact BK210.out) hb); replace BK259 := A0 (bB (g := gb259) (o := OB t248 t249 t250 t251 t252 t253 t254 (.slice Ao143 t255.length co143) 44) (by (with_reducible repeat (first | refine bN ?_ _ | refine bD ?_ | refine bA ?_ _)); exact BK259.out) hb); replace HB := A0 (below_step (by repeat (first | (with_reducible first | exact HB.out | apply wA | apply wN | apply wD | refine wS ?_ GE158.out | refine wS ?_ GE184.out | refine wS ?_ GE195.out | refine wS ?_ GE210.out | refine wS ?_ GE259.out) | exact HB.out)) hb); (try clear hb); (try clear hb2); (try clear hk); (try clear hi)))
                  go_ret
                  exact ⟨by first | rfl | (simp [errW_none, errW_some] <;> rfl) | (simp [*, errW_none, errW_some] <;> rfl), by repeat (first | (with_reducible first | exact HB.out | apply wA | apply wN | apply wD | refine wS ?_ GE158.out | refine wS ?_ GE184.out | refine wS ?_ GE195.out | refine wS ?_ GE210.out | refine wS ?_ GE259.out) | exact HB.out)⟩
                 ·rw [if_neg c175] at H
                  have c175b0 : (t261 == t232) = false := beq_eq_false_iff_ne.mpr c175
                  have c175b1 : (t261 != t232) = true := bne_iff_ne.mpr c175
                  obtain rfl := Option.some.inj H
                  have hnb182 := NB210_158.out
                  have hnc182 := NB158_210.out
                  have hnb183 := NB210_184.out
                  have hnc183 := NB184_210.out
                  have hnb184 := NB210_195.out
                  have hnc184 := NB195_210.out
                  have hnb185 := NB210_259.out
                  have hnc185 := NB259_210.out
                  obtain ⟨hcz186_0, hcz186_1, hcz186_2, hcz186_3, hcz186_4, hcz186_5, hcz186_6, hcz186_7, hfz186_0, hfz186_1, hfz186_2, hfz186_3, hfz186_4, hfz186_5, hfz186_6, hfz186_7⟩ := blk8 BK210.out
                  go_wp2_with (first | ((with_reducible refine gate_callee (f := 43) rfl ?_); refine goesL_ (some 111) rfl rfl Try.func43 (by kernel_rfl) rfl #[.agg #[.int .i64 t199, .int .i64 t200, .int .i64 t201, .string t202, .string t203, .string t204, .string t205, .slice Ao46 t233.length co46], .int .i64 1] rfl (by (try simp only [List.map_toArray, List.map_cons, List.map_nil]); first | done | rfl) ?_; (with_reducible refine (laws_heldHeader.calls kj120 t199 t200 t201 t202 t203 t204 t205 _ _ t233 1 t261 _ ?side1 ?side2 A167.out).mono ?_); (case side1 => repeat (first | exact (Kd.R_reads' HO_211007.out).2.2 | (with_reducible refine Kd.C_alloc ?_ _) | (with_reducible refine Kd.C_drewN ?_ _) | (with_reducible refine Kd.C_drew ?_))); (case side2 => exact (Kd.R_reads' HO_211007.out).2.1); rintro e w187 ⟨rfl, hb⟩; refine ⟨_, rfl, ?_⟩; replace HO_185007 := A0 (rB (by (with_reducible repeat (first | apply rA | apply rN | apply rD)); exact HO_185007.out) hb); replace HO_196007 := A0 (rB (by (with_reducible repeat (first | apply rA | apply rN | apply rD)); exact HO_196007.out) hb); replace HO_211007 := A0 (rB (by (with_reducible repeat (first | apply rA | apply rN | apply rD)); exact HO_211007.out) hb); replace HO_260007 := A0 (rB (by (with_reducible repeat (first | apply rA | apply rN | apply rD)); exact HO_260007.out) hb); replace BK158 := A0 (bB (g := gb158) (o := OB a0_0 a0_1 a0_2 a0_3 a0_4 a0_5 a0_6 (.slice A0_7 l0_7.length c0_7) 41) (by (with_reducible repeat (first | refine bN ?_ _ | refine bD ?_ | refine bA ?_ _)); exact BK158.out) hb); replace BK184 := A0 (bB (g := gb184) (o := OB t173 t174 t175 t176 t177 t178 t179 (.slice Ao29 t180.length co29) 44) (by (with_reducible repeat (first | refine bN ?_ _ | refine bD ?_ | refine bA ?_ _)); exact BK184.out) hb); replace BK195 := A0 (bB (g := gb195) (o := OB t185 t186 t187 t188 t189 t190 t191 (.slice Ao36 t228.length co36) 44) (by (with_reducible repeat (first | refine bN ?_ _ | refine bD ?_ | refine bA ?_ _)); exact BK195.out) hb); replace BK210 := A0 (bB (g := gb210) (o := OB t199 t200 t201 t202 t203 t204 t205 (.slice Ao46 t233.length co46) 44) (by (with_reducible repeat (first | refine bN ?_ _ | refine bD ?_ | refine bA ?_ _)); exact BK210.out) hb); replace BK259 := A0 (bB (g := gb259) (o := OB t248 t249 t250 t251 t252 t253 t254 (.slice Ao143 t255.length co143) 44) (by (with_reducible repeat (first | refine bN ?_ _ | refine bD ?_ | refine bA ?_ _)); exact BK259.out) hb); replace HB := A0 (below_step (by repeat (first | (with_reducible first | exact HB.out | apply wA | apply wN | apply wD | refine wS ?_ GE158.out | refine wS ?_ GE184.out | refine wS ?_ GE195.out | refine wS ?_ GE210.out | refine wS ?_ GE259.out) | exact HB.out)) hb); (try clear hb); (try clear hb2); (try clear hk); (try clear hi)))
                  go_ret
                  exact ⟨by first | rfl | (simp [errW_none, errW_some] <;> rfl) | (simp [*, errW_none, errW_some] <;> rfl), by repeat (first | (with_reducible first | exact HB.out | apply wA | apply wN | apply wD | refine wS ?_ GE158.out | refine wS ?_ GE184.out | refine wS ?_ GE195.out | refine wS ?_ GE210.out | refine wS ?_ GE259.out) | exact HB.out)⟩
            ·rw [if_neg c117] at H
             have c117b0 : (t234 == t232) = false := beq_eq_false_iff_ne.mpr c117
             have c117b1 : (t234 != t232) = true := bne_iff_ne.mpr c117
             obtain rfl := Option.some.inj H
             have hnb188 := NB210_158.out
             have hnc188 := NB158_210.out
             have hnb189 := NB210_184.out
             have hnc189 := NB184_210.out
             have hnb190 := NB210_195.out
             have hnc190 := NB195_210.out
             obtain ⟨hcz191_0, hcz191_1, hcz191_2, hcz191_3, hcz191_4, hcz191_5, hcz191_6, hcz191_7, hfz191_0, hfz191_1, hfz191_2, hfz191_3, hfz191_4, hfz191_5, hfz191_6, hfz191_7⟩ := blk8 BK210.out
             go_wp2_with (first | ((with_reducible refine gate_callee (f := 41) rfl ?_); refine goesL_ (some 83) rfl rfl Try.func41 (by kernel_rfl) rfl #[.agg #[.int .i64 t199, .int .i64 t200, .int .i64 t201, .string t202, .string t203, .string t204, .string t205, .slice Ao46 t206.length co46], .int .i64 1] rfl (by (try simp only [List.map_toArray, List.map_cons, List.map_nil]); first | done | rfl) ?_; (with_reducible refine (laws_markHeader.calls kj73 t199 t200 t201 t202 t203 t204 t205 (fun k_ => some k_ = (.slice Ao46 t206.length co46 : Value).ownBlock) (.slice Ao46 t206.length co46) t206 1 t232 t233 w _ ?side1 ?side2 A107.out).mono ?_); (case side1 => repeat (first | (with_reducible first | exact HB.out | apply wA | apply wN | apply wD | refine wS ?_ GE158.out | refine wS ?_ GE184.out | refine wS ?_ GE195.out | refine wS ?_ GE210.out) | exact HB.out)); (case side2 => exact Kd.R_tight rfl HO_211007.out); rintro e w192 ⟨rfl, hy0, hb, hkp⟩; refine ⟨_, rfl, ?_⟩; replace HO_185007 := A0 (Kd.R_mono (ok' := fun k_ => some k_ ≠ (.slice Ao36 t228.length co36 : Value).ownBlock ∧ some k_ ≠ (.slice Ao46 t206.length co46 : Value).ownBlock) (Kd.R_keptB (HO_185007.out) hkp (fun k_ hk_ hs_ => (hk_.2) hs_)) (fun k_ hk_ => ⟨hk_.1.1, hk_.1.2⟩)); replace HO_196007 := A0 (Kd.R_mono (ok' := fun k_ => some k_ ≠ (.slice Ao29 t180.length co29 : Value).ownBlock ∧ some k_ ≠ (.slice Ao46 t206.length co46 : Value).ownBlock) (Kd.R_keptB (HO_196007.out) hkp (fun k_ hk_ hs_ => (hk_.2) hs_)) (fun k_ hk_ => ⟨hk_.1.1, hk_.1.2⟩)); replace BK158 := A0 (blk_kept (by (with_reducible repeat (first | refine bN ?_ _ | refine bD ?_ | refine bA ?_ _)); exact BK158.out) hkp (fun hs_ => (fun e_ => (Kd.R_ne HO_211007.out BK158.out (by decide)) e_) hs_)); replace BK184 := A0 (blk_kept (by (with_reducible repeat (first | refine bN ?_ _ | refine bD ?_ | refine bA ?_ _)); exact BK184.out) hkp (fun hs_ => (fun e_ => (Kd.R_ne HO_211007.out BK184.out (by decide)) e_) hs_)); replace BK195 := A0 (blk_kept (by (with_reducible repeat (first | refine bN ?_ _ | refine bD ?_ | refine bA ?_ _)); exact BK195.out) hkp (fun hs_ => (fun e_ => (Kd.R_ne HO_211007.out BK195.out (by decide)) e_) hs_)); replace BK210 := A0 (blk_kept (by (with_reducible repeat (first | refine bN ?_ _ | refine bD ?_ | refine bA ?_ _)); exact BK210.out) hkp (fun hs_ => (fun e_ => (Kd.R_ne HO_211007.out BK210.out (by decide)) e_) hs_)); replace HO_211007 := A0 (Kd.R_reok rfl hy0 (fun k_ e_ => HO_211007.out.1 k_ e_)); replace HB := A0 (hb); (try clear hb); (try clear hkp); (try clear hy0); obtain ⟨hcz193_0, hcz193_1, hcz193_2, hcz193_3, hcz193_4, hcz193_5, hcz193_6, hcz193_7, hfz193_0, hfz193_1, hfz193_2, hfz193_3, hfz193_4, hfz193_5, hfz193_6, hfz193_7⟩ := blk8 BK210.out) | ((with_reducible refine gate_callee (f := 43) rfl ?_); refine goesL_ (some 86) rfl rfl Try.func43 (by kernel_rfl) rfl #[.agg #[.int .i64 t199, .int .i64 t200, .int .i64 t201, .string t202, .string t203, .string t204, .string t205, .slice Ao46 t233.length co46], .int .i64 1] rfl (by (try simp only [List.map_toArray, List.map_cons, List.map_nil]); first | done | (rw [show t233.length = t206.length from (Kd.R_reads' HO_211007.out).1.symm] <;> rfl) | rfl) ?_; (with_reducible refine (laws_heldHeader.calls kj73 t199 t200 t201 t202 t203 t204 t205 _ _ t233 1 t234 _ ?side1 ?side2 A108.out).mono ?_); (case side1 => repeat (first | exact (Kd.R_reads' HO_211007.out).2.2 | (with_reducible refine Kd.C_alloc ?_ _) | (with_reducible refine Kd.C_drewN ?_ _) | (with_reducible refine Kd.C_drew ?_))); (case side2 => rw [show t233.length = t206.length from (Kd.R_reads' HO_211007.out).1.symm]; exact (Kd.R_reads' HO_211007.out).2.1); rintro e w194 ⟨rfl, hb⟩; refine ⟨_, rfl, ?_⟩; replace HO_185007 := A0 (rB (by (with_reducible repeat (first | apply rA | apply rN | apply rD)); exact HO_185007.out) hb); replace HO_196007 := A0 (rB (by (with_reducible repeat (first | apply rA | apply rN | apply rD)); exact HO_196007.out) hb); replace HO_211007 := A0 (rB (by (with_reducible repeat (first | apply rA | apply rN | apply rD)); exact HO_211007.out) hb); replace BK158 := A0 (bB (g := gb158) (o := OB a0_0 a0_1 a0_2 a0_3 a0_4 a0_5 a0_6 (.slice A0_7 l0_7.length c0_7) 41) (by (with_reducible repeat (first | refine bN ?_ _ | refine bD ?_ | refine bA ?_ _)); exact BK158.out) hb); replace BK184 := A0 (bB (g := gb184) (o := OB t173 t174 t175 t176 t177 t178 t179 (.slice Ao29 t180.length co29) 44) (by (with_reducible repeat (first | refine bN ?_ _ | refine bD ?_ | refine bA ?_ _)); exact BK184.out) hb); replace BK195 := A0 (bB (g := gb195) (o := OB t185 t186 t187 t188 t189 t190 t191 (.slice Ao36 t228.length co36) 44) (by (with_reducible repeat (first | refine bN ?_ _ | refine bD ?_ | refine bA ?_ _)); exact BK195.out) hb); replace BK210 := A0 (bB (g := gb210) (o := OB t199 t200 t201 t202 t203 t204 t205 (.slice Ao46 t206.length co46) 44) (by (with_reducible repeat (first | refine bN ?_ _ | refine bD ?_ | refine bA ?_ _)); exact BK210.out) hb); replace HB := A0 (below_step (by repeat (first | (with_reducible first | exact HB.out | apply wA | apply wN | apply wD | refine wS ?_ GE158.out | refine wS ?_ GE184.out | refine wS ?_ GE195.out | refine wS ?_ GE210.out) | exact HB.out)) hb); (try clear hb); (try clear hb2); (try clear hk); (try clear hi)))
             go_ret
             exact ⟨by first | rfl | (simp [errW_none, errW_some] <;> rfl) | (simp [*, errW_none, errW_some] <;> rfl), by repeat (first | (with_reducible first | exact HB.out | apply wA | apply wN | apply wD | refine wS ?_ GE158.out | refine wS ?_ GE184.out | refine wS ?_ GE195.out | refine wS ?_ GE210.out) | exact HB.out)⟩
       ·replace c71 := Bool.eq_false_iff.mpr c71
        subst c71
        have H1 : (some false) = some r := by rw [if_neg (show ¬ (false = true) by decide)] at H; exact H
        clear H
        have H := H1
        clear H1
        obtain rfl := Option.some.inj H
        try go_wp2
        replace HO_9 := A0 (rD HO_9.out)
        replace HO_185007 := A0 (rD HO_185007.out)
        replace HO_196007 := A0 (rD HO_196007.out)
        replace HO_211007 := A0 (rD HO_211007.out)
        replace BK158 := A0 (bD BK158.out)
        replace BK184 := A0 (bD BK184.out)
        replace BK195 := A0 (bD BK195.out)
        replace BK210 := A0 (bD BK210.out)
        replace HB := A0 (wD HB.out)
        refine start_ (n := 5) (S := fun w' => w'.cell? ⟨gb195, 0, none⟩ = some (.int .i64 t185) ∧ w'.cell? ⟨gb195, 1, none⟩ = some (.int .i64 t186) ∧ w'.cell? ⟨gb195, 2, none⟩ = some (.int .i64 t187) ∧ w'.cell? ⟨gb195, 3, none⟩ = some (.string t188) ∧ w'.cell? ⟨gb195, 4, none⟩ = some (.string t189) ∧ w'.cell? ⟨gb195, 5, none⟩ = some (.string t190) ∧ w'.cell? ⟨gb195, 6, none⟩ = some (.string t191) ∧ w'.cell? ⟨gb195, 7, none⟩ = some (.slice Ao36 t192.length co36) ∧ w'.cell? ⟨gb158, 0, none⟩ = some (.int .i64 a0_0) ∧ w'.cell? ⟨gb158, 1, none⟩ = some (.int .i64 a0_1) ∧ w'.cell? ⟨gb158, 2, none⟩ = some (.int .i64 a0_2) ∧ w'.cell? ⟨gb158, 3, none⟩ = some (.string a0_3) ∧ w'.cell? ⟨gb158, 4, none⟩ = some (.string a0_4) ∧ w'.cell? ⟨gb158, 5, none⟩ = some (.string a0_5) ∧ w'.cell? ⟨gb158, 6, none⟩ = some (.string a0_6) ∧ w'.cell? ⟨gb158, 7, none⟩ = some (.slice A0_7 l0_7.length c0_7)) (ds := []) #[false, false, false, false, false] (by kernel_rfl) rfl rfl ⟨(blk_cell BK195.out 0).trans rfl, (blk_cell BK195.out 1).trans rfl, (blk_cell BK195.out 2).trans rfl, (blk_cell BK195.out 3).trans rfl, (blk_cell BK195.out 4).trans rfl, (blk_cell BK195.out 5).trans rfl, (blk_cell BK195.out 6).trans rfl, (blk_cell BK195.out 7).trans rfl, (blk_cell BK158.out 0).trans rfl, (blk_cell BK158.out 1).trans rfl, (blk_cell BK158.out 2).trans rfl, (blk_cell BK158.out 3).trans rfl, (blk_cell BK158.out 4).trans rfl, (blk_cell BK158.out 5).trans rfl, (blk_cell BK158.out 6).trans rfl, (blk_cell BK158.out 7).trans rfl⟩ (fun hHeld => ?_)
        generalize wc.drew = w195 at HO_9 HO_185007 HO_196007 HO_211007 BK158 BK184 BK195 BK210 HB hHeld ⊢
        refine take_ (i := 0) (N := some 52) (v := ?_) (a' := ?_) #[true, false, false, false, false] rfl rfl (by kernel_rfl) (fun _ _ _ h => h) (Or.inl ⟨by rfl, ?_⟩) hHeld ?_ ?_
        rotate_left
        ·rintro w' ⟨s0, s1, s2, s3, s4, s5, s6, s7, s8, s9, s10, s11, s12, s13, s14, s15⟩
         go_simp
         with_reducible rfl
        rotate_left
        ·simp only [Act.put, List.setIfInBounds_toArray, List.set_cons_zero, List.set_cons_succ, i64_w, i32_w]
         rfl
        refine take_ (i := 1) (N := some 53) (v := ?_) (a' := ?_) #[true, true, false, false, false] rfl rfl (by kernel_rfl) (fun _ _ _ h => h) (Or.inl ⟨by rfl, ?_⟩) hHeld ?_ ?_
        rotate_left
        ·rintro w' ⟨s0, s1, s2, s3, s4, s5, s6, s7, s8, s9, s10, s11, s12, s13, s14, s15⟩
         go_simp
         with_reducible rfl
        rotate_left
        ·simp only [Act.put, List.setIfInBounds_toArray, List.set_cons_zero, List.set_cons_succ, i64_w, i32_w]
         rfl
        refine one_ (i := 2) (N := some 54) #[true, true, true, false, false] rfl rfl (by kernel_rfl) (by decide) (fun K hK => ?_)
        refine goes_ Try.func29 (by kernel_rfl) rfl #[.agg #[.int .i64 a0_0, .int .i64 a0_1, .int .i64 a0_2, .string a0_3, .string a0_4, .string a0_5, .string a0_6, .slice A0_7 l0_7.length c0_7]] (by rfl) rfl rfl (by (try simp only [List.map_toArray, List.map_cons, List.map_nil]); first | done | rfl) ?_
        with_reducible refine (laws_toHeader.calls kj15 a0_0 a0_1 a0_2 a0_3 a0_4 a0_5 a0_6 _ _ l0_7 t212 t213 t214 t215 t216 t217 t218 t219 _ ?side1 ?side2 A66.out).mono ?_
        (case side1 => repeat (first | exact (Kd.C_below HR0_7.out HB.out) | (with_reducible refine Kd.C_alloc ?_ _) | (with_reducible refine Kd.C_drewN ?_ _) | (with_reducible refine Kd.C_drew ?_)))
        (case side2 => exact HC0_7.out)
        rintro e w196 ⟨v220, rfl, ho0, hb⟩
        refine ⟨_, rfl, ?_⟩
        have HO221 := A0 (Kd.R_lower (Kd.R_new' (Kd.R_new' (Kd.R_new' (Kd.R_new' ho0 (Kd.R_lt (by (with_reducible repeat (first | apply rA | apply rN | apply rD)); exact HO_9.out))) (Kd.R_lt (by (with_reducible repeat (first | apply rA | apply rN | apply rD)); exact HO_185007.out))) (Kd.R_lt (by (with_reducible repeat (first | apply rA | apply rN | apply rD)); exact HO_196007.out))) (Kd.R_lt (by (with_reducible repeat (first | apply rA | apply rN | apply rD)); exact HO_211007.out))) (below_size (by repeat (first | (with_reducible first | exact HB.out | apply wA | apply wN | apply wD | refine wS ?_ GE158.out | refine wS ?_ GE184.out | refine wS ?_ GE195.out | refine wS ?_ GE210.out) | exact HB.out))))
        replace HO_9 := A0 (Kd.R_elder' (by (with_reducible repeat (first | apply rA | apply rN | apply rD)); exact HO_9.out) (Kd.R_base ho0) hb)
        replace HO_185007 := A0 (Kd.R_elder' (by (with_reducible repeat (first | apply rA | apply rN | apply rD)); exact HO_185007.out) (Kd.R_base ho0) hb)
        replace HO_196007 := A0 (Kd.R_elder' (by (with_reducible repeat (first | apply rA | apply rN | apply rD)); exact HO_196007.out) (Kd.R_base ho0) hb)
        replace HO_211007 := A0 (Kd.R_elder' (by (with_reducible repeat (first | apply rA | apply rN | apply rD)); exact HO_211007.out) (Kd.R_base ho0) hb)
        replace BK158 := A0 (bB (g := gb158) (o := OB a0_0 a0_1 a0_2 a0_3 a0_4 a0_5 a0_6 (.slice A0_7 l0_7.length c0_7) 41) (by (with_reducible repeat (first | refine bN ?_ _ | refine bD ?_ | refine bA ?_ _)); exact BK158.out) hb)
        replace BK184 := A0 (bB (g := gb184) (o := OB t173 t174 t175 t176 t177 t178 t179 (.slice Ao29 t180.length co29) 44) (by (with_reducible repeat (first | refine bN ?_ _ | refine bD ?_ | refine bA ?_ _)); exact BK184.out) hb)
        replace BK195 := A0 (bB (g := gb195) (o := OB t185 t186 t187 t188 t189 t190 t191 (.slice Ao36 t192.length co36) 44) (by (with_reducible repeat (first | refine bN ?_ _ | refine bD ?_ | refine bA ?_ _)); exact BK195.out) hb)
        replace BK210 := A0 (bB (g := gb210) (o := OB t199 t200 t201 t202 t203 t204 t205 (.slice Ao46 t206.length co46) 44) (by (with_reducible repeat (first | refine bN ?_ _ | refine bD ?_ | refine bA ?_ _)); exact BK210.out) hb)
        replace HB := A0 (below_step (by repeat (first | (with_reducible first | exact HB.out | apply wA | apply wN | apply wD | refine wS ?_ GE158.out | refine wS ?_ GE184.out | refine wS ?_ GE195.out | refine wS ?_ GE210.out) | exact HB.out)) hb)
        (try clear hb)
        (try clear hb2)
        (try clear hk)
        (try clear hi)
        (try clear ho0)
        obtain ⟨Ao197, co197, eo197⟩ := Kd.R_slice HO221.out
        (first | subst eo197 | (injection eo197 with f1_ f2_ f3_; have f4_ := f1_.symm; have f5_ := f3_.symm; clear f1_ f2_ f3_; subst f4_; subst f5_))
        refine hK.out _ _ ⟨(blk_cell BK195.out 0).trans rfl, (blk_cell BK195.out 1).trans rfl, (blk_cell BK195.out 2).trans rfl, (blk_cell BK195.out 3).trans rfl, (blk_cell BK195.out 4).trans rfl, (blk_cell BK195.out 5).trans rfl, (blk_cell BK195.out 6).trans rfl, (blk_cell BK195.out 7).trans rfl, (blk_cell BK158.out 0).trans rfl, (blk_cell BK158.out 1).trans rfl, (blk_cell BK158.out 2).trans rfl, (blk_cell BK158.out 3).trans rfl, (blk_cell BK158.out 4).trans rfl, (blk_cell BK158.out 5).trans rfl, (blk_cell BK158.out 6).trans rfl, (blk_cell BK158.out 7).trans rfl⟩ (fun hHeld => ?_)
        clear hK K
        refine norm_ (a' := ?_) ?_ ?_
        rotate_left
        ·show Act.put _ (some 54) _ = _
         simp only [Act.put, List.setIfInBounds_toArray, List.set_cons_zero, List.set_cons_succ, i64_w, i32_w]
         rfl
        refine one_ (i := 3) (N := some 55) #[true, true, true, true, false] rfl rfl (by kernel_rfl) (by decide) (fun K hK => ?_)
        refine goes_ Try.func31 (by kernel_rfl) rfl #[.agg #[.int .i64 t185, .int .i64 t186, .int .i64 t187, .string t188, .string t189, .string t190, .string t191, .slice Ao36 t192.length co36], .agg #[.int .i64 t212, .int .i64 t213, .int .i64 t214, .string t215, .string t216, .string t217, .string t218, .slice Ao197 t219.length co197]] (by rfl) rfl rfl (by (try simp only [List.map_toArray, List.map_cons, List.map_nil]); first | done | rfl) ?_
        with_reducible refine (laws_eqHeader.calls kj15 t185 t186 t187 t188 t189 t190 t191 _ _ t192 t212 t213 t214 t215 t216 t217 t218 _ _ t219 true _ ?side1 ?side2 ?side3 ?side4 A67.out).mono ?_
        (case side1 => repeat (first | exact (Kd.R_reads' HO_196007.out).2.2 | (with_reducible refine Kd.C_alloc ?_ _) | (with_reducible refine Kd.C_drewN ?_ _) | (with_reducible refine Kd.C_drew ?_)))
        (case side2 => exact (Kd.R_reads' HO_196007.out).2.1)
        (case side3 => repeat (first | exact (Kd.R_reads' HO221.out).2.2 | (with_reducible refine Kd.C_alloc ?_ _) | (with_reducible refine Kd.C_drewN ?_ _) | (with_reducible refine Kd.C_drew ?_)))
        (case side4 => exact (Kd.R_reads' HO221.out).2.1)
        rintro e w198 ⟨rfl, hb⟩
        refine ⟨_, rfl, ?_⟩
        replace HO_9 := A0 (rB (by (with_reducible repeat (first | apply rA | apply rN | apply rD)); exact HO_9.out) hb)
        replace HO_185007 := A0 (rB (by (with_reducible repeat (first | apply rA | apply rN | apply rD)); exact HO_185007.out) hb)
        replace HO_196007 := A0 (rB (by (with_reducible repeat (first | apply rA | apply rN | apply rD)); exact HO_196007.out) hb)
        replace HO_211007 := A0 (rB (by (with_reducible repeat (first | apply rA | apply rN | apply rD)); exact HO_211007.out) hb)
        replace HO221 := A0 (rB (by (with_reducible repeat (first | apply rA | apply rN | apply rD)); exact HO221.out) hb)
        replace BK158 := A0 (bB (g := gb158) (o := OB a0_0 a0_1 a0_2 a0_3 a0_4 a0_5 a0_6 (.slice A0_7 l0_7.length c0_7) 41) (by (with_reducible repeat (first | refine bN ?_ _ | refine bD ?_ | refine bA ?_ _)); exact BK158.out) hb)
        replace BK184 := A0 (bB (g := gb184) (o := OB t173 t174 t175 t176 t177 t178 t179 (.slice Ao29 t180.length co29) 44) (by (with_reducible repeat (first | refine bN ?_ _ | refine bD ?_ | refine bA ?_ _)); exact BK184.out) hb)
        replace BK195 := A0 (bB (g := gb195) (o := OB t185 t186 t187 t188 t189 t190 t191 (.slice Ao36 t192.length co36) 44) (by (with_reducible repeat (first | refine bN ?_ _ | refine bD ?_ | refine bA ?_ _)); exact BK195.out) hb)
        replace BK210 := A0 (bB (g := gb210) (o := OB t199 t200 t201 t202 t203 t204 t205 (.slice Ao46 t206.length co46) 44) (by (with_reducible repeat (first | refine bN ?_ _ | refine bD ?_ | refine bA ?_ _)); exact BK210.out) hb)
        replace HB := A0 (below_step (by repeat (first | (with_reducible first | exact HB.out | apply wA | apply wN | apply wD | refine wS ?_ GE158.out | refine wS ?_ GE184.out | refine wS ?_ GE195.out | refine wS ?_ GE210.out) | exact HB.out)) hb)
        (try clear hb)
        (try clear hb2)
        (try clear hk)
        (try clear hi)
        refine hK.out _ _ ⟨(blk_cell BK195.out 0).trans rfl, (blk_cell BK195.out 1).trans rfl, (blk_cell BK195.out 2).trans rfl, (blk_cell BK195.out 3).trans rfl, (blk_cell BK195.out 4).trans rfl, (blk_cell BK195.out 5).trans rfl, (blk_cell BK195.out 6).trans rfl, (blk_cell BK195.out 7).trans rfl, (blk_cell BK158.out 0).trans rfl, (blk_cell BK158.out 1).trans rfl, (blk_cell BK158.out 2).trans rfl, (blk_cell BK158.out 3).trans rfl, (blk_cell BK158.out 4).trans rfl, (blk_cell BK158.out 5).trans rfl, (blk_cell BK158.out 6).trans rfl, (blk_cell BK158.out 7).trans rfl⟩ (fun hHeld => ?_)
        clear hK K
        refine norm_ (a' := ?_) ?_ ?_
        rotate_left
        ·show Act.put _ (some 55) _ = _
         simp only [Act.put, List.setIfInBounds_toArray, List.set_cons_zero, List.set_cons_succ, i64_w, i32_w]
         rfl
        refine pure_ (i := 4) (N := some 56) (v := ?_) (a' := ?_) #[true, true, true, true, true] rfl rfl (by kernel_rfl) (fun _ _ _ h => h) (Or.inl ⟨by rfl, ?_⟩) ?_ ?_
        rotate_left
        ·intro w'
         go_simp
         with_reducible rfl
        rotate_left
        ·simp only [Act.put, List.setIfInBounds_toArray, List.set_cons_zero, List.set_cons_succ, i64_w, i32_w]
         rfl
        refine done_ (by kernel_rfl) ?_
        try go_wp2_with (first | ((with_reducible refine gate_callee (f := 38) rfl ?_); refine goesL_ (some 59) rfl rfl Try.func38 (by kernel_rfl) rfl #[.slice A1 l1.length c1] rfl (by (try simp only [List.map_toArray, List.map_cons, List.map_nil]); first | done | rfl) ?_; (with_reducible refine (laws_toIntS.calls kj15 _ _ l1 t223 _ ?side1 ?side2 A69.out).mono ?_); (case side1 => repeat (first | exact (Kd.C_below HR1.out HB.out) | (with_reducible refine Kd.C_alloc ?_ _) | (with_reducible refine Kd.C_drewN ?_ _) | (with_reducible refine Kd.C_drew ?_))); (case side2 => exact HC1.out); rintro e w199 ⟨v224, rfl, ho0, hb⟩; refine ⟨_, rfl, ?_⟩; have HO225 := A0 (Kd.R_lower (Kd.R_new' (Kd.R_new' (Kd.R_new' (Kd.R_new' (Kd.R_new' ho0 (Kd.R_lt (by (with_reducible repeat (first | apply rA | apply rN | apply rD)); exact HO_9.out))) (Kd.R_lt (by (with_reducible repeat (first | apply rA | apply rN | apply rD)); exact HO_185007.out))) (Kd.R_lt (by (with_reducible repeat (first | apply rA | apply rN | apply rD)); exact HO_196007.out))) (Kd.R_lt (by (with_reducible repeat (first | apply rA | apply rN | apply rD)); exact HO_211007.out))) (Kd.R_lt (by (with_reducible repeat (first | apply rA | apply rN | apply rD)); exact HO221.out))) (below_size (by repeat (first | (with_reducible first | exact HB.out | apply wA | apply wN | apply wD | refine wS ?_ GE158.out | refine wS ?_ GE184.out | refine wS ?_ GE195.out | refine wS ?_ GE210.out) | exact HB.out)))); replace HO_9 := A0 (Kd.R_elder' (by (with_reducible repeat (first | apply rA | apply rN | apply rD)); exact HO_9.out) (Kd.R_base ho0) hb); replace HO_185007 := A0 (Kd.R_elder' (by (with_reducible repeat (first | apply rA | apply rN | apply rD)); exact HO_185007.out) (Kd.R_base ho0) hb); replace HO_196007 := A0 (Kd.R_elder' (by (with_reducible repeat (first | apply rA | apply rN | apply rD)); exact HO_196007.out) (Kd.R_base ho0) hb); replace HO_211007 := A0 (Kd.R_elder' (by (with_reducible repeat (first | apply rA | apply rN | apply rD)); exact HO_211007.out) (Kd.R_base ho0) hb); replace HO221 := A0 (Kd.R_elder' (by (with_reducible repeat (first | apply rA | apply rN | apply rD)); exact HO221.out) (Kd.R_base ho0) hb); replace BK158 := A0 (bB (g := gb158) (o := OB a0_0 a0_1 a0_2 a0_3 a0_4 a0_5 a0_6 (.slice A0_7 l0_7.length c0_7) 41) (by (with_reducible repeat (first | refine bN ?_ _ | refine bD ?_ | refine bA ?_ _)); exact BK158.out) hb); replace BK184 := A0 (bB (g := gb184) (o := OB t173 t174 t175 t176 t177 t178 t179 (.slice Ao29 t180.length co29) 44) (by (with_reducible repeat (first | refine bN ?_ _ | refine bD ?_ | refine bA ?_ _)); exact BK184.out) hb); replace BK195 := A0 (bB (g := gb195) (o := OB t185 t186 t187 t188 t189 t190 t191 (.slice Ao36 t192.length co36) 44) (by (with_reducible repeat (first | refine bN ?_ _ | refine bD ?_ | refine bA ?_ _)); exact BK195.out) hb); replace BK210 := A0 (bB (g := gb210) (o := OB t199 t200 t201 t202 t203 t204 t205 (.slice Ao46 t206.length co46) 44) (by (with_reducible repeat (first | refine bN ?_ _ | refine bD ?_ | refine bA ?_ _)); exact BK210.out) hb); replace HB := A0 (below_step (by repeat (first | (with_reducible first | exact HB.out | apply wA | apply wN | apply wD | refine wS ?_ GE158.out | refine wS ?_ GE184.out | refine wS ?_ GE195.out | refine wS ?_ GE210.out) | exact HB.out)) hb); (try clear hb); (try clear hb2); (try clear hk); (try clear hi); (try clear ho0); obtain ⟨Ao200, co200, eo200⟩ := Kd.R_slice HO225.out; subst eo200) | ((with_reducible refine gate_callee (f := 40) rfl ?_); refine goesL_ (some 60) rfl rfl Try.func40 (by kernel_rfl) rfl #[.slice Ao39 t196.length co39, .slice Ao200 t223.length co200] rfl (by (try simp only [List.map_toArray, List.map_cons, List.map_nil]); first | done | rfl) ?_; (with_reducible refine (laws_eqIntS.calls kj15 _ _ t196 _ _ t223 false _ ?side1 ?side2 ?side3 ?side4 A70.out).mono ?_); (case side1 => repeat (first | exact (Kd.R_reads' HO_9.out).2.2 | (with_reducible refine Kd.C_alloc ?_ _) | (with_reducible refine Kd.C_drewN ?_ _) | (with_reducible refine Kd.C_drew ?_))); (case side2 => exact (Kd.R_reads' HO_9.out).2.1); (case side3 => repeat (first | exact (Kd.R_reads' HO225.out).2.2 | (with_reducible refine Kd.C_alloc ?_ _) | (with_reducible refine Kd.C_drewN ?_ _) | (with_reducible refine Kd.C_drew ?_))); (case side4 => exact (Kd.R_reads' HO225.out).2.1); rintro e w' ⟨rfl, ⟨nd, rfl⟩⟩; refine ⟨_, rfl, ?_⟩))
        go_ret
        exact ⟨by first | rfl | (simp [errW_none, errW_some] <;> rfl) | (simp [*, errW_none, errW_some] <;> rfl), by repeat (first | (with_reducible first | exact HB.out | apply wA | apply wN | apply wD | refine wS ?_ GE158.out | refine wS ?_ GE184.out | refine wS ?_ GE195.out | refine wS ?_ GE210.out) | exact HB.out)⟩
      ·replace c68 := Bool.eq_false_iff.mpr c68
       subst c68
       have H1 : (some false) = some r := by rw [if_neg (show ¬ (false = true) by decide)] at H; exact H
       clear H
       have H := H1
       clear H1
       obtain rfl := Option.some.inj H
       try go_wp2
       replace HO_9 := A0 (rD HO_9.out)
       replace HO_185007 := A0 (rD HO_185007.out)
       replace HO_196007 := A0 (rD HO_196007.out)
       replace HO_211007 := A0 (rD HO_211007.out)
       replace BK158 := A0 (bD BK158.out)
       replace BK184 := A0 (bD BK184.out)
       replace BK195 := A0 (bD BK195.out)
       replace BK210 := A0 (bD BK210.out)
       replace HB := A0 (wD HB.out)
       refine start_ (n := 5) (S := fun w' => w'.cell? ⟨gb195, 0, none⟩ = some (.int .i64 t185) ∧ w'.cell? ⟨gb195, 1, none⟩ = some (.int .i64 t186) ∧ w'.cell? ⟨gb195, 2, none⟩ = some (.int .i64 t187) ∧ w'.cell? ⟨gb195, 3, none⟩ = some (.string t188) ∧ w'.cell? ⟨gb195, 4, none⟩ = some (.string t189) ∧ w'.cell? ⟨gb195, 5, none⟩ = some (.string t190) ∧ w'.cell? ⟨gb195, 6, none⟩ = some (.string t191) ∧ w'.cell? ⟨gb195, 7, none⟩ = some (.slice Ao36 t192.length co36) ∧ w'.cell? ⟨gb158, 0, none⟩ = some (.int .i64 a0_0) ∧ w'.cell? ⟨gb158, 1, none⟩ = some (.int .i64 a0_1) ∧ w'.cell? ⟨gb158, 2, none⟩ = some (.int .i64 a0_2) ∧ w'.cell? ⟨gb158, 3, none⟩ = some (.string a0_3) ∧ w'.cell? ⟨gb158, 4, none⟩ = some (.string a0_4) ∧ w'.cell? ⟨gb158, 5, none⟩ = some (.string a0_5) ∧ w'.cell? ⟨gb158, 6, none⟩ = some (.string a0_6) ∧ w'.cell? ⟨gb158, 7, none⟩ = some (.slice A0_7 l0_7.length c0_7)) (ds := []) #[false, false, false, false, false] (by kernel_rfl) rfl rfl ⟨(blk_cell BK195.out 0).trans rfl, (blk_cell BK195.out 1).trans rfl, (blk_cell BK195.out 2).trans rfl, (blk_cell BK195.out 3).trans rfl, (blk_cell BK195.out 4).trans rfl, (blk_cell BK195.out 5).trans rfl, (blk_cell BK195.out 6).trans rfl, (blk_cell BK195.out 7).trans rfl, (blk_cell BK158.out 0).trans rfl, (blk_cell BK158.out 1).trans rfl, (blk_cell BK158.out 2).trans rfl, (blk_cell BK158.out 3).trans rfl, (blk_cell BK158.out 4).trans rfl, (blk_cell BK158.out 5).trans rfl, (blk_cell BK158.out 6).trans rfl, (blk_cell BK158.out 7).trans rfl⟩ (fun hHeld => ?_)
       generalize wc.drew = w201 at HO_9 HO_185007 HO_196007 HO_211007 BK158 BK184 BK195 BK210 HB hHeld ⊢
       refine take_ (i := 0) (N := some 52) (v := ?_) (a' := ?_) #[true, false, false, false, false] rfl rfl (by kernel_rfl) (fun _ _ _ h => h) (Or.inl ⟨by rfl, ?_⟩) hHeld ?_ ?_
       rotate_left
       ·rintro w' ⟨s0, s1, s2, s3, s4, s5, s6, s7, s8, s9, s10, s11, s12, s13, s14, s15⟩
        go_simp
        with_reducible rfl
       rotate_left
       ·simp only [Act.put, List.setIfInBounds_toArray, List.set_cons_zero, List.set_cons_succ, i64_w, i32_w]
        rfl
       refine take_ (i := 1) (N := some 53) (v := ?_) (a' := ?_) #[true, true, false, false, false] rfl rfl (by kernel_rfl) (fun _ _ _ h => h) (Or.inl ⟨by rfl, ?_⟩) hHeld ?_ ?_
       rotate_left
       ·rintro w' ⟨s0, s1, s2, s3, s4, s5, s6, s7, s8, s9, s10, s11, s12, s13, s14, s15⟩
        go_simp
        with_reducible rfl
       rotate_left
       ·simp only [Act.put, List.setIfInBounds_toArray, List.set_cons_zero, List.set_cons_succ, i64_w, i32_w]
        rfl
       refine one_ (i := 2) (N := some 54) #[true, true, true, false, false] rfl rfl (by kernel_rfl) (by decide) (fun K hK => ?_)
       refine goes_ Try.func29 (by kernel_rfl) rfl #[.agg #[.int .i64 a0_0, .int .i64 a0_1, .int .i64 a0_2, .string a0_3, .string a0_4, .string a0_5, .string a0_6, .slice A0_7 l0_7.length c0_7]] (by rfl) rfl rfl (by (try simp only [List.map_toArray, List.map_cons, List.map_nil]); first | done | rfl) ?_
       with_reducible refine (laws_toHeader.calls kj15 a0_0 a0_1 a0_2 a0_3 a0_4 a0_5 a0_6 _ _ l0_7 t212 t213 t214 t215 t216 t217 t218 t219 _ ?side1 ?side2 A66.out).mono ?_
       (case side1 => repeat (first | exact (Kd.C_below HR0_7.out HB.out) | (with_reducible refine Kd.C_alloc ?_ _) | (with_reducible refine Kd.C_drewN ?_ _) | (with_reducible refine Kd.C_drew ?_)))
       (case side2 => exact HC0_7.out)
       rintro e w202 ⟨v220, rfl, ho0, hb⟩
       refine ⟨_, rfl, ?_⟩
       have HO221 := A0 (Kd.R_lower (Kd.R_new' (Kd.R_new' (Kd.R_new' (Kd.R_new' ho0 (Kd.R_lt (by (with_reducible repeat (first | apply rA | apply rN | apply rD)); exact HO_9.out))) (Kd.R_lt (by (with_reducible repeat (first | apply rA | apply rN | apply rD)); exact HO_185007.out))) (Kd.R_lt (by (with_reducible repeat (first | apply rA | apply rN | apply rD)); exact HO_196007.out))) (Kd.R_lt (by (with_reducible repeat (first | apply rA | apply rN | apply rD)); exact HO_211007.out))) (below_size (by repeat (first | (with_reducible first | exact HB.out | apply wA | apply wN | apply wD | refine wS ?_ GE158.out | refine wS ?_ GE184.out | refine wS ?_ GE195.out | refine wS ?_ GE210.out) | exact HB.out))))
       replace HO_9 := A0 (Kd.R_elder' (by (with_reducible repeat (first | apply rA | apply rN | apply rD)); exact HO_9.out) (Kd.R_base ho0) hb)
       replace HO_185007 := A0 (Kd.R_elder' (by (with_reducible repeat (first | apply rA | apply rN | apply rD)); exact HO_185007.out) (Kd.R_base ho0) hb)
       replace HO_196007 := A0 (Kd.R_elder' (by (with_reducible repeat (first | apply rA | apply rN | apply rD)); exact HO_196007.out) (Kd.R_base ho0) hb)
       replace HO_211007 := A0 (Kd.R_elder' (by (with_reducible repeat (first | apply rA | apply rN | apply rD)); exact HO_211007.out) (Kd.R_base ho0) hb)
       replace BK158 := A0 (bB (g := gb158) (o := OB a0_0 a0_1 a0_2 a0_3 a0_4 a0_5 a0_6 (.slice A0_7 l0_7.length c0_7) 41) (by (with_reducible repeat (first | refine bN ?_ _ | refine bD ?_ | refine bA ?_ _)); exact BK158.out) hb)
       replace BK184 := A0 (bB (g := gb184) (o := OB t173 t174 t175 t176 t177 t178 t179 (.slice Ao29 t180.length co29) 44) (by (with_reducible repeat (first | refine bN ?_ _ | refine bD ?_ | refine bA ?_ _)); exact BK184.out) hb)
       replace BK195 := A0 (bB (g := gb195) (o := OB t185 t186 t187 t188 t189 t190 t191 (.slice Ao36 t192.length co36) 44) (by (with_reducible repeat (first | refine bN ?_ _ | refine bD ?_ | refine bA ?_ _)); exact BK195.out) hb)
       replace BK210 := A0 (bB (g := gb210) (o := OB t199 t200 t201 t202 t203 t204 t205 (.slice Ao46 t206.length co46) 44) (by (with_reducible repeat (first | refine bN ?_ _ | refine bD ?_ | refine bA ?_ _)); exact BK210.out) hb)
       replace HB := A0 (below_step (by repeat (first | (with_reducible first | exact HB.out | apply wA | apply wN | apply wD | refine wS ?_ GE158.out | refine wS ?_ GE184.out | refine wS ?_ GE195.out | refine wS ?_ GE210.out) | exact HB.out)) hb)
       (try clear hb)
       (try clear hb2)
       (try clear hk)
       (try clear hi)
       (try clear ho0)
       obtain ⟨Ao203, co203, eo203⟩ := Kd.R_slice HO221.out
       (first | subst eo203 | (injection eo203 with f1_ f2_ f3_; have f4_ := f1_.symm; have f5_ := f3_.symm; clear f1_ f2_ f3_; subst f4_; subst f5_))
       refine hK.out _ _ ⟨(blk_cell BK195.out 0).trans rfl, (blk_cell BK195.out 1).trans rfl, (blk_cell BK195.out 2).trans rfl, (blk_cell BK195.out 3).trans rfl, (blk_cell BK195.out 4).trans rfl, (blk_cell BK195.out 5).trans rfl, (blk_cell BK195.out 6).trans rfl, (blk_cell BK195.out 7).trans rfl, (blk_cell BK158.out 0).trans rfl, (blk_cell BK158.out 1).trans rfl, (blk_cell BK158.out 2).trans rfl, (blk_cell BK158.out 3).trans rfl, (blk_cell BK158.out 4).trans rfl, (blk_cell BK158.out 5).trans rfl, (blk_cell BK158.out 6).trans rfl, (blk_cell BK158.out 7).trans rfl⟩ (fun hHeld => ?_)
       clear hK K
       refine norm_ (a' := ?_) ?_ ?_
       rotate_left
       ·show Act.put _ (some 54) _ = _
        simp only [Act.put, List.setIfInBounds_toArray, List.set_cons_zero, List.set_cons_succ, i64_w, i32_w]
        rfl
       refine one_ (i := 3) (N := some 55) #[true, true, true, true, false] rfl rfl (by kernel_rfl) (by decide) (fun K hK => ?_)
       refine goes_ Try.func31 (by kernel_rfl) rfl #[.agg #[.int .i64 t185, .int .i64 t186, .int .i64 t187, .string t188, .string t189, .string t190, .string t191, .slice Ao36 t192.length co36], .agg #[.int .i64 t212, .int .i64 t213, .int .i64 t214, .string t215, .string t216, .string t217, .string t218, .slice Ao203 t219.length co203]] (by rfl) rfl rfl (by (try simp only [List.map_toArray, List.map_cons, List.map_nil]); first | done | rfl) ?_
       with_reducible refine (laws_eqHeader.calls kj15 t185 t186 t187 t188 t189 t190 t191 _ _ t192 t212 t213 t214 t215 t216 t217 t218 _ _ t219 false _ ?side1 ?side2 ?side3 ?side4 A67.out).mono ?_
       (case side1 => repeat (first | exact (Kd.R_reads' HO_196007.out).2.2 | (with_reducible refine Kd.C_alloc ?_ _) | (with_reducible refine Kd.C_drewN ?_ _) | (with_reducible refine Kd.C_drew ?_)))
       (case side2 => exact (Kd.R_reads' HO_196007.out).2.1)
       (case side3 => repeat (first | exact (Kd.R_reads' HO221.out).2.2 | (with_reducible refine Kd.C_alloc ?_ _) | (with_reducible refine Kd.C_drewN ?_ _) | (with_reducible refine Kd.C_drew ?_)))
       (case side4 => exact (Kd.R_reads' HO221.out).2.1)
       rintro e w204 ⟨rfl, hb⟩
       refine ⟨_, rfl, ?_⟩
       replace HO_9 := A0 (rB (by (with_reducible repeat (first | apply rA | apply rN | apply rD)); exact HO_9.out) hb)
       replace HO_185007 := A0 (rB (by (with_reducible repeat (first | apply rA | apply rN | apply rD)); exact HO_185007.out) hb)
       replace HO_196007 := A0 (rB (by (with_reducible repeat (first | apply rA | apply rN | apply rD)); exact HO_196007.out) hb)
       replace HO_211007 := A0 (rB (by (with_reducible repeat (first | apply rA | apply rN | apply rD)); exact HO_211007.out) hb)
       replace HO221 := A0 (rB (by (with_reducible repeat (first | apply rA | apply rN | apply rD)); exact HO221.out) hb)
       replace BK158 := A0 (bB (g := gb158) (o := OB a0_0 a0_1 a0_2 a0_3 a0_4 a0_5 a0_6 (.slice A0_7 l0_7.length c0_7) 41) (by (with_reducible repeat (first | refine bN ?_ _ | refine bD ?_ | refine bA ?_ _)); exact BK158.out) hb)
       replace BK184 := A0 (bB (g := gb184) (o := OB t173 t174 t175 t176 t177 t178 t179 (.slice Ao29 t180.length co29) 44) (by (with_reducible repeat (first | refine bN ?_ _ | refine bD ?_ | refine bA ?_ _)); exact BK184.out) hb)
       replace BK195 := A0 (bB (g := gb195) (o := OB t185 t186 t187 t188 t189 t190 t191 (.slice Ao36 t192.length co36) 44) (by (with_reducible repeat (first | refine bN ?_ _ | refine bD ?_ | refine bA ?_ _)); exact BK195.out) hb)
       replace BK210 := A0 (bB (g := gb210) (o := OB t199 t200 t201 t202 t203 t204 t205 (.slice Ao46 t206.length co46) 44) (by (with_reducible repeat (first | refine bN ?_ _ | refine bD ?_ | refine bA ?_ _)); exact BK210.out) hb)
       replace HB := A0 (below_step (by repeat (first | (with_reducible first | exact HB.out | apply wA | apply wN | apply wD | refine wS ?_ GE158.out | refine wS ?_ GE184.out | refine wS ?_ GE195.out | refine wS ?_ GE210.out) | exact HB.out)) hb)
       (try clear hb)
       (try clear hb2)
       (try clear hk)
       (try clear hi)
       refine hK.out _ _ ⟨(blk_cell BK195.out 0).trans rfl, (blk_cell BK195.out 1).trans rfl, (blk_cell BK195.out 2).trans rfl, (blk_cell BK195.out 3).trans rfl, (blk_cell BK195.out 4).trans rfl, (blk_cell BK195.out 5).trans rfl, (blk_cell BK195.out 6).trans rfl, (blk_cell BK195.out 7).trans rfl, (blk_cell BK158.out 0).trans rfl, (blk_cell BK158.out 1).trans rfl, (blk_cell BK158.out 2).trans rfl, (blk_cell BK158.out 3).trans rfl, (blk_cell BK158.out 4).trans rfl, (blk_cell BK158.out 5).trans rfl, (blk_cell BK158.out 6).trans rfl, (blk_cell BK158.out 7).trans rfl⟩ (fun hHeld => ?_)
       clear hK K
       refine norm_ (a' := ?_) ?_ ?_
       rotate_left
       ·show Act.put _ (some 55) _ = _
        simp only [Act.put, List.setIfInBounds_toArray, List.set_cons_zero, List.set_cons_succ, i64_w, i32_w]
        rfl
       refine pure_ (i := 4) (N := some 56) (v := ?_) (a' := ?_) #[true, true, true, true, true] rfl rfl (by kernel_rfl) (fun _ _ _ h => h) (Or.inl ⟨by rfl, ?_⟩) ?_ ?_
       rotate_left
       ·intro w'
        go_simp
        with_reducible rfl
       rotate_left
       ·simp only [Act.put, List.setIfInBounds_toArray, List.set_cons_zero, List.set_cons_succ, i64_w, i32_w]
        rfl
       refine done_ (by kernel_rfl) ?_
       try go_wp2
       go_ret
       exact ⟨by first | rfl | (simp [errW_none, errW_some] <;> rfl) | (simp [*, errW_none, errW_some] <;> rfl), by repeat (first | (with_reducible first | exact HB.out | apply wA | apply wN | apply wD | refine wS ?_ GE158.out | refine wS ?_ GE184.out | refine wS ?_ GE195.out | refine wS ?_ GE210.out) | exact HB.out)⟩

/-- THE ONE PURE STATEMENT of laws_FnExactVersionAnswer: yours. -/
def laws_FnExactVersionAnswer.Pure : Prop := ∀ (a0_0 : Int) (a0_1 : Int) (a0_2 : Int) (a0_3 : ByteArray) (a0_4 : ByteArray) (a0_5 : ByteArray) (a0_6 : ByteArray) (l0_7 : List Int) (l1 : List Int), (Lit.int .i64 a0_0).wf = true → (Lit.int .i64 a0_1).wf = true → (Lit.int .i64 a0_2).wf = true → a0_3.size ≤ 9223372036854775807 → a0_4.size ≤ 9223372036854775807 → a0_5.size ≤ 9223372036854775807 → a0_6.size ≤ 9223372036854775807 → l0_7.length ≤ 9223372036854775807 → (∀ y0_, y0_ ∈ l0_7 → (Lit.int .i64 y0_).wf = true) → l1.length ≤ 9223372036854775807 → (∀ y0_, y0_ ∈ l1 → (Lit.int .i64 y0_).wf = true) → ∃ k, laws_FnExactVersionAnswer.f k a0_0 a0_1 a0_2 a0_3 a0_4 a0_5 a0_6 l0_7 l1 = some true
theorem laws_FnExactVersionAnswer.walk (P : laws_FnExactVersionAnswer.Pure) (a0_0 : Int) (a0_1 : Int) (a0_2 : Int) (a0_3 : ByteArray) (a0_4 : ByteArray) (a0_5 : ByteArray) (a0_6 : ByteArray) (A0_7 : Option Addr) (c0_7 : Nat) (l0_7 : List Int) (A1 : Option Addr) (c1 : Nat) (l1 : List Int) (w : World) (w0_0 : (Lit.int .i64 a0_0).wf = true) (w0_1 : (Lit.int .i64 a0_1).wf = true) (w0_2 : (Lit.int .i64 a0_2).wf = true) (w0_3 : a0_3.size ≤ 9223372036854775807) (w0_4 : a0_4.size ≤ 9223372036854775807) (w0_5 : a0_5.size ≤ 9223372036854775807) (w0_6 : a0_6.size ≤ 9223372036854775807) (w0_7 : (∀ y0_, y0_ ∈ l0_7 → (Lit.int .i64 y0_).wf = true)) (hr0_7 : Kd.C (Kd.int .i64) w A0_7 l0_7.length l0_7) (hc0_7 : l0_7.length ≤ c0_7) (w1 : (∀ y0_, y0_ ∈ l1 → (Lit.int .i64 y0_).wf = true)) (hr1 : Kd.C (Kd.int .i64) w A1 l1.length l1) (hc1 : l1.length ≤ c1) :
  Calls Try.prog 11 #[.agg #[.int .i64 a0_0, .int .i64 a0_1, .int .i64 a0_2, .string a0_3, .string a0_4, .string a0_5, .string a0_6, .slice A0_7 l0_7.length c0_7], .slice A1 l1.length c1] w fun e w' => e = .returned (.bool true) ∧ Below w.heap.size w w' := by
 obtain ⟨k, h⟩ := P a0_0 a0_1 a0_2 a0_3 a0_4 a0_5 a0_6 l0_7 l1 w0_0 w0_1 w0_2 w0_3 w0_4 w0_5 w0_6 hr0_7.2.1 w0_7 hr1.2.1 w1
 refine (laws_FnExactVersionAnswer.calls k a0_0 a0_1 a0_2 a0_3 a0_4 a0_5 a0_6 A0_7 c0_7 l0_7 A1 c1 l1 true w hr0_7 hc0_7 hr1 hc1 h).mono ?_
 rintro e w' ⟨rfl, hd⟩
 exact ⟨rfl, hd⟩

end Go.Proofs.Ytlohefjigggjiaa.PFnExactVersionAnswer
