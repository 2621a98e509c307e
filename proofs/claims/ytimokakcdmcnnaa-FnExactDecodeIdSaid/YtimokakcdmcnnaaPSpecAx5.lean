-- SHRUNK. LAID BY A PROGRAM OF THIS SESSION (wip/tools/myprint.py) over the kit's print.
import Derived.Test.YtimokakcdmcnnaaPSpecAx0
import Derived.Test.YtimokakcdmcnnaaPSpecAx1
import Derived.Test.YtimokakcdmcnnaaPSpecAx2
import Derived.Test.YtimokakcdmcnnaaPSpecAx3
namespace Go.Proofs.Ytimokakcdmcnnaa.PSpecA
open Go.RowKit Go.Proofs.YtimokakcdmcnnaaV.PrintWords Go.Proofs.YtimokakcdmcnnaaV.PrintLast Go.Proofs.YtimokakcdmcnnaaV.PrintMore
attribute [local go_sem] max2_int min2_int max_two min_two max_three min_three max_four min_four   -- for this text's walks alone
set_option linter.unusedVariables false
set_option linter.unusedSimpArgs false

/-! ### spec_l3Back: function 55 -/
mutual
def spec_l3Back.l0 : Nat → List Int → List Int → Int → Option (ByteArray)
 | 0, _, _, _ => none
 | k + 1, x5, x6, x7 => if x7 > 0 then (if 0 ≤ (wrap64 (16 * x7)) then (if (wrap64 (16 * x7)) ≤ (wrap64 ((wrap64 (16 * x7)) + 16)) then (if (wrap64 ((wrap64 (16 * x7)) + 16)) ≤ (x5.length : Int) then ((spec_l3Xor.f k x6 ((x5.take ((wrap64 ((wrap64 (16 * x7)) + 16)) : Int).toNat).drop ((wrap64 (16 * x7)) : Int).toNat)).bind fun t225 => (if x7 < 10 then (spec_l3Back.l1 k x5 t225 x7 ([] : List Int) 0) else (spec_l3Back.j2 k x5 t225 x7))) else (none)) else (none)) else (none)) else (if 16 ≤ (x5.length : Int) then ((spec_l3Xor.f k x6 (x5.take 16)).bind fun t218 => (some (strOfNums t218))) else (none))
def spec_l3Back.j2 : Nat → List Int → List Int → Int → Option (ByteArray)
 | 0, _, _, _ => none
 | k + 1, x5, x6, x7 => if 16 ≤ 281474976710656 then (spec_l3Back.l2 k x5 x6 x7 (List.replicate 16 0) 0) else (none)
def spec_l3Back.l2 : Nat → List Int → List Int → Int → List Int → Int → Option (ByteArray)
 | 0, _, _, _, _, _ => none
 | k + 1, x5, x6, x7, x10, x11 => if x11 < 4 then (spec_l3Back.l3 k x5 x6 x7 x10 x11 0) else (spec_l3Back.l0 k x5 x10 (wrap64 (x7 - 1)))
def spec_l3Back.l3 : Nat → List Int → List Int → Int → List Int → Int → Int → Option (ByteArray)
 | 0, _, _, _, _, _, _ => none
 | k + 1, x5, x6, x7, x10, x11, x12 => if x12 < 4 then (if 0 ≤ (wrap64 ((wrap64 (4 * x11)) + x12)) then (if (wrap64 ((wrap64 (4 * x11)) + x12)) < (x6.length : Int) then ((spec_l3Unsub.f k (rd x6 (wrap64 ((wrap64 (4 * x11)) + x12)))).bind fun t245 => (if 0 ≤ (wrap64 ((wrap64 (4 * (Int.tmod (wrap64 (x11 + x12)) 4))) + x12)) then (if (wrap64 ((wrap64 (4 * (Int.tmod (wrap64 (x11 + x12)) 4))) + x12)) < (x10.length : Int) then (spec_l3Back.l3 k x5 x6 x7 (x10.set ((wrap64 ((wrap64 (4 * (Int.tmod (wrap64 (x11 + x12)) 4))) + x12)) : Int).toNat t245) x11 (wrap64 (x12 + 1))) else (none)) else (none))) else (none)) else (none)) else (spec_l3Back.l2 k x5 x6 x7 x10 (wrap64 (x11 + 1)))
def spec_l3Back.l1 : Nat → List Int → List Int → Int → List Int → Int → Option (ByteArray)
 | 0, _, _, _, _, _ => none
 | k + 1, x5, x6, x7, x8, x9 => if x9 < 4 then (if 0 ≤ (wrap64 (4 * x9)) then (if (wrap64 (4 * x9)) ≤ (wrap64 ((wrap64 (4 * x9)) + 4)) then (if (wrap64 ((wrap64 (4 * x9)) + 4)) ≤ (x6.length : Int) then ((spec_l3Mix.f k ((x6.take ((wrap64 ((wrap64 (4 * x9)) + 4)) : Int).toNat).drop ((wrap64 (4 * x9)) : Int).toNat) (([14, 11, 13, 9] : List Int))).bind fun t235 => (if x8.length + t235.length < 140737488355328 then (spec_l3Back.l1 k x5 x6 x7 (x8 ++ t235) (wrap64 (x9 + 1))) else (none))) else (none)) else (none)) else (none)) else (spec_l3Back.j2 k x5 x8 x7)
end
def spec_l3Back.f (k : Nat) (a0 : ByteArray) (a1 : ByteArray) : Option (ByteArray) := (spec_l3Keys.f k a0).bind fun t208 => (if a1.size ≤ 9223372036854775807 then (spec_l3Back.l0 k t208 (bytesOf a1) 10) else (none))
set_option maxHeartbeats 8000000 in
set_option maxRecDepth 100000 in
theorem spec_l3Back.calls (k : Nat) (a0 : ByteArray) (a1 : ByteArray) (r : ByteArray) (w : World) (h : spec_l3Back.f k a0 a1 = some r) :
  Calls Try.prog 55 #[.string a0, .string a1] w fun e w' => e = .returned (.string r) ∧ Below w.heap.size w w' := by
 have HB := Aside0.mk (Below.refl w.heap.size w)
 have H : ((spec_l3Keys.f k a0).bind fun t208 => (if a1.size ≤ 9223372036854775807 then (spec_l3Back.l0 k t208 (bytesOf a1) 10) else (none))) = some r := h
 clear h
 replace H := Option.bind_eq_some_iff.mp H
 obtain ⟨t208, A30, H⟩ := H
 replace H : (if a1.size ≤ 9223372036854775807 then (spec_l3Back.l0 k t208 (bytesOf a1) 10) else (none)) = some r := H
 have A3 := Aside0.mk A30
 clear A30
 by_cases c4 : a1.size ≤ 9223372036854775807
 ·rw [if_pos c4] at H
  have c4b0 := eq_true c4
  have c4b1 : decide (a1.size ≤ 9223372036854775807) = true := decide_eq_true c4
  try have c4b2 : (9223372036854775807 < a1.size) = False := eq_false (Nat.not_lt.2 c4)
  clear c4
  obtain ⟨y211, hy211⟩ : ∃ y_ : List Int, y_ = (bytesOf a1) := ⟨_, rfl⟩
  replace H : (spec_l3Back.l0 k t208 y211 10) = some r := by first | (rw [hy211]; with_reducible exact H) | (have H2_ := (Option.bind_some _ _).symm.trans H; rw [hy211]; with_reducible exact H2_) | (have H2_ := (Option.bind_some _ _).symm.trans H; with_reducible exact H2_) | with_reducible exact H | (rw [hy211]; exact H) | exact H
  have Ny211 := Aside0.mk hy211
  clear hy211
  have H' := Aside0.mk H
  clear H
  go_enter Try.func55, Try.ntmps55
  go_wp2_with (first | ((with_reducible refine gate_callee (f := 52) rfl ?_); refine goesL_ (some 14) rfl rfl Try.func52 (by kernel_rfl) rfl #[.string a0] rfl (by (try simp only [List.map_toArray, List.map_cons, List.map_nil]); first | done | rfl | (simp only [List.length_drop, List.length_take]; rfl)) ?_; (with_reducible refine (spec_l3Keys.calls k a0 t208 _ A3.out).mono ?_); rintro e w5 ⟨v209, rfl, ho0, hb⟩; refine ⟨_, rfl, ?_⟩; have n0_ := Aside0.mk (Kd.R_lower ho0 (below_size (by repeat (first | (with_reducible first | exact HB.out | apply below_alloc | apply pw_below_drewN | apply below_drew1) | exact HB.out)))); have n1_ := Aside0.mk (below_step (by repeat (first | (with_reducible first | exact HB.out | apply below_alloc | apply pw_below_drewN | apply below_drew1) | exact HB.out)) hb); clear HB; have HO210 := n0_; have HB := n1_; clear n0_ n1_; (try clear hb); (try clear hb2); (try clear hk); (try clear hi); (try clear ho0)) | ((with_reducible refine gate_dst (N := 16) rfl ?_); refine Kd.R_bytes _ 5 rfl (N := 16) rfl 9 43 _ rfl a1 rfl Try.underlying9 Try.underlying43 Try.underlying5 (ok := fun _ => True) trivial (of_decide_eq_true (by first | (with_reducible assumption) | assumption)) (Below.refl _ _) (Nat.le_refl _) ?_; intro v212 w6 ho7 hb hg_ hnew_; clear hg_ hnew_; (first | rw [← Ny211.out] at ho7 | (simp only [Int.reduceToNat] at ho7; rw [← Ny211.out] at ho7)); have n0_ := Aside0.mk (Kd.R_elder' (by (with_reducible repeat (first | apply Kd.R_alloc | apply Kd.R_drewN | apply Kd.R_drew)); exact HO210.out) (Kd.R_base ho7) hb); have n1_ := Aside0.mk (Kd.R_lower (Kd.R_new' ho7 (Kd.R_lt (by (with_reducible repeat (first | apply Kd.R_alloc | apply Kd.R_drewN | apply Kd.R_drew)); exact HO210.out))) (below_size (by repeat (first | (with_reducible first | exact HB.out | apply below_alloc | apply pw_below_drewN | apply below_drew1) | exact HB.out)))); have n2_ := Aside0.mk (below_step (by repeat (first | (with_reducible first | exact HB.out | apply below_alloc | apply pw_below_drewN | apply below_drew1) | exact HB.out)) hb); clear HO210; clear HB; have HO210 := n0_; have HO213 := n1_; have HB := n2_; clear n0_ n1_ n2_; clear hb ho7))
  go_loopg [6, 7] k (fun kq v6 v7 w' => ∃ (x5_1 : List Int) (x6_1 : List Int) (x7_1 : Int), v7 = .int .i64 x7_1 ∧ Aside0 (spec_l3Back.l0 kq x5_1 x6_1 x7_1 = some r) ∧ Aside0 (kq ≤ k) ∧ Aside0 (Kd.R (Kd.int .u8) 5 w' w.heap.size (fun k_ => some k_ ≠ (v6 : Value).ownBlock) v209 x5_1) ∧ Aside0 (Kd.R (Kd.int .u8) 5 w' w.heap.size (fun k_ => some k_ ≠ (v209 : Value).ownBlock) v6 x6_1) ∧ Aside0 (Below w.heap.size w w'))
  case atStart => exact ⟨(t208), (y211), (10), (by first | rfl | (simp; done) | (simp [*]; done)), H', ⟨Nat.le_refl _⟩, ⟨by (with_reducible repeat (first | apply Kd.R_alloc | apply Kd.R_drewN | apply Kd.R_drew)); exact Kd.R_mono HO210.out (fun _ hk => hk.2)⟩, ⟨by (with_reducible repeat (first | apply Kd.R_alloc | apply Kd.R_drewN | apply Kd.R_drew)); exact Kd.R_mono HO213.out (fun _ hk => hk.2)⟩, ⟨by repeat (first | (with_reducible first | exact HB.out | apply below_alloc | apply pw_below_drewN | apply below_drew1) | exact HB.out)⟩⟩
  case round =>
   clear H'
   try clear p2
   try clear c4
   try clear c4b0
   try clear c4b1
   try clear c4b2
   try clear c5
   obtain ⟨x5_1, x6_1, x7_1, rfl, HA, HK1, HO_5, HO_6, HB⟩ := hrel
   cases gk with
   | zero => exact absurd HA.out (by simp [spec_l3Back.l0])
   | succ k1 =>
    have H := HA.out
    clear HA
    simp only [spec_l3Back.l0] at H
    by_cases c8 : x7_1 > 0
    ·rw [if_pos c8] at H
     have c8b0 : decide (0 < x7_1) = true := decide_eq_true c8
     clear c8
     obtain ⟨ji9, hji9⟩ : ∃ j_ : Int, (wrap64 (16 * x7_1)) = j_ := ⟨_, rfl⟩
     replace H : (if 0 ≤ (ji9) then (if (ji9) ≤ (wrap64 ((ji9) + 16)) then (if (wrap64 ((ji9) + 16)) ≤ (x5_1.length : Int) then ((spec_l3Xor.f k1 x6_1 ((x5_1.take ((wrap64 ((ji9) + 16)) : Int).toNat).drop ((ji9) : Int).toNat)).bind fun t225 => (if x7_1 < 10 then (spec_l3Back.l1 k1 x5_1 t225 x7_1 ([] : List Int) 0) else (spec_l3Back.j2 k1 x5_1 t225 x7_1))) else (none)) else (none)) else (none)) = some r := by first | (rw [hji9] at H; exact H) | (simp only [hji9] at H ⊢; exact H)
     have hji9w : (IntKind.i64.wrap (16 * x7_1)) = ji9 := (i64_w _).trans hji9
     by_cases c10 : 0 ≤ (ji9)
     ·rw [if_pos c10] at H
      have c10b0 := eq_true c10
      have c10b1 : decide (0 ≤ (ji9)) = true := decide_eq_true c10
      clear c10
      by_cases c11 : (ji9) ≤ (wrap64 ((ji9) + 16))
      ·rw [if_pos c11] at H
       have c11b0 := eq_true c11
       have c11b1 : decide ((ji9) ≤ (wrap64 ((ji9) + 16))) = true := decide_eq_true c11
       by_cases c12 : (wrap64 ((ji9) + 16)) ≤ (x5_1.length : Int)
       ·rw [if_pos c12] at H
        have c12b0 := eq_true c12
        have c12b1 : decide ((wrap64 ((ji9) + 16)) ≤ (x5_1.length : Int)) = true := decide_eq_true c12
        obtain ⟨y221, hy221⟩ : ∃ y_ : List Int, y_ = ((x5_1.take ((wrap64 ((ji9) + 16)) : Int).toNat).drop ((ji9) : Int).toNat) := ⟨_, rfl⟩
        replace H : ((spec_l3Xor.f k1 x6_1 y221).bind fun t225 => (if x7_1 < 10 then (spec_l3Back.l1 k1 x5_1 t225 x7_1 ([] : List Int) 0) else (spec_l3Back.j2 k1 x5_1 t225 x7_1))) = some r := by first | (rw [hy221]; with_reducible exact H) | (have H2_ := (Option.bind_some _ _).symm.trans H; rw [hy221]; with_reducible exact H2_) | (have H2_ := (Option.bind_some _ _).symm.trans H; with_reducible exact H2_) | with_reducible exact H | (rw [hy221]; exact H) | exact H
        have Ny221 := Aside0.mk hy221
        clear hy221
        replace H := Option.bind_eq_some_iff.mp H
        obtain ⟨t225, A130, H⟩ := H
        replace H : (if x7_1 < 10 then (spec_l3Back.l1 k1 x5_1 t225 x7_1 ([] : List Int) 0) else (spec_l3Back.j2 k1 x5_1 t225 x7_1)) = some r := H
        have A13 := Aside0.mk A130
        clear A130
        have HC14 := Aside0.mk H
        clear H
        obtain ⟨Ao16, co16, eo16⟩ := Kd.R_slice HO_5.out
        subst eo16
        have q15 : ((wrap64 ((ji9) + 16)) : Int) ≤ ((x5_1.length : Int) : Int) := of_decide_eq_true (by first | (with_reducible assumption) | assumption)
        obtain ⟨i015, hi015, _, hsz15, _⟩ := info_parts info5
        have hroom15 : x5_1.length ≤ co16 := (Kd.R_reads' HO_5.out).2.1
        have hC15 : Kd.C (Kd.int .u8) _ Ao16 x5_1.length x5_1 := (Kd.R_reads' HO_5.out).2.2
        have ql15 : ((ji9) : Int) ≤ ((wrap64 ((ji9) + 16)) : Int) := of_decide_eq_true (by first | (with_reducible assumption) | assumption)
        have q015 : (0 : Int) ≤ ((ji9) : Int) := of_decide_eq_true (by first | (with_reducible assumption) | assumption)
        have hcut15 := cut_mid (P := Try.prog) 43 5 .i64 .i64 Try.underlying43 hi015 1 hsz15 Ao16 x5_1.length co16 (ji9) (wrap64 ((ji9) + 16)) q015 ql15 q15 hroom15
        have hr15 := Kd.C_mid (lo := ((ji9) : Int).toNat) (hi := ((wrap64 ((ji9) + 16)) : Int).toNat) (c := co16) hC15 (by omega) (by omega) hroom15
        obtain ⟨A15, hA15⟩ : ∃ A1, A1 = (if co16 = ((ji9) : Int).toNat then Ao16 else (Ao16 : Option Addr).map (·.add (((ji9) : Int).toNat * 1))) := ⟨_, rfl⟩
        obtain ⟨c15, hc15⟩ : ∃ c1, c1 = co16 - ((ji9) : Int).toNat := ⟨_, rfl⟩
        have hy15 : y221.length = ((wrap64 ((ji9) + 16)) : Int).toNat - ((ji9) : Int).toNat := (by rw [Ny221.out, List.length_drop, List.length_take] <;> omega)
        rw [show ((x5_1).take ((wrap64 ((ji9) + 16)) : Int).toNat).drop ((ji9) : Int).toNat = y221 from Ny221.out.symm] at hr15
        replace hr15 : Kd.C (Kd.int .u8) _ A15 y221.length y221 := (by rw [hA15]; exact hr15)
        rw [← hy15, ← hA15, ← hc15] at hcut15
        have HR224 := Aside0.mk hr15
        have HC224 := Aside0.mk (show y221.length ≤ c15 from by rw [hy15, hc15]; exact Nat.sub_le_sub_right (Nat.le_trans (by omega) hroom15) _)
        clear hr15 hC15 hroom15 hi015 hsz15 hc15
        have KY15 := Aside0.mk hy15
        have KA15 := Aside0.mk hA15
        clear hy15 hA15
        have KL15 := Aside0.mk (show ((wrap64 ((ji9) + 16)) : Int).toNat ≤ x5_1.length from by omega)
        have KM15 := Aside0.mk (show ((ji9) : Int).toNat ≤ ((wrap64 ((ji9) + 16)) : Int).toNat from by omega)
        replace q15 := eq_true q15
        obtain ⟨Ao17, co17, eo17⟩ := Kd.R_slice HO_6.out
        subst eo17
        go_upto_if 31 with (first | ((with_reducible refine gate_callee (f := 89) rfl ?_); refine goesL_ (some 29) rfl rfl Try.func89 (by kernel_rfl) rfl #[.slice Ao17 x6_1.length co17, .slice A15 y221.length c15] rfl (by (try simp only [List.map_toArray, List.map_cons, List.map_nil]); first | done | rfl | (simp only [List.length_drop, List.length_take]; rfl)) ?_; (with_reducible refine (spec_l3Xor.calls k1 _ _ x6_1 _ _ y221 t225 _ ?side1 ?side2 ?side3 ?side4 A13.out).mono ?_); (case side1 => repeat (first | exact (Kd.R_reads' HO_6.out).2.2 | (with_reducible refine Kd.C_alloc ?_ _) | (with_reducible refine Kd.C_drewN ?_ _) | (with_reducible refine Kd.C_drew ?_))); (case side2 => exact (Kd.R_reads' HO_6.out).2.1); (case side3 => repeat (first | exact (by repeat (first | (with_reducible exact HR224.out) | (with_reducible refine Kd.C_alloc ?_ _) | (with_reducible refine Kd.C_drewN ?_ _) | (with_reducible refine Kd.C_drew ?_) | exact HR224.out)) | (with_reducible refine Kd.C_alloc ?_ _) | (with_reducible refine Kd.C_drewN ?_ _) | (with_reducible refine Kd.C_drew ?_))); (case side4 => exact HC224.out); rintro e w18 ⟨v226, rfl, ho0, hb⟩; refine ⟨_, rfl, ?_⟩; have n0_ := Aside0.mk (Kd.R_elder' (by (with_reducible repeat (first | apply Kd.R_alloc | apply Kd.R_drewN | apply Kd.R_drew)); exact HO_5.out) (Kd.R_base ho0) hb); have n1_ := Aside0.mk (Kd.R_elder' (by (with_reducible repeat (first | apply Kd.R_alloc | apply Kd.R_drewN | apply Kd.R_drew)); exact HO_6.out) (Kd.R_base ho0) hb); have n2_ := Aside0.mk (Kd.R_lower (Kd.R_new' (Kd.R_new' ho0 (Kd.R_lt (by (with_reducible repeat (first | apply Kd.R_alloc | apply Kd.R_drewN | apply Kd.R_drew)); exact HO_5.out))) (Kd.R_lt (by (with_reducible repeat (first | apply Kd.R_alloc | apply Kd.R_drewN | apply Kd.R_drew)); exact HO_6.out))) (below_size (by repeat (first | (with_reducible first | exact HB.out | apply below_alloc | apply pw_below_drewN | apply below_drew1) | exact HB.out)))); have n3_ := Aside0.mk (Kd.C_below (by repeat (first | (with_reducible exact HR224.out) | (with_reducible refine Kd.C_alloc ?_ _) | (with_reducible refine Kd.C_drewN ?_ _) | (with_reducible refine Kd.C_drew ?_) | exact HR224.out)) hb); have n4_ := Aside0.mk (below_step (by repeat (first | (with_reducible first | exact HB.out | apply below_alloc | apply pw_below_drewN | apply below_drew1) | exact HB.out)) hb); clear HO_5; clear HO_6; clear HR224; clear HB; have HO_5 := n0_; have HO_6 := n1_; have HO227 := n2_; have HR224 := n3_; have HB := n4_; clear n0_ n1_ n2_ n3_ n4_; (try clear hb); (try clear hb2); (try clear hk); (try clear hi); (try clear ho0)))
        (try simp only [Act.put, List.setIfInBounds_toArray, List.set_cons_zero, List.set_cons_succ])
        go_cut [6] (fun v6 wc => ∃ (kq : Nat) (x6_13 : List Int), Aside0 (spec_l3Back.j2 kq x5_1 x6_13 x7_1 = some r) ∧ Aside0 (kq ≤ k1) ∧ Aside0 (Kd.R (Kd.int .u8) 5 wc w.heap.size (fun k_ => some k_ ≠ (v6 : Value).ownBlock) (.slice Ao16 x5_1.length co16) x5_1) ∧ Aside0 (Kd.R (Kd.int .u8) 5 wc w.heap.size (fun k_ => some k_ ≠ ((.slice Ao16 x5_1.length co16) : Value).ownBlock) v6 x6_13) ∧ Aside0 (Below w.heap.size w wc))
        case first =>
         have H := HC14.out
         clear HC14
         by_cases c19 : x7_1 < 10
         ·rw [if_pos c19] at H
          have c19b0 : decide (x7_1 < 10) = true := decide_eq_true c19
          clear c19
          (first | rw [c19b0] | (simp only [i64_w, i32_w]; rw [c19b0]) | skip)
          have H' := Aside0.mk H
          clear H
          go_wp2
          go_loopg [8, 9] k1 (fun kq v8 v9 w' => ∃ (x8_2 : List Int) (x9_2 : Int), v9 = .int .i64 x9_2 ∧ Aside0 (spec_l3Back.l1 kq x5_1 t225 x7_1 x8_2 x9_2 = some r) ∧ Aside0 (kq ≤ k1) ∧ Aside0 (Kd.R (Kd.int .u8) 5 w' w.heap.size (fun k_ => some k_ ≠ (v226 : Value).ownBlock ∧ some k_ ≠ (v8 : Value).ownBlock) (.slice Ao16 x5_1.length co16) x5_1) ∧ Aside0 (Kd.R (Kd.int .u8) 5 w' w.heap.size (fun k_ => some k_ ≠ ((.slice Ao16 x5_1.length co16) : Value).ownBlock ∧ some k_ ≠ (v8 : Value).ownBlock) v226 t225) ∧ Aside0 (Kd.R (Kd.int .u8) 5 w' w.heap.size (fun k_ => some k_ ≠ ((.slice Ao16 x5_1.length co16) : Value).ownBlock ∧ some k_ ≠ (v226 : Value).ownBlock) v8 x8_2) ∧ Aside0 (Below w.heap.size w w'))
          case atStart => exact ⟨(([] : List Int)), (0), (by first | rfl | (simp; done) | (simp [*]; done)), H', ⟨Nat.le_refl _⟩, ⟨by (with_reducible repeat (first | apply Kd.R_alloc | apply Kd.R_drewN | apply Kd.R_drew)); exact Kd.R_mono HO_5.out (fun _ hk => ⟨hk.2, (by simp [Value.ownBlock])⟩)⟩, ⟨by (with_reducible repeat (first | apply Kd.R_alloc | apply Kd.R_drewN | apply Kd.R_drew)); exact Kd.R_mono HO227.out (fun _ hk => ⟨hk.1.2, (by simp [Value.ownBlock])⟩)⟩, ⟨by first | exact Kd.R_nil _ _ _ _ _ | exact Kd.N_nil _ _ _ _ _ | exact Kd.V_nil _ _ _ _ _ | exact Kd.Q_nil _ _ _ _ _ | exact Kd.S_nil _ _ _ _ _⟩, ⟨by repeat (first | (with_reducible first | exact HB.out | apply below_alloc | apply pw_below_drewN | apply below_drew1) | exact HB.out)⟩⟩
          case round =>
           clear H'
           try clear c1
           try clear q1
           try clear p2
           try clear c4
           try clear c4b0
           try clear c4b1
           try clear c4b2
           try clear c5
           try clear p6
           try clear c8
           try clear c8b0
           try clear c10
           try clear c10b0
           try clear c10b1
           try clear c11
           try clear c11b0
           try clear c11b1
           try clear c12
           try clear c12b0
           try clear c12b1
           try clear c15
           try clear q15
           try clear c19
           try clear c19b0
           try clear p2
           try clear q015
           try clear q15
           obtain ⟨x8_2, x9_2, rfl, HA, HK2, HO_5, HO_6, HO_8, HB⟩ := hrel
           cases gk with
           | zero => exact absurd HA.out (by simp [spec_l3Back.l1])
           | succ k2 =>
            have H := HA.out
            clear HA
            simp only [spec_l3Back.l1] at H
            by_cases c20 : x9_2 < 4
            ·rw [if_pos c20] at H
             have c20b0 : decide (x9_2 < 4) = true := decide_eq_true c20
             clear c20
             obtain ⟨ji21, hji21⟩ : ∃ j_ : Int, (wrap64 (4 * x9_2)) = j_ := ⟨_, rfl⟩
             replace H : (if 0 ≤ (ji21) then (if (ji21) ≤ (wrap64 ((ji21) + 4)) then (if (wrap64 ((ji21) + 4)) ≤ (t225.length : Int) then ((spec_l3Mix.f k2 ((t225.take ((wrap64 ((ji21) + 4)) : Int).toNat).drop ((ji21) : Int).toNat) (([14, 11, 13, 9] : List Int))).bind fun t235 => (if x8_2.length + t235.length < 140737488355328 then (spec_l3Back.l1 k2 x5_1 t225 x7_1 (x8_2 ++ t235) (wrap64 (x9_2 + 1))) else (none))) else (none)) else (none)) else (none)) = some r := by first | (rw [hji21] at H; exact H) | (simp only [hji21] at H ⊢; exact H)
             have hji21w : (IntKind.i64.wrap (4 * x9_2)) = ji21 := (i64_w _).trans hji21
             by_cases c22 : 0 ≤ (ji21)
             ·rw [if_pos c22] at H
              have c22b0 := eq_true c22
              have c22b1 : decide (0 ≤ (ji21)) = true := decide_eq_true c22
              clear c22
              by_cases c23 : (ji21) ≤ (wrap64 ((ji21) + 4))
              ·rw [if_pos c23] at H
               have c23b0 := eq_true c23
               have c23b1 : decide ((ji21) ≤ (wrap64 ((ji21) + 4))) = true := decide_eq_true c23
               by_cases c24 : (wrap64 ((ji21) + 4)) ≤ (t225.length : Int)
               ·rw [if_pos c24] at H
                have c24b0 := eq_true c24
                have c24b1 : decide ((wrap64 ((ji21) + 4)) ≤ (t225.length : Int)) = true := decide_eq_true c24
                obtain ⟨y228, hy228⟩ : ∃ y_ : List Int, y_ = ((t225.take ((wrap64 ((ji21) + 4)) : Int).toNat).drop ((ji21) : Int).toNat) := ⟨_, rfl⟩
                replace H : ((spec_l3Mix.f k2 y228 (([14, 11, 13, 9] : List Int))).bind fun t235 => (if x8_2.length + t235.length < 140737488355328 then (spec_l3Back.l1 k2 x5_1 t225 x7_1 (x8_2 ++ t235) (wrap64 (x9_2 + 1))) else (none))) = some r := by first | (rw [hy228]; with_reducible exact H) | (have H2_ := (Option.bind_some _ _).symm.trans H; rw [hy228]; with_reducible exact H2_) | (have H2_ := (Option.bind_some _ _).symm.trans H; with_reducible exact H2_) | with_reducible exact H | (rw [hy228]; exact H) | exact H
                have Ny228 := Aside0.mk hy228
                clear hy228
                obtain ⟨y232, hy232⟩ : ∃ y_ : List Int, y_ = (([14, 11, 13, 9] : List Int)) := ⟨_, rfl⟩
                replace H : ((spec_l3Mix.f k2 y228 y232).bind fun t235 => (if x8_2.length + t235.length < 140737488355328 then (spec_l3Back.l1 k2 x5_1 t225 x7_1 (x8_2 ++ t235) (wrap64 (x9_2 + 1))) else (none))) = some r := by first | (rw [hy232]; with_reducible exact H) | (have H2_ := (Option.bind_some _ _).symm.trans H; rw [hy232]; with_reducible exact H2_) | (have H2_ := (Option.bind_some _ _).symm.trans H; with_reducible exact H2_) | with_reducible exact H | (rw [hy232]; exact H) | exact H
                have Ny232 := Aside0.mk hy232
                clear hy232
                replace H := Option.bind_eq_some_iff.mp H
                obtain ⟨t235, A250, H⟩ := H
                replace H : (if x8_2.length + t235.length < 140737488355328 then (spec_l3Back.l1 k2 x5_1 t225 x7_1 (x8_2 ++ t235) (wrap64 (x9_2 + 1))) else (none)) = some r := H
                have A25 := Aside0.mk A250
                clear A250
                by_cases c26 : x8_2.length + t235.length < 140737488355328
                ·rw [if_pos c26] at H
                 have LMc26 := Aside0.mk c26
                 clear c26
                 obtain ⟨y238, hy238⟩ : ∃ y_ : List Int, y_ = (x8_2 ++ t235) := ⟨_, rfl⟩
                 replace H : (spec_l3Back.l1 k2 x5_1 t225 x7_1 y238 (wrap64 (x9_2 + 1))) = some r := by first | (rw [hy238]; with_reducible exact H) | (have H2_ := (Option.bind_some _ _).symm.trans H; rw [hy238]; with_reducible exact H2_) | (have H2_ := (Option.bind_some _ _).symm.trans H; with_reducible exact H2_) | with_reducible exact H | (rw [hy238]; exact H) | exact H
                 have Ny238 := Aside0.mk hy238
                 clear hy238
                 have H' := Aside0.mk H
                 clear H
                 obtain ⟨Ao28, co28, eo28⟩ := Kd.R_slice HO_6.out
                 subst eo28
                 have q27 : ((wrap64 ((ji21) + 4)) : Int) ≤ ((t225.length : Int) : Int) := of_decide_eq_true (by first | (with_reducible assumption) | assumption)
                 obtain ⟨i027, hi027, _, hsz27, _⟩ := info_parts info5
                 have hroom27 : t225.length ≤ co28 := (Kd.R_reads' HO_6.out).2.1
                 have hC27 : Kd.C (Kd.int .u8) _ Ao28 t225.length t225 := (Kd.R_reads' HO_6.out).2.2
                 have ql27 : ((ji21) : Int) ≤ ((wrap64 ((ji21) + 4)) : Int) := of_decide_eq_true (by first | (with_reducible assumption) | assumption)
                 have q027 : (0 : Int) ≤ ((ji21) : Int) := of_decide_eq_true (by first | (with_reducible assumption) | assumption)
                 have hcut27 := cut_mid (P := Try.prog) 43 5 .i64 .i64 Try.underlying43 hi027 1 hsz27 Ao28 t225.length co28 (ji21) (wrap64 ((ji21) + 4)) q027 ql27 q27 hroom27
                 have hr27 := Kd.C_mid (lo := ((ji21) : Int).toNat) (hi := ((wrap64 ((ji21) + 4)) : Int).toNat) (c := co28) hC27 (by omega) (by omega) hroom27
                 obtain ⟨A27, hA27⟩ : ∃ A1, A1 = (if co28 = ((ji21) : Int).toNat then Ao28 else (Ao28 : Option Addr).map (·.add (((ji21) : Int).toNat * 1))) := ⟨_, rfl⟩
                 obtain ⟨c27, hc27⟩ : ∃ c1, c1 = co28 - ((ji21) : Int).toNat := ⟨_, rfl⟩
                 have hy27 : y228.length = ((wrap64 ((ji21) + 4)) : Int).toNat - ((ji21) : Int).toNat := (by rw [Ny228.out, List.length_drop, List.length_take] <;> omega)
                 rw [show ((t225).take ((wrap64 ((ji21) + 4)) : Int).toNat).drop ((ji21) : Int).toNat = y228 from Ny228.out.symm] at hr27
                 replace hr27 : Kd.C (Kd.int .u8) _ A27 y228.length y228 := (by rw [hA27]; exact hr27)
                 rw [← hy27, ← hA27, ← hc27] at hcut27
                 have HR231 := Aside0.mk hr27
                 have HC231 := Aside0.mk (show y228.length ≤ c27 from by rw [hy27, hc27]; exact Nat.sub_le_sub_right (Nat.le_trans (by omega) hroom27) _)
                 clear hr27 hC27 hroom27 hi027 hsz27 hc27
                 have KY27 := Aside0.mk hy27
                 have KA27 := Aside0.mk hA27
                 clear hy27 hA27
                 have KL27 := Aside0.mk (show ((wrap64 ((ji21) + 4)) : Int).toNat ≤ t225.length from by omega)
                 have KM27 := Aside0.mk (show ((ji21) : Int).toNat ≤ ((wrap64 ((ji21) + 4)) : Int).toNat from by omega)
                 replace q27 := eq_true q27
                 go_wp2_with (first | ((with_reducible refine gate_dst (N := 44) rfl ?_); refine Kd.R_lit (Kd.int .u8) _ 5 ?hg (N := 44) ?hd (xs := ([14, 11, 13, 9] : List Int)) (inner := [.int .u8 14, .int .u8 11, .int .u8 13, .int .u8 9]) (ok := fun _ => True) (okp := fun _ => True) ?hr ?hp (fun _ hk => hk) trivial (Below.refl _ _) (Nat.le_refl _) (by simp) ?_; (case hd => rfl); (case hg => rfl); (case hr => first | (go_simp; done) | (go_simp; rfl)); (case hp => exact (Reps.one (show Kd.M (Kd.int .u8) _ _ _ 14 [.int .u8 14] from rfl) (Reps.one (show Kd.M (Kd.int .u8) _ _ _ 11 [.int .u8 11] from rfl) (Reps.one (show Kd.M (Kd.int .u8) _ _ _ 13 [.int .u8 13] from rfl) (Reps.one (show Kd.M (Kd.int .u8) _ _ _ 9 [.int .u8 9] from rfl) (Reps.none _ _)))))); intro v233 w29 ho30 hb hg_ hnew_; clear hg_ hnew_; (first | rw [← Ny232.out] at ho30 | (simp only [Int.reduceToNat] at ho30; rw [← Ny232.out] at ho30)); have n0_ := Aside0.mk (Kd.R_elder' (by (with_reducible repeat (first | apply Kd.R_alloc | apply Kd.R_drewN | apply Kd.R_drew)); exact HO_5.out) (Kd.R_base ho30) hb); have n1_ := Aside0.mk (Kd.R_elder' (by (with_reducible repeat (first | apply Kd.R_alloc | apply Kd.R_drewN | apply Kd.R_drew)); exact HO_6.out) (Kd.R_base ho30) hb); have n2_ := Aside0.mk (Kd.R_elder' (by (with_reducible repeat (first | apply Kd.R_alloc | apply Kd.R_drewN | apply Kd.R_drew)); exact HO_8.out) (Kd.R_base ho30) hb); have n3_ := Aside0.mk (Kd.R_lower (Kd.R_new' (Kd.R_new' (Kd.R_new' ho30 (Kd.R_lt (by (with_reducible repeat (first | apply Kd.R_alloc | apply Kd.R_drewN | apply Kd.R_drew)); exact HO_5.out))) (Kd.R_lt (by (with_reducible repeat (first | apply Kd.R_alloc | apply Kd.R_drewN | apply Kd.R_drew)); exact HO_6.out))) (Kd.R_lt (by (with_reducible repeat (first | apply Kd.R_alloc | apply Kd.R_drewN | apply Kd.R_drew)); exact HO_8.out))) (below_size (by repeat (first | (with_reducible first | exact HB.out | apply below_alloc | apply pw_below_drewN | apply below_drew1) | exact HB.out)))); have n5_ := Aside0.mk (Kd.C_below (by repeat (first | (with_reducible exact HR231.out) | (with_reducible refine Kd.C_alloc ?_ _) | (with_reducible refine Kd.C_drewN ?_ _) | (with_reducible refine Kd.C_drew ?_) | exact HR231.out)) hb); have n6_ := Aside0.mk (below_step (by repeat (first | (with_reducible first | exact HB.out | apply below_alloc | apply pw_below_drewN | apply below_drew1) | exact HB.out)) hb); clear HO_5; clear HO_6; clear HO_8; clear HR231; clear HB; have HO_5 := n0_; have HO_6 := n1_; have HO_8 := n2_; have HO234 := n3_; have HR231 := n5_; have HB := n6_; clear n0_ n1_ n2_ n3_ n5_ n6_; clear hb ho30; obtain ⟨Ao31, co31, eo31⟩ := Kd.R_slice HO234.out; subst eo31) | ((with_reducible refine gate_callee (f := 47) rfl ?_); refine goesL_ (some 45) rfl rfl Try.func47 (by kernel_rfl) rfl #[.slice A27 y228.length c27, .slice Ao31 y232.length co31] rfl (by (try simp only [List.map_toArray, List.map_cons, List.map_nil]); first | done | rfl | (simp only [List.length_drop, List.length_take]; rfl)) ?_; (with_reducible refine (spec_l3Mix.calls k2 _ _ y228 _ _ y232 t235 _ ?side1 ?side2 ?side3 ?side4 A25.out).mono ?_); (case side1 => repeat (first | exact (by repeat (first | (with_reducible exact HR231.out) | (with_reducible refine Kd.C_alloc ?_ _) | (with_reducible refine Kd.C_drewN ?_ _) | (with_reducible refine Kd.C_drew ?_) | exact HR231.out)) | (with_reducible refine Kd.C_alloc ?_ _) | (with_reducible refine Kd.C_drewN ?_ _) | (with_reducible refine Kd.C_drew ?_))); (case side2 => exact HC231.out); (case side3 => repeat (first | exact (Kd.R_reads' HO234.out).2.2 | (with_reducible refine Kd.C_alloc ?_ _) | (with_reducible refine Kd.C_drewN ?_ _) | (with_reducible refine Kd.C_drew ?_))); (case side4 => exact (Kd.R_reads' HO234.out).2.1); rintro e w32 ⟨v236, rfl, ho0, hb⟩; refine ⟨_, rfl, ?_⟩; have n0_ := Aside0.mk (Kd.R_elder' (by (with_reducible repeat (first | apply Kd.R_alloc | apply Kd.R_drewN | apply Kd.R_drew)); exact HO_5.out) (Kd.R_base ho0) hb); have n1_ := Aside0.mk (Kd.R_elder' (by (with_reducible repeat (first | apply Kd.R_alloc | apply Kd.R_drewN | apply Kd.R_drew)); exact HO_6.out) (Kd.R_base ho0) hb); have n2_ := Aside0.mk (Kd.R_elder' (by (with_reducible repeat (first | apply Kd.R_alloc | apply Kd.R_drewN | apply Kd.R_drew)); exact HO_8.out) (Kd.R_base ho0) hb); have n3_ := Aside0.mk (Kd.R_elder' (by (with_reducible repeat (first | apply Kd.R_alloc | apply Kd.R_drewN | apply Kd.R_drew)); exact HO234.out) (Kd.R_base ho0) hb); have n4_ := Aside0.mk (Kd.R_lower (Kd.R_new' (Kd.R_new' (Kd.R_new' (Kd.R_new' ho0 (Kd.R_lt (by (with_reducible repeat (first | apply Kd.R_alloc | apply Kd.R_drewN | apply Kd.R_drew)); exact HO_5.out))) (Kd.R_lt (by (with_reducible repeat (first | apply Kd.R_alloc | apply Kd.R_drewN | apply Kd.R_drew)); exact HO_6.out))) (Kd.R_lt (by (with_reducible repeat (first | apply Kd.R_alloc | apply Kd.R_drewN | apply Kd.R_drew)); exact HO_8.out))) (Kd.R_lt (by (with_reducible repeat (first | apply Kd.R_alloc | apply Kd.R_drewN | apply Kd.R_drew)); exact HO234.out))) (below_size (by repeat (first | (with_reducible first | exact HB.out | apply below_alloc | apply pw_below_drewN | apply below_drew1) | exact HB.out)))); have n6_ := Aside0.mk (Kd.C_below (by repeat (first | (with_reducible exact HR231.out) | (with_reducible refine Kd.C_alloc ?_ _) | (with_reducible refine Kd.C_drewN ?_ _) | (with_reducible refine Kd.C_drew ?_) | exact HR231.out)) hb); have n7_ := Aside0.mk (below_step (by repeat (first | (with_reducible first | exact HB.out | apply below_alloc | apply pw_below_drewN | apply below_drew1) | exact HB.out)) hb); clear HO_5; clear HO_6; clear HO_8; clear HO234; clear HR231; clear HB; have HO_5 := n0_; have HO_6 := n1_; have HO_8 := n2_; have HO234 := n3_; have HO237 := n4_; have HR231 := n6_; have HB := n7_; clear n0_ n1_ n2_ n3_ n4_ n6_ n7_; (try clear hb); (try clear hb2); (try clear hk); (try clear hi); (try clear ho0); obtain ⟨Ao34, co34, eo34⟩ := Kd.R_slice HO237.out; subst eo34) | ((with_reducible refine gate_builtin (b := .append) (xs := #[.tmp 36, .tmp 45]) rfl ?_); at_builtin; refine Kd.R_append_rows (Kd.int .u8) (w0 := w) w.heap.size rfl (.tmp 36) (.tmp 45) 43 5 (.int .u8 0) 1 rfl Try.underlying43 info5 rfl (by decide) (by omega) u8 x8_2 t235 _ _ _ (fun k_ => some k_ ≠ (.slice Ao16 x5_1.length co16 : Value).ownBlock ∧ some k_ ≠ (.slice Ao28 t225.length co28 : Value).ownBlock ∧ some k_ ≠ (.slice Ao31 y232.length co31 : Value).ownBlock ∧ some k_ ≠ (.slice Ao34 t235.length co34 : Value).ownBlock) (fun _ => False) rfl rfl ?aO ?aR (fun _ _ h => h) (fun _ h => h.elim) ?aF ?aB ?aS ?aL ?_; (case aR => repeat (first | exact (Kd.R_reads' HO237.out).2.2 | (with_reducible refine Kd.C_alloc ?_ _) | (with_reducible refine Kd.C_drewN ?_ _) | (with_reducible refine Kd.C_drew ?_))); (case aB => exact (by repeat (first | (with_reducible first | exact HB.out | apply below_alloc | apply pw_below_drewN | apply below_drew1) | exact HB.out))); (case aF => exact (fun k_ hk => ⟨Kd.fresh' (Kd.R_lt (by (with_reducible repeat (first | apply Kd.R_alloc | apply Kd.R_drewN | apply Kd.R_drew)); exact HO_5.out)) k_ hk, Kd.fresh' (Kd.R_lt (by (with_reducible repeat (first | apply Kd.R_alloc | apply Kd.R_drewN | apply Kd.R_drew)); exact HO_6.out)) k_ hk, Kd.fresh' (Kd.R_lt (by (with_reducible repeat (first | apply Kd.R_alloc | apply Kd.R_drewN | apply Kd.R_drew)); exact HO234.out)) k_ hk, Kd.fresh' (Kd.R_lt (by (with_reducible repeat (first | apply Kd.R_alloc | apply Kd.R_drewN | apply Kd.R_drew)); exact HO237.out)) k_ hk⟩)); (case aO => exact (by (with_reducible repeat (first | apply Kd.R_alloc | apply Kd.R_drewN | apply Kd.R_drew)); exact Kd.R_mono HO_8.out (fun _ hk => ⟨hk.1.1.1, ⟨hk.1.1.2, ⟨hk.1.2, hk.2⟩⟩⟩))); (case aS => exact (below_size (by repeat (first | (with_reducible first | exact HB.out | apply below_alloc | apply pw_below_drewN | apply below_drew1) | exact HB.out)))); (case aL => have := LMc26.out; omega); intro v239 w33 ho hb hg hat; rw [← Ny238.out] at ho; have n0_ := Aside0.mk (Kd.R_after (ok := (fun k_ => some k_ ≠ (.slice Ao28 t225.length co28 : Value).ownBlock ∧ some k_ ≠ (.slice Ao31 y232.length co31 : Value).ownBlock ∧ some k_ ≠ (.slice Ao34 t235.length co34 : Value).ownBlock)) (by (with_reducible repeat (first | apply Kd.R_alloc | apply Kd.R_drewN | apply Kd.R_drew)); exact Kd.R_mono HO_5.out (fun _ hk => ⟨⟨hk.1.1.1, ⟨hk.1.2, hk.2⟩⟩, hk.1.1.2⟩)) hg hat); have n1_ := Aside0.mk (Kd.R_after (ok := (fun k_ => some k_ ≠ (.slice Ao16 x5_1.length co16 : Value).ownBlock ∧ some k_ ≠ (.slice Ao31 y232.length co31 : Value).ownBlock ∧ some k_ ≠ (.slice Ao34 t235.length co34 : Value).ownBlock)) (by (with_reducible repeat (first | apply Kd.R_alloc | apply Kd.R_drewN | apply Kd.R_drew)); exact Kd.R_mono HO_6.out (fun _ hk => ⟨⟨hk.1.1.1, ⟨hk.1.2, hk.2⟩⟩, hk.1.1.2⟩)) hg hat); have n2_ := Aside0.mk (Kd.R_after (ok := (fun k_ => some k_ ≠ (.slice Ao16 x5_1.length co16 : Value).ownBlock ∧ some k_ ≠ (.slice Ao28 t225.length co28 : Value).ownBlock ∧ some k_ ≠ (.slice Ao34 t235.length co34 : Value).ownBlock)) (by (with_reducible repeat (first | apply Kd.R_alloc | apply Kd.R_drewN | apply Kd.R_drew)); exact Kd.R_mono HO234.out (fun _ hk => ⟨⟨hk.1.1.1.2, ⟨hk.1.1.2, hk.2⟩⟩, hk.1.2⟩)) hg hat); have n3_ := Aside0.mk (Kd.R_after (ok := (fun k_ => some k_ ≠ (.slice Ao16 x5_1.length co16 : Value).ownBlock ∧ some k_ ≠ (.slice Ao28 t225.length co28 : Value).ownBlock ∧ some k_ ≠ (.slice Ao31 y232.length co31 : Value).ownBlock)) (by (with_reducible repeat (first | apply Kd.R_alloc | apply Kd.R_drewN | apply Kd.R_drew)); exact Kd.R_mono HO237.out (fun _ hk => ⟨⟨hk.1.1.1.2, ⟨hk.1.1.2, hk.2⟩⟩, hk.1.2⟩)) hg hat); have n4_ := Aside0.mk (hb); have n6_ := Aside0.mk ((show Kd.C (Kd.int .u8) w33 A27 y228.length y228 from by rw [Ny228.out, KA27.out]; exact Kd.C_mid (lo := ((ji21) : Int).toNat) (hi := ((wrap64 ((ji21) + 4)) : Int).toNat) (c := co28) ((Kd.R_reads' (Kd.R_after (ok := (fun k_ => some k_ ≠ (.slice Ao16 x5_1.length co16 : Value).ownBlock ∧ some k_ ≠ (.slice Ao31 y232.length co31 : Value).ownBlock ∧ some k_ ≠ (.slice Ao34 t235.length co34 : Value).ownBlock)) (by (with_reducible repeat (first | apply Kd.R_alloc | apply Kd.R_drewN | apply Kd.R_drew)); exact Kd.R_mono HO_6.out (fun _ hk => ⟨⟨hk.1.1.1, ⟨hk.1.2, hk.2⟩⟩, hk.1.1.2⟩)) hg hat)).2.2) KM27.out KL27.out ((Kd.R_reads' (Kd.R_after (ok := (fun k_ => some k_ ≠ (.slice Ao16 x5_1.length co16 : Value).ownBlock ∧ some k_ ≠ (.slice Ao31 y232.length co31 : Value).ownBlock ∧ some k_ ≠ (.slice Ao34 t235.length co34 : Value).ownBlock)) (by (with_reducible repeat (first | apply Kd.R_alloc | apply Kd.R_drewN | apply Kd.R_drew)); exact Kd.R_mono HO_6.out (fun _ hk => ⟨⟨hk.1.1.1, ⟨hk.1.2, hk.2⟩⟩, hk.1.1.2⟩)) hg hat)).2.1))); have n7_ := Aside0.mk (ho); clear HO_5; clear HO_6; clear HO234; clear HO237; clear HB; clear HR231; clear HO_8; have HO_5 := n0_; have HO_6 := n1_; have HO234 := n2_; have HO237 := n3_; have HB := n4_; have HR231 := n6_; have HO240 := n7_; clear n0_ n1_ n2_ n3_ n4_ n6_ n7_; clear ho hb hg hat))
                 go_roundg k2
                 case measure => have := HK1.out; have := HK2.out; omega
                 case rel => exact ⟨(y238), (wrap64 (x9_2 + 1)), (by first | rfl | (simp; done) | (simp [*]; done)), H', ⟨by have := HK1.out; have := HK2.out; omega⟩, ⟨by (with_reducible repeat (first | apply Kd.R_alloc | apply Kd.R_drewN | apply Kd.R_drew)); exact Kd.R_mono HO_5.out (fun _ hk => ⟨hk.1.1, hk.2⟩)⟩, ⟨by (with_reducible repeat (first | apply Kd.R_alloc | apply Kd.R_drewN | apply Kd.R_drew)); exact Kd.R_mono HO_6.out (fun _ hk => ⟨hk.1.1, hk.2⟩)⟩, ⟨by (with_reducible repeat (first | apply Kd.R_alloc | apply Kd.R_drewN | apply Kd.R_drew)); exact Kd.R_mono HO240.out (fun _ hk => ⟨hk.1, hk.2.1⟩)⟩, ⟨by repeat (first | (with_reducible first | exact HB.out | apply below_alloc | apply pw_below_drewN | apply below_drew1) | exact HB.out)⟩⟩
                ·rw [if_neg c26] at H
                 exact absurd H (by simp)
               ·rw [if_neg c24] at H
                exact absurd H (by simp)
              ·rw [if_neg c23] at H
               exact absurd H (by simp)
             ·rw [if_neg c22] at H
              exact absurd H (by simp)
            ·rw [if_neg c20] at H
             have c20b0 : decide (x9_2 < 4) = false := decide_eq_false c20
             clear c20
             have H' := Aside0.mk H
             clear H
             go_wp2
             go_meet
             case rel => exact ⟨_, (x8_2), H', ⟨by have := HK1.out; have := HK2.out; first | omega | exact Nat.le_refl _⟩, ⟨by (with_reducible repeat (first | apply Kd.R_alloc | apply Kd.R_drewN | apply Kd.R_drew)); exact Kd.R_mono HO_5.out (fun _ hk => hk.2)⟩, ⟨by (with_reducible repeat (first | apply Kd.R_alloc | apply Kd.R_drewN | apply Kd.R_drew)); exact Kd.R_mono HO_8.out (fun _ hk => hk.1)⟩, ⟨by repeat (first | (with_reducible first | exact HB.out | apply below_alloc | apply pw_below_drewN | apply below_drew1) | exact HB.out)⟩⟩
         ·rw [if_neg c19] at H
          have c19b0 : decide (x7_1 < 10) = false := decide_eq_false c19
          clear c19
          (first | rw [c19b0] | (simp only [i64_w, i32_w]; rw [c19b0]) | skip)
          have H' := Aside0.mk H
          clear H
          go_wp2
          go_meet
          case rel => exact ⟨_, (t225), H', ⟨by have := HK1.out; first | omega | exact Nat.le_refl _⟩, ⟨by (with_reducible repeat (first | apply Kd.R_alloc | apply Kd.R_drewN | apply Kd.R_drew)); exact Kd.R_mono HO_5.out (fun _ hk => hk.2)⟩, ⟨by (with_reducible repeat (first | apply Kd.R_alloc | apply Kd.R_drewN | apply Kd.R_drew)); exact Kd.R_mono HO227.out (fun _ hk => hk.1.2)⟩, ⟨by repeat (first | (with_reducible first | exact HB.out | apply below_alloc | apply pw_below_drewN | apply below_drew1) | exact HB.out)⟩⟩
        case rest =>
         clear HC14
         try clear c1
         try clear q1
         try clear c2
         try clear p2
         try clear q2
         try clear c4
         try clear c4b0
         try clear c4b1
         try clear c4b2
         try clear c5
         try clear p6
         try clear c8
         try clear c8b0
         try clear c10
         try clear c10b0
         try clear c10b1
         try clear c11
         try clear c11b0
         try clear c11b1
         try clear c12
         try clear c12b0
         try clear c12b1
         try clear c15
         try clear q15
         try clear c19
         try clear c19b0
         try clear c20
         try clear c20b0
         try clear c22
         try clear c22b0
         try clear c22b1
         try clear c23
         try clear c23b0
         try clear c23b1
         try clear c24
         try clear c24b0
         try clear c24b1
         try clear c26
         try clear c27
         try clear q27
         try clear p2
         try clear p6
         try clear q015
         try clear q027
         try clear q1
         try clear q15
         try clear q27
         obtain ⟨kq, x6_13, HA, HJ13, HO_5, HO_6, HB⟩ := hcut
         cases kq with
         | zero => exact absurd HA.out (by simp [spec_l3Back.j2])
         | succ kj13 =>
          have H := HA.out
          clear HA
          simp only [spec_l3Back.j2] at H
          by_cases c35 : 16 ≤ 281474976710656
          ·rw [if_pos c35] at H
           have c35b0 := eq_true c35
           have c35b1 : decide (16 ≤ 281474976710656) = true := decide_eq_true c35
           clear c35
           obtain ⟨y241, hy241⟩ : ∃ y_ : List Int, y_ = (List.replicate 16 0) := ⟨_, rfl⟩
           replace H : (spec_l3Back.l2 kj13 x5_1 x6_13 x7_1 y241 0) = some r := by first | (rw [hy241]; with_reducible exact H) | (have H2_ := (Option.bind_some _ _).symm.trans H; rw [hy241]; with_reducible exact H2_) | (have H2_ := (Option.bind_some _ _).symm.trans H; with_reducible exact H2_) | with_reducible exact H | (rw [hy241]; exact H) | exact H
           have Ny241 := Aside0.mk hy241
           clear hy241
           have H' := Aside0.mk H
           clear H
           go_wp2_with (first | ((with_reducible refine gate_dst (N := 48) rfl ?_); refine Kd.R_make (Kd.int .u8) _ 5 rfl (N := 48) rfl 43 _ _ rfl 16 rfl rfl Try.underlying43 (.int .u8 0) 1 info5 rfl (by decide) (by omega) 0 (ok := fun _ => True) (okp := fun _ => True) rfl (fun _ hk => hk) trivial (by omega) (by omega) (Below.refl _ _) (Nat.le_refl _) ?_; intro v242 w36 ho37 hb hg_ hnew_; clear hg_ hnew_; (first | rw [← Ny241.out] at ho37 | (simp only [Int.reduceToNat] at ho37; rw [← Ny241.out] at ho37)); have n0_ := Aside0.mk (Kd.R_elder' (by (with_reducible repeat (first | apply Kd.R_alloc | apply Kd.R_drewN | apply Kd.R_drew)); exact HO_5.out) (Kd.R_base ho37) hb); have n1_ := Aside0.mk (Kd.R_elder' (by (with_reducible repeat (first | apply Kd.R_alloc | apply Kd.R_drewN | apply Kd.R_drew)); exact HO_6.out) (Kd.R_base ho37) hb); have n2_ := Aside0.mk (Kd.R_lower (Kd.R_new' (Kd.R_new' ho37 (Kd.R_lt (by (with_reducible repeat (first | apply Kd.R_alloc | apply Kd.R_drewN | apply Kd.R_drew)); exact HO_5.out))) (Kd.R_lt (by (with_reducible repeat (first | apply Kd.R_alloc | apply Kd.R_drewN | apply Kd.R_drew)); exact HO_6.out))) (below_size (by repeat (first | (with_reducible first | exact HB.out | apply below_alloc | apply pw_below_drewN | apply below_drew1) | exact HB.out)))); have n4_ := Aside0.mk (below_step (by repeat (first | (with_reducible first | exact HB.out | apply below_alloc | apply pw_below_drewN | apply below_drew1) | exact HB.out)) hb); clear HO_5; clear HO_6; clear HB; have HO_5 := n0_; have HO_6 := n1_; have HO243 := n2_; have HB := n4_; clear n0_ n1_ n2_ n4_; clear hb ho37))
           go_loopg [11] kj13 (fun kq v11 w' => ∃ (x10_3 : List Int) (x11_3 : Int), v11 = .int .i64 x11_3 ∧ Aside0 (spec_l3Back.l2 kq x5_1 x6_13 x7_1 x10_3 x11_3 = some r) ∧ Aside0 (kq ≤ kj13) ∧ Aside0 (Kd.R (Kd.int .u8) 5 w' w.heap.size (fun k_ => some k_ ≠ (u6 : Value).ownBlock ∧ some k_ ≠ (v242 : Value).ownBlock) (.slice Ao16 x5_1.length co16) x5_1) ∧ Aside0 (Kd.R (Kd.int .u8) 5 w' w.heap.size (fun k_ => some k_ ≠ ((.slice Ao16 x5_1.length co16) : Value).ownBlock ∧ some k_ ≠ (v242 : Value).ownBlock) u6 x6_13) ∧ Aside0 (Kd.R (Kd.int .u8) 5 w' w.heap.size (fun k_ => some k_ ≠ ((.slice Ao16 x5_1.length co16) : Value).ownBlock ∧ some k_ ≠ (u6 : Value).ownBlock) v242 x10_3) ∧ Aside0 (Below w.heap.size w w'))
           case atStart => exact ⟨(y241), (0), (by first | rfl | (simp; done) | (simp [*]; done)), H', ⟨Nat.le_refl _⟩, ⟨by (with_reducible repeat (first | apply Kd.R_alloc | apply Kd.R_drewN | apply Kd.R_drew)); exact HO_5.out⟩, ⟨by (with_reducible repeat (first | apply Kd.R_alloc | apply Kd.R_drewN | apply Kd.R_drew)); exact HO_6.out⟩, ⟨by (with_reducible repeat (first | apply Kd.R_alloc | apply Kd.R_drewN | apply Kd.R_drew)); exact Kd.R_mono HO243.out (fun _ hk => ⟨hk.1.2, hk.2⟩)⟩, ⟨by repeat (first | (with_reducible first | exact HB.out | apply below_alloc | apply pw_below_drewN | apply below_drew1) | exact HB.out)⟩⟩
           case round =>
            clear H'
            try clear c1
            try clear q1
            try clear c2
            try clear p2
            try clear q2
            try clear c3
            try clear c4
            try clear c4b0
            try clear c4b1
            try clear c4b2
            try clear c5
            try clear p6
            try clear c8
            try clear c8b0
            try clear c10
            try clear c10b0
            try clear c10b1
            try clear c11
            try clear c11b0
            try clear c11b1
            try clear c12
            try clear c12b0
            try clear c12b1
            try clear c15
            try clear q15
            try clear c19
            try clear c19b0
            try clear c20
            try clear c20b0
            try clear c22
            try clear c22b0
            try clear c22b1
            try clear c23
            try clear c23b0
            try clear c23b1
            try clear c24
            try clear c24b0
            try clear c24b1
            try clear c26
            try clear c27
            try clear q27
            try clear c35
            try clear c35b0
            try clear c35b1
            try clear p2
            try clear p6
            try clear q015
            try clear q027
            try clear q1
            try clear q15
            try clear q2
            try clear q27
            obtain ⟨x10_3, x11_3, rfl, HA, HK3, HO_5, HO_6, HO_10, HB⟩ := hrel
            cases gk with
            | zero => exact absurd HA.out (by simp [spec_l3Back.l2])
            | succ k3 =>
             have H := HA.out
             clear HA
             simp only [spec_l3Back.l2] at H
             by_cases c38 : x11_3 < 4
             ·rw [if_pos c38] at H
              have c38b0 : decide (x11_3 < 4) = true := decide_eq_true c38
              clear c38
              have H' := Aside0.mk H
              clear H
              go_wp2
              go_loopg [12] k3 (fun kq v12 w' => ∃ (x10_4 : List Int) (x12_4 : Int), v12 = .int .i64 x12_4 ∧ Aside0 (spec_l3Back.l3 kq x5_1 x6_13 x7_1 x10_4 x11_3 x12_4 = some r) ∧ Aside0 (kq ≤ k3) ∧ Aside0 (Kd.R (Kd.int .u8) 5 w' w.heap.size (fun k_ => some k_ ≠ (u6 : Value).ownBlock ∧ some k_ ≠ (v242 : Value).ownBlock) (.slice Ao16 x5_1.length co16) x5_1) ∧ Aside0 (Kd.R (Kd.int .u8) 5 w' w.heap.size (fun k_ => some k_ ≠ ((.slice Ao16 x5_1.length co16) : Value).ownBlock ∧ some k_ ≠ (v242 : Value).ownBlock) u6 x6_13) ∧ Aside0 (Kd.R (Kd.int .u8) 5 w' w.heap.size (fun k_ => some k_ ≠ ((.slice Ao16 x5_1.length co16) : Value).ownBlock ∧ some k_ ≠ (u6 : Value).ownBlock) v242 x10_4) ∧ Aside0 (Below w.heap.size w w'))
              case atStart => exact ⟨(x10_3), (0), (by first | rfl | (simp; done) | (simp [*]; done)), H', ⟨Nat.le_refl _⟩, ⟨by (with_reducible repeat (first | apply Kd.R_alloc | apply Kd.R_drewN | apply Kd.R_drew)); exact HO_5.out⟩, ⟨by (with_reducible repeat (first | apply Kd.R_alloc | apply Kd.R_drewN | apply Kd.R_drew)); exact HO_6.out⟩, ⟨by (with_reducible repeat (first | apply Kd.R_alloc | apply Kd.R_drewN | apply Kd.R_drew)); exact HO_10.out⟩, ⟨by repeat (first | (with_reducible first | exact HB.out | apply below_alloc | apply pw_below_drewN | apply below_drew1) | exact HB.out)⟩⟩
              case round =>
               clear H'
               try clear c1
               try clear q1
               try clear c2
               try clear p2
               try clear q2
               try clear c3
               try clear c4
               try clear c4b0
               try clear c4b1
               try clear c4b2
               try clear c5
               try clear p6
               try clear c8
               try clear c8b0
               try clear c10
               try clear c10b0
               try clear c10b1
               try clear c11
               try clear c11b0
               try clear c11b1
               try clear c12
               try clear c12b0
               try clear c12b1
               try clear c15
               try clear q15
               try clear c19
               try clear c19b0
               try clear c20
               try clear c20b0
               try clear c22
               try clear c22b0
               try clear c22b1
               try clear c23
               try clear c23b0
               try clear c23b1
               try clear c24
               try clear c24b0
               try clear c24b1
               try clear c26
               try clear c27
               try clear q27
               try clear c35
               try clear c35b0
               try clear c35b1
               try clear c38
               try clear c38b0
               try clear p2
               try clear p6
               try clear q015
               try clear q027
               try clear q1
               try clear q15
               try clear q2
               try clear q27
               obtain ⟨x10_4, x12_4, rfl, HA, HK4, HO_5, HO_6, HO_10, HB⟩ := hrel
               cases gk with
               | zero => exact absurd HA.out (by simp [spec_l3Back.l3])
               | succ k4 =>
                have H := HA.out
                clear HA
                simp only [spec_l3Back.l3] at H
                by_cases c39 : x12_4 < 4
                ·rw [if_pos c39] at H
                 have c39b0 : decide (x12_4 < 4) = true := decide_eq_true c39
                 clear c39
                 obtain ⟨ji40, hji40⟩ : ∃ j_ : Int, (wrap64 ((wrap64 (4 * x11_3)) + x12_4)) = j_ := ⟨_, rfl⟩
                 replace H : (if 0 ≤ (ji40) then (if (ji40) < (x6_13.length : Int) then ((spec_l3Unsub.f k4 (rd x6_13 (ji40))).bind fun t245 => (if 0 ≤ (wrap64 ((wrap64 (4 * (Int.tmod (wrap64 (x11_3 + x12_4)) 4))) + x12_4)) then (if (wrap64 ((wrap64 (4 * (Int.tmod (wrap64 (x11_3 + x12_4)) 4))) + x12_4)) < (x10_4.length : Int) then (spec_l3Back.l3 k4 x5_1 x6_13 x7_1 (x10_4.set ((wrap64 ((wrap64 (4 * (Int.tmod (wrap64 (x11_3 + x12_4)) 4))) + x12_4)) : Int).toNat t245) x11_3 (wrap64 (x12_4 + 1))) else (none)) else (none))) else (none)) else (none)) = some r := by first | (rw [hji40] at H; exact H) | (simp only [hji40] at H ⊢; exact H)
                 have hji40w : (IntKind.i64.wrap ((wrap64 (4 * x11_3)) + x12_4)) = ji40 := (i64_w _).trans hji40
                 by_cases c41 : 0 ≤ (ji40)
                 ·rw [if_pos c41] at H
                  have c41b0 : decide (0 ≤ (ji40)) = true := decide_eq_true c41
                  clear c41
                  by_cases c42 : (ji40) < (x6_13.length : Int)
                  ·rw [if_pos c42] at H
                   have c42b0 : decide ((ji40) < (x6_13.length : Int)) = true := decide_eq_true c42
                   clear c42
                   replace H := Option.bind_eq_some_iff.mp H
                   obtain ⟨t245, A430, H⟩ := H
                   replace H : (if 0 ≤ (wrap64 ((wrap64 (4 * (Int.tmod (wrap64 (x11_3 + x12_4)) 4))) + x12_4)) then (if (wrap64 ((wrap64 (4 * (Int.tmod (wrap64 (x11_3 + x12_4)) 4))) + x12_4)) < (x10_4.length : Int) then (spec_l3Back.l3 k4 x5_1 x6_13 x7_1 (x10_4.set ((wrap64 ((wrap64 (4 * (Int.tmod (wrap64 (x11_3 + x12_4)) 4))) + x12_4)) : Int).toNat t245) x11_3 (wrap64 (x12_4 + 1))) else (none)) else (none)) = some r := H
                   have A43 := Aside0.mk A430
                   clear A430
                   obtain ⟨ji44, hji44⟩ : ∃ j_ : Int, (wrap64 ((wrap64 (4 * (Int.tmod (wrap64 (x11_3 + x12_4)) 4))) + x12_4)) = j_ := ⟨_, rfl⟩
                   replace H : (if 0 ≤ (ji44) then (if (ji44) < (x10_4.length : Int) then (spec_l3Back.l3 k4 x5_1 x6_13 x7_1 (x10_4.set ((ji44) : Int).toNat t245) x11_3 (wrap64 (x12_4 + 1))) else (none)) else (none)) = some r := by first | (rw [hji44] at H; exact H) | (simp only [hji44] at H ⊢; exact H)
                   (try rw [hji44] at A43)
                   have hji44w : (IntKind.i64.wrap ((wrap64 (4 * (Int.tmod (wrap64 (x11_3 + x12_4)) 4))) + x12_4)) = ji44 := (i64_w _).trans hji44
                   by_cases c45 : 0 ≤ (ji44)
                   ·rw [if_pos c45] at H
                    have c45b0 : decide (0 ≤ (ji44)) = true := decide_eq_true c45
                    clear c45
                    by_cases c46 : (ji44) < (x10_4.length : Int)
                    ·rw [if_pos c46] at H
                     have c46b0 : decide ((ji44) < (x10_4.length : Int)) = true := decide_eq_true c46
                     clear c46
                     obtain ⟨y246, hy246⟩ : ∃ y_ : List Int, y_ = (x10_4.set ((ji44) : Int).toNat t245) := ⟨_, rfl⟩
                     replace H : (spec_l3Back.l3 k4 x5_1 x6_13 x7_1 y246 x11_3 (wrap64 (x12_4 + 1))) = some r := by first | (rw [hy246]; with_reducible exact H) | (have H2_ := (Option.bind_some _ _).symm.trans H; rw [hy246]; with_reducible exact H2_) | (have H2_ := (Option.bind_some _ _).symm.trans H; with_reducible exact H2_) | with_reducible exact H | (rw [hy246]; exact H) | exact H
                     have Ny246 := Aside0.mk hy246
                     clear hy246
                     have H' := Aside0.mk H
                     clear H
                     obtain ⟨Ao48, co48, eo48⟩ := Kd.R_slice HO_6.out
                     subst eo48
                     have p244 : 0 ≤ ((ji40) : Int) := of_decide_eq_true (by first | (with_reducible assumption) | assumption)
                     have q244 : (ji40) < (x6_13.length : Int) := of_decide_eq_true (by first | (with_reducible assumption) | assumption)
                     obtain ⟨ad244, e244, hx244_0⟩ := Kd.at_int (Kd.R_reads' HO_6.out).2.2 (ji40) p244 q244
                     cases e244
                     replace p244 := eq_true p244
                     replace q244 := eq_true q244
                     go_wp2_with (first | ((with_reducible refine gate_callee (f := 50) rfl ?_); refine goesL_ (some 72) rfl rfl Try.func50 (by kernel_rfl) rfl #[.int .u8 (rd x6_13 (ji40))] rfl (by (try simp only [List.map_toArray, List.map_cons, List.map_nil]); first | done | (simp only [hji40]; rfl) | rfl | (simp only [List.length_drop, List.length_take]; rfl)) ?_; (with_reducible refine (spec_l3Unsub.calls k4 (rd x6_13 (ji40)) t245 _ A43.out).mono ?_); rintro e w' ⟨rfl, ⟨nd, rfl⟩⟩; refine ⟨_, rfl, ?_⟩; (try (rw [drewN_self wr]; generalize hq_ : World.drewN wr _ = wr; have n0_ : Aside0 (Kd.R (Kd.int .u8) 5 wr w.heap.size (fun k_ => some k_ ≠ (.slice Ao16 x5_1.length co16 : Value).ownBlock ∧ some k_ ≠ (.slice (some ad244) x6_13.length co48 : Value).ownBlock) v242 x10_4) := ⟨by rw [← hq_]; exact (by (with_reducible repeat (first | apply Kd.R_alloc | apply Kd.R_drewN | apply Kd.R_drew)); exact HO_10.out)⟩; have n1_ : Aside0 (Kd.R (Kd.int .u8) 5 wr w.heap.size (fun k_ => some k_ ≠ (.slice (some ad244) x6_13.length co48 : Value).ownBlock ∧ some k_ ≠ (v242 : Value).ownBlock) (.slice Ao16 x5_1.length co16) x5_1) := ⟨by rw [← hq_]; exact (by (with_reducible repeat (first | apply Kd.R_alloc | apply Kd.R_drewN | apply Kd.R_drew)); exact HO_5.out)⟩; have n2_ : Aside0 (Kd.R (Kd.int .u8) 5 wr w.heap.size (fun k_ => some k_ ≠ (.slice Ao16 x5_1.length co16 : Value).ownBlock ∧ some k_ ≠ (v242 : Value).ownBlock) (.slice (some ad244) x6_13.length co48) x6_13) := ⟨by rw [← hq_]; exact (by (with_reducible repeat (first | apply Kd.R_alloc | apply Kd.R_drewN | apply Kd.R_drew)); exact HO_6.out)⟩; have n3_ : Aside0 (Below w.heap.size w wr) := ⟨by rw [← hq_]; exact (by repeat (first | (with_reducible first | exact HB.out | apply below_alloc | apply pw_below_drewN | apply below_drew1) | exact HB.out))⟩; clear HO_10 HO_5 HO_6 HB hq_; have HO_10 := n0_; have HO_5 := n1_; have HO_6 := n2_; have HB := n3_; clear n0_ n1_ n2_ n3_)); have p47 : 0 ≤ ((ji44) : Int) := of_decide_eq_true (by first | (with_reducible assumption) | assumption); have q47 : ((ji44) : Int) < ((x10_4.length : Int) : Int) := of_decide_eq_true (by first | (with_reducible assumption) | assumption); obtain ⟨go47, co47, eo47, gb47, gl47, cl47, HG47⟩ := Kd.R_form HO_10.out (by omega); (first | cases eo47 | (injection eo47 with ea_ en_ ec_; (first | subst ea_ | (injection ea_ with ea_; subst ea_)); subst ec_; clear en_)); have GB47 := Aside0.mk gb47; have GG47 := Aside0.mk HG47; clear gb47 gl47 HG47; obtain ⟨hx47_0, hf47_0⟩ := Kd.R_celln 0 HO_10.out ((ji44) : Int) p47 q47; replace p47 := eq_true p47; replace q47 := eq_true q47; obtain ⟨hy49_, hz49_⟩ := Kd.R_celln 0 HO_10.out ((ji44) : Int) (of_decide_eq_true (by first | (with_reducible assumption) | assumption)) (of_decide_eq_true (by first | (with_reducible assumption) | assumption)); have HP49 := Kd.R_putg HO_10.out ((ji44) : Int) t245) | ((with_reducible refine gate_store (t := 5) (p := 73) rfl ?_); refine store_event (t := 5) (p := 73) (v := ?vo_w50) (w1 := (wr.setCell ⟨go47, ((ji44) : Int).toNat, none⟩ (.int .u8 t245))) ?hg ?ho ?hn ?hr ?_; (case ho => rfl); (case hg => rfl); (case hn => rfl); (case hr => first | (go_simp; done) | (go_simp; rfl)); intro w50 hw; have hg : wr.grownBy w50 (some go47) := (by rw [hw]; exact HP49.2); have hp_ : Kd.R (Kd.int .u8) 5 w50 w.heap.size (fun k_ => some k_ ≠ (.slice Ao16 x5_1.length co16 : Value).ownBlock ∧ some k_ ≠ (.slice (some ad244) x6_13.length co48 : Value).ownBlock) (.slice (some ⟨go47, 0, none⟩) x10_4.length co47) y246 := (by rw [hw, Ny246.out]; exact HP49.1); clear HP49; have n0_ := Aside0.mk (Kd.R_after (v := (.slice (some ⟨go47, 0, none⟩) x10_4.length co47)) (v1 := (.slice (some ⟨go47, 0, none⟩) x10_4.length co47)) (ok := (fun k_ => some k_ ≠ (.slice (some ad244) x6_13.length co48 : Value).ownBlock)) (by (with_reducible repeat (first | apply Kd.R_alloc | apply Kd.R_drewN | apply Kd.R_drew)); exact HO_5.out) hg (.inl rfl)); have n1_ := Aside0.mk (Kd.R_after (v := (.slice (some ⟨go47, 0, none⟩) x10_4.length co47)) (v1 := (.slice (some ⟨go47, 0, none⟩) x10_4.length co47)) (ok := (fun k_ => some k_ ≠ (.slice Ao16 x5_1.length co16 : Value).ownBlock)) (by (with_reducible repeat (first | apply Kd.R_alloc | apply Kd.R_drewN | apply Kd.R_drew)); exact HO_6.out) hg (.inl rfl)); have n2_ := Aside0.mk (hp_); have n3_ := Aside0.mk ((by rw [hw]; exact below_set (HB.out) GB47.out : Below w.heap.size w w50)); clear HO_5; clear HO_6; clear HO_10; clear HB; have HO_5 := n0_; have HO_6 := n1_; have HO_10 := n2_; have HB := n3_; clear n0_ n1_ n2_ n3_; clear hg hw hp_))
                     go_roundg k4
                     case measure => have := HK1.out; have := HJ13.out; have := HK3.out; have := HK4.out; omega
                     case rel => exact ⟨(y246), (wrap64 (x12_4 + 1)), (by first | rfl | (simp; done) | (simp [*]; done)), H', ⟨by have := HK1.out; have := HJ13.out; have := HK3.out; have := HK4.out; omega⟩, ⟨by (with_reducible repeat (first | apply Kd.R_alloc | apply Kd.R_drewN | apply Kd.R_drew)); exact HO_5.out⟩, ⟨by (with_reducible repeat (first | apply Kd.R_alloc | apply Kd.R_drewN | apply Kd.R_drew)); exact HO_6.out⟩, ⟨by (with_reducible repeat (first | apply Kd.R_alloc | apply Kd.R_drewN | apply Kd.R_drew)); exact HO_10.out⟩, ⟨by repeat (first | (with_reducible first | exact HB.out | apply below_alloc | apply pw_below_drewN | apply below_drew1) | exact HB.out)⟩⟩
                    ·rw [if_neg c46] at H
                     exact absurd H (by simp)
                   ·rw [if_neg c45] at H
                    exact absurd H (by simp)
                  ·rw [if_neg c42] at H
                   exact absurd H (by simp)
                 ·rw [if_neg c41] at H
                  exact absurd H (by simp)
                ·rw [if_neg c39] at H
                 have c39b0 : decide (x12_4 < 4) = false := decide_eq_false c39
                 clear c39
                 have H' := Aside0.mk H
                 clear H
                 go_wp2
                 go_roundg k4
                 case measure => have := HK1.out; have := HJ13.out; have := HK3.out; have := HK4.out; omega
                 case rel => exact ⟨(x10_4), (wrap64 (x11_3 + 1)), (by first | rfl | (simp; done) | (simp [*]; done)), H', ⟨by have := HK1.out; have := HJ13.out; have := HK3.out; have := HK4.out; omega⟩, ⟨by (with_reducible repeat (first | apply Kd.R_alloc | apply Kd.R_drewN | apply Kd.R_drew)); exact HO_5.out⟩, ⟨by (with_reducible repeat (first | apply Kd.R_alloc | apply Kd.R_drewN | apply Kd.R_drew)); exact HO_6.out⟩, ⟨by (with_reducible repeat (first | apply Kd.R_alloc | apply Kd.R_drewN | apply Kd.R_drew)); exact HO_10.out⟩, ⟨by repeat (first | (with_reducible first | exact HB.out | apply below_alloc | apply pw_below_drewN | apply below_drew1) | exact HB.out)⟩⟩
             ·rw [if_neg c38] at H
              have c38b0 : decide (x11_3 < 4) = false := decide_eq_false c38
              clear c38
              have H' := Aside0.mk H
              clear H
              go_wp2
              go_roundg k3
              case measure => have := HK1.out; have := HJ13.out; have := HK3.out; omega
              case rel => exact ⟨(x5_1), (x10_3), (wrap64 (x7_1 - 1)), (by first | rfl | (simp; done) | (simp [*]; done)), H', ⟨by have := HK1.out; have := HJ13.out; have := HK3.out; omega⟩, ⟨by (with_reducible repeat (first | apply Kd.R_alloc | apply Kd.R_drewN | apply Kd.R_drew)); exact Kd.R_mono HO_5.out (fun _ hk => hk.2)⟩, ⟨by (with_reducible repeat (first | apply Kd.R_alloc | apply Kd.R_drewN | apply Kd.R_drew)); exact Kd.R_mono HO_10.out (fun _ hk => hk.1)⟩, ⟨by repeat (first | (with_reducible first | exact HB.out | apply below_alloc | apply pw_below_drewN | apply below_drew1) | exact HB.out)⟩⟩
          ·rw [if_neg c35] at H
           exact absurd H (by simp)
       ·rw [if_neg c12] at H
        exact absurd H (by simp)
      ·rw [if_neg c11] at H
       exact absurd H (by simp)
     ·rw [if_neg c10] at H
      exact absurd H (by simp)
    ·rw [if_neg c8] at H
     have c8b0 : decide (0 < x7_1) = false := decide_eq_false c8
     clear c8
     by_cases c51 : 16 ≤ (x5_1.length : Int)
     ·rw [if_pos c51] at H
      have c51b0 := eq_true c51
      have c51b1 : decide (16 ≤ (x5_1.length : Int)) = true := decide_eq_true c51
      clear c51
      obtain ⟨y214, hy214⟩ : ∃ y_ : List Int, y_ = (x5_1.take 16) := ⟨_, rfl⟩
      replace H : ((spec_l3Xor.f k1 x6_1 y214).bind fun t218 => (some (strOfNums t218))) = some r := by first | (rw [hy214]; with_reducible exact H) | (have H2_ := (Option.bind_some _ _).symm.trans H; rw [hy214]; with_reducible exact H2_) | (have H2_ := (Option.bind_some _ _).symm.trans H; with_reducible exact H2_) | with_reducible exact H | (rw [hy214]; exact H) | exact H
      have Ny214 := Aside0.mk hy214
      clear hy214
      replace H := Option.bind_eq_some_iff.mp H
      obtain ⟨t218, A520, H⟩ := H
      replace H : (some (strOfNums t218)) = some r := H
      have A52 := Aside0.mk A520
      clear A520
      obtain rfl := Option.some.inj H
      obtain ⟨Ao54, co54, eo54⟩ := Kd.R_slice HO_5.out
      subst eo54
      have q53 : (16 : Int) ≤ ((x5_1.length : Int) : Int) := of_decide_eq_true (by first | (with_reducible assumption) | assumption)
      obtain ⟨i053, hi053, _, hsz53, _⟩ := info_parts info5
      have hroom53 : x5_1.length ≤ co54 := (Kd.R_reads' HO_5.out).2.1
      have hC53 : Kd.C (Kd.int .u8) _ Ao54 x5_1.length x5_1 := (Kd.R_reads' HO_5.out).2.2
      have hcut53 := cut_to (P := Try.prog) 43 5 .i64 Try.underlying43 hi053 Ao54 x5_1.length co54 16 (by omega) q53 hroom53
      have hr53 := Kd.C_take (m := 16) hC53 (by omega)
      have hy53 : y214.length = (16 : Int).toNat := (by rw [Ny214.out, List.length_take]; omega)
      rw [← Ny214.out] at hr53
      rw [← hy53] at hcut53
      have HR217 := Aside0.mk hr53
      have HC217 := Aside0.mk (show y214.length ≤ co54 from by omega)
      clear hr53 hC53 hroom53 hi053 hsz53
      have KY53 := Aside0.mk hy53
      clear hy53
      have KL53 := Aside0.mk (show 16 ≤ x5_1.length from by omega)
      replace q53 := eq_true q53
      obtain ⟨Ao55, co55, eo55⟩ := Kd.R_slice HO_6.out
      subst eo55
      go_wp2_with (first | ((with_reducible refine gate_callee (f := 89) rfl ?_); refine goesL_ (some 78) rfl rfl Try.func89 (by kernel_rfl) rfl #[.slice Ao55 x6_1.length co55, .slice Ao54 y214.length co54] rfl (by (try simp only [List.map_toArray, List.map_cons, List.map_nil]); first | done | rfl | (simp only [List.length_drop, List.length_take]; rfl)) ?_; (with_reducible refine (spec_l3Xor.calls k1 _ _ x6_1 _ _ y214 t218 _ ?side1 ?side2 ?side3 ?side4 A52.out).mono ?_); (case side1 => repeat (first | exact (Kd.R_reads' HO_6.out).2.2 | (with_reducible refine Kd.C_alloc ?_ _) | (with_reducible refine Kd.C_drewN ?_ _) | (with_reducible refine Kd.C_drew ?_))); (case side2 => exact (Kd.R_reads' HO_6.out).2.1); (case side3 => repeat (first | exact (by repeat (first | (with_reducible exact HR217.out) | (with_reducible refine Kd.C_alloc ?_ _) | (with_reducible refine Kd.C_drewN ?_ _) | (with_reducible refine Kd.C_drew ?_) | exact HR217.out)) | (with_reducible refine Kd.C_alloc ?_ _) | (with_reducible refine Kd.C_drewN ?_ _) | (with_reducible refine Kd.C_drew ?_))); (case side4 => exact HC217.out); rintro e w56 ⟨v219, rfl, ho0, hb⟩; refine ⟨_, rfl, ?_⟩; have n0_ := Aside0.mk (Kd.R_elder' (by (with_reducible repeat (first | apply Kd.R_alloc | apply Kd.R_drewN | apply Kd.R_drew)); exact HO_5.out) (Kd.R_base ho0) hb); have n1_ := Aside0.mk (Kd.R_elder' (by (with_reducible repeat (first | apply Kd.R_alloc | apply Kd.R_drewN | apply Kd.R_drew)); exact HO_6.out) (Kd.R_base ho0) hb); have n2_ := Aside0.mk (Kd.R_lower (Kd.R_new' (Kd.R_new' ho0 (Kd.R_lt (by (with_reducible repeat (first | apply Kd.R_alloc | apply Kd.R_drewN | apply Kd.R_drew)); exact HO_5.out))) (Kd.R_lt (by (with_reducible repeat (first | apply Kd.R_alloc | apply Kd.R_drewN | apply Kd.R_drew)); exact HO_6.out))) (below_size (by repeat (first | (with_reducible first | exact HB.out | apply below_alloc | apply pw_below_drewN | apply below_drew1) | exact HB.out)))); have n3_ := Aside0.mk (Kd.C_below (by repeat (first | (with_reducible exact HR217.out) | (with_reducible refine Kd.C_alloc ?_ _) | (with_reducible refine Kd.C_drewN ?_ _) | (with_reducible refine Kd.C_drew ?_) | exact HR217.out)) hb); have n4_ := Aside0.mk (below_step (by repeat (first | (with_reducible first | exact HB.out | apply below_alloc | apply pw_below_drewN | apply below_drew1) | exact HB.out)) hb); clear HO_5; clear HO_6; clear HR217; clear HB; have HO_5 := n0_; have HO_6 := n1_; have HO220 := n2_; have HR217 := n3_; have HB := n4_; clear n0_ n1_ n2_ n3_ n4_; (try clear hb); (try clear hb2); (try clear hk); (try clear hi); (try clear ho0); have hcv57 := own_string (P := Try.prog) Try.underlying43 Try.underlying5 Try.underlying9 (Kd.own_of_R HO220.out)))
      go_ret
      exact ⟨by first | rfl | (simp [errW_none, errW_some] <;> rfl) | (simp [*, errW_none, errW_some] <;> rfl), by repeat (first | (with_reducible first | exact HB.out | apply below_alloc | apply pw_below_drewN | apply below_drew1) | exact HB.out)⟩
     ·rw [if_neg c51] at H
      exact absurd H (by simp)
 ·rw [if_neg c4] at H
  exact absurd H (by simp)

end Go.Proofs.Ytimokakcdmcnnaa.PSpecA
