-- SHRUNK. LAID BY A PROGRAM OF THIS SESSION (wip/tools/myprint.py) over the kit's print.
import Derived.Test.YtimokakcdmcnnaaPSpecAx0
import Derived.Test.YtimokakcdmcnnaaPSpecAx1
namespace Go.Proofs.Ytimokakcdmcnnaa.PSpecA
open Go.RowKit Go.Proofs.YtimokakcdmcnnaaV.PrintWords Go.Proofs.YtimokakcdmcnnaaV.PrintLast Go.Proofs.YtimokakcdmcnnaaV.PrintMore
attribute [local go_sem] max2_int min2_int max_two min_two max_three min_three max_four min_four   -- for this text's walks alone
set_option linter.unusedVariables false
set_option linter.unusedSimpArgs false

/-! ### spec_l3Keys: function 52 -/
mutual
def spec_l3Keys.l0 : Nat → List Int → Int → Int → Option (List Int)
 | 0, _, _, _ => none
 | k + 1, x3, x4, x5 => if x5 < 44 then ((some (([] : List Int) : List Int)).bind fun y117 => (if 0 ≤ (wrap64 ((wrap64 (4 * x5)) - 4)) then (if (wrap64 ((wrap64 (4 * x5)) - 4)) ≤ (wrap64 (4 * x5)) then (if (wrap64 (4 * x5)) ≤ (x3.length : Int) then ((some ((x3.take ((wrap64 (4 * x5)) : Int).toNat).drop ((wrap64 ((wrap64 (4 * x5)) - 4)) : Int).toNat : List Int)).bind fun y120 => (if y117.length + y120.length < 140737488355328 then ((some (y117 ++ y120 : List Int)).bind fun y124 => (if (Int.tmod x5 4) = 0 then (if 1 < (y124.length : Int) then ((spec_l3Sub.f k (rd y124 1)).bind fun t128 => (if 2 < (y124.length : Int) then ((spec_l3Sub.f k (rd y124 2)).bind fun t130 => (if 3 < (y124.length : Int) then ((spec_l3Sub.f k (rd y124 3)).bind fun t132 => (if 0 < (y124.length : Int) then ((spec_l3Sub.f k (rd y124 0)).bind fun t134 => ((spec_l3Mul.f k x4 2).bind fun t138 => (spec_l3Keys.j1 k x3 t138 x5 (([Go.bits .xor .u8 t128 x4, t130, t132, t134] : List Int))))) else (none))) else (none))) else (none))) else (none)) else (spec_l3Keys.j1 k x3 x4 x5 y124))) else (none))) else (none)) else (none)) else (none))) else (some x3)
def spec_l3Keys.j1 : Nat → List Int → Int → Int → List Int → Option (List Int)
 | 0, _, _, _, _ => none
 | k + 1, x3, x4, x5, x6 => spec_l3Keys.l1 k x3 x4 x5 x6 (x6.length : Int) 0
def spec_l3Keys.l1 : Nat → List Int → Int → Int → List Int → Int → Int → Option (List Int)
 | 0, _, _, _, _, _, _ => none
 | k + 1, x3, x4, x5, x6, x48, x49 => if x49 < x48 then (if 0 ≤ (wrap64 ((wrap64 ((wrap64 (4 * x5)) - 16)) + x49)) then (if (wrap64 ((wrap64 ((wrap64 (4 * x5)) - 16)) + x49)) < (x3.length : Int) then (if 0 ≤ x49 then (if x49 < (x6.length : Int) then (if x3.length < 140737488355328 then (spec_l3Keys.l1 k (x3 ++ [Go.bits .xor .u8 (rd x3 (wrap64 ((wrap64 ((wrap64 (4 * x5)) - 16)) + x49))) (rd x6 x49)]) x4 x5 x6 x48 (wrap64 (x49 + 1))) else (none)) else (none)) else (none)) else (none)) else (none)) else (spec_l3Keys.l0 k x3 x4 (wrap64 (x5 + 1)))
end
def spec_l3Keys.f (k : Nat) (a0 : ByteArray) : Option (List Int) := if a0.size ≤ 9223372036854775807 then (spec_l3Keys.l0 k (bytesOf a0) 1 4) else (none)
def spec_l3Keys.T8 : Bool × List (List Nat × List Nat) := (true, [([], []), ([0], [0]), ([1], [1]), ([2], [2]), ([], []), ([3, 4], [3, 4]), ([], []), ([6], [6]), ([7], [7]), ([8, 3], [8]), ([], []), ([10], [10]), ([11], [11]), ([12, 9], [12]), ([], []), ([14], [14]), ([15], [15]), ([16, 13], [16]), ([5, 9, 13, 17], [5, 9, 13, 17]), ([18, 17, 0, 1, 2, 3, 4, 5, 6, 7, 8, 9, 10, 11, 12, 13, 14, 15, 16, 17, 18], [0, 6, 10, 14, 18])])
def spec_l3Keys.B8 : List Nat := [0, 1, 3, 7, 0, 31, 0, 64, 192, 463, 0, 1024, 3072, 8143, 0, 16384, 49152, 131023, 262143, 524287]
theorem spec_l3Keys.tab8 : rtab .any (opsOf Try.f52 8) = spec_l3Keys.T8 := by kernel_rfl
theorem spec_l3Keys.bits8 : waitsOk spec_l3Keys.T8.2 spec_l3Keys.B8 = true := by kernel_rfl
def spec_l3Keys.T13 : Bool × List (List Nat × List Nat) := (true, [([], []), ([], []), ([], []), ([2], [2]), ([3], [3]), ([], []), ([4, 5], [4, 5]), ([1, 6], [1, 6]), ([7], [7]), ([], []), ([], []), ([9, 10], [9, 10]), ([11], [11]), ([8, 12], [8, 12]), ([13], [13]), ([0, 14], [0, 14]), ([15, 15, 0, 1, 2, 3, 4, 5, 6, 7, 8, 9, 10, 11, 12, 13, 14, 15], [0, 1, 15])])
def spec_l3Keys.B13 : List Nat := [0, 0, 0, 4, 12, 0, 60, 126, 254, 0, 0, 1536, 3584, 8190, 16382, 32767, 65535]
theorem spec_l3Keys.tab13 : rtab .any (opsOf Try.f52 13) = spec_l3Keys.T13 := by kernel_rfl
theorem spec_l3Keys.bits13 : waitsOk spec_l3Keys.T13.2 spec_l3Keys.B13 = true := by kernel_rfl
set_option maxHeartbeats 8000000 in
set_option maxRecDepth 100000 in
theorem spec_l3Keys.calls (k : Nat) (a0 : ByteArray) (r : List Int) (w : World) (h : spec_l3Keys.f k a0 = some r) :
  Calls Try.prog 52 #[.string a0] w fun e w' => ∃ v0_ : Value, e = .returned (v0_) ∧ Kd.R (Kd.int .u8) 5 w' w.heap.size (fun _ => True) v0_ r ∧ Below w.heap.size w w' := by
 have HB := Aside0.mk (Below.refl w.heap.size w)
 have H : (if a0.size ≤ 9223372036854775807 then (spec_l3Keys.l0 k (bytesOf a0) 1 4) else (none)) = some r := h
 clear h
 by_cases c2 : a0.size ≤ 9223372036854775807
 ·rw [if_pos c2] at H
  have c2b0 := eq_true c2
  have c2b1 : decide (a0.size ≤ 9223372036854775807) = true := decide_eq_true c2
  try have c2b2 : (9223372036854775807 < a0.size) = False := eq_false (Nat.not_lt.2 c2)
  clear c2
  obtain ⟨y114, hy114⟩ : ∃ y_ : List Int, y_ = (bytesOf a0) := ⟨_, rfl⟩
  replace H : (spec_l3Keys.l0 k y114 1 4) = some r := by first | (rw [hy114]; with_reducible exact H) | (have H2_ := (Option.bind_some _ _).symm.trans H; rw [hy114]; with_reducible exact H2_) | (have H2_ := (Option.bind_some _ _).symm.trans H; with_reducible exact H2_) | with_reducible exact H | (rw [hy114]; exact H) | exact H
  have Ny114 := Aside0.mk hy114
  clear hy114
  have H' := Aside0.mk H
  clear H
  go_enter Try.func52, Try.ntmps52
  go_wp2_with (first | ((with_reducible refine gate_dst (N := 9) rfl ?_); refine Kd.R_bytes _ 5 rfl (N := 9) rfl 9 43 _ rfl a0 rfl Try.underlying9 Try.underlying43 Try.underlying5 (ok := fun _ => True) trivial (of_decide_eq_true (by first | (with_reducible assumption) | assumption)) (Below.refl _ _) (Nat.le_refl _) ?_; intro v115 w3 ho4 hb hg_ hnew_; clear hg_ hnew_; (first | rw [← Ny114.out] at ho4 | (simp only [Int.reduceToNat] at ho4; rw [← Ny114.out] at ho4)); have n0_ := Aside0.mk (Kd.R_lower ho4 (below_size (by repeat (first | (with_reducible first | exact HB.out | apply below_alloc | apply pw_below_drewN | apply below_drew1) | exact HB.out)))); have n1_ := Aside0.mk (below_step (by repeat (first | (with_reducible first | exact HB.out | apply below_alloc | apply pw_below_drewN | apply below_drew1) | exact HB.out)) hb); clear HB; have HO116 := n0_; have HB := n1_; clear n0_ n1_; clear hb ho4))
  go_loopg [3, 4, 5] k (fun kq v3 v4 v5 w' => ∃ (x3_1 : List Int) (x4_1 : Int) (x5_1 : Int), v4 = .int .u8 x4_1 ∧ v5 = .int .i64 x5_1 ∧ Aside0 (spec_l3Keys.l0 kq x3_1 x4_1 x5_1 = some r) ∧ Aside0 (kq ≤ k) ∧ Aside0 (Kd.R (Kd.int .u8) 5 w' w.heap.size (fun _ => True) v3 x3_1) ∧ Aside0 (Below w.heap.size w w'))
  case atStart => exact ⟨(y114), (1), (4), (by first | rfl | (simp; done) | (simp [*]; done)), (by first | rfl | (simp; done) | (simp [*]; done)), H', ⟨Nat.le_refl _⟩, ⟨by (with_reducible repeat (first | apply Kd.R_alloc | apply Kd.R_drewN | apply Kd.R_drew)); exact HO116.out⟩, ⟨by repeat (first | (with_reducible first | exact HB.out | apply below_alloc | apply pw_below_drewN | apply below_drew1) | exact HB.out)⟩⟩
  case round =>
   clear H'
   try clear c2
   try clear c2b0
   try clear c2b1
   try clear c2b2
   try clear p2
   obtain ⟨x3_1, x4_1, x5_1, rfl, rfl, HA, HK1, HO_3, HB⟩ := hrel
   cases gk with
   | zero => exact absurd HA.out (by simp [spec_l3Keys.l0])
   | succ k1 =>
    have H := HA.out
    clear HA
    simp only [spec_l3Keys.l0] at H
    by_cases c5 : x5_1 < 44
    ·rw [if_pos c5] at H
     have c5b0 : decide (x5_1 < 44) = true := decide_eq_true c5
     clear c5
     obtain ⟨y117, hy117⟩ : ∃ y_ : List Int, y_ = (([] : List Int)) := ⟨_, rfl⟩
     replace H : (if 0 ≤ (wrap64 ((wrap64 (4 * x5_1)) - 4)) then (if (wrap64 ((wrap64 (4 * x5_1)) - 4)) ≤ (wrap64 (4 * x5_1)) then (if (wrap64 (4 * x5_1)) ≤ (x3_1.length : Int) then ((some ((x3_1.take ((wrap64 (4 * x5_1)) : Int).toNat).drop ((wrap64 ((wrap64 (4 * x5_1)) - 4)) : Int).toNat : List Int)).bind fun y120 => (if y117.length + y120.length < 140737488355328 then ((some (y117 ++ y120 : List Int)).bind fun y124 => (if (Int.tmod x5_1 4) = 0 then (if 1 < (y124.length : Int) then ((spec_l3Sub.f k1 (rd y124 1)).bind fun t128 => (if 2 < (y124.length : Int) then ((spec_l3Sub.f k1 (rd y124 2)).bind fun t130 => (if 3 < (y124.length : Int) then ((spec_l3Sub.f k1 (rd y124 3)).bind fun t132 => (if 0 < (y124.length : Int) then ((spec_l3Sub.f k1 (rd y124 0)).bind fun t134 => ((spec_l3Mul.f k1 x4_1 2).bind fun t138 => (spec_l3Keys.j1 k1 x3_1 t138 x5_1 (([Go.bits .xor .u8 t128 x4_1, t130, t132, t134] : List Int))))) else (none))) else (none))) else (none))) else (none)) else (spec_l3Keys.j1 k1 x3_1 x4_1 x5_1 y124))) else (none))) else (none)) else (none)) else (none)) = some r := by first | (rw [hy117]; with_reducible exact H) | (have H2_ := (Option.bind_some _ _).symm.trans H; rw [hy117]; with_reducible exact H2_) | (have H2_ := (Option.bind_some _ _).symm.trans H; with_reducible exact H2_) | with_reducible exact H | (rw [hy117]; exact H) | exact H
     have Ny117 := Aside0.mk hy117
     clear hy117
     obtain ⟨ji6, hji6⟩ : ∃ j_ : Int, (wrap64 ((wrap64 (4 * x5_1)) - 4)) = j_ := ⟨_, rfl⟩
     replace H : (if 0 ≤ (ji6) then (if (ji6) ≤ (wrap64 (4 * x5_1)) then (if (wrap64 (4 * x5_1)) ≤ (x3_1.length : Int) then ((some ((x3_1.take ((wrap64 (4 * x5_1)) : Int).toNat).drop ((ji6) : Int).toNat : List Int)).bind fun y120 => (if y117.length + y120.length < 140737488355328 then ((some (y117 ++ y120 : List Int)).bind fun y124 => (if (Int.tmod x5_1 4) = 0 then (if 1 < (y124.length : Int) then ((spec_l3Sub.f k1 (rd y124 1)).bind fun t128 => (if 2 < (y124.length : Int) then ((spec_l3Sub.f k1 (rd y124 2)).bind fun t130 => (if 3 < (y124.length : Int) then ((spec_l3Sub.f k1 (rd y124 3)).bind fun t132 => (if 0 < (y124.length : Int) then ((spec_l3Sub.f k1 (rd y124 0)).bind fun t134 => ((spec_l3Mul.f k1 x4_1 2).bind fun t138 => (spec_l3Keys.j1 k1 x3_1 t138 x5_1 (([Go.bits .xor .u8 t128 x4_1, t130, t132, t134] : List Int))))) else (none))) else (none))) else (none))) else (none)) else (spec_l3Keys.j1 k1 x3_1 x4_1 x5_1 y124))) else (none))) else (none)) else (none)) else (none)) = some r := by first | (rw [hji6] at H; exact H) | (simp only [hji6] at H ⊢; exact H)
     have hji6w : (IntKind.i64.wrap ((wrap64 (4 * x5_1)) - 4)) = ji6 := (i64_w _).trans hji6
     by_cases c7 : 0 ≤ (ji6)
     ·rw [if_pos c7] at H
      have c7b0 := eq_true c7
      have c7b1 : decide (0 ≤ (ji6)) = true := decide_eq_true c7
      clear c7
      by_cases c8 : (ji6) ≤ (wrap64 (4 * x5_1))
      ·rw [if_pos c8] at H
       have c8b0 := eq_true c8
       have c8b1 : decide ((ji6) ≤ (wrap64 (4 * x5_1))) = true := decide_eq_true c8
       clear c8
       by_cases c9 : (wrap64 (4 * x5_1)) ≤ (x3_1.length : Int)
       ·rw [if_pos c9] at H
        have c9b0 := eq_true c9
        have c9b1 : decide ((wrap64 (4 * x5_1)) ≤ (x3_1.length : Int)) = true := decide_eq_true c9
        clear c9
        obtain ⟨y120, hy120⟩ : ∃ y_ : List Int, y_ = ((x3_1.take ((wrap64 (4 * x5_1)) : Int).toNat).drop ((ji6) : Int).toNat) := ⟨_, rfl⟩
        replace H : (if y117.length + y120.length < 140737488355328 then ((some (y117 ++ y120 : List Int)).bind fun y124 => (if (Int.tmod x5_1 4) = 0 then (if 1 < (y124.length : Int) then ((spec_l3Sub.f k1 (rd y124 1)).bind fun t128 => (if 2 < (y124.length : Int) then ((spec_l3Sub.f k1 (rd y124 2)).bind fun t130 => (if 3 < (y124.length : Int) then ((spec_l3Sub.f k1 (rd y124 3)).bind fun t132 => (if 0 < (y124.length : Int) then ((spec_l3Sub.f k1 (rd y124 0)).bind fun t134 => ((spec_l3Mul.f k1 x4_1 2).bind fun t138 => (spec_l3Keys.j1 k1 x3_1 t138 x5_1 (([Go.bits .xor .u8 t128 x4_1, t130, t132, t134] : List Int))))) else (none))) else (none))) else (none))) else (none)) else (spec_l3Keys.j1 k1 x3_1 x4_1 x5_1 y124))) else (none)) = some r := by first | (rw [hy120]; with_reducible exact H) | (have H2_ := (Option.bind_some _ _).symm.trans H; rw [hy120]; with_reducible exact H2_) | (have H2_ := (Option.bind_some _ _).symm.trans H; with_reducible exact H2_) | with_reducible exact H | (rw [hy120]; exact H) | exact H
        have Ny120 := Aside0.mk hy120
        clear hy120
        by_cases c10 : y117.length + y120.length < 140737488355328
        ·rw [if_pos c10] at H
         have LMc10 := Aside0.mk c10
         clear c10
         obtain ⟨y124, hy124⟩ : ∃ y_ : List Int, y_ = (y117 ++ y120) := ⟨_, rfl⟩
         replace H : (if (Int.tmod x5_1 4) = 0 then (if 1 < (y124.length : Int) then ((spec_l3Sub.f k1 (rd y124 1)).bind fun t128 => (if 2 < (y124.length : Int) then ((spec_l3Sub.f k1 (rd y124 2)).bind fun t130 => (if 3 < (y124.length : Int) then ((spec_l3Sub.f k1 (rd y124 3)).bind fun t132 => (if 0 < (y124.length : Int) then ((spec_l3Sub.f k1 (rd y124 0)).bind fun t134 => ((spec_l3Mul.f k1 x4_1 2).bind fun t138 => (spec_l3Keys.j1 k1 x3_1 t138 x5_1 (([Go.bits .xor .u8 t128 x4_1, t130, t132, t134] : List Int))))) else (none))) else (none))) else (none))) else (none)) else (spec_l3Keys.j1 k1 x3_1 x4_1 x5_1 y124)) = some r := by first | (rw [hy124]; with_reducible exact H) | (have H2_ := (Option.bind_some _ _).symm.trans H; rw [hy124]; with_reducible exact H2_) | (have H2_ := (Option.bind_some _ _).symm.trans H; with_reducible exact H2_) | with_reducible exact H | (rw [hy124]; exact H) | exact H
         have Ny124 := Aside0.mk hy124
         clear hy124
         have HC11 := Aside0.mk H
         clear H
         go_upto_if 25 with (first | ((with_reducible refine gate_dst (N := 14) rfl ?_); refine Kd.R_lit (Kd.int .u8) _ 5 ?hg (N := 14) ?hd (xs := ([] : List Int)) (inner := []) (ok := fun _ => True) (okp := fun _ => True) ?hr ?hp (fun _ hk => hk) trivial (Below.refl _ _) (Nat.le_refl _) (by simp) ?_; (case hd => rfl); (case hg => rfl); (case hr => first | (go_simp; done) | (go_simp; rfl)); (case hp => exact (Reps.none _ _)); intro v118 w12 ho13 hb hg_ hnew_; clear hg_ hnew_; (first | rw [← Ny117.out] at ho13 | (simp only [Int.reduceToNat] at ho13; rw [← Ny117.out] at ho13)); have n0_ := Aside0.mk (Kd.R_elder' (by (with_reducible repeat (first | apply Kd.R_alloc | apply Kd.R_drewN | apply Kd.R_drew)); exact HO_3.out) (Kd.R_base ho13) hb); have n1_ := Aside0.mk (Kd.R_lower (Kd.R_new' ho13 (Kd.R_lt (by (with_reducible repeat (first | apply Kd.R_alloc | apply Kd.R_drewN | apply Kd.R_drew)); exact HO_3.out))) (below_size (by repeat (first | (with_reducible first | exact HB.out | apply below_alloc | apply pw_below_drewN | apply below_drew1) | exact HB.out)))); have n2_ := Aside0.mk (below_step (by repeat (first | (with_reducible first | exact HB.out | apply below_alloc | apply pw_below_drewN | apply below_drew1) | exact HB.out)) hb); clear HO_3; clear HB; have HO_3 := n0_; have HO119 := n1_; have HB := n2_; clear n0_ n1_ n2_; clear hb ho13; obtain ⟨Ao15, co15, eo15⟩ := Kd.R_slice HO_3.out; subst eo15; have q14 : ((wrap64 (4 * x5_1)) : Int) ≤ ((x3_1.length : Int) : Int) := of_decide_eq_true (by first | (with_reducible assumption) | assumption); obtain ⟨i014, hi014, _, hsz14, _⟩ := info_parts info5; have hroom14 : x3_1.length ≤ co15 := (Kd.R_reads' HO_3.out).2.1; have hC14 : Kd.C (Kd.int .u8) _ Ao15 x3_1.length x3_1 := (Kd.R_reads' HO_3.out).2.2; have ql14 : ((ji6) : Int) ≤ ((wrap64 (4 * x5_1)) : Int) := of_decide_eq_true (by first | (with_reducible assumption) | assumption); have q014 : (0 : Int) ≤ ((ji6) : Int) := of_decide_eq_true (by first | (with_reducible assumption) | assumption); have hcut14 := cut_mid (P := Try.prog) 43 5 .i64 .i64 Try.underlying43 hi014 1 hsz14 Ao15 x3_1.length co15 (ji6) (wrap64 (4 * x5_1)) q014 ql14 q14 hroom14; have hr14 := Kd.C_mid (lo := ((ji6) : Int).toNat) (hi := ((wrap64 (4 * x5_1)) : Int).toNat) (c := co15) hC14 (by omega) (by omega) hroom14; obtain ⟨A14, hA14⟩ : ∃ A1, A1 = (if co15 = ((ji6) : Int).toNat then Ao15 else (Ao15 : Option Addr).map (·.add (((ji6) : Int).toNat * 1))) := ⟨_, rfl⟩; obtain ⟨c14, hc14⟩ : ∃ c1, c1 = co15 - ((ji6) : Int).toNat := ⟨_, rfl⟩; have hy14 : y120.length = ((wrap64 (4 * x5_1)) : Int).toNat - ((ji6) : Int).toNat := (by rw [Ny120.out, List.length_drop, List.length_take] <;> omega); rw [show ((x3_1).take ((wrap64 (4 * x5_1)) : Int).toNat).drop ((ji6) : Int).toNat = y120 from Ny120.out.symm] at hr14; replace hr14 : Kd.C (Kd.int .u8) _ A14 y120.length y120 := (by rw [hA14]; exact hr14); rw [← hy14, ← hA14, ← hc14] at hcut14; have HR123 := Aside0.mk hr14; have HC123 := Aside0.mk (show y120.length ≤ c14 from by rw [hy14, hc14]; exact Nat.sub_le_sub_right (Nat.le_trans (by omega) hroom14) _); clear hr14 hC14 hroom14 hi014 hsz14 hc14; have KY14 := Aside0.mk hy14; have KA14 := Aside0.mk hA14; clear hy14 hA14; have KL14 := Aside0.mk (show ((wrap64 (4 * x5_1)) : Int).toNat ≤ x3_1.length from by omega); have KM14 := Aside0.mk (show ((ji6) : Int).toNat ≤ ((wrap64 (4 * x5_1)) : Int).toNat from by omega); replace q14 := eq_true q14) | ((with_reducible refine gate_builtin (b := .append) (xs := #[.tmp 14, .tmp 21]) rfl ?_); at_builtin; refine Kd.R_append_rows (Kd.int .u8) (w0 := w) w.heap.size rfl (.tmp 14) (.tmp 21) 43 5 (.int .u8 0) 1 rfl Try.underlying43 info5 rfl (by decide) (by omega) v118 y117 y120 _ _ _ (fun k_ => some k_ ≠ (.slice Ao15 x3_1.length co15 : Value).ownBlock) (fun _ => False) rfl rfl ?aO ?aR (fun _ _ h => h) (fun _ h => h.elim) ?aF ?aB ?aS ?aL ?_; (case aR => repeat (first | exact (by repeat (first | (with_reducible exact HR123.out) | (with_reducible refine Kd.C_alloc ?_ _) | (with_reducible refine Kd.C_drewN ?_ _) | (with_reducible refine Kd.C_drew ?_) | exact HR123.out)) | (with_reducible refine Kd.C_alloc ?_ _) | (with_reducible refine Kd.C_drewN ?_ _) | (with_reducible refine Kd.C_drew ?_))); (case aB => exact (by repeat (first | (with_reducible first | exact HB.out | apply below_alloc | apply pw_below_drewN | apply below_drew1) | exact HB.out))); (case aF => exact (fun k_ hk => Kd.fresh' (Kd.R_lt (by (with_reducible repeat (first | apply Kd.R_alloc | apply Kd.R_drewN | apply Kd.R_drew)); exact HO_3.out)) k_ hk)); (case aO => exact (by (with_reducible repeat (first | apply Kd.R_alloc | apply Kd.R_drewN | apply Kd.R_drew)); exact Kd.R_mono HO119.out (fun _ hk => hk.2))); (case aS => exact (below_size (by repeat (first | (with_reducible first | exact HB.out | apply below_alloc | apply pw_below_drewN | apply below_drew1) | exact HB.out)))); (case aL => have := LMc10.out; omega); intro v125 w16 ho hb hg hat; rw [← Ny124.out] at ho; have n0_ := Aside0.mk (Kd.R_after (ok := (fun _ => True)) (by (with_reducible repeat (first | apply Kd.R_alloc | apply Kd.R_drewN | apply Kd.R_drew)); exact HO_3.out) hg hat); have n1_ := Aside0.mk (hb); have n2_ := Aside0.mk ((show Kd.C (Kd.int .u8) w16 A14 y120.length y120 from by rw [Ny120.out, KA14.out]; exact Kd.C_mid (lo := ((ji6) : Int).toNat) (hi := ((wrap64 (4 * x5_1)) : Int).toNat) (c := co15) ((Kd.R_reads' (Kd.R_after (ok := (fun _ => True)) (by (with_reducible repeat (first | apply Kd.R_alloc | apply Kd.R_drewN | apply Kd.R_drew)); exact HO_3.out) hg hat)).2.2) KM14.out KL14.out ((Kd.R_reads' (Kd.R_after (ok := (fun _ => True)) (by (with_reducible repeat (first | apply Kd.R_alloc | apply Kd.R_drewN | apply Kd.R_drew)); exact HO_3.out) hg hat)).2.1))); have n3_ := Aside0.mk (ho); clear HO_3; clear HB; clear HR123; clear HO119; have HO_3 := n0_; have HB := n1_; have HR123 := n2_; have HO126 := n3_; clear n0_ n1_ n2_ n3_; clear ho hb hg hat))
         (try simp only [Act.put, List.setIfInBounds_toArray, List.set_cons_zero, List.set_cons_succ])
         go_cut [4, 6] (fun v4 v6 wc => ∃ (kq : Nat) (x4_10 : Int) (x6_10 : List Int), v4 = .int .u8 x4_10 ∧ Aside0 (spec_l3Keys.j1 kq x3_1 x4_10 x5_1 x6_10 = some r) ∧ Aside0 (kq ≤ k1) ∧ Aside0 (Kd.R (Kd.int .u8) 5 wc w.heap.size (fun k_ => some k_ ≠ (v6 : Value).ownBlock) (.slice Ao15 x3_1.length co15) x3_1) ∧ Aside0 (Kd.R (Kd.int .u8) 5 wc w.heap.size (fun k_ => some k_ ≠ ((.slice Ao15 x3_1.length co15) : Value).ownBlock) v6 x6_10) ∧ Aside0 (Kd.C (Kd.int .u8) wc A14 y120.length y120) ∧ Aside0 (Below w.heap.size w wc))
         case first =>
          have H := HC11.out
          clear HC11
          by_cases c17 : (Int.tmod x5_1 4) = 0
          ·rw [if_pos c17] at H
           have c17b0 : ((Int.tmod x5_1 4) == 0) = true := beq_iff_eq.mpr c17
           have c17b1 : ((Int.tmod x5_1 4) != 0) = false := bne_eq_false_iff_eq.mpr c17
           clear c17
           (first | rw [c17b0] | (simp only [i64_w, i32_w]; rw [c17b0]) | skip)
           by_cases c18 : 1 < (y124.length : Int)
           ·rw [if_pos c18] at H
            have c18b0 : decide (1 < (y124.length : Int)) = true := decide_eq_true c18
            have c18b1 : decide (1 < y124.length) = true := decide_eq_true (by omega)
            clear c18
            replace H := Option.bind_eq_some_iff.mp H
            obtain ⟨t128, A190, H⟩ := H
            replace H : (if 2 < (y124.length : Int) then ((spec_l3Sub.f k1 (rd y124 2)).bind fun t130 => (if 3 < (y124.length : Int) then ((spec_l3Sub.f k1 (rd y124 3)).bind fun t132 => (if 0 < (y124.length : Int) then ((spec_l3Sub.f k1 (rd y124 0)).bind fun t134 => ((spec_l3Mul.f k1 x4_1 2).bind fun t138 => (spec_l3Keys.j1 k1 x3_1 t138 x5_1 (([Go.bits .xor .u8 t128 x4_1, t130, t132, t134] : List Int))))) else (none))) else (none))) else (none)) = some r := H
            have A19 := Aside0.mk A190
            clear A190
            by_cases c20 : 2 < (y124.length : Int)
            ·rw [if_pos c20] at H
             have c20b0 : decide (2 < (y124.length : Int)) = true := decide_eq_true c20
             have c20b1 : decide (2 < y124.length) = true := decide_eq_true (by omega)
             clear c20
             replace H := Option.bind_eq_some_iff.mp H
             obtain ⟨t130, A210, H⟩ := H
             replace H : (if 3 < (y124.length : Int) then ((spec_l3Sub.f k1 (rd y124 3)).bind fun t132 => (if 0 < (y124.length : Int) then ((spec_l3Sub.f k1 (rd y124 0)).bind fun t134 => ((spec_l3Mul.f k1 x4_1 2).bind fun t138 => (spec_l3Keys.j1 k1 x3_1 t138 x5_1 (([Go.bits .xor .u8 t128 x4_1, t130, t132, t134] : List Int))))) else (none))) else (none)) = some r := H
             have A21 := Aside0.mk A210
             clear A210
             by_cases c22 : 3 < (y124.length : Int)
             ·rw [if_pos c22] at H
              have c22b0 : decide (3 < (y124.length : Int)) = true := decide_eq_true c22
              have c22b1 : decide (3 < y124.length) = true := decide_eq_true (by omega)
              clear c22
              replace H := Option.bind_eq_some_iff.mp H
              obtain ⟨t132, A230, H⟩ := H
              replace H : (if 0 < (y124.length : Int) then ((spec_l3Sub.f k1 (rd y124 0)).bind fun t134 => ((spec_l3Mul.f k1 x4_1 2).bind fun t138 => (spec_l3Keys.j1 k1 x3_1 t138 x5_1 (([Go.bits .xor .u8 t128 x4_1, t130, t132, t134] : List Int))))) else (none)) = some r := H
              have A23 := Aside0.mk A230
              clear A230
              by_cases c24 : 0 < (y124.length : Int)
              ·rw [if_pos c24] at H
               have c24b0 : decide (0 < (y124.length : Int)) = true := decide_eq_true c24
               have c24b1 : decide (0 < y124.length) = true := decide_eq_true (by omega)
               clear c24
               replace H := Option.bind_eq_some_iff.mp H
               obtain ⟨t134, A250, H⟩ := H
               replace H : ((spec_l3Mul.f k1 x4_1 2).bind fun t138 => (spec_l3Keys.j1 k1 x3_1 t138 x5_1 (([Go.bits .xor .u8 t128 x4_1, t130, t132, t134] : List Int)))) = some r := H
               have A25 := Aside0.mk A250
               clear A250
               obtain ⟨y135, hy135⟩ : ∃ y_ : List Int, y_ = (([Go.bits .xor .u8 t128 x4_1, t130, t132, t134] : List Int)) := ⟨_, rfl⟩
               replace H : ((spec_l3Mul.f k1 x4_1 2).bind fun t138 => (spec_l3Keys.j1 k1 x3_1 t138 x5_1 y135)) = some r := by first | (rw [hy135]; with_reducible exact H) | (have H2_ := (Option.bind_some _ _).symm.trans H; rw [hy135]; with_reducible exact H2_) | (have H2_ := (Option.bind_some _ _).symm.trans H; with_reducible exact H2_) | with_reducible exact H | (rw [hy135]; exact H) | exact H
               have Ny135 := Aside0.mk hy135
               clear hy135
               replace H := Option.bind_eq_some_iff.mp H
               obtain ⟨t138, A260, H⟩ := H
               replace H : (spec_l3Keys.j1 k1 x3_1 t138 x5_1 y135) = some r := H
               have A26 := Aside0.mk A260
               clear A260
               have H' := Aside0.mk H
               clear H
               try go_wp2
               have n0_ := Aside0.mk (Kd.R_drew HO_3.out)
               have n1_ := Aside0.mk (Kd.R_drew HO126.out)
               have n2_ := Aside0.mk (Kd.C_drew HR123.out)
               have n3_ := Aside0.mk (below_drew1 HB.out)
               clear HO_3
               clear HO126
               clear HR123
               clear HB
               have HO_3 := n0_
               have HO126 := n1_
               have HR123 := n2_
               have HB := n3_
               clear n0_ n1_ n2_ n3_
               obtain ⟨Ao28, co28, eo28⟩ := Kd.R_slice HO126.out
               (first | subst eo28 | (injection eo28 with f1_ f2_ f3_; have f4_ := f1_.symm; have f5_ := f3_.symm; clear f1_ f2_ f3_; subst f4_; subst f5_))
               have p127 : 0 ≤ (1 : Int) := (by omega)
               have q127 : 1 < (y124.length : Int) := of_decide_eq_true (by first | (with_reducible assumption) | assumption)
               obtain ⟨ad127, e127, hx127_0⟩ := Kd.at_int (Kd.R_reads' HO126.out).2.2 1 p127 q127
               cases e127
               (try simp only [show (1 : Int).toNat = 1 from rfl, Nat.reduceMul, Nat.reduceEqDiff, Go.Addr.add, ↓reduceIte] at hx127_0)
               have qi127 : (1 < y124.length) = True := eq_true (by omega)
               (try rw [show ((1 : Int)).toNat = 1 from rfl] at hx127_0)
               replace p127 := eq_true p127
               replace q127 := eq_true q127
               have p129 : 0 ≤ (2 : Int) := (by omega)
               have q129 : 2 < (y124.length : Int) := of_decide_eq_true (by first | (with_reducible assumption) | assumption)
               obtain ⟨ad129, e129, hx129_0⟩ := Kd.at_int (Kd.R_reads' HO126.out).2.2 2 p129 q129
               obtain rfl : ad127 = ad129 := (by injection e129)
               (try simp only [show (2 : Int).toNat = 2 from rfl, Nat.reduceMul, Nat.reduceEqDiff, Go.Addr.add, ↓reduceIte] at hx129_0)
               have qi129 : (2 < y124.length) = True := eq_true (by omega)
               (try rw [show ((2 : Int)).toNat = 2 from rfl] at hx129_0)
               replace p129 := eq_true p129
               replace q129 := eq_true q129
               have p131 : 0 ≤ (3 : Int) := (by omega)
               have q131 : 3 < (y124.length : Int) := of_decide_eq_true (by first | (with_reducible assumption) | assumption)
               obtain ⟨ad131, e131, hx131_0⟩ := Kd.at_int (Kd.R_reads' HO126.out).2.2 3 p131 q131
               obtain rfl : ad127 = ad131 := (by injection e131)
               (try simp only [show (3 : Int).toNat = 3 from rfl, Nat.reduceMul, Nat.reduceEqDiff, Go.Addr.add, ↓reduceIte] at hx131_0)
               have qi131 : (3 < y124.length) = True := eq_true (by omega)
               (try rw [show ((3 : Int)).toNat = 3 from rfl] at hx131_0)
               replace p131 := eq_true p131
               replace q131 := eq_true q131
               have p133 : 0 ≤ (0 : Int) := (by omega)
               have q133 : 0 < (y124.length : Int) := of_decide_eq_true (by first | (with_reducible assumption) | assumption)
               obtain ⟨ad133, e133, hx133_0⟩ := Kd.at_int (Kd.R_reads' HO126.out).2.2 0 p133 q133
               obtain rfl : ad127 = ad133 := (by injection e133)
               have qi133 : (0 < y124.length) = True := eq_true (by omega)
               (try rw [show ((0 : Int)).toNat = 0 from rfl] at hx133_0)
               (try rw [Addr.add_zero'] at hx133_0)
               replace p133 := eq_true p133
               replace q133 := eq_true q133
               refine start_ (n := 20) (S := fun w' => w'.cell? ⟨ad127.block, ad127.off + 1, none⟩ = some (.int .u8 (rd y124 1)) ∧ w'.cell? ⟨ad127.block, ad127.off + 2, none⟩ = some (.int .u8 (rd y124 2)) ∧ w'.cell? ⟨ad127.block, ad127.off + 3, none⟩ = some (.int .u8 (rd y124 3)) ∧ w'.cell? ad127 = some (.int .u8 (rd y124 0))) (ds := []) #[false, false, false, false, false, false, false, false, false, false, false, false, false, false, false, false, false, false, false, false] (by kernel_rfl) rfl rfl ⟨hx127_0, hx129_0, hx131_0, hx133_0⟩ (fun hHeld => ?_); refine with_tabW spec_l3Keys.tab8 spec_l3Keys.bits8 (fun HT_ HW_ => ?_)
               generalize w16.drew = w27 at HO_3 HO126 HR123 HB hx127_0 hx129_0 hx131_0 hx133_0 hHeld ⊢
               refine pure_ (i := 0) (N := some 26) (v := ?_) (a' := ?_) #[true, false, false, false, false, false, false, false, false, false, false, false, false, false, false, false, false, false, false, false] rfl rfl (any_of HT_.out (by kernel_rfl)) (fun _ _ _ h => h) (Or.inl ⟨by rfl, ?_⟩) ?_ ?_
               rotate_left
               ·intro w'
                go_simp
                with_reducible rfl
               rotate_left
               ·simp only [Act.put, List.setIfInBounds_toArray, List.set_cons_zero, List.set_cons_succ, i64_w, i32_w]
                rfl
               refine pure_ (i := 1) (N := some 27) (v := ?_) (a' := ?_) #[true, true, false, false, false, false, false, false, false, false, false, false, false, false, false, false, false, false, false, false] rfl rfl (any_of HT_.out (by kernel_rfl)) (fun _ _ _ h => h) (Or.inl ⟨by rfl, ?_⟩) ?_ ?_
               rotate_left
               ·intro w'
                go_simp
                with_reducible rfl
               rotate_left
               ·simp only [Act.put, List.setIfInBounds_toArray, List.set_cons_zero, List.set_cons_succ, i64_w, i32_w]
                rfl
               refine pure_ (i := 4) (N := some 30) (v := ?_) (a' := ?_) #[true, true, false, false, true, false, false, false, false, false, false, false, false, false, false, false, false, false, false, false] rfl rfl (any_of HT_.out (by kernel_rfl)) (fun _ _ _ h => h) (Or.inl ⟨by rfl, ?_⟩) ?_ ?_
               rotate_left
               ·intro w'
                go_simp
                with_reducible rfl
               rotate_left
               ·simp only [Act.put, List.setIfInBounds_toArray, List.set_cons_zero, List.set_cons_succ, i64_w, i32_w]
                rfl
               refine pure_ (i := 6) (N := some 32) (v := ?_) (a' := ?_) #[true, true, false, false, true, false, true, false, false, false, false, false, false, false, false, false, false, false, false, false] rfl rfl (any_of HT_.out (by kernel_rfl)) (fun _ _ _ h => h) (Or.inl ⟨by rfl, ?_⟩) ?_ ?_
               rotate_left
               ·intro w'
                go_simp
                with_reducible rfl
               rotate_left
               ·simp only [Act.put, List.setIfInBounds_toArray, List.set_cons_zero, List.set_cons_succ, i64_w, i32_w]
                rfl
               refine pure_ (i := 7) (N := some 33) (v := ?_) (a' := ?_) #[true, true, false, false, true, false, true, true, false, false, false, false, false, false, false, false, false, false, false, false] rfl rfl (any_of HT_.out (by kernel_rfl)) (fun _ _ _ h => h) (Or.inl ⟨by rfl, ?_⟩) ?_ ?_
               rotate_left
               ·intro w'
                go_simp
                with_reducible rfl
               rotate_left
               ·simp only [Act.put, List.setIfInBounds_toArray, List.set_cons_zero, List.set_cons_succ, i64_w, i32_w]
                rfl
               refine pure_ (i := 10) (N := some 36) (v := ?_) (a' := ?_) #[true, true, false, false, true, false, true, true, false, false, true, false, false, false, false, false, false, false, false, false] rfl rfl (any_of HT_.out (by kernel_rfl)) (fun _ _ _ h => h) (Or.inl ⟨by rfl, ?_⟩) ?_ ?_
               rotate_left
               ·intro w'
                go_simp
                with_reducible rfl
               rotate_left
               ·simp only [Act.put, List.setIfInBounds_toArray, List.set_cons_zero, List.set_cons_succ, i64_w, i32_w]
                rfl
               refine pure_ (i := 11) (N := some 37) (v := ?_) (a' := ?_) #[true, true, false, false, true, false, true, true, false, false, true, true, false, false, false, false, false, false, false, false] rfl rfl (any_of HT_.out (by kernel_rfl)) (fun _ _ _ h => h) (Or.inl ⟨by rfl, ?_⟩) ?_ ?_
               rotate_left
               ·intro w'
                go_simp
                with_reducible rfl
               rotate_left
               ·simp only [Act.put, List.setIfInBounds_toArray, List.set_cons_zero, List.set_cons_succ, i64_w, i32_w]
                rfl
               refine pure_ (i := 14) (N := some 40) (v := ?_) (a' := ?_) #[true, true, false, false, true, false, true, true, false, false, true, true, false, false, true, false, false, false, false, false] rfl rfl (any_of HT_.out (by kernel_rfl)) (fun _ _ _ h => h) (Or.inl ⟨by rfl, ?_⟩) ?_ ?_
               rotate_left
               ·intro w'
                go_simp
                with_reducible rfl
               rotate_left
               ·simp only [Act.put, List.setIfInBounds_toArray, List.set_cons_zero, List.set_cons_succ, i64_w, i32_w]
                rfl
               refine pure_ (i := 15) (N := some 41) (v := ?_) (a' := ?_) #[true, true, false, false, true, false, true, true, false, false, true, true, false, false, true, true, false, false, false, false] rfl rfl (any_of HT_.out (by kernel_rfl)) (fun _ _ _ h => h) (Or.inl ⟨by rfl, ?_⟩) ?_ ?_
               rotate_left
               ·intro w'
                go_simp
                with_reducible rfl
               rotate_left
               ·simp only [Act.put, List.setIfInBounds_toArray, List.set_cons_zero, List.set_cons_succ, i64_w, i32_w]
                rfl
               refine take_ (i := 2) (N := some 28) (v := ?_) (a' := ?_) #[true, true, true, false, true, false, true, true, false, false, true, true, false, false, true, true, false, false, false, false] rfl rfl (take_ofW HT_.out HW_.out (by kernel_rfl)) (fun _ _ _ h => h) (Or.inl ⟨by rfl, ?_⟩) hHeld ?_ ?_
               rotate_left
               ·rintro w' ⟨s0, s1, s2, s3⟩
                go_simp
                with_reducible rfl
               rotate_left
               ·simp only [Act.put, List.setIfInBounds_toArray, List.set_cons_zero, List.set_cons_succ, i64_w, i32_w]
                rfl
               refine take_ (i := 8) (N := some 34) (v := ?_) (a' := ?_) #[true, true, true, false, true, false, true, true, true, false, true, true, false, false, true, true, false, false, false, false] rfl rfl (take_ofW HT_.out HW_.out (by kernel_rfl)) (fun _ _ _ h => h) (Or.inl ⟨by rfl, ?_⟩) hHeld ?_ ?_
               rotate_left
               ·rintro w' ⟨s0, s1, s2, s3⟩
                go_simp
                with_reducible rfl
               rotate_left
               ·simp only [Act.put, List.setIfInBounds_toArray, List.set_cons_zero, List.set_cons_succ, i64_w, i32_w]
                rfl
               refine take_ (i := 12) (N := some 38) (v := ?_) (a' := ?_) #[true, true, true, false, true, false, true, true, true, false, true, true, true, false, true, true, false, false, false, false] rfl rfl (take_ofW HT_.out HW_.out (by kernel_rfl)) (fun _ _ _ h => h) (Or.inl ⟨by rfl, ?_⟩) hHeld ?_ ?_
               rotate_left
               ·rintro w' ⟨s0, s1, s2, s3⟩
                go_simp
                with_reducible rfl
               rotate_left
               ·simp only [Act.put, List.setIfInBounds_toArray, List.set_cons_zero, List.set_cons_succ, i64_w, i32_w]
                rfl
               refine take_ (i := 16) (N := some 42) (v := ?_) (a' := ?_) #[true, true, true, false, true, false, true, true, true, false, true, true, true, false, true, true, true, false, false, false] rfl rfl (take_ofW HT_.out HW_.out (by kernel_rfl)) (fun _ _ _ h => h) (Or.inl ⟨by rfl, ?_⟩) hHeld ?_ ?_
               rotate_left
               ·rintro w' ⟨s0, s1, s2, s3⟩
                go_simp
                with_reducible rfl
               rotate_left
               ·simp only [Act.put, List.setIfInBounds_toArray, List.set_cons_zero, List.set_cons_succ, i64_w, i32_w]
                rfl
               refine one_ (i := 3) (N := some 29) #[true, true, true, true, true, false, true, true, true, false, true, true, true, false, true, true, true, false, false, false] rfl rfl (one_of HT_.out (by kernel_rfl)) (by decide) (fun K hK => ?_)
               refine goes_ Try.func88 (by kernel_rfl) rfl #[.int .u8 (rd y124 1)] (by rfl) rfl rfl (by (try simp only [List.map_toArray, List.map_cons, List.map_nil]); first | done | rfl | (simp only [List.length_drop, List.length_take]; rfl)) ?_
               with_reducible refine (spec_l3Sub.calls k1 (rd y124 1) t128 _ A19.out).mono ?_
               rintro e w' ⟨rfl, ⟨nd, rfl⟩⟩
               refine ⟨_, rfl, ?_⟩
               refine hK.out _ _ ⟨hHeld.1, hHeld.2.1, hHeld.2.2.1, hHeld.2.2.2⟩ (fun hHeld => ?_)
               clear hK K
               refine norm_ (a' := ?_) ?_ ?_
               rotate_left
               ·show Act.put _ (some 29) _ = _
                simp only [Act.put, List.setIfInBounds_toArray, List.set_cons_zero, List.set_cons_succ, i64_w, i32_w]
                rfl
               refine pure_ (i := 5) (N := some 31) (v := ?_) (a' := ?_) #[true, true, true, true, true, true, true, true, true, false, true, true, true, false, true, true, true, false, false, false] rfl rfl (any_of HT_.out (by kernel_rfl)) (fun _ _ _ h => h) (Or.inl ⟨by rfl, ?_⟩) ?_ ?_
               rotate_left
               ·intro w'
                go_simp
                with_reducible rfl
               rotate_left
               ·simp only [Act.put, List.setIfInBounds_toArray, List.set_cons_zero, List.set_cons_succ, i64_w, i32_w]
                rfl
               refine one_ (i := 9) (N := some 35) #[true, true, true, true, true, true, true, true, true, true, true, true, true, false, true, true, true, false, false, false] rfl rfl (one_of HT_.out (by kernel_rfl)) (by decide) (fun K hK => ?_)
               refine goes_ Try.func88 (by kernel_rfl) rfl #[.int .u8 (rd y124 2)] (by rfl) rfl rfl (by (try simp only [List.map_toArray, List.map_cons, List.map_nil]); first | done | rfl | (simp only [List.length_drop, List.length_take]; rfl)) ?_
               with_reducible refine (spec_l3Sub.calls k1 (rd y124 2) t130 _ A21.out).mono ?_
               rintro e w' ⟨rfl, ⟨nd, rfl⟩⟩
               refine ⟨_, rfl, ?_⟩
               refine hK.out _ _ ⟨hHeld.1, hHeld.2.1, hHeld.2.2.1, hHeld.2.2.2⟩ (fun hHeld => ?_)
               clear hK K
               refine norm_ (a' := ?_) ?_ ?_
               rotate_left
               ·show Act.put _ (some 35) _ = _
                simp only [Act.put, List.setIfInBounds_toArray, List.set_cons_zero, List.set_cons_succ, i64_w, i32_w]
                rfl
               refine one_ (i := 13) (N := some 39) #[true, true, true, true, true, true, true, true, true, true, true, true, true, true, true, true, true, false, false, false] rfl rfl (one_of HT_.out (by kernel_rfl)) (by decide) (fun K hK => ?_)
               refine goes_ Try.func88 (by kernel_rfl) rfl #[.int .u8 (rd y124 3)] (by rfl) rfl rfl (by (try simp only [List.map_toArray, List.map_cons, List.map_nil]); first | done | rfl | (simp only [List.length_drop, List.length_take]; rfl)) ?_
               with_reducible refine (spec_l3Sub.calls k1 (rd y124 3) t132 _ A23.out).mono ?_
               rintro e w' ⟨rfl, ⟨nd, rfl⟩⟩
               refine ⟨_, rfl, ?_⟩
               refine hK.out _ _ ⟨hHeld.1, hHeld.2.1, hHeld.2.2.1, hHeld.2.2.2⟩ (fun hHeld => ?_)
               clear hK K
               refine norm_ (a' := ?_) ?_ ?_
               rotate_left
               ·show Act.put _ (some 39) _ = _
                simp only [Act.put, List.setIfInBounds_toArray, List.set_cons_zero, List.set_cons_succ, i64_w, i32_w]
                rfl
               refine one_ (i := 17) (N := some 43) #[true, true, true, true, true, true, true, true, true, true, true, true, true, true, true, true, true, true, false, false] rfl rfl (one_of HT_.out (by kernel_rfl)) (by decide) (fun K hK => ?_)
               refine goes_ Try.func88 (by kernel_rfl) rfl #[.int .u8 (rd y124 0)] (by rfl) rfl rfl (by (try simp only [List.map_toArray, List.map_cons, List.map_nil]); first | done | rfl | (simp only [List.length_drop, List.length_take]; rfl)) ?_
               with_reducible refine (spec_l3Sub.calls k1 (rd y124 0) t134 _ A25.out).mono ?_
               rintro e w' ⟨rfl, ⟨nd, rfl⟩⟩
               refine ⟨_, rfl, ?_⟩
               refine hK.out _ _ ⟨hHeld.1, hHeld.2.1, hHeld.2.2.1, hHeld.2.2.2⟩ (fun hHeld => ?_)
               clear hK K
               refine norm_ (a' := ?_) ?_ ?_
               rotate_left
               ·show Act.put _ (some 43) _ = _
                simp only [Act.put, List.setIfInBounds_toArray, List.set_cons_zero, List.set_cons_succ, i64_w, i32_w]
                rfl
               refine one_ (i := 18) (N := some 44) #[true, true, true, true, true, true, true, true, true, true, true, true, true, true, true, true, true, true, true, false] rfl rfl (one_of HT_.out (by kernel_rfl)) (by decide) (fun K hK => ?_)
               refine Kd.R_lit_step (Kd.int .u8) _ 5 ?hg (N := 44) ?hd (xs := ([Go.bits .xor .u8 t128 x4_1, t130, t132, t134] : List Int)) (inner := [.int .u8 (Go.bits .xor .u8 t128 x4_1), .int .u8 t130, .int .u8 t132, .int .u8 t134]) (ok := fun _ => True) (okp := fun _ => True) ?hr ?hp (fun _ hk => hk) trivial (Below.refl _ _) (Nat.le_refl _) (by simp) ?_; (case hd => rfl); (case hg => rfl); (case hr => first | (go_simp; done) | (go_simp; rfl)); (case hp => exact (Reps.one (show Kd.M (Kd.int .u8) _ _ _ (Go.bits .xor .u8 t128 x4_1) [.int .u8 (Go.bits .xor .u8 t128 x4_1)] from rfl) (Reps.one (show Kd.M (Kd.int .u8) _ _ _ t130 [.int .u8 t130] from rfl) (Reps.one (show Kd.M (Kd.int .u8) _ _ _ t132 [.int .u8 t132] from rfl) (Reps.one (show Kd.M (Kd.int .u8) _ _ _ t134 [.int .u8 t134] from rfl) (Reps.none _ _))))))
               intro v136 w29 ho30 hb hg_ hnew_
               have HS0_ := (hb.cell (World.block_lt_of_cell? _ _ (hHeld.1))).trans (hHeld.1)
               have HS1_ := (hb.cell (World.block_lt_of_cell? _ _ (hHeld.2.1))).trans (hHeld.2.1)
               have HS2_ := (hb.cell (World.block_lt_of_cell? _ _ (hHeld.2.2.1))).trans (hHeld.2.2.1)
               have HS3_ := (hb.cell (World.block_lt_of_cell? _ _ (hHeld.2.2.2))).trans (hHeld.2.2.2)
               clear hg_ hnew_
               (first | rw [← Ny135.out] at ho30 | (simp only [Int.reduceToNat] at ho30; rw [← Ny135.out] at ho30))
               have n0_ := Aside0.mk (Kd.R_elder' (by (with_reducible repeat (first | apply Kd.R_alloc | apply Kd.R_drewN | apply Kd.R_drew)); exact HO_3.out) (Kd.R_base ho30) hb)
               have n1_ := Aside0.mk (Kd.R_elder' (by (with_reducible repeat (first | apply Kd.R_alloc | apply Kd.R_drewN | apply Kd.R_drew)); exact HO126.out) (Kd.R_base ho30) hb)
               have n2_ := Aside0.mk (Kd.R_lower (Kd.R_new' (Kd.R_new' ho30 (Kd.R_lt (by (with_reducible repeat (first | apply Kd.R_alloc | apply Kd.R_drewN | apply Kd.R_drew)); exact HO_3.out))) (Kd.R_lt (by (with_reducible repeat (first | apply Kd.R_alloc | apply Kd.R_drewN | apply Kd.R_drew)); exact HO126.out))) (below_size (by repeat (first | (with_reducible first | exact HB.out | apply below_alloc | apply pw_below_drewN | apply below_drew1) | exact HB.out))))
               have n3_ := Aside0.mk (Kd.C_below (by repeat (first | (with_reducible exact HR123.out) | (with_reducible refine Kd.C_alloc ?_ _) | (with_reducible refine Kd.C_drewN ?_ _) | (with_reducible refine Kd.C_drew ?_) | exact HR123.out)) hb)
               have n4_ := Aside0.mk (below_step (by repeat (first | (with_reducible first | exact HB.out | apply below_alloc | apply pw_below_drewN | apply below_drew1) | exact HB.out)) hb)
               clear HO_3
               clear HO126
               clear HR123
               clear HB
               have HO_3 := n0_
               have HO126 := n1_
               have HO137 := n2_
               have HR123 := n3_
               have HB := n4_
               clear n0_ n1_ n2_ n3_ n4_
               clear hb ho30
               refine hK.out _ _ ⟨HS0_, HS1_, HS2_, HS3_⟩ (fun hHeld => ?_)
               clear hK K
               refine norm_ (a' := ?_) ?_ ?_
               rotate_left
               ·show Act.put _ (some 44) _ = _
                simp only [Act.put, List.setIfInBounds_toArray, List.set_cons_zero, List.set_cons_succ, i64_w, i32_w]
                rfl
               refine pure_ (i := 19) (N := some 6) (v := ?_) (a' := ?_) #[true, true, true, true, true, true, true, true, true, true, true, true, true, true, true, true, true, true, true, true] rfl rfl (any_of HT_.out (by kernel_rfl)) (fun _ _ _ h => h) (Or.inl ⟨by rfl, ?_⟩) ?_ ?_
               rotate_left
               ·intro w'
                go_simp
                with_reducible rfl
               rotate_left
               ·simp only [Act.put, List.setIfInBounds_toArray, List.set_cons_zero, List.set_cons_succ, i64_w, i32_w]
                rfl
               refine done_ (done_of HT_.out (by kernel_rfl)) ?_
               try go_wp2_with (first | ((with_reducible refine gate_callee (f := 83) rfl ?_); refine goesL_ (some 46) rfl rfl Try.func83 (by kernel_rfl) rfl #[.int .u8 x4_1, .int .u8 2] rfl (by (try simp only [List.map_toArray, List.map_cons, List.map_nil]); first | done | rfl | (simp only [List.length_drop, List.length_take]; rfl)) ?_; (with_reducible refine (spec_l3Mul.calls k1 x4_1 2 t138 _ A26.out).mono ?_); rintro e w' ⟨rfl, ⟨nd, rfl⟩⟩; refine ⟨_, rfl, ?_⟩))
               go_meet
               case rel => exact ⟨_, (t138), (y135), (by first | rfl | (simp; done) | (simp [*]; done)), H', ⟨by have := HK1.out; first | omega | exact Nat.le_refl _⟩, ⟨by (with_reducible repeat (first | apply Kd.R_alloc | apply Kd.R_drewN | apply Kd.R_drew)); exact Kd.R_mono HO_3.out (fun _ hk => hk.2)⟩, ⟨by (with_reducible repeat (first | apply Kd.R_alloc | apply Kd.R_drewN | apply Kd.R_drew)); exact Kd.R_mono HO137.out (fun _ hk => hk.1.2)⟩, ⟨by repeat (first | (with_reducible exact HR123.out) | (with_reducible refine Kd.C_alloc ?_ _) | (with_reducible refine Kd.C_drewN ?_ _) | (with_reducible refine Kd.C_drew ?_) | exact HR123.out)⟩, ⟨by repeat (first | (with_reducible first | exact HB.out | apply below_alloc | apply pw_below_drewN | apply below_drew1) | exact HB.out)⟩⟩
              ·rw [if_neg c24] at H
               exact absurd H (by simp)
             ·rw [if_neg c22] at H
              exact absurd H (by simp)
            ·rw [if_neg c20] at H
             exact absurd H (by simp)
           ·rw [if_neg c18] at H
            exact absurd H (by simp)
          ·rw [if_neg c17] at H
           have c17b0 : ((Int.tmod x5_1 4) == 0) = false := beq_eq_false_iff_ne.mpr c17
           have c17b1 : ((Int.tmod x5_1 4) != 0) = true := bne_iff_ne.mpr c17
           (first | rw [c17b0] | (simp only [i64_w, i32_w]; rw [c17b0]) | skip)
           have H' := Aside0.mk H
           clear H
           go_wp2
           go_meet
           case rel => exact ⟨_, (x4_1), (y124), (by first | rfl | (simp; done) | (simp [*]; done)), H', ⟨by have := HK1.out; first | omega | exact Nat.le_refl _⟩, ⟨by (with_reducible repeat (first | apply Kd.R_alloc | apply Kd.R_drewN | apply Kd.R_drew)); exact Kd.R_mono HO_3.out (fun _ hk => hk.2)⟩, ⟨by (with_reducible repeat (first | apply Kd.R_alloc | apply Kd.R_drewN | apply Kd.R_drew)); exact HO126.out⟩, ⟨by repeat (first | (with_reducible exact HR123.out) | (with_reducible refine Kd.C_alloc ?_ _) | (with_reducible refine Kd.C_drewN ?_ _) | (with_reducible refine Kd.C_drew ?_) | exact HR123.out)⟩, ⟨by repeat (first | (with_reducible first | exact HB.out | apply below_alloc | apply pw_below_drewN | apply below_drew1) | exact HB.out)⟩⟩
         case rest =>
          clear HC11
          try clear c1
          try clear p1
          try clear q1
          try clear hx1
          try clear qi1
          try clear c2
          try clear c2b0
          try clear c2b1
          try clear c2b2
          try clear p2
          try clear c5
          try clear c5b0
          try clear p6
          try clear c7
          try clear c7b0
          try clear c7b1
          try clear c8
          try clear c8b0
          try clear c8b1
          try clear c9
          try clear c9b0
          try clear c9b1
          try clear c10
          try clear p12
          try clear q12
          try clear hx12
          try clear qi12
          try clear p13
          try clear q13
          try clear hx13
          try clear qi13
          try clear c14
          try clear q14
          try clear c17
          try clear c17b0
          try clear c17b1
          try clear c18
          try clear c18b0
          try clear c18b1
          try clear c20
          try clear c20b0
          try clear c20b1
          try clear c22
          try clear c22b0
          try clear c22b1
          try clear c24
          try clear c24b0
          try clear c24b1
          try clear hx127_0
          try clear hx129_0
          try clear hx131_0
          try clear hx133_0
          try clear p127
          try clear p129
          try clear p131
          try clear p133
          try clear p2
          try clear q014
          try clear q127
          try clear q129
          try clear q131
          try clear q133
          try clear q14
          obtain ⟨kq, x4_10, x6_10, rfl, HA, HJ10, HO_3, HO_6, HR123, HB⟩ := hcut
          cases kq with
          | zero => exact absurd HA.out (by simp [spec_l3Keys.j1])
          | succ kj10 =>
           have H := HA.out
           clear HA
           simp only [spec_l3Keys.j1] at H
           have H' := Aside0.mk H
           clear H
           obtain ⟨Ao31, co31, eo31⟩ := Kd.R_slice HO_6.out
           subst eo31
           go_wp2
           go_loopg [3, 49] kj10 (fun kq v3 v49 w' => ∃ (x3_3 : List Int) (x49_3 : Int), v49 = .int .i64 x49_3 ∧ Aside0 (spec_l3Keys.l1 kq x3_3 x4_10 x5_1 x6_10 (x6_10.length : Int) x49_3 = some r) ∧ Aside0 (kq ≤ kj10) ∧ Aside0 (Kd.R (Kd.int .u8) 5 w' w.heap.size (fun k_ => some k_ ≠ ((.slice Ao31 x6_10.length co31) : Value).ownBlock) v3 x3_3) ∧ Aside0 (Kd.R (Kd.int .u8) 5 w' w.heap.size (fun k_ => some k_ ≠ (v3 : Value).ownBlock) (.slice Ao31 x6_10.length co31) x6_10) ∧ Aside0 (Below w.heap.size w w'))
           case atStart => exact ⟨(x3_1), (0), (by first | rfl | (simp; done) | (simp [*]; done)), H', ⟨Nat.le_refl _⟩, ⟨by (with_reducible repeat (first | apply Kd.R_alloc | apply Kd.R_drewN | apply Kd.R_drew)); exact HO_3.out⟩, ⟨by (with_reducible repeat (first | apply Kd.R_alloc | apply Kd.R_drewN | apply Kd.R_drew)); exact HO_6.out⟩, ⟨by repeat (first | (with_reducible first | exact HB.out | apply below_alloc | apply pw_below_drewN | apply below_drew1) | exact HB.out)⟩⟩
           case round =>
            clear H'
            try clear c1
            try clear p1
            try clear q1
            try clear hx1
            try clear qi1
            try clear c2
            try clear c2b0
            try clear c2b1
            try clear c2b2
            try clear p2
            try clear c5
            try clear c5b0
            try clear p6
            try clear c7
            try clear c7b0
            try clear c7b1
            try clear c8
            try clear c8b0
            try clear c8b1
            try clear c9
            try clear c9b0
            try clear c9b1
            try clear c10
            try clear p12
            try clear q12
            try clear hx12
            try clear qi12
            try clear p13
            try clear q13
            try clear hx13
            try clear qi13
            try clear c14
            try clear q14
            try clear c17
            try clear c17b0
            try clear c17b1
            try clear c18
            try clear c18b0
            try clear c18b1
            try clear c20
            try clear c20b0
            try clear c20b1
            try clear c22
            try clear c22b0
            try clear c22b1
            try clear c24
            try clear c24b0
            try clear c24b1
            try clear hx127_0
            try clear hx129_0
            try clear hx131_0
            try clear hx133_0
            try clear p1
            try clear p12
            try clear p127
            try clear p129
            try clear p13
            try clear p131
            try clear p133
            try clear p2
            try clear p6
            try clear q014
            try clear q1
            try clear q12
            try clear q127
            try clear q129
            try clear q13
            try clear q131
            try clear q133
            try clear q14
            obtain ⟨x3_3, x49_3, rfl, HA, HK3, HO_3, HO_6, HB⟩ := hrel
            cases gk with
            | zero => exact absurd HA.out (by simp [spec_l3Keys.l1])
            | succ k3 =>
             have H := HA.out
             clear HA
             simp only [spec_l3Keys.l1] at H
             by_cases c32 : x49_3 < (x6_10.length : Int)
             ·rw [if_pos c32] at H
              have c32b0 : decide (x49_3 < (x6_10.length : Int)) = true := decide_eq_true c32
              clear c32
              obtain ⟨ji33, hji33⟩ : ∃ j_ : Int, (wrap64 ((wrap64 ((wrap64 (4 * x5_1)) - 16)) + x49_3)) = j_ := ⟨_, rfl⟩
              replace H : (if 0 ≤ (ji33) then (if (ji33) < (x3_3.length : Int) then (if 0 ≤ x49_3 then (if x49_3 < (x6_10.length : Int) then (if x3_3.length < 140737488355328 then (spec_l3Keys.l1 k3 (x3_3 ++ [Go.bits .xor .u8 (rd x3_3 (ji33)) (rd x6_10 x49_3)]) x4_10 x5_1 x6_10 (x6_10.length : Int) (wrap64 (x49_3 + 1))) else (none)) else (none)) else (none)) else (none)) else (none)) = some r := by first | (rw [hji33] at H; exact H) | (simp only [hji33] at H ⊢; exact H)
              have hji33w : (IntKind.i64.wrap ((wrap64 ((wrap64 (4 * x5_1)) - 16)) + x49_3)) = ji33 := (i64_w _).trans hji33
              by_cases c34 : 0 ≤ (ji33)
              ·rw [if_pos c34] at H
               have c34b0 : decide (0 ≤ (ji33)) = true := decide_eq_true c34
               clear c34
               by_cases c35 : (ji33) < (x3_3.length : Int)
               ·rw [if_pos c35] at H
                have c35b0 : decide ((ji33) < (x3_3.length : Int)) = true := decide_eq_true c35
                clear c35
                by_cases c36 : 0 ≤ x49_3
                ·rw [if_pos c36] at H
                 have c36b0 : decide (0 ≤ x49_3) = true := decide_eq_true c36
                 clear c36
                 by_cases c37 : x49_3 < (x6_10.length : Int)
                 ·rw [if_pos c37] at H
                  have c37b0 : decide (x49_3 < (x6_10.length : Int)) = true := decide_eq_true c37
                  clear c37
                  by_cases c38 : x3_3.length < 140737488355328
                  ·rw [if_pos c38] at H
                   have LMc38 := Aside0.mk c38
                   clear c38
                   obtain ⟨y141, hy141⟩ : ∃ y_ : List Int, y_ = (x3_3 ++ [Go.bits .xor .u8 (rd x3_3 (ji33)) (rd x6_10 x49_3)]) := ⟨_, rfl⟩
                   replace H : (spec_l3Keys.l1 k3 y141 x4_10 x5_1 x6_10 (x6_10.length : Int) (wrap64 (x49_3 + 1))) = some r := by first | (rw [hy141]; with_reducible exact H) | (have H2_ := (Option.bind_some _ _).symm.trans H; rw [hy141]; with_reducible exact H2_) | (have H2_ := (Option.bind_some _ _).symm.trans H; with_reducible exact H2_) | with_reducible exact H | (rw [hy141]; exact H) | exact H
                   have Ny141 := Aside0.mk hy141
                   clear hy141
                   have H' := Aside0.mk H
                   clear H
                   try go_wp2
                   have n0_ := Aside0.mk (Kd.R_drew HO_3.out)
                   have n1_ := Aside0.mk (Kd.R_drew HO_6.out)
                   have n2_ := Aside0.mk (below_drew1 HB.out)
                   clear HO_3
                   clear HO_6
                   clear HB
                   have HO_3 := n0_
                   have HO_6 := n1_
                   have HB := n2_
                   clear n0_ n1_ n2_
                   obtain ⟨Ao40, co40, eo40⟩ := Kd.R_slice HO_3.out
                   (first | subst eo40 | (injection eo40 with f1_ f2_ f3_; have f4_ := f1_.symm; have f5_ := f3_.symm; clear f1_ f2_ f3_; subst f4_; subst f5_))
                   have p139 : 0 ≤ ((ji33) : Int) := of_decide_eq_true (by first | (with_reducible assumption) | assumption)
                   have q139 : (ji33) < (x3_3.length : Int) := of_decide_eq_true (by first | (with_reducible assumption) | assumption)
                   obtain ⟨ad139, e139, hx139_0⟩ := Kd.at_int (Kd.R_reads' HO_3.out).2.2 (ji33) p139 q139
                   cases e139
                   replace p139 := eq_true p139
                   replace q139 := eq_true q139
                   have p140 : 0 ≤ (x49_3 : Int) := of_decide_eq_true (by first | (with_reducible assumption) | assumption)
                   have q140 : x49_3 < (x6_10.length : Int) := of_decide_eq_true (by first | (with_reducible assumption) | assumption)
                   obtain ⟨ad140, e140, hx140_0⟩ := Kd.at_int (Kd.R_reads' HO_6.out).2.2 x49_3 p140 q140
                   cases e140
                   replace p140 := eq_true p140
                   replace q140 := eq_true q140
                   refine start_ (n := 17) (S := fun w' => w'.cell? (ad139.add ((ji33)).toNat) = some (.int .u8 (rd x3_3 (ji33))) ∧ w'.cell? (ad140.add (x49_3).toNat) = some (.int .u8 (rd x6_10 x49_3))) (ds := [14, 15]) #[false, false, false, false, false, false, false, false, false, false, false, false, false, false, false, false, false] (by kernel_rfl) rfl rfl ⟨hx139_0, hx140_0⟩ (fun hHeld => ?_); refine with_tabW spec_l3Keys.tab13 spec_l3Keys.bits13 (fun HT_ HW_ => ?_)
                   generalize wr.drew = w39 at HO_3 HO_6 HB hx139_0 hx140_0 hHeld ⊢
                   refine pure_ (i := 0) (N := some 52) (v := ?_) (a' := ?_) #[true, false, false, false, false, false, false, false, false, false, false, false, false, false, false, false, false] rfl rfl (any_of HT_.out (by kernel_rfl)) (fun _ _ _ h => h) (Or.inl ⟨by rfl, ?_⟩) ?_ ?_
                   rotate_left
                   ·intro w'
                    go_simp
                    with_reducible rfl
                   rotate_left
                   ·simp only [Act.put, List.setIfInBounds_toArray, List.set_cons_zero, List.set_cons_succ, i64_w, i32_w]
                    rfl
                   refine pure_ (i := 1) (N := some 53) (v := ?_) (a' := ?_) #[true, true, false, false, false, false, false, false, false, false, false, false, false, false, false, false, false] rfl rfl (any_of HT_.out (by kernel_rfl)) (fun _ _ _ h => h) (Or.inl ⟨by rfl, ?_⟩) ?_ ?_
                   rotate_left
                   ·intro w'
                    go_simp
                    with_reducible rfl
                   rotate_left
                   ·simp only [Act.put, List.setIfInBounds_toArray, List.set_cons_zero, List.set_cons_succ, i64_w, i32_w]
                    rfl
                   refine pure_ (i := 2) (N := some 54) (v := ?_) (a' := ?_) #[true, true, true, false, false, false, false, false, false, false, false, false, false, false, false, false, false] rfl rfl (any_of HT_.out (by kernel_rfl)) (fun _ _ _ h => h) (Or.inl ⟨by rfl, ?_⟩) ?_ ?_
                   rotate_left
                   ·intro w'
                    go_simp
                    with_reducible rfl
                   rotate_left
                   ·simp only [Act.put, List.setIfInBounds_toArray, List.set_cons_zero, List.set_cons_succ, i64_w, i32_w]
                    rfl
                   refine pure_ (i := 3) (N := some 55) (v := ?_) (a' := ?_) #[true, true, true, true, false, false, false, false, false, false, false, false, false, false, false, false, false] rfl rfl (any_of HT_.out (by kernel_rfl)) (fun _ _ _ h => h) (Or.inl ⟨by rfl, ?_⟩) ?_ ?_
                   rotate_left
                   ·intro w'
                    go_simp
                    with_reducible rfl
                   rotate_left
                   ·simp only [Act.put, List.setIfInBounds_toArray, List.set_cons_zero, List.set_cons_succ, i64_w, i32_w]
                    rfl
                   refine pure_ (i := 4) (N := some 56) (v := ?_) (a' := ?_) #[true, true, true, true, true, false, false, false, false, false, false, false, false, false, false, false, false] rfl rfl (any_of HT_.out (by kernel_rfl)) (fun _ _ _ h => h) (Or.inl ⟨by rfl, ?_⟩) ?_ ?_
                   rotate_left
                   ·intro w'
                    go_simp
                    with_reducible rfl
                   rotate_left
                   ·simp only [Act.put, List.setIfInBounds_toArray, List.set_cons_zero, List.set_cons_succ, i64_w, i32_w]
                    rfl
                   refine pure_ (i := 5) (N := some 57) (v := ?_) (a' := ?_) #[true, true, true, true, true, true, false, false, false, false, false, false, false, false, false, false, false] rfl rfl (any_of HT_.out (by kernel_rfl)) (fun _ _ _ h => h) (Or.inl ⟨by rfl, ?_⟩) ?_ ?_
                   rotate_left
                   ·intro w'
                    go_simp
                    with_reducible rfl
                   rotate_left
                   ·simp only [Act.put, List.setIfInBounds_toArray, List.set_cons_zero, List.set_cons_succ, i64_w, i32_w]
                    rfl
                   refine pure_ (i := 6) (N := some 58) (v := ?_) (a' := ?_) #[true, true, true, true, true, true, true, false, false, false, false, false, false, false, false, false, false] rfl rfl (any_of HT_.out (by kernel_rfl)) (fun _ _ _ h => h) (Or.inl ⟨by rfl, ?_⟩) ?_ ?_
                   rotate_left
                   ·intro w'
                    go_simp
                    with_reducible rfl
                   rotate_left
                   ·simp only [Act.put, List.setIfInBounds_toArray, List.set_cons_zero, List.set_cons_succ, i64_w, i32_w]
                    rfl
                   refine pure_ (i := 7) (N := some 59) (v := ?_) (a' := ?_) #[true, true, true, true, true, true, true, true, false, false, false, false, false, false, false, false, false] rfl rfl (any_of HT_.out (by kernel_rfl)) (fun _ _ _ h => h) (Or.inl ⟨by rfl, ?_⟩) ?_ ?_
                   rotate_left
                   ·intro w'
                    go_simp
                    with_reducible rfl
                   rotate_left
                   ·simp only [Act.put, List.setIfInBounds_toArray, List.set_cons_zero, List.set_cons_succ, i64_w, i32_w]
                    rfl
                   refine pure_ (i := 9) (N := some 61) (v := ?_) (a' := ?_) #[true, true, true, true, true, true, true, true, false, true, false, false, false, false, false, false, false] rfl rfl (any_of HT_.out (by kernel_rfl)) (fun _ _ _ h => h) (Or.inl ⟨by rfl, ?_⟩) ?_ ?_
                   rotate_left
                   ·intro w'
                    go_simp
                    with_reducible rfl
                   rotate_left
                   ·simp only [Act.put, List.setIfInBounds_toArray, List.set_cons_zero, List.set_cons_succ, i64_w, i32_w]
                    rfl
                   refine pure_ (i := 10) (N := some 62) (v := ?_) (a' := ?_) #[true, true, true, true, true, true, true, true, false, true, true, false, false, false, false, false, false] rfl rfl (any_of HT_.out (by kernel_rfl)) (fun _ _ _ h => h) (Or.inl ⟨by rfl, ?_⟩) ?_ ?_
                   rotate_left
                   ·intro w'
                    go_simp
                    with_reducible rfl
                   rotate_left
                   ·simp only [Act.put, List.setIfInBounds_toArray, List.set_cons_zero, List.set_cons_succ, i64_w, i32_w]
                    rfl
                   refine pure_ (i := 11) (N := some 63) (v := ?_) (a' := ?_) #[true, true, true, true, true, true, true, true, false, true, true, true, false, false, false, false, false] rfl rfl (any_of HT_.out (by kernel_rfl)) (fun _ _ _ h => h) (Or.inl ⟨by rfl, ?_⟩) ?_ ?_
                   rotate_left
                   ·intro w'
                    go_simp
                    with_reducible rfl
                   rotate_left
                   ·simp only [Act.put, List.setIfInBounds_toArray, List.set_cons_zero, List.set_cons_succ, i64_w, i32_w]
                    rfl
                   refine take_ (i := 8) (N := some 60) (v := ?_) (a' := ?_) #[true, true, true, true, true, true, true, true, true, true, true, true, false, false, false, false, false] rfl rfl (take_ofW HT_.out HW_.out (by kernel_rfl)) (fun _ _ _ h => h) (Or.inl ⟨by rfl, ?_⟩) hHeld ?_ ?_
                   rotate_left
                   ·rintro w' ⟨s0, s1⟩
                    go_simp
                    with_reducible rfl
                   rotate_left
                   ·simp only [Act.put, List.setIfInBounds_toArray, List.set_cons_zero, List.set_cons_succ, i64_w, i32_w]
                    rfl
                   refine take_ (i := 12) (N := some 64) (v := ?_) (a' := ?_) #[true, true, true, true, true, true, true, true, true, true, true, true, true, false, false, false, false] rfl rfl (take_ofW HT_.out HW_.out (by kernel_rfl)) (fun _ _ _ h => h) (Or.inl ⟨by rfl, ?_⟩) hHeld ?_ ?_
                   rotate_left
                   ·rintro w' ⟨s0, s1⟩
                    go_simp
                    with_reducible rfl
                   rotate_left
                   ·simp only [Act.put, List.setIfInBounds_toArray, List.set_cons_zero, List.set_cons_succ, i64_w, i32_w]
                    rfl
                   refine pure_ (i := 13) (N := some 65) (v := ?_) (a' := ?_) #[true, true, true, true, true, true, true, true, true, true, true, true, true, true, false, false, false] rfl rfl (any_of HT_.out (by kernel_rfl)) (fun _ _ _ h => h) (Or.inl ⟨by rfl, ?_⟩) ?_ ?_
                   rotate_left
                   ·intro w'
                    go_simp
                    with_reducible rfl
                   rotate_left
                   ·simp only [Act.put, List.setIfInBounds_toArray, List.set_cons_zero, List.set_cons_succ, i64_w, i32_w]
                    rfl
                   refine last_ (i := 14) (N := some 66) #[true, true, true, true, true, true, true, true, true, true, true, true, true, true, true, false, false] rfl rfl (one_of HT_.out (by kernel_rfl)) (by decide) (fun K hK => ?_)
                   refine value_ (w1 := ?_) (v := ?_) (by rfl) rfl ?_ ?_
                   rotate_left 2
                   ·go_simp
                    constructor
                    ·rfl
                    ·rfl
                   refine hK.out _ _ ?_
                   clear hK K
                   refine norm_ (a' := ?_) ?_ ?_
                   rotate_left
                   ·show Act.put _ (some 66) _ = _
                    simp only [Act.put, List.setIfInBounds_toArray, List.set_cons_zero, List.set_cons_succ, i64_w, i32_w]
                    rfl
                   refine last_ (i := 15) (N := some 67) #[true, true, true, true, true, true, true, true, true, true, true, true, true, true, true, true, false] rfl rfl (one_of HT_.out (by kernel_rfl)) (by decide) (fun K hK => ?_)
                   refine Kd.R_append_step (Kd.int .u8) (w0 := w) w.heap.size (by rfl) (.tmp 52) (.tmp 66) 43 5 (.int .u8 0) 1 rfl Try.underlying43 info5 rfl (by decide) (by omega) (.slice (some ad139) x3_3.length co40) x3_3 (Go.bits .xor .u8 (rd x3_3 (ji33)) (rd x6_10 x49_3)) [.int .u8 (Go.bits .xor .u8 (rd x3_3 (ji33)) (rd x6_10 x49_3))] (fun k_ => some k_ ≠ (.slice (some ad140) x6_10.length co31 : Value).ownBlock) (fun _ => False) rfl rfl ?aP (fun _ hk => hk.elim) ?aF ?aO ?aB ?aS ?aL ?_
                   (case aP => exact rfl)
                   (case aB => exact (by repeat (first | (with_reducible first | exact HB.out | apply below_alloc | apply pw_below_drewN | apply below_drew1) | exact HB.out)))
                   (case aF => exact (fun k_ hk => Kd.fresh' (Kd.R_lt (by (with_reducible repeat (first | apply Kd.R_alloc | apply Kd.R_drewN | apply Kd.R_drew)); exact HO_6.out)) k_ hk))
                   (case aO => exact (by (with_reducible repeat (first | apply Kd.R_alloc | apply Kd.R_drewN | apply Kd.R_drew)); exact HO_3.out))
                   (case aS => exact (below_size (by repeat (first | (with_reducible first | exact HB.out | apply below_alloc | apply pw_below_drewN | apply below_drew1) | exact HB.out))))
                   (case aL => have := LMc38.out; omega)
                   intro v142 w41 ho hb hg hat
                   rw [← Ny141.out] at ho
                   have n0_ := Aside0.mk (Kd.R_after (ok := (fun _ => True)) (by (with_reducible repeat (first | apply Kd.R_alloc | apply Kd.R_drewN | apply Kd.R_drew)); exact Kd.R_mono HO_6.out (fun _ hk => ⟨trivial, hk⟩)) hg hat)
                   have n1_ := Aside0.mk (hb)
                   have n2_ := Aside0.mk (ho)
                   clear HO_6
                   clear HB
                   clear HO_3
                   have HO_6 := n0_
                   have HB := n1_
                   have HO143 := n2_
                   clear n0_ n1_ n2_
                   clear ho hb hg hat
                   refine hK.out _ _ ?_
                   clear hK K
                   refine norm_ (a' := ?_) ?_ ?_
                   rotate_left
                   ·show Act.put _ (some 67) _ = _
                    simp only [Act.put, List.setIfInBounds_toArray, List.set_cons_zero, List.set_cons_succ, i64_w, i32_w]
                    rfl
                   refine pure_ (i := 16) (N := some 3) (v := ?_) (a' := ?_) #[true, true, true, true, true, true, true, true, true, true, true, true, true, true, true, true, true] rfl rfl (any_of HT_.out (by kernel_rfl)) (fun _ _ _ h => h) (Or.inl ⟨by rfl, ?_⟩) ?_ ?_
                   rotate_left
                   ·intro w'
                    go_simp
                    with_reducible rfl
                   rotate_left
                   ·simp only [Act.put, List.setIfInBounds_toArray, List.set_cons_zero, List.set_cons_succ, i64_w, i32_w]
                    rfl
                   refine done_ (done_of HT_.out (by kernel_rfl)) ?_
                   try go_wp2
                   go_roundg k3
                   case measure => have := HK1.out; have := HJ10.out; have := HK3.out; omega
                   case rel => exact ⟨(y141), (wrap64 (x49_3 + 1)), (by first | rfl | (simp; done) | (simp [*]; done)), H', ⟨by have := HK1.out; have := HJ10.out; have := HK3.out; omega⟩, ⟨by (with_reducible repeat (first | apply Kd.R_alloc | apply Kd.R_drewN | apply Kd.R_drew)); exact HO143.out⟩, ⟨by (with_reducible repeat (first | apply Kd.R_alloc | apply Kd.R_drewN | apply Kd.R_drew)); exact Kd.R_mono HO_6.out (fun _ hk => hk.2)⟩, ⟨by repeat (first | (with_reducible first | exact HB.out | apply below_alloc | apply pw_below_drewN | apply below_drew1) | exact HB.out)⟩⟩
                  ·rw [if_neg c38] at H
                   exact absurd H (by simp)
                 ·rw [if_neg c37] at H
                  exact absurd H (by simp)
                ·rw [if_neg c36] at H
                 exact absurd H (by simp)
               ·rw [if_neg c35] at H
                exact absurd H (by simp)
              ·rw [if_neg c34] at H
               exact absurd H (by simp)
             ·rw [if_neg c32] at H
              have c32b0 : decide (x49_3 < (x6_10.length : Int)) = false := decide_eq_false c32
              clear c32
              have H' := Aside0.mk H
              clear H
              go_wp2
              go_roundg k3
              case measure => have := HK1.out; have := HJ10.out; have := HK3.out; omega
              case rel => exact ⟨(x3_3), (x4_10), (wrap64 (x5_1 + 1)), (by first | rfl | (simp; done) | (simp [*]; done)), (by first | rfl | (simp; done) | (simp [*]; done)), H', ⟨by have := HK1.out; have := HJ10.out; have := HK3.out; omega⟩, ⟨by (with_reducible repeat (first | apply Kd.R_alloc | apply Kd.R_drewN | apply Kd.R_drew)); exact Kd.R_mono HO_3.out (fun _ hk => trivial)⟩, ⟨by repeat (first | (with_reducible first | exact HB.out | apply below_alloc | apply pw_below_drewN | apply below_drew1) | exact HB.out)⟩⟩
        ·rw [if_neg c10] at H
         exact absurd H (by simp)
       ·rw [if_neg c9] at H
        exact absurd H (by simp)
      ·rw [if_neg c8] at H
       exact absurd H (by simp)
     ·rw [if_neg c7] at H
      exact absurd H (by simp)
    ·rw [if_neg c5] at H
     have c5b0 : decide (x5_1 < 44) = false := decide_eq_false c5
     clear c5
     obtain rfl := Option.some.inj H
     go_wp2
     go_ret
     exact ⟨_, by first | rfl | (simp [errW_none, errW_some] <;> rfl) | (simp [*, errW_none, errW_some] <;> rfl), by (with_reducible repeat (first | apply Kd.R_alloc | apply Kd.R_drewN | apply Kd.R_drew)); exact HO_3.out, by repeat (first | (with_reducible first | exact HB.out | apply below_alloc | apply pw_below_drewN | apply below_drew1) | exact HB.out)⟩
 ·rw [if_neg c2] at H
  exact absurd H (by simp)

end Go.Proofs.Ytimokakcdmcnnaa.PSpecA
