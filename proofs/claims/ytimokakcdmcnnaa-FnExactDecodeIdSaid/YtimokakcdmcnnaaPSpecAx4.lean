-- SHRUNK. LAID BY A PROGRAM OF THIS SESSION (wip/tools/myprint.py) over the kit's print.
import Derived.Test.YtimokakcdmcnnaaPSpecAx0
import Derived.Test.YtimokakcdmcnnaaPSpecAx1
import Derived.Test.YtimokakcdmcnnaaPSpecAx2
import Derived.Test.YtimokakcdmcnnaaPSpecAx3
namespace Go.Proofs.Ytimokakcdmcnnaa.PSpecA
open Go.RowKit Go.Proofs.YtimokakcdmcnnaaV.PrintWords Go.Proofs.YtimokakcdmcnnaaV.PrintLast Go.Proofs.YtimokakcdmcnnaaV.PrintMore
attribute [local go_sem] max2_int min2_int max_two min_two max_three min_three max_four min_four   -- for this text's walks alone
set_option linter.unusedVariables false
set_option linter.unusedSimpArgs false

/-! ### spec_l3With: function 93 -/
mutual
def spec_l3With.l0 : Nat → List Int → List Int → List Int → Int → Option (ByteArray)
 | 0, _, _, _, _ => none
 | k + 1, x0, x1, x7, x8 => if x8 ≤ 10 then (if 16 ≤ 281474976710656 then (spec_l3With.l1 k x0 x1 x7 x8 (List.replicate 16 0) 0) else (none)) else (some (strOfNums x7))
def spec_l3With.l1 : Nat → List Int → List Int → List Int → Int → List Int → Int → Option (ByteArray)
 | 0, _, _, _, _, _, _ => none
 | k + 1, x0, x1, x7, x8, x9, x10 => if x10 < 4 then (spec_l3With.l2 k x0 x1 x7 x8 x9 x10 0) else (if x8 < 10 then (spec_l3With.l3 k x0 x1 x8 x9 ([] : List Int) 0) else (if 0 ≤ (wrap64 (16 * x8)) then (if (wrap64 (16 * x8)) ≤ (wrap64 ((wrap64 (16 * x8)) + 16)) then (if (wrap64 ((wrap64 (16 * x8)) + 16)) ≤ (x0.length : Int) then ((spec_l3Xor.f k x9 ((x0.take ((wrap64 ((wrap64 (16 * x8)) + 16)) : Int).toNat).drop ((wrap64 (16 * x8)) : Int).toNat)).bind fun t192 => (spec_l3With.l0 k x0 x1 t192 (wrap64 (x8 + 1)))) else (none)) else (none)) else (none)))
def spec_l3With.l2 : Nat → List Int → List Int → List Int → Int → List Int → Int → Int → Option (ByteArray)
 | 0, _, _, _, _, _, _, _ => none
 | k + 1, x0, x1, x7, x8, x9, x10, x11 => if x11 < 4 then (if 0 ≤ (wrap64 ((wrap64 (4 * (Int.tmod (wrap64 (x10 + x11)) 4))) + x11)) then (if (wrap64 ((wrap64 (4 * (Int.tmod (wrap64 (x10 + x11)) 4))) + x11)) < (x7.length : Int) then (if 0 ≤ (rd x7 (wrap64 ((wrap64 (4 * (Int.tmod (wrap64 (x10 + x11)) 4))) + x11))) then (if (rd x7 (wrap64 ((wrap64 (4 * (Int.tmod (wrap64 (x10 + x11)) 4))) + x11))) < (x1.length : Int) then (if 0 ≤ (wrap64 ((wrap64 (4 * x10)) + x11)) then (if (wrap64 ((wrap64 (4 * x10)) + x11)) < (x9.length : Int) then (spec_l3With.l2 k x0 x1 x7 x8 (x9.set ((wrap64 ((wrap64 (4 * x10)) + x11)) : Int).toNat (rd x1 (rd x7 (wrap64 ((wrap64 (4 * (Int.tmod (wrap64 (x10 + x11)) 4))) + x11))))) x10 (wrap64 (x11 + 1))) else (none)) else (none)) else (none)) else (none)) else (none)) else (none)) else (spec_l3With.l1 k x0 x1 x7 x8 x9 (wrap64 (x10 + 1)))
def spec_l3With.l3 : Nat → List Int → List Int → Int → List Int → List Int → Int → Option (ByteArray)
 | 0, _, _, _, _, _, _ => none
 | k + 1, x0, x1, x8, x9, x12, x13 => if x13 < 4 then (if 0 ≤ (wrap64 (4 * x13)) then (if (wrap64 (4 * x13)) ≤ (wrap64 ((wrap64 (4 * x13)) + 4)) then (if (wrap64 ((wrap64 (4 * x13)) + 4)) ≤ (x9.length : Int) then ((spec_l3Mix.f k ((x9.take ((wrap64 ((wrap64 (4 * x13)) + 4)) : Int).toNat).drop ((wrap64 (4 * x13)) : Int).toNat) (([2, 3, 1, 1] : List Int))).bind fun t181 => (if x12.length + t181.length < 140737488355328 then (spec_l3With.l3 k x0 x1 x8 x9 (x12 ++ t181) (wrap64 (x13 + 1))) else (none))) else (none)) else (none)) else (none)) else (if 0 ≤ (wrap64 (16 * x8)) then (if (wrap64 (16 * x8)) ≤ (wrap64 ((wrap64 (16 * x8)) + 16)) then (if (wrap64 ((wrap64 (16 * x8)) + 16)) ≤ (x0.length : Int) then ((spec_l3Xor.f k x12 ((x0.take ((wrap64 ((wrap64 (16 * x8)) + 16)) : Int).toNat).drop ((wrap64 (16 * x8)) : Int).toNat)).bind fun t188 => (spec_l3With.l0 k x0 x1 t188 (wrap64 (x8 + 1)))) else (none)) else (none)) else (none))
end
def spec_l3With.f (k : Nat) (l0 : List Int) (l1 : List Int) (a2 : ByteArray) : Option (ByteArray) := if a2.size ≤ 9223372036854775807 then (if 16 ≤ (l0.length : Int) then ((spec_l3Xor.f k (bytesOf a2) (l0.take 16)).bind fun t165 => (spec_l3With.l0 k l0 l1 t165 1)) else (none)) else (none)
set_option maxHeartbeats 8000000 in
set_option maxRecDepth 100000 in
theorem spec_l3With.calls (k : Nat) (A0 : Option Addr) (c0 : Nat) (l0 : List Int) (A1 : Option Addr) (c1 : Nat) (l1 : List Int) (a2 : ByteArray) (r : ByteArray) (w : World) (hr0 : Kd.C (Kd.int .u8) w A0 l0.length l0) (hc0 : l0.length ≤ c0) (hr1 : Kd.C (Kd.int .u8) w A1 l1.length l1) (hc1 : l1.length ≤ c1) (h : spec_l3With.f k l0 l1 a2 = some r) :
  Calls Try.prog 93 #[.slice A0 l0.length c0, .slice A1 l1.length c1, .string a2] w fun e w' => e = .returned (.string r) ∧ Below w.heap.size w w' := by
 have HR0 := Aside0.mk hr0
 have HC0 := Aside0.mk hc0
 clear hr0 hc0
 have HR1 := Aside0.mk hr1
 have HC1 := Aside0.mk hc1
 clear hr1 hc1
 have HB := Aside0.mk (Below.refl w.heap.size w)
 have H : (if a2.size ≤ 9223372036854775807 then (if 16 ≤ (l0.length : Int) then ((spec_l3Xor.f k (bytesOf a2) (l0.take 16)).bind fun t165 => (spec_l3With.l0 k l0 l1 t165 1)) else (none)) else (none)) = some r := h
 clear h
 by_cases c4 : a2.size ≤ 9223372036854775807
 ·rw [if_pos c4] at H
  have c4b0 := eq_true c4
  have c4b1 : decide (a2.size ≤ 9223372036854775807) = true := decide_eq_true c4
  try have c4b2 : (9223372036854775807 < a2.size) = False := eq_false (Nat.not_lt.2 c4)
  clear c4
  obtain ⟨y161, hy161⟩ : ∃ y_ : List Int, y_ = (bytesOf a2) := ⟨_, rfl⟩
  replace H : (if 16 ≤ (l0.length : Int) then ((spec_l3Xor.f k y161 (l0.take 16)).bind fun t165 => (spec_l3With.l0 k l0 l1 t165 1)) else (none)) = some r := by first | (rw [hy161]; with_reducible exact H) | (have H2_ := (Option.bind_some _ _).symm.trans H; rw [hy161]; with_reducible exact H2_) | (have H2_ := (Option.bind_some _ _).symm.trans H; with_reducible exact H2_) | with_reducible exact H | (rw [hy161]; exact H) | exact H
  have Ny161 := Aside0.mk hy161
  clear hy161
  by_cases c5 : 16 ≤ (l0.length : Int)
  ·rw [if_pos c5] at H
   have c5b0 := eq_true c5
   have c5b1 : decide (16 ≤ (l0.length : Int)) = true := decide_eq_true c5
   clear c5
   replace H := Option.bind_eq_some_iff.mp H
   obtain ⟨t165, A60, H⟩ := H
   replace H : (spec_l3With.l0 k l0 l1 t165 1) = some r := H
   have A6 := Aside0.mk A60
   clear A60
   have H' := Aside0.mk H
   clear H
   go_enter Try.func93, Try.ntmps93
   go_wp2_with (first | ((with_reducible refine gate_dst (N := 15) rfl ?_); refine Kd.R_bytes _ 5 rfl (N := 15) rfl 9 43 _ rfl a2 rfl Try.underlying9 Try.underlying43 Try.underlying5 (ok := fun _ => True) trivial (of_decide_eq_true (by first | (with_reducible assumption) | assumption)) (Below.refl _ _) (Nat.le_refl _) ?_; intro v162 w7 ho8 hb hg_ hnew_; clear hg_ hnew_; (first | rw [← Ny161.out] at ho8 | (simp only [Int.reduceToNat] at ho8; rw [← Ny161.out] at ho8)); have n0_ := Aside0.mk (Kd.R_lower ho8 (below_size (by repeat (first | (with_reducible first | exact HB.out | apply below_alloc | apply pw_below_drewN | apply below_drew1) | exact HB.out)))); have n1_ := Aside0.mk (below_step (by repeat (first | (with_reducible first | exact HB.out | apply below_alloc | apply pw_below_drewN | apply below_drew1) | exact HB.out)) hb); clear HB; have HO163 := n0_; have HB := n1_; clear n0_ n1_; clear hb ho8; obtain ⟨i09, hi09, _, hsz9, _⟩ := info_parts info5; obtain ⟨hcut9, hA9, hC9⟩ := print_take_of (P := Try.prog) (Value.int .u8) 0 43 5 .i64 Try.underlying43 hi09 hsz9 A0 c0 l0 16 (by omega) (of_decide_eq_true (by first | (with_reducible assumption) | assumption)) HC0.out; have HR164 := Aside0.mk (Kd.C_of_reads (h1 := fun _ => rfl) (hA9 _ (Kd.reads_of_C HR0.out))); have HC164 := Aside0.mk hC9; clear hA9 hC9 hi09 hsz9; obtain ⟨Ao10, co10, eo10⟩ := Kd.R_slice HO163.out; subst eo10) | ((with_reducible refine gate_callee (f := 89) rfl ?_); refine goesL_ (some 18) rfl rfl Try.func89 (by kernel_rfl) rfl #[.slice Ao10 y161.length co10, .slice A0 (l0.take 16).length c0] rfl (by (try simp only [List.map_toArray, List.map_cons, List.map_nil]); first | done | (rw [show (l0.take 16).length = 16 from (by rw [List.length_take]; have h_ : (16 : Int) ≤ (l0.length : Int) := of_decide_eq_true (by first | (with_reducible assumption) | assumption); omega)] <;> rfl) | rfl | (simp only [List.length_drop, List.length_take]; rfl)) ?_; (with_reducible refine (spec_l3Xor.calls k _ _ y161 _ _ (l0.take 16) t165 _ ?side1 ?side2 ?side3 ?side4 A6.out).mono ?_); (case side1 => repeat (first | exact (Kd.R_reads' HO163.out).2.2 | (with_reducible refine Kd.C_alloc ?_ _) | (with_reducible refine Kd.C_drewN ?_ _) | (with_reducible refine Kd.C_drew ?_))); (case side2 => exact (Kd.R_reads' HO163.out).2.1); (case side3 => repeat (first | exact (Kd.C_below HR164.out HB.out) | (with_reducible refine Kd.C_alloc ?_ _) | (with_reducible refine Kd.C_drewN ?_ _) | (with_reducible refine Kd.C_drew ?_))); (case side4 => exact HC164.out); rintro e w11 ⟨v166, rfl, ho0, hb⟩; refine ⟨_, rfl, ?_⟩; have n0_ := Aside0.mk (Kd.R_elder' (by (with_reducible repeat (first | apply Kd.R_alloc | apply Kd.R_drewN | apply Kd.R_drew)); exact HO163.out) (Kd.R_base ho0) hb); have n1_ := Aside0.mk (Kd.R_lower (Kd.R_new' ho0 (Kd.R_lt (by (with_reducible repeat (first | apply Kd.R_alloc | apply Kd.R_drewN | apply Kd.R_drew)); exact HO163.out))) (below_size (by repeat (first | (with_reducible first | exact HB.out | apply below_alloc | apply pw_below_drewN | apply below_drew1) | exact HB.out)))); have n2_ := Aside0.mk (below_step (by repeat (first | (with_reducible first | exact HB.out | apply below_alloc | apply pw_below_drewN | apply below_drew1) | exact HB.out)) hb); clear HO163; clear HB; have HO163 := n0_; have HO167 := n1_; have HB := n2_; clear n0_ n1_ n2_; (try clear hb); (try clear hb2); (try clear hk); (try clear hi); (try clear ho0)))
   go_loopg [7, 8] k (fun kq v7 v8 w' => ∃ (x7_1 : List Int) (x8_1 : Int), v8 = .int .i64 x8_1 ∧ Aside0 (spec_l3With.l0 kq l0 l1 x7_1 x8_1 = some r) ∧ Aside0 (kq ≤ k) ∧ Aside0 (Kd.R (Kd.int .u8) 5 w' w.heap.size (fun _ => True) v7 x7_1) ∧ Aside0 (Below w.heap.size w w'))
   case atStart => exact ⟨(t165), (1), (by first | rfl | (simp; done) | (simp [*]; done)), H', ⟨Nat.le_refl _⟩, ⟨by (with_reducible repeat (first | apply Kd.R_alloc | apply Kd.R_drewN | apply Kd.R_drew)); exact Kd.R_mono HO167.out (fun _ hk => trivial)⟩, ⟨by repeat (first | (with_reducible first | exact HB.out | apply below_alloc | apply pw_below_drewN | apply below_drew1) | exact HB.out)⟩⟩
   case round =>
    clear H'
    try clear c1
    try clear p2
    try clear c4
    try clear c4b0
    try clear c4b1
    try clear c4b2
    try clear c5
    try clear c5b0
    try clear c5b1
    try clear c8
    try clear c9
    obtain ⟨x7_1, x8_1, rfl, HA, HK1, HO_7, HB⟩ := hrel
    cases gk with
    | zero => exact absurd HA.out (by simp [spec_l3With.l0])
    | succ k1 =>
     have H := HA.out
     clear HA
     simp only [spec_l3With.l0] at H
     by_cases c12 : x8_1 ≤ 10
     ·rw [if_pos c12] at H
      have c12b0 : decide (x8_1 ≤ 10) = true := decide_eq_true c12
      clear c12
      by_cases c13 : 16 ≤ 281474976710656
      ·rw [if_pos c13] at H
       have c13b0 := eq_true c13
       have c13b1 : decide (16 ≤ 281474976710656) = true := decide_eq_true c13
       clear c13
       obtain ⟨y168, hy168⟩ : ∃ y_ : List Int, y_ = (List.replicate 16 0) := ⟨_, rfl⟩
       replace H : (spec_l3With.l1 k1 l0 l1 x7_1 x8_1 y168 0) = some r := by first | (rw [hy168]; with_reducible exact H) | (have H2_ := (Option.bind_some _ _).symm.trans H; rw [hy168]; with_reducible exact H2_) | (have H2_ := (Option.bind_some _ _).symm.trans H; with_reducible exact H2_) | with_reducible exact H | (rw [hy168]; exact H) | exact H
       have Ny168 := Aside0.mk hy168
       clear hy168
       have H' := Aside0.mk H
       clear H
       go_wp2_with (first | ((with_reducible refine gate_dst (N := 23) rfl ?_); refine Kd.R_make (Kd.int .u8) _ 5 rfl (N := 23) rfl 43 _ _ rfl 16 rfl rfl Try.underlying43 (.int .u8 0) 1 info5 rfl (by decide) (by omega) 0 (ok := fun _ => True) (okp := fun _ => True) rfl (fun _ hk => hk) trivial (by omega) (by omega) (Below.refl _ _) (Nat.le_refl _) ?_; intro v169 w14 ho15 hb hg_ hnew_; clear hg_ hnew_; (first | rw [← Ny168.out] at ho15 | (simp only [Int.reduceToNat] at ho15; rw [← Ny168.out] at ho15)); have n0_ := Aside0.mk (Kd.R_elder' (by (with_reducible repeat (first | apply Kd.R_alloc | apply Kd.R_drewN | apply Kd.R_drew)); exact HO_7.out) (Kd.R_base ho15) hb); have n1_ := Aside0.mk (Kd.R_lower (Kd.R_new' ho15 (Kd.R_lt (by (with_reducible repeat (first | apply Kd.R_alloc | apply Kd.R_drewN | apply Kd.R_drew)); exact HO_7.out))) (below_size (by repeat (first | (with_reducible first | exact HB.out | apply below_alloc | apply pw_below_drewN | apply below_drew1) | exact HB.out)))); have n2_ := Aside0.mk (below_step (by repeat (first | (with_reducible first | exact HB.out | apply below_alloc | apply pw_below_drewN | apply below_drew1) | exact HB.out)) hb); clear HO_7; clear HB; have HO_7 := n0_; have HO170 := n1_; have HB := n2_; clear n0_ n1_ n2_; clear hb ho15))
       go_loopg [10] k1 (fun kq v10 w' => ∃ (x9_2 : List Int) (x10_2 : Int), v10 = .int .i64 x10_2 ∧ Aside0 (spec_l3With.l1 kq l0 l1 x7_1 x8_1 x9_2 x10_2 = some r) ∧ Aside0 (kq ≤ k1) ∧ Aside0 (Kd.R (Kd.int .u8) 5 w' w.heap.size (fun k_ => some k_ ≠ (v169 : Value).ownBlock) u7 x7_1) ∧ Aside0 (Kd.R (Kd.int .u8) 5 w' w.heap.size (fun k_ => some k_ ≠ (u7 : Value).ownBlock) v169 x9_2) ∧ Aside0 (Below w.heap.size w w'))
       case atStart => exact ⟨(y168), (0), (by first | rfl | (simp; done) | (simp [*]; done)), H', ⟨Nat.le_refl _⟩, ⟨by (with_reducible repeat (first | apply Kd.R_alloc | apply Kd.R_drewN | apply Kd.R_drew)); exact Kd.R_mono HO_7.out (fun _ hk => hk.2)⟩, ⟨by (with_reducible repeat (first | apply Kd.R_alloc | apply Kd.R_drewN | apply Kd.R_drew)); exact Kd.R_mono HO170.out (fun _ hk => hk.2)⟩, ⟨by repeat (first | (with_reducible first | exact HB.out | apply below_alloc | apply pw_below_drewN | apply below_drew1) | exact HB.out)⟩⟩
       case round =>
        clear H'
        try clear c1
        try clear p2
        try clear c4
        try clear c4b0
        try clear c4b1
        try clear c4b2
        try clear c5
        try clear c5b0
        try clear c5b1
        try clear c8
        try clear c9
        try clear c12
        try clear c12b0
        try clear c13
        try clear c13b0
        try clear c13b1
        try clear p2
        obtain ⟨x9_2, x10_2, rfl, HA, HK2, HO_7, HO_9, HB⟩ := hrel
        cases gk with
        | zero => exact absurd HA.out (by simp [spec_l3With.l1])
        | succ k2 =>
         have H := HA.out
         clear HA
         simp only [spec_l3With.l1] at H
         by_cases c16 : x10_2 < 4
         ·rw [if_pos c16] at H
          have c16b0 : decide (x10_2 < 4) = true := decide_eq_true c16
          clear c16
          have H' := Aside0.mk H
          clear H
          go_wp2
          go_loopg [11] k2 (fun kq v11 w' => ∃ (x9_3 : List Int) (x11_3 : Int), v11 = .int .i64 x11_3 ∧ Aside0 (spec_l3With.l2 kq l0 l1 x7_1 x8_1 x9_3 x10_2 x11_3 = some r) ∧ Aside0 (kq ≤ k2) ∧ Aside0 (Kd.R (Kd.int .u8) 5 w' w.heap.size (fun k_ => some k_ ≠ (v169 : Value).ownBlock) u7 x7_1) ∧ Aside0 (Kd.R (Kd.int .u8) 5 w' w.heap.size (fun k_ => some k_ ≠ (u7 : Value).ownBlock) v169 x9_3) ∧ Aside0 (Below w.heap.size w w'))
          case atStart => exact ⟨(x9_2), (0), (by first | rfl | (simp; done) | (simp [*]; done)), H', ⟨Nat.le_refl _⟩, ⟨by (with_reducible repeat (first | apply Kd.R_alloc | apply Kd.R_drewN | apply Kd.R_drew)); exact HO_7.out⟩, ⟨by (with_reducible repeat (first | apply Kd.R_alloc | apply Kd.R_drewN | apply Kd.R_drew)); exact HO_9.out⟩, ⟨by repeat (first | (with_reducible first | exact HB.out | apply below_alloc | apply pw_below_drewN | apply below_drew1) | exact HB.out)⟩⟩
          case round =>
           clear H'
           try clear c1
           try clear p2
           try clear c4
           try clear c4b0
           try clear c4b1
           try clear c4b2
           try clear c5
           try clear c5b0
           try clear c5b1
           try clear c8
           try clear c9
           try clear c12
           try clear c12b0
           try clear c13
           try clear c13b0
           try clear c13b1
           try clear c16
           try clear c16b0
           try clear p2
           obtain ⟨x9_3, x11_3, rfl, HA, HK3, HO_7, HO_9, HB⟩ := hrel
           cases gk with
           | zero => exact absurd HA.out (by simp [spec_l3With.l2])
           | succ k3 =>
            have H := HA.out
            clear HA
            simp only [spec_l3With.l2] at H
            by_cases c17 : x11_3 < 4
            ·rw [if_pos c17] at H
             have c17b0 : decide (x11_3 < 4) = true := decide_eq_true c17
             clear c17
             obtain ⟨ji18, hji18⟩ : ∃ j_ : Int, (wrap64 ((wrap64 (4 * (Int.tmod (wrap64 (x10_2 + x11_3)) 4))) + x11_3)) = j_ := ⟨_, rfl⟩
             replace H : (if 0 ≤ (ji18) then (if (ji18) < (x7_1.length : Int) then (if 0 ≤ (rd x7_1 (ji18)) then (if (rd x7_1 (ji18)) < (l1.length : Int) then (if 0 ≤ (wrap64 ((wrap64 (4 * x10_2)) + x11_3)) then (if (wrap64 ((wrap64 (4 * x10_2)) + x11_3)) < (x9_3.length : Int) then (spec_l3With.l2 k3 l0 l1 x7_1 x8_1 (x9_3.set ((wrap64 ((wrap64 (4 * x10_2)) + x11_3)) : Int).toNat (rd l1 (rd x7_1 (ji18)))) x10_2 (wrap64 (x11_3 + 1))) else (none)) else (none)) else (none)) else (none)) else (none)) else (none)) = some r := by first | (rw [hji18] at H; exact H) | (simp only [hji18] at H ⊢; exact H)
             have hji18w : (IntKind.i64.wrap ((wrap64 (4 * (Int.tmod (wrap64 (x10_2 + x11_3)) 4))) + x11_3)) = ji18 := (i64_w _).trans hji18
             by_cases c19 : 0 ≤ (ji18)
             ·rw [if_pos c19] at H
              have c19b0 : decide (0 ≤ (ji18)) = true := decide_eq_true c19
              clear c19
              by_cases c20 : (ji18) < (x7_1.length : Int)
              ·rw [if_pos c20] at H
               have c20b0 : decide ((ji18) < (x7_1.length : Int)) = true := decide_eq_true c20
               clear c20
               by_cases c21 : 0 ≤ (rd x7_1 (ji18))
               ·rw [if_pos c21] at H
                have c21b0 : decide (0 ≤ (rd x7_1 (ji18))) = true := decide_eq_true c21
                clear c21
                by_cases c22 : (rd x7_1 (ji18)) < (l1.length : Int)
                ·rw [if_pos c22] at H
                 have c22b0 : decide ((rd x7_1 (ji18)) < (l1.length : Int)) = true := decide_eq_true c22
                 clear c22
                 obtain ⟨ji23, hji23⟩ : ∃ j_ : Int, (wrap64 ((wrap64 (4 * x10_2)) + x11_3)) = j_ := ⟨_, rfl⟩
                 replace H : (if 0 ≤ (ji23) then (if (ji23) < (x9_3.length : Int) then (spec_l3With.l2 k3 l0 l1 x7_1 x8_1 (x9_3.set ((ji23) : Int).toNat (rd l1 (rd x7_1 (ji18)))) x10_2 (wrap64 (x11_3 + 1))) else (none)) else (none)) = some r := by first | (rw [hji23] at H; exact H) | (simp only [hji23] at H ⊢; exact H)
                 have hji23w : (IntKind.i64.wrap ((wrap64 (4 * x10_2)) + x11_3)) = ji23 := (i64_w _).trans hji23
                 by_cases c24 : 0 ≤ (ji23)
                 ·rw [if_pos c24] at H
                  have c24b0 : decide (0 ≤ (ji23)) = true := decide_eq_true c24
                  clear c24
                  by_cases c25 : (ji23) < (x9_3.length : Int)
                  ·rw [if_pos c25] at H
                   have c25b0 : decide ((ji23) < (x9_3.length : Int)) = true := decide_eq_true c25
                   clear c25
                   obtain ⟨y173, hy173⟩ : ∃ y_ : List Int, y_ = (x9_3.set ((ji23) : Int).toNat (rd l1 (rd x7_1 (ji18)))) := ⟨_, rfl⟩
                   replace H : (spec_l3With.l2 k3 l0 l1 x7_1 x8_1 y173 x10_2 (wrap64 (x11_3 + 1))) = some r := by first | (rw [hy173]; with_reducible exact H) | (have H2_ := (Option.bind_some _ _).symm.trans H; rw [hy173]; with_reducible exact H2_) | (have H2_ := (Option.bind_some _ _).symm.trans H; with_reducible exact H2_) | with_reducible exact H | (rw [hy173]; exact H) | exact H
                   have Ny173 := Aside0.mk hy173
                   clear hy173
                   have H' := Aside0.mk H
                   clear H
                   obtain ⟨Ao27, co27, eo27⟩ := Kd.R_slice HO_7.out
                   subst eo27
                   have p171 : 0 ≤ ((ji18) : Int) := of_decide_eq_true (by first | (with_reducible assumption) | assumption)
                   have q171 : (ji18) < (x7_1.length : Int) := of_decide_eq_true (by first | (with_reducible assumption) | assumption)
                   obtain ⟨ad171, e171, hx171_0⟩ := Kd.at_int (Kd.R_reads' HO_7.out).2.2 (ji18) p171 q171
                   cases e171
                   replace p171 := eq_true p171
                   replace q171 := eq_true q171
                   have p172 : 0 ≤ ((rd x7_1 (ji18)) : Int) := of_decide_eq_true (by first | (with_reducible assumption) | assumption)
                   have q172 : (rd x7_1 (ji18)) < (l1.length : Int) := of_decide_eq_true (by first | (with_reducible assumption) | assumption)
                   obtain ⟨ad172, e172, hx172_0⟩ := Kd.at_int HR1.out (rd x7_1 (ji18)) p172 q172
                   cases e172
                   replace hx172_0 := (HB.out.cell (World.block_lt_of_cell? w _ hx172_0)).trans hx172_0
                   replace p172 := eq_true p172
                   replace q172 := eq_true q172
                   have p26 : 0 ≤ ((ji23) : Int) := of_decide_eq_true (by first | (with_reducible assumption) | assumption)
                   have q26 : ((ji23) : Int) < ((x9_3.length : Int) : Int) := of_decide_eq_true (by first | (with_reducible assumption) | assumption)
                   obtain ⟨go26, co26, eo26, gb26, gl26, cl26, HG26⟩ := Kd.R_form HO_9.out (by omega)
                   (first | cases eo26 | (injection eo26 with ea_ en_ ec_; (first | subst ea_ | (injection ea_ with ea_; subst ea_)); subst ec_; clear en_))
                   have GB26 := Aside0.mk gb26
                   have GG26 := Aside0.mk HG26
                   clear gb26 gl26 HG26
                   obtain ⟨hx26_0, hf26_0⟩ := Kd.R_celln 0 HO_9.out ((ji23) : Int) p26 q26
                   replace p26 := eq_true p26
                   replace q26 := eq_true q26
                   have HP28 := Kd.R_putg HO_9.out ((ji23) : Int) (rd l1 (rd x7_1 (ji18)))
                   go_wp2_with (first | ((with_reducible refine gate_store (t := 5) (p := 50) rfl ?_); refine store_event (t := 5) (p := 50) (v := ?vo_w29) (w1 := (wr.setCell ⟨go26, ((ji23) : Int).toNat, none⟩ (.int .u8 (rd l1 (rd x7_1 (ji18)))))) ?hg ?ho ?hn ?hr ?_; (case ho => rfl); (case hg => rfl); (case hn => rfl); (case hr => first | (go_simp; done) | (go_simp; rfl)); intro w29 hw; have hg : wr.grownBy w29 (some go26) := (by rw [hw]; exact HP28.2); have hp_ : Kd.R (Kd.int .u8) 5 w29 w.heap.size (fun k_ => some k_ ≠ (.slice (some ad171) x7_1.length co27 : Value).ownBlock) (.slice (some ⟨go26, 0, none⟩) x9_3.length co26) y173 := (by rw [hw, Ny173.out]; exact HP28.1); clear HP28; have n0_ := Aside0.mk (Kd.R_after (v := (.slice (some ⟨go26, 0, none⟩) x9_3.length co26)) (v1 := (.slice (some ⟨go26, 0, none⟩) x9_3.length co26)) (ok := (fun _ => True)) (by (with_reducible repeat (first | apply Kd.R_alloc | apply Kd.R_drewN | apply Kd.R_drew)); exact Kd.R_mono HO_7.out (fun _ hk => ⟨trivial, hk⟩)) hg (.inl rfl)); have n1_ := Aside0.mk (hp_); have n2_ := Aside0.mk ((by rw [hw]; exact below_set (HB.out) GB26.out : Below w.heap.size w w29)); clear HO_7; clear HO_9; clear HB; have HO_7 := n0_; have HO_9 := n1_; have HB := n2_; clear n0_ n1_ n2_; clear hg hw hp_))
                   go_roundg k3
                   case measure => have := HK1.out; have := HK2.out; have := HK3.out; omega
                   case rel => exact ⟨(y173), (wrap64 (x11_3 + 1)), (by first | rfl | (simp; done) | (simp [*]; done)), H', ⟨by have := HK1.out; have := HK2.out; have := HK3.out; omega⟩, ⟨by (with_reducible repeat (first | apply Kd.R_alloc | apply Kd.R_drewN | apply Kd.R_drew)); exact Kd.R_mono HO_7.out (fun _ hk => hk.2)⟩, ⟨by (with_reducible repeat (first | apply Kd.R_alloc | apply Kd.R_drewN | apply Kd.R_drew)); exact HO_9.out⟩, ⟨by repeat (first | (with_reducible first | exact HB.out | apply below_alloc | apply pw_below_drewN | apply below_drew1) | exact HB.out)⟩⟩
                  ·rw [if_neg c25] at H
                   exact absurd H (by simp)
                 ·rw [if_neg c24] at H
                  exact absurd H (by simp)
                ·rw [if_neg c22] at H
                 exact absurd H (by simp)
               ·rw [if_neg c21] at H
                exact absurd H (by simp)
              ·rw [if_neg c20] at H
               exact absurd H (by simp)
             ·rw [if_neg c19] at H
              exact absurd H (by simp)
            ·rw [if_neg c17] at H
             have c17b0 : decide (x11_3 < 4) = false := decide_eq_false c17
             clear c17
             have H' := Aside0.mk H
             clear H
             go_wp2
             go_roundg k3
             case measure => have := HK1.out; have := HK2.out; have := HK3.out; omega
             case rel => exact ⟨(x9_3), (wrap64 (x10_2 + 1)), (by first | rfl | (simp; done) | (simp [*]; done)), H', ⟨by have := HK1.out; have := HK2.out; have := HK3.out; omega⟩, ⟨by (with_reducible repeat (first | apply Kd.R_alloc | apply Kd.R_drewN | apply Kd.R_drew)); exact HO_7.out⟩, ⟨by (with_reducible repeat (first | apply Kd.R_alloc | apply Kd.R_drewN | apply Kd.R_drew)); exact HO_9.out⟩, ⟨by repeat (first | (with_reducible first | exact HB.out | apply below_alloc | apply pw_below_drewN | apply below_drew1) | exact HB.out)⟩⟩
         ·rw [if_neg c16] at H
          have c16b0 : decide (x10_2 < 4) = false := decide_eq_false c16
          clear c16
          by_cases c30 : x8_1 < 10
          ·rw [if_pos c30] at H
           have c30b0 : decide (x8_1 < 10) = true := decide_eq_true c30
           clear c30
           have H' := Aside0.mk H
           clear H
           go_wp2
           go_loopg [12, 13] k2 (fun kq v12 v13 w' => ∃ (x12_3 : List Int) (x13_3 : Int), v13 = .int .i64 x13_3 ∧ Aside0 (spec_l3With.l3 kq l0 l1 x8_1 x9_2 x12_3 x13_3 = some r) ∧ Aside0 (kq ≤ k2) ∧ Aside0 (Kd.R (Kd.int .u8) 5 w' w.heap.size (fun k_ => some k_ ≠ (v12 : Value).ownBlock) v169 x9_2) ∧ Aside0 (Kd.R (Kd.int .u8) 5 w' w.heap.size (fun k_ => some k_ ≠ (v169 : Value).ownBlock) v12 x12_3) ∧ Aside0 (Below w.heap.size w w'))
           case atStart => exact ⟨(([] : List Int)), (0), (by first | rfl | (simp; done) | (simp [*]; done)), H', ⟨Nat.le_refl _⟩, ⟨by (with_reducible repeat (first | apply Kd.R_alloc | apply Kd.R_drewN | apply Kd.R_drew)); exact Kd.R_mono HO_9.out (fun _ hk => (by simp [Value.ownBlock]))⟩, ⟨by first | exact Kd.R_nil _ _ _ _ _ | exact Kd.N_nil _ _ _ _ _ | exact Kd.V_nil _ _ _ _ _ | exact Kd.Q_nil _ _ _ _ _ | exact Kd.S_nil _ _ _ _ _⟩, ⟨by repeat (first | (with_reducible first | exact HB.out | apply below_alloc | apply pw_below_drewN | apply below_drew1) | exact HB.out)⟩⟩
           case round =>
            clear H'
            try clear c1
            try clear p1
            try clear q1
            try clear hx1
            try clear c2
            try clear p2
            try clear q2
            try clear hx2
            try clear c3
            try clear c4
            try clear c4b0
            try clear c4b1
            try clear c4b2
            try clear c5
            try clear c5b0
            try clear c5b1
            try clear p6
            try clear c8
            try clear c9
            try clear c12
            try clear c12b0
            try clear c13
            try clear c13b0
            try clear c13b1
            try clear c16
            try clear c16b0
            try clear c17
            try clear c17b0
            try clear p17
            try clear q17
            try clear hx17
            try clear c19
            try clear c19b0
            try clear c20
            try clear c20b0
            try clear c21
            try clear c21b0
            try clear c22
            try clear c22b0
            try clear c24
            try clear c24b0
            try clear c25
            try clear c25b0
            try clear p26
            try clear q26
            try clear hx26
            try clear hf26
            try clear c30
            try clear c30b0
            try clear hx171_0
            try clear hx172_0
            try clear hx26_0
            try clear p171
            try clear p172
            try clear p2
            try clear p26
            try clear q171
            try clear q172
            try clear q26
            obtain ⟨x12_3, x13_3, rfl, HA, HK3, HO_9, HO_12, HB⟩ := hrel
            cases gk with
            | zero => exact absurd HA.out (by simp [spec_l3With.l3])
            | succ k3 =>
             have H := HA.out
             clear HA
             simp only [spec_l3With.l3] at H
             by_cases c31 : x13_3 < 4
             ·rw [if_pos c31] at H
              have c31b0 : decide (x13_3 < 4) = true := decide_eq_true c31
              clear c31
              obtain ⟨ji32, hji32⟩ : ∃ j_ : Int, (wrap64 (4 * x13_3)) = j_ := ⟨_, rfl⟩
              replace H : (if 0 ≤ (ji32) then (if (ji32) ≤ (wrap64 ((ji32) + 4)) then (if (wrap64 ((ji32) + 4)) ≤ (x9_2.length : Int) then ((spec_l3Mix.f k3 ((x9_2.take ((wrap64 ((ji32) + 4)) : Int).toNat).drop ((ji32) : Int).toNat) (([2, 3, 1, 1] : List Int))).bind fun t181 => (if x12_3.length + t181.length < 140737488355328 then (spec_l3With.l3 k3 l0 l1 x8_1 x9_2 (x12_3 ++ t181) (wrap64 (x13_3 + 1))) else (none))) else (none)) else (none)) else (none)) = some r := by first | (rw [hji32] at H; exact H) | (simp only [hji32] at H ⊢; exact H)
              have hji32w : (IntKind.i64.wrap (4 * x13_3)) = ji32 := (i64_w _).trans hji32
              by_cases c33 : 0 ≤ (ji32)
              ·rw [if_pos c33] at H
               have c33b0 := eq_true c33
               have c33b1 : decide (0 ≤ (ji32)) = true := decide_eq_true c33
               clear c33
               by_cases c34 : (ji32) ≤ (wrap64 ((ji32) + 4))
               ·rw [if_pos c34] at H
                have c34b0 := eq_true c34
                have c34b1 : decide ((ji32) ≤ (wrap64 ((ji32) + 4))) = true := decide_eq_true c34
                by_cases c35 : (wrap64 ((ji32) + 4)) ≤ (x9_2.length : Int)
                ·rw [if_pos c35] at H
                 have c35b0 := eq_true c35
                 have c35b1 : decide ((wrap64 ((ji32) + 4)) ≤ (x9_2.length : Int)) = true := decide_eq_true c35
                 obtain ⟨y174, hy174⟩ : ∃ y_ : List Int, y_ = ((x9_2.take ((wrap64 ((ji32) + 4)) : Int).toNat).drop ((ji32) : Int).toNat) := ⟨_, rfl⟩
                 replace H : ((spec_l3Mix.f k3 y174 (([2, 3, 1, 1] : List Int))).bind fun t181 => (if x12_3.length + t181.length < 140737488355328 then (spec_l3With.l3 k3 l0 l1 x8_1 x9_2 (x12_3 ++ t181) (wrap64 (x13_3 + 1))) else (none))) = some r := by first | (rw [hy174]; with_reducible exact H) | (have H2_ := (Option.bind_some _ _).symm.trans H; rw [hy174]; with_reducible exact H2_) | (have H2_ := (Option.bind_some _ _).symm.trans H; with_reducible exact H2_) | with_reducible exact H | (rw [hy174]; exact H) | exact H
                 have Ny174 := Aside0.mk hy174
                 clear hy174
                 obtain ⟨y178, hy178⟩ : ∃ y_ : List Int, y_ = (([2, 3, 1, 1] : List Int)) := ⟨_, rfl⟩
                 replace H : ((spec_l3Mix.f k3 y174 y178).bind fun t181 => (if x12_3.length + t181.length < 140737488355328 then (spec_l3With.l3 k3 l0 l1 x8_1 x9_2 (x12_3 ++ t181) (wrap64 (x13_3 + 1))) else (none))) = some r := by first | (rw [hy178]; with_reducible exact H) | (have H2_ := (Option.bind_some _ _).symm.trans H; rw [hy178]; with_reducible exact H2_) | (have H2_ := (Option.bind_some _ _).symm.trans H; with_reducible exact H2_) | with_reducible exact H | (rw [hy178]; exact H) | exact H
                 have Ny178 := Aside0.mk hy178
                 clear hy178
                 replace H := Option.bind_eq_some_iff.mp H
                 obtain ⟨t181, A360, H⟩ := H
                 replace H : (if x12_3.length + t181.length < 140737488355328 then (spec_l3With.l3 k3 l0 l1 x8_1 x9_2 (x12_3 ++ t181) (wrap64 (x13_3 + 1))) else (none)) = some r := H
                 have A36 := Aside0.mk A360
                 clear A360
                 by_cases c37 : x12_3.length + t181.length < 140737488355328
                 ·rw [if_pos c37] at H
                  have LMc37 := Aside0.mk c37
                  clear c37
                  obtain ⟨y184, hy184⟩ : ∃ y_ : List Int, y_ = (x12_3 ++ t181) := ⟨_, rfl⟩
                  replace H : (spec_l3With.l3 k3 l0 l1 x8_1 x9_2 y184 (wrap64 (x13_3 + 1))) = some r := by first | (rw [hy184]; with_reducible exact H) | (have H2_ := (Option.bind_some _ _).symm.trans H; rw [hy184]; with_reducible exact H2_) | (have H2_ := (Option.bind_some _ _).symm.trans H; with_reducible exact H2_) | with_reducible exact H | (rw [hy184]; exact H) | exact H
                  have Ny184 := Aside0.mk hy184
                  clear hy184
                  have H' := Aside0.mk H
                  clear H
                  obtain ⟨Ao39, co39, eo39⟩ := Kd.R_slice HO_9.out
                  subst eo39
                  have q38 : ((wrap64 ((ji32) + 4)) : Int) ≤ ((x9_2.length : Int) : Int) := of_decide_eq_true (by first | (with_reducible assumption) | assumption)
                  obtain ⟨i038, hi038, _, hsz38, _⟩ := info_parts info5
                  have hroom38 : x9_2.length ≤ co39 := (Kd.R_reads' HO_9.out).2.1
                  have hC38 : Kd.C (Kd.int .u8) _ Ao39 x9_2.length x9_2 := (Kd.R_reads' HO_9.out).2.2
                  have ql38 : ((ji32) : Int) ≤ ((wrap64 ((ji32) + 4)) : Int) := of_decide_eq_true (by first | (with_reducible assumption) | assumption)
                  have q038 : (0 : Int) ≤ ((ji32) : Int) := of_decide_eq_true (by first | (with_reducible assumption) | assumption)
                  have hcut38 := cut_mid (P := Try.prog) 43 5 .i64 .i64 Try.underlying43 hi038 1 hsz38 Ao39 x9_2.length co39 (ji32) (wrap64 ((ji32) + 4)) q038 ql38 q38 hroom38
                  have hr38 := Kd.C_mid (lo := ((ji32) : Int).toNat) (hi := ((wrap64 ((ji32) + 4)) : Int).toNat) (c := co39) hC38 (by omega) (by omega) hroom38
                  obtain ⟨A38, hA38⟩ : ∃ A1, A1 = (if co39 = ((ji32) : Int).toNat then Ao39 else (Ao39 : Option Addr).map (·.add (((ji32) : Int).toNat * 1))) := ⟨_, rfl⟩
                  obtain ⟨c38, hc38⟩ : ∃ c1, c1 = co39 - ((ji32) : Int).toNat := ⟨_, rfl⟩
                  have hy38 : y174.length = ((wrap64 ((ji32) + 4)) : Int).toNat - ((ji32) : Int).toNat := (by rw [Ny174.out, List.length_drop, List.length_take] <;> omega)
                  rw [show ((x9_2).take ((wrap64 ((ji32) + 4)) : Int).toNat).drop ((ji32) : Int).toNat = y174 from Ny174.out.symm] at hr38
                  replace hr38 : Kd.C (Kd.int .u8) _ A38 y174.length y174 := (by rw [hA38]; exact hr38)
                  rw [← hy38, ← hA38, ← hc38] at hcut38
                  have HR177 := Aside0.mk hr38
                  have HC177 := Aside0.mk (show y174.length ≤ c38 from by rw [hy38, hc38]; exact Nat.sub_le_sub_right (Nat.le_trans (by omega) hroom38) _)
                  clear hr38 hC38 hroom38 hi038 hsz38 hc38
                  have KY38 := Aside0.mk hy38
                  have KA38 := Aside0.mk hA38
                  clear hy38 hA38
                  have KL38 := Aside0.mk (show ((wrap64 ((ji32) + 4)) : Int).toNat ≤ x9_2.length from by omega)
                  have KM38 := Aside0.mk (show ((ji32) : Int).toNat ≤ ((wrap64 ((ji32) + 4)) : Int).toNat from by omega)
                  replace q38 := eq_true q38
                  go_wp2_with (first | ((with_reducible refine gate_dst (N := 65) rfl ?_); refine Kd.R_lit (Kd.int .u8) _ 5 ?hg (N := 65) ?hd (xs := ([2, 3, 1, 1] : List Int)) (inner := [.int .u8 2, .int .u8 3, .int .u8 1, .int .u8 1]) (ok := fun _ => True) (okp := fun _ => True) ?hr ?hp (fun _ hk => hk) trivial (Below.refl _ _) (Nat.le_refl _) (by simp) ?_; (case hd => rfl); (case hg => rfl); (case hr => first | (go_simp; done) | (go_simp; rfl)); (case hp => exact (Reps.one (show Kd.M (Kd.int .u8) _ _ _ 2 [.int .u8 2] from rfl) (Reps.one (show Kd.M (Kd.int .u8) _ _ _ 3 [.int .u8 3] from rfl) (Reps.one (show Kd.M (Kd.int .u8) _ _ _ 1 [.int .u8 1] from rfl) (Reps.one (show Kd.M (Kd.int .u8) _ _ _ 1 [.int .u8 1] from rfl) (Reps.none _ _)))))); intro v179 w40 ho41 hb hg_ hnew_; clear hg_ hnew_; (first | rw [← Ny178.out] at ho41 | (simp only [Int.reduceToNat] at ho41; rw [← Ny178.out] at ho41)); have n0_ := Aside0.mk (Kd.R_elder' (by (with_reducible repeat (first | apply Kd.R_alloc | apply Kd.R_drewN | apply Kd.R_drew)); exact HO_9.out) (Kd.R_base ho41) hb); have n1_ := Aside0.mk (Kd.R_elder' (by (with_reducible repeat (first | apply Kd.R_alloc | apply Kd.R_drewN | apply Kd.R_drew)); exact HO_12.out) (Kd.R_base ho41) hb); have n2_ := Aside0.mk (Kd.R_lower (Kd.R_new' (Kd.R_new' ho41 (Kd.R_lt (by (with_reducible repeat (first | apply Kd.R_alloc | apply Kd.R_drewN | apply Kd.R_drew)); exact HO_9.out))) (Kd.R_lt (by (with_reducible repeat (first | apply Kd.R_alloc | apply Kd.R_drewN | apply Kd.R_drew)); exact HO_12.out))) (below_size (by repeat (first | (with_reducible first | exact HB.out | apply below_alloc | apply pw_below_drewN | apply below_drew1) | exact HB.out)))); have n3_ := Aside0.mk (Kd.C_below (by repeat (first | (with_reducible exact HR177.out) | (with_reducible refine Kd.C_alloc ?_ _) | (with_reducible refine Kd.C_drewN ?_ _) | (with_reducible refine Kd.C_drew ?_) | exact HR177.out)) hb); have n4_ := Aside0.mk (below_step (by repeat (first | (with_reducible first | exact HB.out | apply below_alloc | apply pw_below_drewN | apply below_drew1) | exact HB.out)) hb); clear HO_9; clear HO_12; clear HR177; clear HB; have HO_9 := n0_; have HO_12 := n1_; have HO180 := n2_; have HR177 := n3_; have HB := n4_; clear n0_ n1_ n2_ n3_ n4_; clear hb ho41; obtain ⟨Ao42, co42, eo42⟩ := Kd.R_slice HO180.out; subst eo42) | ((with_reducible refine gate_callee (f := 47) rfl ?_); refine goesL_ (some 66) rfl rfl Try.func47 (by kernel_rfl) rfl #[.slice A38 y174.length c38, .slice Ao42 y178.length co42] rfl (by (try simp only [List.map_toArray, List.map_cons, List.map_nil]); first | done | rfl | (simp only [List.length_drop, List.length_take]; rfl)) ?_; (with_reducible refine (spec_l3Mix.calls k3 _ _ y174 _ _ y178 t181 _ ?side1 ?side2 ?side3 ?side4 A36.out).mono ?_); (case side1 => repeat (first | exact (by repeat (first | (with_reducible exact HR177.out) | (with_reducible refine Kd.C_alloc ?_ _) | (with_reducible refine Kd.C_drewN ?_ _) | (with_reducible refine Kd.C_drew ?_) | exact HR177.out)) | (with_reducible refine Kd.C_alloc ?_ _) | (with_reducible refine Kd.C_drewN ?_ _) | (with_reducible refine Kd.C_drew ?_))); (case side2 => exact HC177.out); (case side3 => repeat (first | exact (Kd.R_reads' HO180.out).2.2 | (with_reducible refine Kd.C_alloc ?_ _) | (with_reducible refine Kd.C_drewN ?_ _) | (with_reducible refine Kd.C_drew ?_))); (case side4 => exact (Kd.R_reads' HO180.out).2.1); rintro e w43 ⟨v182, rfl, ho0, hb⟩; refine ⟨_, rfl, ?_⟩; have n0_ := Aside0.mk (Kd.R_elder' (by (with_reducible repeat (first | apply Kd.R_alloc | apply Kd.R_drewN | apply Kd.R_drew)); exact HO_9.out) (Kd.R_base ho0) hb); have n1_ := Aside0.mk (Kd.R_elder' (by (with_reducible repeat (first | apply Kd.R_alloc | apply Kd.R_drewN | apply Kd.R_drew)); exact HO_12.out) (Kd.R_base ho0) hb); have n2_ := Aside0.mk (Kd.R_elder' (by (with_reducible repeat (first | apply Kd.R_alloc | apply Kd.R_drewN | apply Kd.R_drew)); exact HO180.out) (Kd.R_base ho0) hb); have n3_ := Aside0.mk (Kd.R_lower (Kd.R_new' (Kd.R_new' (Kd.R_new' ho0 (Kd.R_lt (by (with_reducible repeat (first | apply Kd.R_alloc | apply Kd.R_drewN | apply Kd.R_drew)); exact HO_9.out))) (Kd.R_lt (by (with_reducible repeat (first | apply Kd.R_alloc | apply Kd.R_drewN | apply Kd.R_drew)); exact HO_12.out))) (Kd.R_lt (by (with_reducible repeat (first | apply Kd.R_alloc | apply Kd.R_drewN | apply Kd.R_drew)); exact HO180.out))) (below_size (by repeat (first | (with_reducible first | exact HB.out | apply below_alloc | apply pw_below_drewN | apply below_drew1) | exact HB.out)))); have n4_ := Aside0.mk (Kd.C_below (by repeat (first | (with_reducible exact HR177.out) | (with_reducible refine Kd.C_alloc ?_ _) | (with_reducible refine Kd.C_drewN ?_ _) | (with_reducible refine Kd.C_drew ?_) | exact HR177.out)) hb); have n5_ := Aside0.mk (below_step (by repeat (first | (with_reducible first | exact HB.out | apply below_alloc | apply pw_below_drewN | apply below_drew1) | exact HB.out)) hb); clear HO_9; clear HO_12; clear HO180; clear HR177; clear HB; have HO_9 := n0_; have HO_12 := n1_; have HO180 := n2_; have HO183 := n3_; have HR177 := n4_; have HB := n5_; clear n0_ n1_ n2_ n3_ n4_ n5_; (try clear hb); (try clear hb2); (try clear hk); (try clear hi); (try clear ho0); obtain ⟨Ao45, co45, eo45⟩ := Kd.R_slice HO183.out; subst eo45) | ((with_reducible refine gate_builtin (b := .append) (xs := #[.tmp 57, .tmp 66]) rfl ?_); at_builtin; refine Kd.R_append_rows (Kd.int .u8) (w0 := w) w.heap.size rfl (.tmp 57) (.tmp 66) 43 5 (.int .u8 0) 1 rfl Try.underlying43 info5 rfl (by decide) (by omega) u12 x12_3 t181 _ _ _ (fun k_ => some k_ ≠ (.slice Ao39 x9_2.length co39 : Value).ownBlock ∧ some k_ ≠ (.slice Ao42 y178.length co42 : Value).ownBlock ∧ some k_ ≠ (.slice Ao45 t181.length co45 : Value).ownBlock) (fun _ => False) rfl rfl ?aO ?aR (fun _ _ h => h) (fun _ h => h.elim) ?aF ?aB ?aS ?aL ?_; (case aR => repeat (first | exact (Kd.R_reads' HO183.out).2.2 | (with_reducible refine Kd.C_alloc ?_ _) | (with_reducible refine Kd.C_drewN ?_ _) | (with_reducible refine Kd.C_drew ?_))); (case aB => exact (by repeat (first | (with_reducible first | exact HB.out | apply below_alloc | apply pw_below_drewN | apply below_drew1) | exact HB.out))); (case aF => exact (fun k_ hk => ⟨Kd.fresh' (Kd.R_lt (by (with_reducible repeat (first | apply Kd.R_alloc | apply Kd.R_drewN | apply Kd.R_drew)); exact HO_9.out)) k_ hk, Kd.fresh' (Kd.R_lt (by (with_reducible repeat (first | apply Kd.R_alloc | apply Kd.R_drewN | apply Kd.R_drew)); exact HO180.out)) k_ hk, Kd.fresh' (Kd.R_lt (by (with_reducible repeat (first | apply Kd.R_alloc | apply Kd.R_drewN | apply Kd.R_drew)); exact HO183.out)) k_ hk⟩)); (case aO => exact (by (with_reducible repeat (first | apply Kd.R_alloc | apply Kd.R_drewN | apply Kd.R_drew)); exact Kd.R_mono HO_12.out (fun _ hk => ⟨hk.1.1, ⟨hk.1.2, hk.2⟩⟩))); (case aS => exact (below_size (by repeat (first | (with_reducible first | exact HB.out | apply below_alloc | apply pw_below_drewN | apply below_drew1) | exact HB.out)))); (case aL => have := LMc37.out; omega); intro v185 w44 ho hb hg hat; rw [← Ny184.out] at ho; have n0_ := Aside0.mk (Kd.R_after (ok := (fun k_ => some k_ ≠ (.slice Ao42 y178.length co42 : Value).ownBlock ∧ some k_ ≠ (.slice Ao45 t181.length co45 : Value).ownBlock)) (by (with_reducible repeat (first | apply Kd.R_alloc | apply Kd.R_drewN | apply Kd.R_drew)); exact Kd.R_mono HO_9.out (fun _ hk => ⟨⟨hk.1.2, hk.2⟩, hk.1.1⟩)) hg hat); have n1_ := Aside0.mk (Kd.R_after (ok := (fun k_ => some k_ ≠ (.slice Ao39 x9_2.length co39 : Value).ownBlock ∧ some k_ ≠ (.slice Ao45 t181.length co45 : Value).ownBlock)) (by (with_reducible repeat (first | apply Kd.R_alloc | apply Kd.R_drewN | apply Kd.R_drew)); exact Kd.R_mono HO180.out (fun _ hk => ⟨⟨hk.1.1.2, hk.2⟩, hk.1.2⟩)) hg hat); have n2_ := Aside0.mk (Kd.R_after (ok := (fun k_ => some k_ ≠ (.slice Ao39 x9_2.length co39 : Value).ownBlock ∧ some k_ ≠ (.slice Ao42 y178.length co42 : Value).ownBlock)) (by (with_reducible repeat (first | apply Kd.R_alloc | apply Kd.R_drewN | apply Kd.R_drew)); exact Kd.R_mono HO183.out (fun _ hk => ⟨⟨hk.1.1.2, hk.2⟩, hk.1.2⟩)) hg hat); have n3_ := Aside0.mk (hb); have n4_ := Aside0.mk ((show Kd.C (Kd.int .u8) w44 A38 y174.length y174 from by rw [Ny174.out, KA38.out]; exact Kd.C_mid (lo := ((ji32) : Int).toNat) (hi := ((wrap64 ((ji32) + 4)) : Int).toNat) (c := co39) ((Kd.R_reads' (Kd.R_after (ok := (fun k_ => some k_ ≠ (.slice Ao42 y178.length co42 : Value).ownBlock ∧ some k_ ≠ (.slice Ao45 t181.length co45 : Value).ownBlock)) (by (with_reducible repeat (first | apply Kd.R_alloc | apply Kd.R_drewN | apply Kd.R_drew)); exact Kd.R_mono HO_9.out (fun _ hk => ⟨⟨hk.1.2, hk.2⟩, hk.1.1⟩)) hg hat)).2.2) KM38.out KL38.out ((Kd.R_reads' (Kd.R_after (ok := (fun k_ => some k_ ≠ (.slice Ao42 y178.length co42 : Value).ownBlock ∧ some k_ ≠ (.slice Ao45 t181.length co45 : Value).ownBlock)) (by (with_reducible repeat (first | apply Kd.R_alloc | apply Kd.R_drewN | apply Kd.R_drew)); exact Kd.R_mono HO_9.out (fun _ hk => ⟨⟨hk.1.2, hk.2⟩, hk.1.1⟩)) hg hat)).2.1))); have n5_ := Aside0.mk (ho); clear HO_9; clear HO180; clear HO183; clear HB; clear HR177; clear HO_12; have HO_9 := n0_; have HO180 := n1_; have HO183 := n2_; have HB := n3_; have HR177 := n4_; have HO186 := n5_; clear n0_ n1_ n2_ n3_ n4_ n5_; clear ho hb hg hat))
                  go_roundg k3
                  case measure => have := HK1.out; have := HK2.out; have := HK3.out; omega
                  case rel => exact ⟨(y184), (wrap64 (x13_3 + 1)), (by first | rfl | (simp; done) | (simp [*]; done)), H', ⟨by have := HK1.out; have := HK2.out; have := HK3.out; omega⟩, ⟨by (with_reducible repeat (first | apply Kd.R_alloc | apply Kd.R_drewN | apply Kd.R_drew)); exact Kd.R_mono HO_9.out (fun _ hk => hk.2)⟩, ⟨by (with_reducible repeat (first | apply Kd.R_alloc | apply Kd.R_drewN | apply Kd.R_drew)); exact Kd.R_mono HO186.out (fun _ hk => hk.1)⟩, ⟨by repeat (first | (with_reducible first | exact HB.out | apply below_alloc | apply pw_below_drewN | apply below_drew1) | exact HB.out)⟩⟩
                 ·rw [if_neg c37] at H
                  exact absurd H (by simp)
                ·rw [if_neg c35] at H
                 exact absurd H (by simp)
               ·rw [if_neg c34] at H
                exact absurd H (by simp)
              ·rw [if_neg c33] at H
               exact absurd H (by simp)
             ·rw [if_neg c31] at H
              have c31b0 : decide (x13_3 < 4) = false := decide_eq_false c31
              clear c31
              obtain ⟨ji46, hji46⟩ : ∃ j_ : Int, (wrap64 (16 * x8_1)) = j_ := ⟨_, rfl⟩
              replace H : (if 0 ≤ (ji46) then (if (ji46) ≤ (wrap64 ((ji46) + 16)) then (if (wrap64 ((ji46) + 16)) ≤ (l0.length : Int) then ((spec_l3Xor.f k3 x12_3 ((l0.take ((wrap64 ((ji46) + 16)) : Int).toNat).drop ((ji46) : Int).toNat)).bind fun t188 => (spec_l3With.l0 k3 l0 l1 t188 (wrap64 (x8_1 + 1)))) else (none)) else (none)) else (none)) = some r := by first | (rw [hji46] at H; exact H) | (simp only [hji46] at H ⊢; exact H)
              have hji46w : (IntKind.i64.wrap (16 * x8_1)) = ji46 := (i64_w _).trans hji46
              by_cases c47 : 0 ≤ (ji46)
              ·rw [if_pos c47] at H
               have c47b0 := eq_true c47
               have c47b1 : decide (0 ≤ (ji46)) = true := decide_eq_true c47
               clear c47
               by_cases c48 : (ji46) ≤ (wrap64 ((ji46) + 16))
               ·rw [if_pos c48] at H
                have c48b0 := eq_true c48
                have c48b1 : decide ((ji46) ≤ (wrap64 ((ji46) + 16))) = true := decide_eq_true c48
                by_cases c49 : (wrap64 ((ji46) + 16)) ≤ (l0.length : Int)
                ·rw [if_pos c49] at H
                 have c49b0 := eq_true c49
                 have c49b1 : decide ((wrap64 ((ji46) + 16)) ≤ (l0.length : Int)) = true := decide_eq_true c49
                 replace H := Option.bind_eq_some_iff.mp H
                 obtain ⟨t188, A500, H⟩ := H
                 replace H : (spec_l3With.l0 k3 l0 l1 t188 (wrap64 (x8_1 + 1))) = some r := H
                 have A50 := Aside0.mk A500
                 clear A500
                 have H' := Aside0.mk H
                 clear H
                 obtain ⟨i051, hi051, _, hsz51, _⟩ := info_parts info5
                 obtain ⟨A51, hcut51, hA51, hC51⟩ := print_mid_of (P := Try.prog) (Value.int .u8) 0 43 5 .i64 .i64 Try.underlying43 hi051 hsz51 A0 c0 l0 (ji46) (wrap64 ((ji46) + 16)) (of_decide_eq_true (by first | (with_reducible assumption) | assumption)) (by first | omega | exact of_decide_eq_true (by first | (with_reducible assumption) | assumption)) (of_decide_eq_true (by first | (with_reducible assumption) | assumption)) HC0.out
                 have HR187 := Aside0.mk (Kd.C_of_reads (h1 := fun _ => rfl) (hA51 _ (Kd.reads_of_C HR0.out)))
                 have HC187 := Aside0.mk hC51
                 clear hA51 hC51 hi051 hsz51
                 obtain ⟨Ao52, co52, eo52⟩ := Kd.R_slice HO_12.out
                 subst eo52
                 go_wp2_with (first | ((with_reducible refine gate_callee (f := 89) rfl ?_); refine goesL_ (some 77) rfl rfl Try.func89 (by kernel_rfl) rfl #[.slice Ao52 x12_3.length co52, .slice A51 ((l0.take ((wrap64 ((ji46) + 16)) : Int).toNat).drop ((ji46) : Int).toNat).length (c0 - (ji46).toNat)] rfl (by (try simp only [List.map_toArray, List.map_cons, List.map_nil]); first | done | (rw [show ((l0.take ((wrap64 ((ji46) + 16)) : Int).toNat).drop ((ji46) : Int).toNat).length = ((wrap64 ((ji46) + 16)).toNat - (ji46).toNat) from (by rw [List.length_drop, List.length_take]; have h_ : ((wrap64 ((ji46) + 16)) : Int) ≤ (l0.length : Int) := of_decide_eq_true (by first | (with_reducible assumption) | assumption); omega)] <;> rfl) | (simp only [hji46]; rfl) | rfl | (simp only [List.length_drop, List.length_take]; rfl)) ?_; (with_reducible refine (spec_l3Xor.calls k3 _ _ x12_3 _ _ ((l0.take ((wrap64 ((ji46) + 16)) : Int).toNat).drop ((ji46) : Int).toNat) t188 _ ?side1 ?side2 ?side3 ?side4 A50.out).mono ?_); (case side1 => repeat (first | exact (Kd.R_reads' HO_12.out).2.2 | (with_reducible refine Kd.C_alloc ?_ _) | (with_reducible refine Kd.C_drewN ?_ _) | (with_reducible refine Kd.C_drew ?_))); (case side2 => exact (Kd.R_reads' HO_12.out).2.1); (case side3 => repeat (first | exact (Kd.C_below HR187.out HB.out) | (with_reducible refine Kd.C_alloc ?_ _) | (with_reducible refine Kd.C_drewN ?_ _) | (with_reducible refine Kd.C_drew ?_))); (case side4 => exact HC187.out); rintro e w53 ⟨v189, rfl, ho0, hb⟩; refine ⟨_, rfl, ?_⟩; have n0_ := Aside0.mk (Kd.R_elder' (by (with_reducible repeat (first | apply Kd.R_alloc | apply Kd.R_drewN | apply Kd.R_drew)); exact HO_9.out) (Kd.R_base ho0) hb); have n1_ := Aside0.mk (Kd.R_elder' (by (with_reducible repeat (first | apply Kd.R_alloc | apply Kd.R_drewN | apply Kd.R_drew)); exact HO_12.out) (Kd.R_base ho0) hb); have n2_ := Aside0.mk (Kd.R_lower (Kd.R_new' (Kd.R_new' ho0 (Kd.R_lt (by (with_reducible repeat (first | apply Kd.R_alloc | apply Kd.R_drewN | apply Kd.R_drew)); exact HO_9.out))) (Kd.R_lt (by (with_reducible repeat (first | apply Kd.R_alloc | apply Kd.R_drewN | apply Kd.R_drew)); exact HO_12.out))) (below_size (by repeat (first | (with_reducible first | exact HB.out | apply below_alloc | apply pw_below_drewN | apply below_drew1) | exact HB.out)))); have n3_ := Aside0.mk (below_step (by repeat (first | (with_reducible first | exact HB.out | apply below_alloc | apply pw_below_drewN | apply below_drew1) | exact HB.out)) hb); clear HO_9; clear HO_12; clear HB; have HO_9 := n0_; have HO_12 := n1_; have HO190 := n2_; have HB := n3_; clear n0_ n1_ n2_ n3_; (try clear hb); (try clear hb2); (try clear hk); (try clear hi); (try clear ho0)))
                 go_roundg k3
                 case measure => have := HK1.out; have := HK2.out; have := HK3.out; omega
                 case rel => exact ⟨(t188), (wrap64 (x8_1 + 1)), (by first | rfl | (simp; done) | (simp [*]; done)), H', ⟨by have := HK1.out; have := HK2.out; have := HK3.out; omega⟩, ⟨by (with_reducible repeat (first | apply Kd.R_alloc | apply Kd.R_drewN | apply Kd.R_drew)); exact Kd.R_mono HO190.out (fun _ hk => trivial)⟩, ⟨by repeat (first | (with_reducible first | exact HB.out | apply below_alloc | apply pw_below_drewN | apply below_drew1) | exact HB.out)⟩⟩
                ·rw [if_neg c49] at H
                 exact absurd H (by simp)
               ·rw [if_neg c48] at H
                exact absurd H (by simp)
              ·rw [if_neg c47] at H
               exact absurd H (by simp)
          ·rw [if_neg c30] at H
           have c30b0 : decide (x8_1 < 10) = false := decide_eq_false c30
           clear c30
           obtain ⟨ji54, hji54⟩ : ∃ j_ : Int, (wrap64 (16 * x8_1)) = j_ := ⟨_, rfl⟩
           replace H : (if 0 ≤ (ji54) then (if (ji54) ≤ (wrap64 ((ji54) + 16)) then (if (wrap64 ((ji54) + 16)) ≤ (l0.length : Int) then ((spec_l3Xor.f k2 x9_2 ((l0.take ((wrap64 ((ji54) + 16)) : Int).toNat).drop ((ji54) : Int).toNat)).bind fun t192 => (spec_l3With.l0 k2 l0 l1 t192 (wrap64 (x8_1 + 1)))) else (none)) else (none)) else (none)) = some r := by first | (rw [hji54] at H; exact H) | (simp only [hji54] at H ⊢; exact H)
           have hji54w : (IntKind.i64.wrap (16 * x8_1)) = ji54 := (i64_w _).trans hji54
           by_cases c55 : 0 ≤ (ji54)
           ·rw [if_pos c55] at H
            have c55b0 := eq_true c55
            have c55b1 : decide (0 ≤ (ji54)) = true := decide_eq_true c55
            clear c55
            by_cases c56 : (ji54) ≤ (wrap64 ((ji54) + 16))
            ·rw [if_pos c56] at H
             have c56b0 := eq_true c56
             have c56b1 : decide ((ji54) ≤ (wrap64 ((ji54) + 16))) = true := decide_eq_true c56
             by_cases c57 : (wrap64 ((ji54) + 16)) ≤ (l0.length : Int)
             ·rw [if_pos c57] at H
              have c57b0 := eq_true c57
              have c57b1 : decide ((wrap64 ((ji54) + 16)) ≤ (l0.length : Int)) = true := decide_eq_true c57
              replace H := Option.bind_eq_some_iff.mp H
              obtain ⟨t192, A580, H⟩ := H
              replace H : (spec_l3With.l0 k2 l0 l1 t192 (wrap64 (x8_1 + 1))) = some r := H
              have A58 := Aside0.mk A580
              clear A580
              have H' := Aside0.mk H
              clear H
              obtain ⟨i059, hi059, _, hsz59, _⟩ := info_parts info5
              obtain ⟨A59, hcut59, hA59, hC59⟩ := print_mid_of (P := Try.prog) (Value.int .u8) 0 43 5 .i64 .i64 Try.underlying43 hi059 hsz59 A0 c0 l0 (ji54) (wrap64 ((ji54) + 16)) (of_decide_eq_true (by first | (with_reducible assumption) | assumption)) (by first | omega | exact of_decide_eq_true (by first | (with_reducible assumption) | assumption)) (of_decide_eq_true (by first | (with_reducible assumption) | assumption)) HC0.out
              have HR191 := Aside0.mk (Kd.C_of_reads (h1 := fun _ => rfl) (hA59 _ (Kd.reads_of_C HR0.out)))
              have HC191 := Aside0.mk hC59
              clear hA59 hC59 hi059 hsz59
              obtain ⟨Ao60, co60, eo60⟩ := Kd.R_slice HO_9.out
              subst eo60
              go_wp2_with (first | ((with_reducible refine gate_callee (f := 89) rfl ?_); refine goesL_ (some 77) rfl rfl Try.func89 (by kernel_rfl) rfl #[.slice Ao60 x9_2.length co60, .slice A59 ((l0.take ((wrap64 ((ji54) + 16)) : Int).toNat).drop ((ji54) : Int).toNat).length (c0 - (ji54).toNat)] rfl (by (try simp only [List.map_toArray, List.map_cons, List.map_nil]); first | done | (rw [show ((l0.take ((wrap64 ((ji54) + 16)) : Int).toNat).drop ((ji54) : Int).toNat).length = ((wrap64 ((ji54) + 16)).toNat - (ji54).toNat) from (by rw [List.length_drop, List.length_take]; have h_ : ((wrap64 ((ji54) + 16)) : Int) ≤ (l0.length : Int) := of_decide_eq_true (by first | (with_reducible assumption) | assumption); omega)] <;> rfl) | (simp only [hji54]; rfl) | rfl | (simp only [List.length_drop, List.length_take]; rfl)) ?_; (with_reducible refine (spec_l3Xor.calls k2 _ _ x9_2 _ _ ((l0.take ((wrap64 ((ji54) + 16)) : Int).toNat).drop ((ji54) : Int).toNat) t192 _ ?side1 ?side2 ?side3 ?side4 A58.out).mono ?_); (case side1 => repeat (first | exact (Kd.R_reads' HO_9.out).2.2 | (with_reducible refine Kd.C_alloc ?_ _) | (with_reducible refine Kd.C_drewN ?_ _) | (with_reducible refine Kd.C_drew ?_))); (case side2 => exact (Kd.R_reads' HO_9.out).2.1); (case side3 => repeat (first | exact (Kd.C_below HR191.out HB.out) | (with_reducible refine Kd.C_alloc ?_ _) | (with_reducible refine Kd.C_drewN ?_ _) | (with_reducible refine Kd.C_drew ?_))); (case side4 => exact HC191.out); rintro e w61 ⟨v193, rfl, ho0, hb⟩; refine ⟨_, rfl, ?_⟩; have n0_ := Aside0.mk (Kd.R_elder' (by (with_reducible repeat (first | apply Kd.R_alloc | apply Kd.R_drewN | apply Kd.R_drew)); exact HO_7.out) (Kd.R_base ho0) hb); have n1_ := Aside0.mk (Kd.R_elder' (by (with_reducible repeat (first | apply Kd.R_alloc | apply Kd.R_drewN | apply Kd.R_drew)); exact HO_9.out) (Kd.R_base ho0) hb); have n2_ := Aside0.mk (Kd.R_lower (Kd.R_new' (Kd.R_new' ho0 (Kd.R_lt (by (with_reducible repeat (first | apply Kd.R_alloc | apply Kd.R_drewN | apply Kd.R_drew)); exact HO_7.out))) (Kd.R_lt (by (with_reducible repeat (first | apply Kd.R_alloc | apply Kd.R_drewN | apply Kd.R_drew)); exact HO_9.out))) (below_size (by repeat (first | (with_reducible first | exact HB.out | apply below_alloc | apply pw_below_drewN | apply below_drew1) | exact HB.out)))); have n3_ := Aside0.mk (below_step (by repeat (first | (with_reducible first | exact HB.out | apply below_alloc | apply pw_below_drewN | apply below_drew1) | exact HB.out)) hb); clear HO_7; clear HO_9; clear HB; have HO_7 := n0_; have HO_9 := n1_; have HO194 := n2_; have HB := n3_; clear n0_ n1_ n2_ n3_; (try clear hb); (try clear hb2); (try clear hk); (try clear hi); (try clear ho0)))
              go_roundg k2
              case measure => have := HK1.out; have := HK2.out; omega
              case rel => exact ⟨(t192), (wrap64 (x8_1 + 1)), (by first | rfl | (simp; done) | (simp [*]; done)), H', ⟨by have := HK1.out; have := HK2.out; omega⟩, ⟨by (with_reducible repeat (first | apply Kd.R_alloc | apply Kd.R_drewN | apply Kd.R_drew)); exact Kd.R_mono HO194.out (fun _ hk => trivial)⟩, ⟨by repeat (first | (with_reducible first | exact HB.out | apply below_alloc | apply pw_below_drewN | apply below_drew1) | exact HB.out)⟩⟩
             ·rw [if_neg c57] at H
              exact absurd H (by simp)
            ·rw [if_neg c56] at H
             exact absurd H (by simp)
           ·rw [if_neg c55] at H
            exact absurd H (by simp)
      ·rw [if_neg c13] at H
       exact absurd H (by simp)
     ·rw [if_neg c12] at H
      have c12b0 : decide (x8_1 ≤ 10) = false := decide_eq_false c12
      clear c12
      obtain rfl := Option.some.inj H
      have hcv62 := own_string (P := Try.prog) Try.underlying43 Try.underlying5 Try.underlying9 (Kd.own_of_R HO_7.out)
      go_wp2
      go_ret
      exact ⟨by first | rfl | (simp [errW_none, errW_some] <;> rfl) | (simp [*, errW_none, errW_some] <;> rfl), by repeat (first | (with_reducible first | exact HB.out | apply below_alloc | apply pw_below_drewN | apply below_drew1) | exact HB.out)⟩
  ·rw [if_neg c5] at H
   exact absurd H (by simp)
 ·rw [if_neg c4] at H
  exact absurd H (by simp)

/-! ### spec_l3Table: function 94 -/
def spec_l3Table.l0 : Nat → List Int → Int → Int → Option (List Int)
 | 0, _, _, _ => none
 | k + 1, x1, x5, x6 => if x6 < x5 then ((spec_l3Sub.f k ((x6) % 256)).bind fun t198 => (if 0 ≤ x6 then (if x6 < (x1.length : Int) then (spec_l3Table.l0 k (x1.set (x6 : Int).toNat t198) x5 (wrap64 (x6 + 1))) else (none)) else (none))) else (some x1)
def spec_l3Table.f (k : Nat)  : Option (List Int) := if 256 ≤ 281474976710656 then ((some (List.replicate 256 0 : List Int)).bind fun y195 => (spec_l3Table.l0 k y195 (y195.length : Int) 0)) else (none)
set_option maxHeartbeats 8000000 in
set_option maxRecDepth 100000 in
theorem spec_l3Table.calls (k : Nat)  (r : List Int) (w : World) (h : spec_l3Table.f k  = some r) :
  Calls Try.prog 94 #[] w fun e w' => ∃ v0_ : Value, e = .returned (v0_) ∧ Kd.R (Kd.int .u8) 5 w' w.heap.size (fun _ => True) v0_ r ∧ Below w.heap.size w w' := by
 have HB := Aside0.mk (Below.refl w.heap.size w)
 have H : (if 256 ≤ 281474976710656 then ((some (List.replicate 256 0 : List Int)).bind fun y195 => (spec_l3Table.l0 k y195 (y195.length : Int) 0)) else (none)) = some r := h
 clear h
 by_cases c1 : 256 ≤ 281474976710656
 ·rw [if_pos c1] at H
  have c1b0 := eq_true c1
  have c1b1 : decide (256 ≤ 281474976710656) = true := decide_eq_true c1
  clear c1
  obtain ⟨y195, hy195⟩ : ∃ y_ : List Int, y_ = (List.replicate 256 0) := ⟨_, rfl⟩
  replace H : (spec_l3Table.l0 k y195 (y195.length : Int) 0) = some r := by first | (rw [hy195]; with_reducible exact H) | (have H2_ := (Option.bind_some _ _).symm.trans H; rw [hy195]; with_reducible exact H2_) | (have H2_ := (Option.bind_some _ _).symm.trans H; with_reducible exact H2_) | with_reducible exact H | (rw [hy195]; exact H) | exact H
  have Ny195 := Aside0.mk hy195
  clear hy195
  have H' := Aside0.mk H
  clear H
  go_enter Try.func94, Try.ntmps94
  go_wp2_with (first | ((with_reducible refine gate_dst (N := 3) rfl ?_); refine Kd.R_make (Kd.int .u8) _ 5 rfl (N := 3) rfl 43 _ _ rfl 256 rfl rfl Try.underlying43 (.int .u8 0) 1 info5 rfl (by decide) (by omega) 0 (ok := fun _ => True) (okp := fun _ => True) rfl (fun _ hk => hk) trivial (by omega) (by omega) (Below.refl _ _) (Nat.le_refl _) ?_; intro v196 w2 ho3 hb hg_ hnew_; clear hg_ hnew_; (first | rw [← Ny195.out] at ho3 | (simp only [Int.reduceToNat] at ho3; rw [← Ny195.out] at ho3)); have n0_ := Aside0.mk (Kd.R_lower ho3 (below_size (by repeat (first | (with_reducible first | exact HB.out | apply below_alloc | apply pw_below_drewN | apply below_drew1) | exact HB.out)))); have n1_ := Aside0.mk (below_step (by repeat (first | (with_reducible first | exact HB.out | apply below_alloc | apply pw_below_drewN | apply below_drew1) | exact HB.out)) hb); clear HB; have HO197 := n0_; have HB := n1_; clear n0_ n1_; clear hb ho3; obtain ⟨Ao4, co4, eo4⟩ := Kd.R_slice HO197.out; subst eo4))
  go_loopg [6] k (fun kq v6 w' => ∃ (x1_1 : List Int) (x6_1 : Int), v6 = .int .i64 x6_1 ∧ Aside0 (spec_l3Table.l0 kq x1_1 (y195.length : Int) x6_1 = some r) ∧ Aside0 (kq ≤ k) ∧ Aside0 (Kd.R (Kd.int .u8) 5 w' w.heap.size (fun _ => True) (.slice Ao4 y195.length co4) x1_1) ∧ Aside0 (Below w.heap.size w w'))
  case atStart => exact ⟨(y195), (0), (by first | rfl | (simp; done) | (simp [*]; done)), H', ⟨Nat.le_refl _⟩, ⟨by (with_reducible repeat (first | apply Kd.R_alloc | apply Kd.R_drewN | apply Kd.R_drew)); exact HO197.out⟩, ⟨by repeat (first | (with_reducible first | exact HB.out | apply below_alloc | apply pw_below_drewN | apply below_drew1) | exact HB.out)⟩⟩
  case round =>
   clear H'
   try clear c1
   try clear c1b0
   try clear c1b1
   try clear p2
   obtain ⟨x1_1, x6_1, rfl, HA, HK1, HO_1, HB⟩ := hrel
   have hl1_1 := (Kd.R_reads' HO_1.out).1
   rw [hl1_1] at HO_1
   (try simp only [hl1_1])
   cases gk with
   | zero => exact absurd HA.out (by simp [spec_l3Table.l0])
   | succ k1 =>
    have H := HA.out
    clear HA
    simp only [spec_l3Table.l0] at H
    by_cases c5 : x6_1 < (y195.length : Int)
    ·rw [if_pos c5] at H
     have c5b0 : decide (x6_1 < (y195.length : Int)) = true := decide_eq_true c5
     try (have c5b0l_hl1_1 := c5b0; rw [hl1_1] at c5b0l_hl1_1)
     clear c5
     replace H := Option.bind_eq_some_iff.mp H
     obtain ⟨t198, A60, H⟩ := H
     replace H : (if 0 ≤ x6_1 then (if x6_1 < (x1_1.length : Int) then (spec_l3Table.l0 k1 (x1_1.set (x6_1 : Int).toNat t198) (y195.length : Int) (wrap64 (x6_1 + 1))) else (none)) else (none)) = some r := H
     have A6 := Aside0.mk A60
     clear A60
     by_cases c7 : 0 ≤ x6_1
     ·rw [if_pos c7] at H
      have c7b0 : decide (0 ≤ x6_1) = true := decide_eq_true c7
      clear c7
      by_cases c8 : x6_1 < (x1_1.length : Int)
      ·rw [if_pos c8] at H
       have c8b0 : decide (x6_1 < (x1_1.length : Int)) = true := decide_eq_true c8
       try (have c8b0l_hl1_1 := c8b0; rw [hl1_1] at c8b0l_hl1_1)
       clear c8
       obtain ⟨y199, hy199⟩ : ∃ y_ : List Int, y_ = (x1_1.set (x6_1 : Int).toNat t198) := ⟨_, rfl⟩
       replace H : (spec_l3Table.l0 k1 y199 (y195.length : Int) (wrap64 (x6_1 + 1))) = some r := by first | (rw [hy199]; with_reducible exact H) | (have H2_ := (Option.bind_some _ _).symm.trans H; rw [hy199]; with_reducible exact H2_) | (have H2_ := (Option.bind_some _ _).symm.trans H; with_reducible exact H2_) | with_reducible exact H | (rw [hy199]; exact H) | exact H
       have Ny199 := Aside0.mk hy199
       clear hy199
       have H' := Aside0.mk H
       clear H
       go_wp2_with (first | ((with_reducible refine gate_callee (f := 88) rfl ?_); refine goesL_ (some 13) rfl rfl Try.func88 (by kernel_rfl) rfl #[.int .u8 ((x6_1) % 256)] rfl (by (try simp only [List.map_toArray, List.map_cons, List.map_nil]); first | done | rfl | (simp only [List.length_drop, List.length_take]; rfl)) ?_; (with_reducible refine (spec_l3Sub.calls k1 ((x6_1) % 256) t198 _ A6.out).mono ?_); rintro e w' ⟨rfl, ⟨nd, rfl⟩⟩; refine ⟨_, rfl, ?_⟩; (try (rw [drewN_self wr]; generalize hq_ : World.drewN wr _ = wr; have n0_ : Aside0 (Kd.R (Kd.int .u8) 5 wr w.heap.size (fun _ => True) (.slice Ao4 x1_1.length co4) x1_1) := ⟨by rw [← hq_]; exact (by (with_reducible repeat (first | apply Kd.R_alloc | apply Kd.R_drewN | apply Kd.R_drew)); exact HO_1.out)⟩; have n1_ : Aside0 (Below w.heap.size w wr) := ⟨by rw [← hq_]; exact (by repeat (first | (with_reducible first | exact HB.out | apply below_alloc | apply pw_below_drewN | apply below_drew1) | exact HB.out))⟩; clear HO_1 HB hq_; have HO_1 := n0_; have HB := n1_; clear n0_ n1_)); have p9 : 0 ≤ (x6_1 : Int) := of_decide_eq_true (by first | (with_reducible assumption) | assumption); have q9 : (x6_1 : Int) < ((x1_1.length : Int) : Int) := of_decide_eq_true (by first | (with_reducible assumption) | assumption); obtain ⟨go9, co9, eo9, gb9, gl9, cl9, HG9⟩ := Kd.R_form HO_1.out (by omega); (first | cases eo9 | (injection eo9 with ea_ en_ ec_; (first | subst ea_ | (injection ea_ with ea_; subst ea_)); subst ec_; clear en_)); have GB9 := Aside0.mk gb9; have GG9 := Aside0.mk HG9; clear gb9 gl9 HG9; obtain ⟨hx9_0, hf9_0⟩ := Kd.R_celln 0 HO_1.out (x6_1 : Int) p9 q9; replace p9 := eq_true p9; replace q9 := eq_true q9; obtain ⟨hy10_, hz10_⟩ := Kd.R_celln 0 HO_1.out (x6_1 : Int) (of_decide_eq_true (by first | (with_reducible assumption) | assumption)) (of_decide_eq_true (by first | (with_reducible assumption) | assumption)); have HP10 := Kd.R_putg HO_1.out (x6_1 : Int) t198) | ((with_reducible refine gate_store (t := 5) (p := 14) rfl ?_); refine store_event (t := 5) (p := 14) (v := ?vo_w11) (w1 := (wr.setCell ⟨go9, (x6_1 : Int).toNat, none⟩ (.int .u8 t198))) ?hg ?ho ?hn ?hr ?_; (case ho => rfl); (case hg => rfl); (case hn => rfl); (case hr => first | (go_simp; done) | (go_simp; rfl)); intro w11 hw; have hg : wr.grownBy w11 (some go9) := (by rw [hw]; exact HP10.2); have hp_ : Kd.R (Kd.int .u8) 5 w11 w.heap.size (fun _ => True) (.slice (some ⟨go9, 0, none⟩) x1_1.length co4) y199 := (by rw [hw, Ny199.out]; exact HP10.1); clear HP10; have n0_ := Aside0.mk (hp_); have n1_ := Aside0.mk ((by rw [hw]; exact below_set (HB.out) GB9.out : Below w.heap.size w w11)); clear HO_1; clear HB; have HO_1 := n0_; have HB := n1_; clear n0_ n1_; clear hg hw hp_))
       (try simp only [← hl1_1])
       go_roundg k1
       case measure => have := HK1.out; omega
       case rel => exact ⟨(y199), (wrap64 (x6_1 + 1)), (by first | rfl | (simp; done) | (simp [*]; done)), H', ⟨by have := HK1.out; omega⟩, ⟨by (try simp only [hl1_1]); (with_reducible repeat (first | apply Kd.R_alloc | apply Kd.R_drewN | apply Kd.R_drew)); exact HO_1.out⟩, ⟨by repeat (first | (with_reducible first | exact HB.out | apply below_alloc | apply pw_below_drewN | apply below_drew1) | exact HB.out)⟩⟩
      ·rw [if_neg c8] at H
       exact absurd H (by simp)
     ·rw [if_neg c7] at H
      exact absurd H (by simp)
    ·rw [if_neg c5] at H
     have c5b0 : decide (x6_1 < (y195.length : Int)) = false := decide_eq_false c5
     try (have c5b0l_hl1_1 := c5b0; rw [hl1_1] at c5b0l_hl1_1)
     clear c5
     obtain rfl := Option.some.inj H
     go_wp2
     go_ret
     exact ⟨_, by first | rfl | (simp [errW_none, errW_some] <;> rfl) | (simp [*, errW_none, errW_some] <;> rfl), by (with_reducible repeat (first | apply Kd.R_alloc | apply Kd.R_drewN | apply Kd.R_drew)); exact HO_1.out, by repeat (first | (with_reducible first | exact HB.out | apply below_alloc | apply pw_below_drewN | apply below_drew1) | exact HB.out)⟩
 ·rw [if_neg c1] at H
  exact absurd H (by simp)

end Go.Proofs.Ytimokakcdmcnnaa.PSpecA
