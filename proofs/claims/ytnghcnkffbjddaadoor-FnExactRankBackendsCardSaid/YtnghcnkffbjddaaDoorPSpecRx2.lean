-- LAID BY A PROGRAM OF THIS SESSION (wip/tools/myprint.py) over the kit's print.
import Derived.Test.YtnghcnkffbjddaaDoorPSpecRx0
import Derived.Test.YtnghcnkffbjddaaDoorPSpecRx1
namespace Go.Proofs.YtnghcnkffbjddaaDoor.PSpecR
open Go.RowKit Go.Proofs.YtnghcnkffbjddaaDoorV.PrintWords Go.Proofs.YtnghcnkffbjddaaDoorV.PrintLast Go.Proofs.YtnghcnkffbjddaaDoorV.PrintMore
attribute [local go_sem] max2_int min2_int max_two min_two max_three min_three max_four min_four   -- for this text's walks alone
set_option linter.unusedVariables false
set_option linter.unusedSimpArgs false

/-! ### spec_l4Round: function 147 -/
mutual
def spec_l4Round.l0 : Nat → List Int → List Int → ByteArray → List Int → Int → Option (List Int)
  | 0, _, _, _, _, _ => none
  | k + 1, x0, x1, x2, x7, x8 => if x8 < 64 then (if x8 < 16 then (if 0 ≤ (wrap64 (4 * x8)) then (if (wrap64 (4 * x8)) ≤ (wrap64 ((wrap64 (4 * x8)) + 4)) then (if (wrap64 ((wrap64 (4 * x8)) + 4)) ≤ (x2.size : Int) then ((spec_l1Big.f k (x2.extract ((wrap64 (4 * x8)) : Int).toNat ((wrap64 ((wrap64 (4 * x8)) + 4)) : Int).toNat)).bind fun t101 => (if x7.length < 35184372088832 then (spec_l4Round.l0 k x0 x1 x2 (x7 ++ [(t101) % 4294967296]) (wrap64 (x8 + 1))) else (none))) else (none)) else (none)) else (none)) else (if 0 ≤ (wrap64 (x8 - 15)) then (if (wrap64 (x8 - 15)) < (x7.length : Int) then (if 0 ≤ (wrap64 (x8 - 2)) then (if (wrap64 (x8 - 2)) < (x7.length : Int) then (if 0 ≤ (wrap64 (x8 - 16)) then (if (wrap64 (x8 - 16)) < (x7.length : Int) then ((spec_l4Right.f (rd x7 (wrap64 (x8 - 15))) 7).bind fun t108 => ((spec_l4Right.f (rd x7 (wrap64 (x8 - 15))) 18).bind fun t109 => (if 0 ≤ (wrap64 (x8 - 7)) then (if (wrap64 (x8 - 7)) < (x7.length : Int) then ((spec_l4Right.f (rd x7 (wrap64 (x8 - 2))) 17).bind fun t111 => ((spec_l4Right.f (rd x7 (wrap64 (x8 - 2))) 19).bind fun t112 => (if x7.length < 35184372088832 then (spec_l4Round.l0 k x0 x1 x2 (x7 ++ [((((((rd x7 (wrap64 (x8 - 16))) + (Go.bits .xor .u32 (Go.bits .xor .u32 t108 t109) ((rd x7 (wrap64 (x8 - 15))) / 8))) % 4294967296) + (rd x7 (wrap64 (x8 - 7)))) % 4294967296) + (Go.bits .xor .u32 (Go.bits .xor .u32 t111 t112) ((rd x7 (wrap64 (x8 - 2))) / 1024))) % 4294967296]) (wrap64 (x8 + 1))) else (none)))) else (none)) else (none)))) else (none)) else (none)) else (none)) else (none)) else (none)) else (none))) else ((some (([] : List Int) : List Int)).bind fun y116 => (if y116.length + x0.length < 35184372088832 then (spec_l4Round.l1 k x0 x1 x7 (y116 ++ x0) 0) else (none)))
def spec_l4Round.l1 : Nat → List Int → List Int → List Int → List Int → Int → Option (List Int)
  | 0, _, _, _, _, _ => none
  | k + 1, x0, x1, x7, x11, x12 => if x12 < 64 then (if 4 < (x11.length : Int) then (if 0 < (x11.length : Int) then (if 7 < (x11.length : Int) then ((spec_l4Right.f (rd x11 4) 6).bind fun t125 => ((spec_l4Right.f (rd x11 4) 11).bind fun t126 => ((spec_l4Right.f (rd x11 4) 25).bind fun t127 => (if 5 < (x11.length : Int) then (if 6 < (x11.length : Int) then (if 0 ≤ x12 then (if x12 < (x1.length : Int) then (if x12 < (x7.length : Int) then ((spec_l4Right.f (rd x11 0) 2).bind fun t132 => ((spec_l4Right.f (rd x11 0) 13).bind fun t133 => ((spec_l4Right.f (rd x11 0) 22).bind fun t134 => (if 1 < (x11.length : Int) then (if 2 < (x11.length : Int) then (if 3 < (x11.length : Int) then (spec_l4Round.l1 k x0 x1 x7 (([((((((((((rd x11 7) + (Go.bits .xor .u32 (Go.bits .xor .u32 t125 t126) t127)) % 4294967296) + (Go.bits .xor .u32 (Go.bits .and .u32 (rd x11 4) (rd x11 5)) (Go.bits .and .u32 (Go.bits .xor .u32 IntKind.u32.max (rd x11 4)) (rd x11 6)))) % 4294967296) + (rd x1 x12)) % 4294967296) + (rd x7 x12)) % 4294967296) + (((Go.bits .xor .u32 (Go.bits .xor .u32 t132 t133) t134) + (Go.bits .xor .u32 (Go.bits .xor .u32 (Go.bits .and .u32 (rd x11 0) (rd x11 1)) (Go.bits .and .u32 (rd x11 0) (rd x11 2))) (Go.bits .and .u32 (rd x11 1) (rd x11 2)))) % 4294967296)) % 4294967296, rd x11 0, rd x11 1, rd x11 2, ((rd x11 3) + (((((((((rd x11 7) + (Go.bits .xor .u32 (Go.bits .xor .u32 t125 t126) t127)) % 4294967296) + (Go.bits .xor .u32 (Go.bits .and .u32 (rd x11 4) (rd x11 5)) (Go.bits .and .u32 (Go.bits .xor .u32 IntKind.u32.max (rd x11 4)) (rd x11 6)))) % 4294967296) + (rd x1 x12)) % 4294967296) + (rd x7 x12)) % 4294967296)) % 4294967296, rd x11 4, rd x11 5, rd x11 6] : List Int)) (wrap64 (x12 + 1))) else (none)) else (none)) else (none))))) else (none)) else (none)) else (none)) else (none)) else (none))))) else (none)) else (none)) else (none)) else (spec_l4Round.l2 k x0 x11 (x11.length : Int) 0)
def spec_l4Round.l2 : Nat → List Int → List Int → Int → Int → Option (List Int)
  | 0, _, _, _, _ => none
  | k + 1, x0, x11, x178, x179 => if x179 < x178 then (if 0 ≤ x179 then (if x179 < (x11.length : Int) then (if x179 < (x0.length : Int) then (spec_l4Round.l2 k x0 (x11.set (x179 : Int).toNat (((rd x11 x179) + (rd x0 x179)) % 4294967296)) x178 (wrap64 (x179 + 1))) else (none)) else (none)) else (none)) else (some x11)
end
def spec_l4Round.f (k : Nat) (l0 : List Int) (l1 : List Int) (a2 : ByteArray) : Option (List Int) := spec_l4Round.l0 k l0 l1 a2 ([] : List Int) 0
theorem spec_l4Round.mono_l : ∀ k, (∀ y0 y1 y2 y3 y4, LeO (spec_l4Round.l0 k y0 y1 y2 y3 y4) (spec_l4Round.l0 (k + 1) y0 y1 y2 y3 y4)) ∧ (∀ y0 y1 y2 y3 y4, LeO (spec_l4Round.l1 k y0 y1 y2 y3 y4) (spec_l4Round.l1 (k + 1) y0 y1 y2 y3 y4)) ∧ (∀ y0 y1 y2 y3, LeO (spec_l4Round.l2 k y0 y1 y2 y3) (spec_l4Round.l2 (k + 1) y0 y1 y2 y3))
  | 0 => ⟨fun _ _ _ _ _ r h => by simp [spec_l4Round.l0] at h, fun _ _ _ _ _ r h => by simp [spec_l4Round.l1] at h, fun _ _ _ _ r h => by simp [spec_l4Round.l2] at h⟩
  | k + 1 => by
    obtain ⟨ih0, ih1, ih2⟩ := spec_l4Round.mono_l k
    refine ⟨?_, ?_, ?_⟩
    · intro y0 y1 y2 y3 y4
      unfold spec_l4Round.l0
      repeat' first
      | (with_reducible exact ih0 _ _ _ _ _)
      | (with_reducible exact ih1 _ _ _ _ _)
      | (with_reducible exact ih2 _ _ _ _)
      | (with_reducible exact spec_l1Big.mono _ _)
      | (with_reducible exact LeO.refl _)
      | (with_reducible exact LeO.none _)
      | (with_reducible refine LeO.ite ?_ ?_)
      | (with_reducible refine LeO.bind ?_ (fun _ => ?_))
      | exact ih0 _ _ _ _ _
      | exact ih1 _ _ _ _ _
      | exact ih2 _ _ _ _
      | exact spec_l1Big.mono _ _
      | exact LeO.none _
      | refine LeO.ite ?_ ?_
      | refine LeO.bind ?_ (fun _ => ?_)
    · intro y0 y1 y2 y3 y4
      unfold spec_l4Round.l1
      repeat' first
      | (with_reducible exact ih0 _ _ _ _ _)
      | (with_reducible exact ih1 _ _ _ _ _)
      | (with_reducible exact ih2 _ _ _ _)
      | (with_reducible exact spec_l1Big.mono _ _)
      | (with_reducible exact LeO.refl _)
      | (with_reducible exact LeO.none _)
      | (with_reducible refine LeO.ite ?_ ?_)
      | (with_reducible refine LeO.bind ?_ (fun _ => ?_))
      | exact ih0 _ _ _ _ _
      | exact ih1 _ _ _ _ _
      | exact ih2 _ _ _ _
      | exact spec_l1Big.mono _ _
      | exact LeO.none _
      | refine LeO.ite ?_ ?_
      | refine LeO.bind ?_ (fun _ => ?_)
    · intro y0 y1 y2 y3
      unfold spec_l4Round.l2
      repeat' first
      | (with_reducible exact ih0 _ _ _ _ _)
      | (with_reducible exact ih1 _ _ _ _ _)
      | (with_reducible exact ih2 _ _ _ _)
      | (with_reducible exact spec_l1Big.mono _ _)
      | (with_reducible exact LeO.refl _)
      | (with_reducible exact LeO.none _)
      | (with_reducible refine LeO.ite ?_ ?_)
      | (with_reducible refine LeO.bind ?_ (fun _ => ?_))
      | exact ih0 _ _ _ _ _
      | exact ih1 _ _ _ _ _
      | exact ih2 _ _ _ _
      | exact spec_l1Big.mono _ _
      | exact LeO.none _
      | refine LeO.ite ?_ ?_
      | refine LeO.bind ?_ (fun _ => ?_)
theorem spec_l4Round.mono : ∀ a0 a1 a2 k, LeO (spec_l4Round.f k a0 a1 a2) (spec_l4Round.f (k + 1) a0 a1 a2) := by
  intro a0 a1 a2 k
  obtain ⟨ih0, ih1, ih2⟩ := spec_l4Round.mono_l k
  unfold spec_l4Round.f
  repeat' first
      | (with_reducible exact ih0 _ _ _ _ _)
      | (with_reducible exact ih1 _ _ _ _ _)
      | (with_reducible exact ih2 _ _ _ _)
      | (with_reducible exact spec_l1Big.mono _ _)
      | (with_reducible exact LeO.refl _)
      | (with_reducible exact LeO.none _)
      | (with_reducible refine LeO.ite ?_ ?_)
      | (with_reducible refine LeO.bind ?_ (fun _ => ?_))
      | exact ih0 _ _ _ _ _
      | exact ih1 _ _ _ _ _
      | exact ih2 _ _ _ _
      | exact spec_l1Big.mono _ _
      | exact LeO.none _
      | refine LeO.ite ?_ ?_
      | refine LeO.bind ?_ (fun _ => ?_)
def spec_l4Round.T9 : Bool × List (List Nat × List Nat) := (true, [([], []), ([], []), ([], []), ([2], [2]), ([1, 3], [1, 3]), ([4], [4]), ([], []), ([6], [6]), ([], []), ([8, 7], [8]), ([7, 9], [7, 9]), ([], []), ([11], [11]), ([10, 12], [10, 12]), ([5, 13], [5, 13]), ([], []), ([], []), ([16], [16]), ([15, 17], [15, 17]), ([18], [18]), ([14, 19], [14, 19]), ([], []), ([21, 9], [21]), ([], []), ([23, 22], [23]), ([22, 24], [22, 24]), ([], []), ([26], [26]), ([25, 27], [25, 27]), ([20, 28], [20, 28]), ([29], [29]), ([0, 30, 24], [0, 30]), ([31, 31, 0, 1, 2, 3, 4, 5, 6, 7, 8, 9, 10, 11, 12, 13, 14, 15, 16, 17, 18, 19, 20, 21, 22, 23, 24, 25, 26, 27, 28, 29, 30, 31], [0, 1, 15, 31])])
def spec_l4Round.B9 : List Nat := [0, 0, 0, 4, 14, 30, 0, 64, 0, 448, 960, 0, 2048, 8128, 16382, 0, 0, 65536, 229376, 491520, 1048574, 0, 2098112, 0, 14681024, 31458240, 0, 67108864, 266339264, 536870910, 1073741822, 2147483647, 4294967295]
theorem spec_l4Round.tab9 : rtab .any (opsOf Tryd.f147 9) = spec_l4Round.T9 := by kernel_rfl
theorem spec_l4Round.bits9 : waitsOk spec_l4Round.T9.2 spec_l4Round.B9 = true := by kernel_rfl
def spec_l4Round.T16 : Bool × List (List Nat × List Nat) := (true, [([], []), ([0], [0]), ([1], [1]), ([], []), ([3], [3]), ([], []), ([5, 4], [5]), ([4, 6], [4, 6]), ([], []), ([8, 6], [8]), ([7, 9], [7, 9]), ([2, 10], [2, 10]), ([], []), ([], []), ([13], [13]), ([14], [14]), ([12, 15], [12, 15]), ([], []), ([17], [17]), ([], []), ([19], [19]), ([20], [20]), ([18, 21], [18, 21]), ([16, 22], [16, 22]), ([11, 23], [11, 23]), ([], []), ([], []), ([25, 26], [25, 26]), ([27], [27]), ([24, 28], [24, 28]), ([], []), ([], []), ([30, 31], [30, 31]), ([32], [32]), ([29, 33], [29, 33]), ([34, 9, 0, 1, 2, 3, 4, 5, 6, 7, 8, 9, 10, 11, 12, 13, 14, 15, 16, 17, 18, 19, 20, 21, 22, 23, 24, 25, 26, 27, 28, 29, 30, 31, 32, 33, 34], [34])])
def spec_l4Round.B16 : List Nat := [0, 1, 3, 0, 8, 0, 56, 120, 0, 376, 1016, 2047, 0, 0, 8192, 24576, 61440, 0, 131072, 0, 524288, 1572864, 4063232, 8384512, 16777215, 0, 0, 100663296, 234881024, 536870911, 0, 0, 3221225472, 7516192768, 17179869183, 34359738367]
theorem spec_l4Round.tab16 : rtab .any (opsOf Tryd.f147 16) = spec_l4Round.T16 := by kernel_rfl
theorem spec_l4Round.bits16 : waitsOk spec_l4Round.T16.2 spec_l4Round.B16 = true := by kernel_rfl
def spec_l4Round.T17 : Bool × List (List Nat × List Nat) := (true, [([], []), ([0], [0]), ([], []), ([2, 1], [2]), ([1, 3], [1, 3]), ([], []), ([5, 3], [5]), ([4, 6], [4, 6]), ([], []), ([], []), ([9], [9]), ([10], [10]), ([8, 11], [8, 11]), ([], []), ([], []), ([14], [14]), ([15], [15]), ([13, 16], [13, 16]), ([12, 17], [12, 17]), ([], []), ([19], [19]), ([20], [20]), ([], []), ([22], [22]), ([23], [23]), ([21, 24], [21, 24]), ([18, 25], [18, 25]), ([7, 26], [7, 26]), ([27, 6, 0, 1, 2, 3, 4, 5, 6, 7, 8, 9, 10, 11, 12, 13, 14, 15, 16, 17, 18, 19, 20, 21, 22, 23, 24, 25, 26, 27], [27])])
def spec_l4Round.B17 : List Nat := [0, 1, 0, 7, 15, 0, 47, 127, 0, 0, 512, 1536, 3840, 0, 0, 16384, 49152, 122880, 261888, 0, 524288, 1572864, 0, 4194304, 12582912, 33030144, 67108608, 134217727, 268435455]
theorem spec_l4Round.tab17 : rtab .any (opsOf Tryd.f147 17) = spec_l4Round.T17 := by kernel_rfl
theorem spec_l4Round.bits17 : waitsOk spec_l4Round.T17.2 spec_l4Round.B17 = true := by kernel_rfl
def spec_l4Round.T18 : Bool × List (List Nat × List Nat) := (true, [([], []), ([], []), ([0, 1], [0, 1]), ([], []), ([], []), ([4], [4]), ([5], [5]), ([], []), ([7], [7]), ([8], [8]), ([], []), ([10], [10]), ([11], [11]), ([], []), ([12, 13], [12, 13]), ([], []), ([], []), ([16], [16]), ([17], [17]), ([], []), ([19], [19]), ([20], [20]), ([2, 3, 6, 9, 14, 15, 18, 21], [2, 3, 6, 9, 14, 15, 18, 21]), ([22, 0, 1, 2, 3, 4, 5, 6, 7, 8, 9, 10, 11, 12, 13, 14, 15, 16, 17, 18, 19, 20, 21, 22], [4, 7, 10, 16, 19, 22])])
def spec_l4Round.B18 : List Nat := [0, 0, 3, 0, 0, 16, 48, 0, 128, 384, 0, 1024, 3072, 0, 15360, 0, 0, 65536, 196608, 0, 524288, 1572864, 4194303, 8388607]
theorem spec_l4Round.tab18 : rtab .any (opsOf Tryd.f147 18) = spec_l4Round.T18 := by kernel_rfl
theorem spec_l4Round.bits18 : waitsOk spec_l4Round.T18.2 spec_l4Round.B18 = true := by kernel_rfl
def spec_l4Round.T22 : Bool × List (List Nat × List Nat) := (true, [([], []), ([], []), ([0, 1], [0, 1]), ([2], [2]), ([], []), ([], []), ([4, 5], [4, 5]), ([6], [6]), ([3, 7], [3, 7]), ([0, 1, 0, 1, 2, 3, 4, 5, 6, 7, 8], [0, 1]), ([9, 8, 0, 1, 2, 3, 4, 5, 6, 7, 8], [8, 9])])
def spec_l4Round.B22 : List Nat := [0, 0, 3, 7, 0, 0, 48, 112, 255, 511, 1023]
theorem spec_l4Round.tab22 : rtab .any (opsOf Tryd.f147 22) = spec_l4Round.T22 := by kernel_rfl
theorem spec_l4Round.bits22 : waitsOk spec_l4Round.T22.2 spec_l4Round.B22 = true := by kernel_rfl
set_option maxHeartbeats 8000000 in
set_option maxRecDepth 100000 in
theorem spec_l4Round.calls (k : Nat) (A0 : Option Addr) (c0 : Nat) (l0 : List Int) (A1 : Option Addr) (c1 : Nat) (l1 : List Int) (a2 : ByteArray) (r : List Int) (w : World) (hr0 : Kd.C (Kd.int .u32) w A0 l0.length l0) (hc0 : l0.length ≤ c0) (hr1 : Kd.C (Kd.int .u32) w A1 l1.length l1) (hc1 : l1.length ≤ c1) (h : spec_l4Round.f k l0 l1 a2 = some r) :
    Calls Tryd.prog 147 #[.slice A0 l0.length c0, .slice A1 l1.length c1, .string a2] w fun e w' => ∃ v0_ : Value, e = .returned (v0_) ∧ Kd.R (Kd.int .u32) 145 w' w.heap.size (fun _ => True) v0_ r ∧ Below w.heap.size w w' := by
  have HR0 := Aside0.mk hr0
  have HC0 := Aside0.mk hc0
  clear hr0 hc0
  have HR1 := Aside0.mk hr1
  have HC1 := Aside0.mk hc1
  clear hr1 hc1
  have HB := Aside0.mk (Below.refl w.heap.size w)
  have H : (spec_l4Round.l0 k l0 l1 a2 ([] : List Int) 0) = some r := h
  clear h
  have H' := Aside0.mk H
  clear H
  go_enter Tryd.func147, Tryd.ntmps147
  go_wp2
  go_loopg [7, 8] k (fun kq v7 v8 w' => ∃ (x7_1 : List Int) (x8_1 : Int), v8 = .int .i64 x8_1 ∧ Aside0 (spec_l4Round.l0 kq l0 l1 a2 x7_1 x8_1 = some r) ∧ Aside0 (kq ≤ k) ∧ Aside0 (Kd.R (Kd.int .u32) 145 w' w.heap.size (fun _ => True) v7 x7_1) ∧ Aside0 (Below w.heap.size w w'))
  case atStart => exact ⟨(([] : List Int)), (0), (by first | rfl | (simp; done) | (simp [*]; done)), H', ⟨Nat.le_refl _⟩, ⟨by first | exact Kd.R_nil _ _ _ _ _ | exact Kd.N_nil _ _ _ _ _ | exact Kd.V_nil _ _ _ _ _ | exact Kd.Q_nil _ _ _ _ _ | exact Kd.S_nil _ _ _ _ _⟩, ⟨by repeat (first | (with_reducible first | exact HB.out | apply below_alloc | apply pw_below_drewN | apply below_drew1) | exact HB.out)⟩⟩
  case round =>
    clear H'
    try clear c1
    try clear p2
    obtain ⟨x7_1, x8_1, rfl, HA, HK1, HO_7, HB⟩ := hrel
    cases gk with
    | zero => exact absurd HA.out (by simp [spec_l4Round.l0])
    | succ k1 =>
      have H := HA.out
      clear HA
      simp only [spec_l4Round.l0] at H
      by_cases c4 : x8_1 < 64
      · rw [if_pos c4] at H
        have c4b0 : decide (x8_1 < 64) = true := decide_eq_true c4
        clear c4
        by_cases c5 : x8_1 < 16
        · rw [if_pos c5] at H
          have c5b0 : decide (x8_1 < 16) = true := decide_eq_true c5
          clear c5
          obtain ⟨ji6, hji6⟩ : ∃ j_ : Int, (wrap64 (4 * x8_1)) = j_ := ⟨_, rfl⟩
          replace H : (if 0 ≤ (ji6) then (if (ji6) ≤ (wrap64 ((ji6) + 4)) then (if (wrap64 ((ji6) + 4)) ≤ (a2.size : Int) then ((spec_l1Big.f k1 (a2.extract ((ji6) : Int).toNat ((wrap64 ((ji6) + 4)) : Int).toNat)).bind fun t101 => (if x7_1.length < 35184372088832 then (spec_l4Round.l0 k1 l0 l1 a2 (x7_1 ++ [(t101) % 4294967296]) (wrap64 (x8_1 + 1))) else (none))) else (none)) else (none)) else (none)) = some r := by first | (rw [hji6] at H; exact H) | (simp only [hji6] at H ⊢; exact H)
          have hji6w : (IntKind.i64.wrap (4 * x8_1)) = ji6 := (i64_w _).trans hji6
          by_cases c7 : 0 ≤ (ji6)
          · rw [if_pos c7] at H
            have c7b0 := eq_true c7
            have c7b1 : decide (0 ≤ (ji6)) = true := decide_eq_true c7
            clear c7
            by_cases c8 : (ji6) ≤ (wrap64 ((ji6) + 4))
            · rw [if_pos c8] at H
              have c8b0 := eq_true c8
              have c8b1 : decide ((ji6) ≤ (wrap64 ((ji6) + 4))) = true := decide_eq_true c8
              by_cases c9 : (wrap64 ((ji6) + 4)) ≤ (a2.size : Int)
              · rw [if_pos c9] at H
                have c9b0 := eq_true c9
                have c9b1 : decide ((wrap64 ((ji6) + 4)) ≤ (a2.size : Int)) = true := decide_eq_true c9
                replace H := Option.bind_eq_some_iff.mp H
                obtain ⟨t101, A100, H⟩ := H
                replace H : (if x7_1.length < 35184372088832 then (spec_l4Round.l0 k1 l0 l1 a2 (x7_1 ++ [(t101) % 4294967296]) (wrap64 (x8_1 + 1))) else (none)) = some r := H
                have A10 := Aside0.mk A100
                clear A100
                by_cases c11 : x7_1.length < 35184372088832
                · rw [if_pos c11] at H
                  have LMc11 := Aside0.mk c11
                  clear c11
                  obtain ⟨y102, hy102⟩ : ∃ y_ : List Int, y_ = (x7_1 ++ [(t101) % 4294967296]) := ⟨_, rfl⟩
                  replace H : (spec_l4Round.l0 k1 l0 l1 a2 y102 (wrap64 (x8_1 + 1))) = some r := by first | (rw [hy102]; with_reducible exact H) | (have H2_ := (Option.bind_some _ _).symm.trans H; rw [hy102]; with_reducible exact H2_) | (have H2_ := (Option.bind_some _ _).symm.trans H; with_reducible exact H2_) | with_reducible exact H | (rw [hy102]; exact H) | exact H
                  have Ny102 := Aside0.mk hy102
                  clear hy102
                  have H' := Aside0.mk H
                  clear H
                  go_wp2_with (first | ((with_reducible refine gate_callee (f := 108) rfl ?_); refine goesL_ (some 32) rfl rfl Tryd.func108 (by kernel_rfl) rfl #[.string (a2.extract ((ji6) : Int).toNat ((wrap64 ((ji6) + 4)) : Int).toNat)] rfl (by (try simp only [List.map_toArray, List.map_cons, List.map_nil]); first | done | (simp only [hji6]; rfl) | rfl | (simp only [List.length_drop, List.length_take]; rfl)) ?_; (with_reducible refine (spec_l1Big.calls k1 (a2.extract ((ji6) : Int).toNat ((wrap64 ((ji6) + 4)) : Int).toNat) t101 _ A10.out).mono ?_); rintro e w' ⟨rfl, ⟨nd, rfl⟩⟩; refine ⟨_, rfl, ?_⟩) | ((with_reducible refine gate_builtin (b := .append) (xs := #[.tmp 24, .tmp 34]) rfl ?_); at_builtin; refine Kd.R_append (Kd.int .u32) (w0 := w) w.heap.size rfl (.tmp 24) (.tmp 34) 118 145 (.int .u32 0) 4 rfl Tryd.underlying118 info145 rfl (by decide) (by omega) u7 x7_1 ((t101) % 4294967296) [.int .u32 ((t101) % 4294967296)] (fun _ => True) (fun _ => False) rfl rfl ?aP (fun _ hk => hk.elim) ?aF ?aO ?aB ?aS ?aL ?_; (case aP => exact rfl); (case aB => exact (by repeat (first | (with_reducible first | exact HB.out | apply below_alloc | apply pw_below_drewN | apply below_drew1) | exact HB.out))); (case aF => exact (fun _ _ => trivial)); (case aO => exact (by (with_reducible repeat (first | apply Kd.R_alloc | apply Kd.R_drewN | apply Kd.R_drew)); exact HO_7.out)); (case aS => exact (below_size (by repeat (first | (with_reducible first | exact HB.out | apply below_alloc | apply pw_below_drewN | apply below_drew1) | exact HB.out)))); (case aL => have := LMc11.out; omega); intro v103 w12 ho hb hg hat; rw [← Ny102.out] at ho; have n0_ := Aside0.mk (hb); have n1_ := Aside0.mk (ho); clear HB; clear HO_7; have HB := n0_; have HO104 := n1_; clear n0_ n1_; clear ho hb hg hat))
                  go_roundg k1
                  case measure => have := HK1.out; omega
                  case rel => exact ⟨(y102), (wrap64 (x8_1 + 1)), (by first | rfl | (simp; done) | (simp [*]; done)), H', ⟨by have := HK1.out; omega⟩, ⟨by (with_reducible repeat (first | apply Kd.R_alloc | apply Kd.R_drewN | apply Kd.R_drew)); exact HO104.out⟩, ⟨by repeat (first | (with_reducible first | exact HB.out | apply below_alloc | apply pw_below_drewN | apply below_drew1) | exact HB.out)⟩⟩
                · rw [if_neg c11] at H
                  exact absurd H (by simp)
              · rw [if_neg c9] at H
                exact absurd H (by simp)
            · rw [if_neg c8] at H
              exact absurd H (by simp)
          · rw [if_neg c7] at H
            exact absurd H (by simp)
        · rw [if_neg c5] at H
          have c5b0 : decide (x8_1 < 16) = false := decide_eq_false c5
          clear c5
          obtain ⟨ji13, hji13⟩ : ∃ j_ : Int, (wrap64 (x8_1 - 15)) = j_ := ⟨_, rfl⟩
          replace H : (if 0 ≤ (ji13) then (if (ji13) < (x7_1.length : Int) then (if 0 ≤ (wrap64 (x8_1 - 2)) then (if (wrap64 (x8_1 - 2)) < (x7_1.length : Int) then (if 0 ≤ (wrap64 (x8_1 - 16)) then (if (wrap64 (x8_1 - 16)) < (x7_1.length : Int) then ((spec_l4Right.f (rd x7_1 (ji13)) 7).bind fun t108 => ((spec_l4Right.f (rd x7_1 (ji13)) 18).bind fun t109 => (if 0 ≤ (wrap64 (x8_1 - 7)) then (if (wrap64 (x8_1 - 7)) < (x7_1.length : Int) then ((spec_l4Right.f (rd x7_1 (wrap64 (x8_1 - 2))) 17).bind fun t111 => ((spec_l4Right.f (rd x7_1 (wrap64 (x8_1 - 2))) 19).bind fun t112 => (if x7_1.length < 35184372088832 then (spec_l4Round.l0 k1 l0 l1 a2 (x7_1 ++ [((((((rd x7_1 (wrap64 (x8_1 - 16))) + (Go.bits .xor .u32 (Go.bits .xor .u32 t108 t109) ((rd x7_1 (ji13)) / 8))) % 4294967296) + (rd x7_1 (wrap64 (x8_1 - 7)))) % 4294967296) + (Go.bits .xor .u32 (Go.bits .xor .u32 t111 t112) ((rd x7_1 (wrap64 (x8_1 - 2))) / 1024))) % 4294967296]) (wrap64 (x8_1 + 1))) else (none)))) else (none)) else (none)))) else (none)) else (none)) else (none)) else (none)) else (none)) else (none)) = some r := by first | (rw [hji13] at H; exact H) | (simp only [hji13] at H ⊢; exact H)
          have hji13w : (IntKind.i64.wrap (x8_1 - 15)) = ji13 := (i64_w _).trans hji13
          by_cases c14 : 0 ≤ (ji13)
          · rw [if_pos c14] at H
            have c14b0 : decide (0 ≤ (ji13)) = true := decide_eq_true c14
            clear c14
            by_cases c15 : (ji13) < (x7_1.length : Int)
            · rw [if_pos c15] at H
              have c15b0 : decide ((ji13) < (x7_1.length : Int)) = true := decide_eq_true c15
              clear c15
              obtain ⟨ji16, hji16⟩ : ∃ j_ : Int, (wrap64 (x8_1 - 2)) = j_ := ⟨_, rfl⟩
              replace H : (if 0 ≤ (ji16) then (if (ji16) < (x7_1.length : Int) then (if 0 ≤ (wrap64 (x8_1 - 16)) then (if (wrap64 (x8_1 - 16)) < (x7_1.length : Int) then ((spec_l4Right.f (rd x7_1 (ji13)) 7).bind fun t108 => ((spec_l4Right.f (rd x7_1 (ji13)) 18).bind fun t109 => (if 0 ≤ (wrap64 (x8_1 - 7)) then (if (wrap64 (x8_1 - 7)) < (x7_1.length : Int) then ((spec_l4Right.f (rd x7_1 (ji16)) 17).bind fun t111 => ((spec_l4Right.f (rd x7_1 (ji16)) 19).bind fun t112 => (if x7_1.length < 35184372088832 then (spec_l4Round.l0 k1 l0 l1 a2 (x7_1 ++ [((((((rd x7_1 (wrap64 (x8_1 - 16))) + (Go.bits .xor .u32 (Go.bits .xor .u32 t108 t109) ((rd x7_1 (ji13)) / 8))) % 4294967296) + (rd x7_1 (wrap64 (x8_1 - 7)))) % 4294967296) + (Go.bits .xor .u32 (Go.bits .xor .u32 t111 t112) ((rd x7_1 (ji16)) / 1024))) % 4294967296]) (wrap64 (x8_1 + 1))) else (none)))) else (none)) else (none)))) else (none)) else (none)) else (none)) else (none)) = some r := by first | (rw [hji16] at H; exact H) | (simp only [hji16] at H ⊢; exact H)
              have hji16w : (IntKind.i64.wrap (x8_1 - 2)) = ji16 := (i64_w _).trans hji16
              by_cases c17 : 0 ≤ (ji16)
              · rw [if_pos c17] at H
                have c17b0 : decide (0 ≤ (ji16)) = true := decide_eq_true c17
                clear c17
                by_cases c18 : (ji16) < (x7_1.length : Int)
                · rw [if_pos c18] at H
                  have c18b0 : decide ((ji16) < (x7_1.length : Int)) = true := decide_eq_true c18
                  clear c18
                  obtain ⟨ji19, hji19⟩ : ∃ j_ : Int, (wrap64 (x8_1 - 16)) = j_ := ⟨_, rfl⟩
                  replace H : (if 0 ≤ (ji19) then (if (ji19) < (x7_1.length : Int) then ((spec_l4Right.f (rd x7_1 (ji13)) 7).bind fun t108 => ((spec_l4Right.f (rd x7_1 (ji13)) 18).bind fun t109 => (if 0 ≤ (wrap64 (x8_1 - 7)) then (if (wrap64 (x8_1 - 7)) < (x7_1.length : Int) then ((spec_l4Right.f (rd x7_1 (ji16)) 17).bind fun t111 => ((spec_l4Right.f (rd x7_1 (ji16)) 19).bind fun t112 => (if x7_1.length < 35184372088832 then (spec_l4Round.l0 k1 l0 l1 a2 (x7_1 ++ [((((((rd x7_1 (ji19)) + (Go.bits .xor .u32 (Go.bits .xor .u32 t108 t109) ((rd x7_1 (ji13)) / 8))) % 4294967296) + (rd x7_1 (wrap64 (x8_1 - 7)))) % 4294967296) + (Go.bits .xor .u32 (Go.bits .xor .u32 t111 t112) ((rd x7_1 (ji16)) / 1024))) % 4294967296]) (wrap64 (x8_1 + 1))) else (none)))) else (none)) else (none)))) else (none)) else (none)) = some r := by first | (rw [hji19] at H; exact H) | (simp only [hji19] at H ⊢; exact H)
                  have hji19w : (IntKind.i64.wrap (x8_1 - 16)) = ji19 := (i64_w _).trans hji19
                  by_cases c20 : 0 ≤ (ji19)
                  · rw [if_pos c20] at H
                    have c20b0 : decide (0 ≤ (ji19)) = true := decide_eq_true c20
                    clear c20
                    by_cases c21 : (ji19) < (x7_1.length : Int)
                    · rw [if_pos c21] at H
                      have c21b0 : decide ((ji19) < (x7_1.length : Int)) = true := decide_eq_true c21
                      clear c21
                      replace H := Option.bind_eq_some_iff.mp H
                      obtain ⟨t108, A220, H⟩ := H
                      replace H : ((spec_l4Right.f (rd x7_1 (ji13)) 18).bind fun t109 => (if 0 ≤ (wrap64 (x8_1 - 7)) then (if (wrap64 (x8_1 - 7)) < (x7_1.length : Int) then ((spec_l4Right.f (rd x7_1 (ji16)) 17).bind fun t111 => ((spec_l4Right.f (rd x7_1 (ji16)) 19).bind fun t112 => (if x7_1.length < 35184372088832 then (spec_l4Round.l0 k1 l0 l1 a2 (x7_1 ++ [((((((rd x7_1 (ji19)) + (Go.bits .xor .u32 (Go.bits .xor .u32 t108 t109) ((rd x7_1 (ji13)) / 8))) % 4294967296) + (rd x7_1 (wrap64 (x8_1 - 7)))) % 4294967296) + (Go.bits .xor .u32 (Go.bits .xor .u32 t111 t112) ((rd x7_1 (ji16)) / 1024))) % 4294967296]) (wrap64 (x8_1 + 1))) else (none)))) else (none)) else (none))) = some r := H
                      have A22 := Aside0.mk A220
                      clear A220
                      replace H := Option.bind_eq_some_iff.mp H
                      obtain ⟨t109, A230, H⟩ := H
                      replace H : (if 0 ≤ (wrap64 (x8_1 - 7)) then (if (wrap64 (x8_1 - 7)) < (x7_1.length : Int) then ((spec_l4Right.f (rd x7_1 (ji16)) 17).bind fun t111 => ((spec_l4Right.f (rd x7_1 (ji16)) 19).bind fun t112 => (if x7_1.length < 35184372088832 then (spec_l4Round.l0 k1 l0 l1 a2 (x7_1 ++ [((((((rd x7_1 (ji19)) + (Go.bits .xor .u32 (Go.bits .xor .u32 t108 t109) ((rd x7_1 (ji13)) / 8))) % 4294967296) + (rd x7_1 (wrap64 (x8_1 - 7)))) % 4294967296) + (Go.bits .xor .u32 (Go.bits .xor .u32 t111 t112) ((rd x7_1 (ji16)) / 1024))) % 4294967296]) (wrap64 (x8_1 + 1))) else (none)))) else (none)) else (none)) = some r := H
                      have A23 := Aside0.mk A230
                      clear A230
                      obtain ⟨ji24, hji24⟩ : ∃ j_ : Int, (wrap64 (x8_1 - 7)) = j_ := ⟨_, rfl⟩
                      replace H : (if 0 ≤ (ji24) then (if (ji24) < (x7_1.length : Int) then ((spec_l4Right.f (rd x7_1 (ji16)) 17).bind fun t111 => ((spec_l4Right.f (rd x7_1 (ji16)) 19).bind fun t112 => (if x7_1.length < 35184372088832 then (spec_l4Round.l0 k1 l0 l1 a2 (x7_1 ++ [((((((rd x7_1 (ji19)) + (Go.bits .xor .u32 (Go.bits .xor .u32 t108 t109) ((rd x7_1 (ji13)) / 8))) % 4294967296) + (rd x7_1 (ji24))) % 4294967296) + (Go.bits .xor .u32 (Go.bits .xor .u32 t111 t112) ((rd x7_1 (ji16)) / 1024))) % 4294967296]) (wrap64 (x8_1 + 1))) else (none)))) else (none)) else (none)) = some r := by first | (rw [hji24] at H; exact H) | (simp only [hji24] at H ⊢; exact H)
                      (try rw [hji24] at A22)
                      (try rw [hji24] at A23)
                      have hji24w : (IntKind.i64.wrap (x8_1 - 7)) = ji24 := (i64_w _).trans hji24
                      by_cases c25 : 0 ≤ (ji24)
                      · rw [if_pos c25] at H
                        have c25b0 : decide (0 ≤ (ji24)) = true := decide_eq_true c25
                        clear c25
                        by_cases c26 : (ji24) < (x7_1.length : Int)
                        · rw [if_pos c26] at H
                          have c26b0 : decide ((ji24) < (x7_1.length : Int)) = true := decide_eq_true c26
                          clear c26
                          replace H := Option.bind_eq_some_iff.mp H
                          obtain ⟨t111, A270, H⟩ := H
                          replace H : ((spec_l4Right.f (rd x7_1 (ji16)) 19).bind fun t112 => (if x7_1.length < 35184372088832 then (spec_l4Round.l0 k1 l0 l1 a2 (x7_1 ++ [((((((rd x7_1 (ji19)) + (Go.bits .xor .u32 (Go.bits .xor .u32 t108 t109) ((rd x7_1 (ji13)) / 8))) % 4294967296) + (rd x7_1 (ji24))) % 4294967296) + (Go.bits .xor .u32 (Go.bits .xor .u32 t111 t112) ((rd x7_1 (ji16)) / 1024))) % 4294967296]) (wrap64 (x8_1 + 1))) else (none))) = some r := H
                          have A27 := Aside0.mk A270
                          clear A270
                          replace H := Option.bind_eq_some_iff.mp H
                          obtain ⟨t112, A280, H⟩ := H
                          replace H : (if x7_1.length < 35184372088832 then (spec_l4Round.l0 k1 l0 l1 a2 (x7_1 ++ [((((((rd x7_1 (ji19)) + (Go.bits .xor .u32 (Go.bits .xor .u32 t108 t109) ((rd x7_1 (ji13)) / 8))) % 4294967296) + (rd x7_1 (ji24))) % 4294967296) + (Go.bits .xor .u32 (Go.bits .xor .u32 t111 t112) ((rd x7_1 (ji16)) / 1024))) % 4294967296]) (wrap64 (x8_1 + 1))) else (none)) = some r := H
                          have A28 := Aside0.mk A280
                          clear A280
                          by_cases c29 : x7_1.length < 35184372088832
                          · rw [if_pos c29] at H
                            have LMc29 := Aside0.mk c29
                            clear c29
                            obtain ⟨y113, hy113⟩ : ∃ y_ : List Int, y_ = (x7_1 ++ [((((((rd x7_1 (ji19)) + (Go.bits .xor .u32 (Go.bits .xor .u32 t108 t109) ((rd x7_1 (ji13)) / 8))) % 4294967296) + (rd x7_1 (ji24))) % 4294967296) + (Go.bits .xor .u32 (Go.bits .xor .u32 t111 t112) ((rd x7_1 (ji16)) / 1024))) % 4294967296]) := ⟨_, rfl⟩
                            replace H : (spec_l4Round.l0 k1 l0 l1 a2 y113 (wrap64 (x8_1 + 1))) = some r := by first | (rw [hy113]; with_reducible exact H) | (have H2_ := (Option.bind_some _ _).symm.trans H; rw [hy113]; with_reducible exact H2_) | (have H2_ := (Option.bind_some _ _).symm.trans H; with_reducible exact H2_) | with_reducible exact H | (rw [hy113]; exact H) | exact H
                            have Ny113 := Aside0.mk hy113
                            clear hy113
                            have H' := Aside0.mk H
                            clear H
                            obtain ⟨Ao30, co30, eo30⟩ := Kd.R_slice HO_7.out
                            subst eo30
                            have p105 : 0 ≤ ((ji13) : Int) := of_decide_eq_true (by first | (with_reducible assumption) | assumption)
                            have q105 : (ji13) < (x7_1.length : Int) := of_decide_eq_true (by first | (with_reducible assumption) | assumption)
                            obtain ⟨ad105, e105, hx105_0⟩ := Kd.at_int (Kd.R_reads' HO_7.out).2.2 (ji13) p105 q105
                            cases e105
                            replace p105 := eq_true p105
                            replace q105 := eq_true q105
                            have p106 : 0 ≤ ((ji16) : Int) := of_decide_eq_true (by first | (with_reducible assumption) | assumption)
                            have q106 : (ji16) < (x7_1.length : Int) := of_decide_eq_true (by first | (with_reducible assumption) | assumption)
                            obtain ⟨ad106, e106, hx106_0⟩ := Kd.at_int (Kd.R_reads' HO_7.out).2.2 (ji16) p106 q106
                            obtain rfl : ad105 = ad106 := (by injection e106)
                            replace p106 := eq_true p106
                            replace q106 := eq_true q106
                            try go_wp2
                            have n0_ := Aside0.mk (Kd.R_drew HO_7.out)
                            have n1_ := Aside0.mk (below_drew1 HB.out)
                            clear HO_7
                            clear HB
                            have HO_7 := n0_
                            have HB := n1_
                            clear n0_ n1_
                            have p107 : 0 ≤ ((ji19) : Int) := of_decide_eq_true (by first | (with_reducible assumption) | assumption)
                            have q107 : (ji19) < (x7_1.length : Int) := of_decide_eq_true (by first | (with_reducible assumption) | assumption)
                            obtain ⟨ad107, e107, hx107_0⟩ := Kd.at_int (Kd.R_reads' HO_7.out).2.2 (ji19) p107 q107
                            obtain rfl : ad105 = ad107 := (by injection e107)
                            replace p107 := eq_true p107
                            replace q107 := eq_true q107
                            have p110 : 0 ≤ ((ji24) : Int) := of_decide_eq_true (by first | (with_reducible assumption) | assumption)
                            have q110 : (ji24) < (x7_1.length : Int) := of_decide_eq_true (by first | (with_reducible assumption) | assumption)
                            obtain ⟨ad110, e110, hx110_0⟩ := Kd.at_int (Kd.R_reads' HO_7.out).2.2 (ji24) p110 q110
                            obtain rfl : ad105 = ad110 := (by injection e110)
                            replace p110 := eq_true p110
                            replace q110 := eq_true q110
                            refine start_ (n := 33) (S := fun w' => w'.cell? (ad105.add ((ji19)).toNat) = some (.int .u32 (rd x7_1 (ji19))) ∧ w'.cell? (ad105.add ((ji24)).toNat) = some (.int .u32 (rd x7_1 (ji24)))) (ds := [30, 31]) #[false, false, false, false, false, false, false, false, false, false, false, false, false, false, false, false, false, false, false, false, false, false, false, false, false, false, false, false, false, false, false, false, false] (by kernel_rfl) rfl rfl ⟨hx107_0, hx110_0⟩ (fun hHeld => ?_); refine with_tabW spec_l4Round.tab9 spec_l4Round.bits9 (fun HT_ HW_ => ?_)
                            generalize wr.drew = w31 at HO_7 HB hx107_0 hx110_0 hHeld ⊢
                            refine pure_ (i := 0) (N := some 46) (v := ?_) (a' := ?_) #[true, false, false, false, false, false, false, false, false, false, false, false, false, false, false, false, false, false, false, false, false, false, false, false, false, false, false, false, false, false, false, false, false] rfl rfl (any_of HT_.out (by kernel_rfl)) (fun _ _ _ h => h) (Or.inl ⟨by rfl, ?_⟩) ?_ ?_
                            rotate_left
                            · intro w'
                              go_simp
                              with_reducible rfl
                            rotate_left
                            · simp only [Act.put, List.setIfInBounds_toArray, List.set_cons_zero, List.set_cons_succ, i64_w, i32_w]
                              rfl
                            refine pure_ (i := 1) (N := some 47) (v := ?_) (a' := ?_) #[true, true, false, false, false, false, false, false, false, false, false, false, false, false, false, false, false, false, false, false, false, false, false, false, false, false, false, false, false, false, false, false, false] rfl rfl (any_of HT_.out (by kernel_rfl)) (fun _ _ _ h => h) (Or.inl ⟨by rfl, ?_⟩) ?_ ?_
                            rotate_left
                            · intro w'
                              go_simp
                              with_reducible rfl
                            rotate_left
                            · simp only [Act.put, List.setIfInBounds_toArray, List.set_cons_zero, List.set_cons_succ, i64_w, i32_w]
                              rfl
                            refine pure_ (i := 2) (N := some 48) (v := ?_) (a' := ?_) #[true, true, true, false, false, false, false, false, false, false, false, false, false, false, false, false, false, false, false, false, false, false, false, false, false, false, false, false, false, false, false, false, false] rfl rfl (any_of HT_.out (by kernel_rfl)) (fun _ _ _ h => h) (Or.inl ⟨by rfl, ?_⟩) ?_ ?_
                            rotate_left
                            · intro w'
                              go_simp
                              with_reducible rfl
                            rotate_left
                            · simp only [Act.put, List.setIfInBounds_toArray, List.set_cons_zero, List.set_cons_succ, i64_w, i32_w]
                              rfl
                            refine pure_ (i := 3) (N := some 49) (v := ?_) (a' := ?_) #[true, true, true, true, false, false, false, false, false, false, false, false, false, false, false, false, false, false, false, false, false, false, false, false, false, false, false, false, false, false, false, false, false] rfl rfl (any_of HT_.out (by kernel_rfl)) (fun _ _ _ h => h) (Or.inl ⟨by rfl, ?_⟩) ?_ ?_
                            rotate_left
                            · intro w'
                              go_simp
                              with_reducible rfl
                            rotate_left
                            · simp only [Act.put, List.setIfInBounds_toArray, List.set_cons_zero, List.set_cons_succ, i64_w, i32_w]
                              rfl
                            refine pure_ (i := 4) (N := some 50) (v := ?_) (a' := ?_) #[true, true, true, true, true, false, false, false, false, false, false, false, false, false, false, false, false, false, false, false, false, false, false, false, false, false, false, false, false, false, false, false, false] rfl rfl (any_of HT_.out (by kernel_rfl)) (fun _ _ _ h => h) (Or.inl ⟨by rfl, ?_⟩) ?_ ?_
                            rotate_left
                            · intro w'
                              go_simp
                              with_reducible rfl
                            rotate_left
                            · simp only [Act.put, List.setIfInBounds_toArray, List.set_cons_zero, List.set_cons_succ, i64_w, i32_w]
                              rfl
                            refine pure_ (i := 6) (N := some 52) (v := ?_) (a' := ?_) #[true, true, true, true, true, false, true, false, false, false, false, false, false, false, false, false, false, false, false, false, false, false, false, false, false, false, false, false, false, false, false, false, false] rfl rfl (any_of HT_.out (by kernel_rfl)) (fun _ _ _ h => h) (Or.inl ⟨by rfl, ?_⟩) ?_ ?_
                            rotate_left
                            · intro w'
                              go_simp
                              with_reducible rfl
                            rotate_left
                            · simp only [Act.put, List.setIfInBounds_toArray, List.set_cons_zero, List.set_cons_succ, i64_w, i32_w]
                              rfl
                            refine pure_ (i := 8) (N := some 54) (v := ?_) (a' := ?_) #[true, true, true, true, true, false, true, false, true, false, false, false, false, false, false, false, false, false, false, false, false, false, false, false, false, false, false, false, false, false, false, false, false] rfl rfl (any_of HT_.out (by kernel_rfl)) (fun _ _ _ h => h) (Or.inl ⟨by rfl, ?_⟩) ?_ ?_
                            rotate_left
                            · intro w'
                              go_simp
                              with_reducible rfl
                            rotate_left
                            · simp only [Act.put, List.setIfInBounds_toArray, List.set_cons_zero, List.set_cons_succ, i64_w, i32_w]
                              rfl
                            refine pure_ (i := 11) (N := some 57) (v := ?_) (a' := ?_) #[true, true, true, true, true, false, true, false, true, false, false, true, false, false, false, false, false, false, false, false, false, false, false, false, false, false, false, false, false, false, false, false, false] rfl rfl (any_of HT_.out (by kernel_rfl)) (fun _ _ _ h => h) (Or.inl ⟨by rfl, ?_⟩) ?_ ?_
                            rotate_left
                            · intro w'
                              go_simp
                              with_reducible rfl
                            rotate_left
                            · simp only [Act.put, List.setIfInBounds_toArray, List.set_cons_zero, List.set_cons_succ, i64_w, i32_w]
                              rfl
                            refine pure_ (i := 12) (N := some 58) (v := ?_) (a' := ?_) #[true, true, true, true, true, false, true, false, true, false, false, true, true, false, false, false, false, false, false, false, false, false, false, false, false, false, false, false, false, false, false, false, false] rfl rfl (any_of HT_.out (by kernel_rfl)) (fun _ _ _ h => h) (Or.inl ⟨by rfl, ?_⟩) ?_ ?_
                            rotate_left
                            · intro w'
                              go_simp
                              with_reducible rfl
                            rotate_left
                            · simp only [Act.put, List.setIfInBounds_toArray, List.set_cons_zero, List.set_cons_succ, i64_w, i32_w]
                              rfl
                            refine pure_ (i := 15) (N := some 61) (v := ?_) (a' := ?_) #[true, true, true, true, true, false, true, false, true, false, false, true, true, false, false, true, false, false, false, false, false, false, false, false, false, false, false, false, false, false, false, false, false] rfl rfl (any_of HT_.out (by kernel_rfl)) (fun _ _ _ h => h) (Or.inl ⟨by rfl, ?_⟩) ?_ ?_
                            rotate_left
                            · intro w'
                              go_simp
                              with_reducible rfl
                            rotate_left
                            · simp only [Act.put, List.setIfInBounds_toArray, List.set_cons_zero, List.set_cons_succ, i64_w, i32_w]
                              rfl
                            refine pure_ (i := 16) (N := some 62) (v := ?_) (a' := ?_) #[true, true, true, true, true, false, true, false, true, false, false, true, true, false, false, true, true, false, false, false, false, false, false, false, false, false, false, false, false, false, false, false, false] rfl rfl (any_of HT_.out (by kernel_rfl)) (fun _ _ _ h => h) (Or.inl ⟨by rfl, ?_⟩) ?_ ?_
                            rotate_left
                            · intro w'
                              go_simp
                              with_reducible rfl
                            rotate_left
                            · simp only [Act.put, List.setIfInBounds_toArray, List.set_cons_zero, List.set_cons_succ, i64_w, i32_w]
                              rfl
                            refine pure_ (i := 17) (N := some 63) (v := ?_) (a' := ?_) #[true, true, true, true, true, false, true, false, true, false, false, true, true, false, false, true, true, true, false, false, false, false, false, false, false, false, false, false, false, false, false, false, false] rfl rfl (any_of HT_.out (by kernel_rfl)) (fun _ _ _ h => h) (Or.inl ⟨by rfl, ?_⟩) ?_ ?_
                            rotate_left
                            · intro w'
                              go_simp
                              with_reducible rfl
                            rotate_left
                            · simp only [Act.put, List.setIfInBounds_toArray, List.set_cons_zero, List.set_cons_succ, i64_w, i32_w]
                              rfl
                            refine pure_ (i := 18) (N := some 64) (v := ?_) (a' := ?_) #[true, true, true, true, true, false, true, false, true, false, false, true, true, false, false, true, true, true, true, false, false, false, false, false, false, false, false, false, false, false, false, false, false] rfl rfl (any_of HT_.out (by kernel_rfl)) (fun _ _ _ h => h) (Or.inl ⟨by rfl, ?_⟩) ?_ ?_
                            rotate_left
                            · intro w'
                              go_simp
                              with_reducible rfl
                            rotate_left
                            · simp only [Act.put, List.setIfInBounds_toArray, List.set_cons_zero, List.set_cons_succ, i64_w, i32_w]
                              rfl
                            refine pure_ (i := 21) (N := some 67) (v := ?_) (a' := ?_) #[true, true, true, true, true, false, true, false, true, false, false, true, true, false, false, true, true, true, true, false, false, true, false, false, false, false, false, false, false, false, false, false, false] rfl rfl (any_of HT_.out (by kernel_rfl)) (fun _ _ _ h => h) (Or.inl ⟨by rfl, ?_⟩) ?_ ?_
                            rotate_left
                            · intro w'
                              go_simp
                              with_reducible rfl
                            rotate_left
                            · simp only [Act.put, List.setIfInBounds_toArray, List.set_cons_zero, List.set_cons_succ, i64_w, i32_w]
                              rfl
                            refine pure_ (i := 23) (N := some 69) (v := ?_) (a' := ?_) #[true, true, true, true, true, false, true, false, true, false, false, true, true, false, false, true, true, true, true, false, false, true, false, true, false, false, false, false, false, false, false, false, false] rfl rfl (any_of HT_.out (by kernel_rfl)) (fun _ _ _ h => h) (Or.inl ⟨by rfl, ?_⟩) ?_ ?_
                            rotate_left
                            · intro w'
                              go_simp
                              with_reducible rfl
                            rotate_left
                            · simp only [Act.put, List.setIfInBounds_toArray, List.set_cons_zero, List.set_cons_succ, i64_w, i32_w]
                              rfl
                            refine pure_ (i := 26) (N := some 72) (v := ?_) (a' := ?_) #[true, true, true, true, true, false, true, false, true, false, false, true, true, false, false, true, true, true, true, false, false, true, false, true, false, false, true, false, false, false, false, false, false] rfl rfl (any_of HT_.out (by kernel_rfl)) (fun _ _ _ h => h) (Or.inl ⟨by rfl, ?_⟩) ?_ ?_
                            rotate_left
                            · intro w'
                              go_simp
                              with_reducible rfl
                            rotate_left
                            · simp only [Act.put, List.setIfInBounds_toArray, List.set_cons_zero, List.set_cons_succ, i64_w, i32_w]
                              rfl
                            refine pure_ (i := 27) (N := some 73) (v := ?_) (a' := ?_) #[true, true, true, true, true, false, true, false, true, false, false, true, true, false, false, true, true, true, true, false, false, true, false, true, false, false, true, true, false, false, false, false, false] rfl rfl (any_of HT_.out (by kernel_rfl)) (fun _ _ _ h => h) (Or.inl ⟨by rfl, ?_⟩) ?_ ?_
                            rotate_left
                            · intro w'
                              go_simp
                              with_reducible rfl
                            rotate_left
                            · simp only [Act.put, List.setIfInBounds_toArray, List.set_cons_zero, List.set_cons_succ, i64_w, i32_w]
                              rfl
                            refine take_ (i := 5) (N := some 51) (v := ?_) (a' := ?_) #[true, true, true, true, true, true, true, false, true, false, false, true, true, false, false, true, true, true, true, false, false, true, false, true, false, false, true, true, false, false, false, false, false] rfl rfl (take_ofW HT_.out HW_.out (by kernel_rfl)) (fun _ _ _ h => h) (Or.inl ⟨by rfl, ?_⟩) hHeld ?_ ?_
                            rotate_left
                            · rintro w' ⟨s0, s1⟩
                              go_simp
                              with_reducible rfl
                            rotate_left
                            · simp only [Act.put, List.setIfInBounds_toArray, List.set_cons_zero, List.set_cons_succ, i64_w, i32_w]
                              rfl
                            refine take_ (i := 19) (N := some 65) (v := ?_) (a' := ?_) #[true, true, true, true, true, true, true, false, true, false, false, true, true, false, false, true, true, true, true, true, false, true, false, true, false, false, true, true, false, false, false, false, false] rfl rfl (take_ofW HT_.out HW_.out (by kernel_rfl)) (fun _ _ _ h => h) (Or.inl ⟨by rfl, ?_⟩) hHeld ?_ ?_
                            rotate_left
                            · rintro w' ⟨s0, s1⟩
                              go_simp
                              with_reducible rfl
                            rotate_left
                            · simp only [Act.put, List.setIfInBounds_toArray, List.set_cons_zero, List.set_cons_succ, i64_w, i32_w]
                              rfl
                            refine one_ (i := 7) (N := some 53) #[true, true, true, true, true, true, true, true, true, false, false, true, true, false, false, true, true, true, true, true, false, true, false, true, false, false, true, true, false, false, false, false, false] rfl rfl (one_of HT_.out (by kernel_rfl)) (by decide) (fun K hK => ?_)
                            refine goes_ Tryd.func174 (by kernel_rfl) rfl #[.int .u32 (rd x7_1 (ji13)), .int .u64 7] (by rfl) rfl rfl (by (try simp only [List.map_toArray, List.map_cons, List.map_nil]); first | done | (simp only [hji13]; rfl) | rfl | (simp only [List.length_drop, List.length_take]; rfl)) ?_
                            with_reducible refine (spec_l4Right.calls (rd x7_1 (ji13)) 7 t108 _ A22.out).mono ?_
                            rintro e w' ⟨rfl, ⟨nd, rfl⟩⟩
                            refine ⟨_, rfl, ?_⟩
                            refine hK.out _ _ ⟨hHeld.1, hHeld.2⟩ (fun hHeld => ?_)
                            clear hK K
                            refine norm_ (a' := ?_) ?_ ?_
                            rotate_left
                            · show Act.put _ (some 53) _ = _
                              simp only [Act.put, List.setIfInBounds_toArray, List.set_cons_zero, List.set_cons_succ, i64_w, i32_w]
                              rfl
                            refine one_ (i := 9) (N := some 55) #[true, true, true, true, true, true, true, true, true, true, false, true, true, false, false, true, true, true, true, true, false, true, false, true, false, false, true, true, false, false, false, false, false] rfl rfl (one_of HT_.out (by kernel_rfl)) (by decide) (fun K hK => ?_)
                            refine goes_ Tryd.func174 (by kernel_rfl) rfl #[.int .u32 (rd x7_1 (ji13)), .int .u64 18] (by rfl) rfl rfl (by (try simp only [List.map_toArray, List.map_cons, List.map_nil]); first | done | (simp only [hji13]; rfl) | rfl | (simp only [List.length_drop, List.length_take]; rfl)) ?_
                            with_reducible refine (spec_l4Right.calls (rd x7_1 (ji13)) 18 t109 _ A23.out).mono ?_
                            rintro e w' ⟨rfl, ⟨nd, rfl⟩⟩
                            refine ⟨_, rfl, ?_⟩
                            refine hK.out _ _ ⟨hHeld.1, hHeld.2⟩ (fun hHeld => ?_)
                            clear hK K
                            refine norm_ (a' := ?_) ?_ ?_
                            rotate_left
                            · show Act.put _ (some 55) _ = _
                              simp only [Act.put, List.setIfInBounds_toArray, List.set_cons_zero, List.set_cons_succ, i64_w, i32_w]
                              rfl
                            refine pure_ (i := 10) (N := some 56) (v := ?_) (a' := ?_) #[true, true, true, true, true, true, true, true, true, true, true, true, true, false, false, true, true, true, true, true, false, true, false, true, false, false, true, true, false, false, false, false, false] rfl rfl (any_of HT_.out (by kernel_rfl)) (fun _ _ _ h => h) (Or.inl ⟨by rfl, ?_⟩) ?_ ?_
                            rotate_left
                            · intro w'
                              go_simp
                              with_reducible rfl
                            rotate_left
                            · simp only [Act.put, List.setIfInBounds_toArray, List.set_cons_zero, List.set_cons_succ, i64_w, i32_w]
                              rfl
                            refine pure_ (i := 13) (N := some 59) (v := ?_) (a' := ?_) #[true, true, true, true, true, true, true, true, true, true, true, true, true, true, false, true, true, true, true, true, false, true, false, true, false, false, true, true, false, false, false, false, false] rfl rfl (any_of HT_.out (by kernel_rfl)) (fun _ _ _ h => h) (Or.inl ⟨by rfl, ?_⟩) ?_ ?_
                            rotate_left
                            · intro w'
                              go_simp
                              with_reducible rfl
                            rotate_left
                            · simp only [Act.put, List.setIfInBounds_toArray, List.set_cons_zero, List.set_cons_succ, i64_w, i32_w]
                              rfl
                            refine pure_ (i := 14) (N := some 60) (v := ?_) (a' := ?_) #[true, true, true, true, true, true, true, true, true, true, true, true, true, true, true, true, true, true, true, true, false, true, false, true, false, false, true, true, false, false, false, false, false] rfl rfl (any_of HT_.out (by kernel_rfl)) (fun _ _ _ h => h) (Or.inl ⟨by rfl, ?_⟩) ?_ ?_
                            rotate_left
                            · intro w'
                              go_simp
                              with_reducible rfl
                            rotate_left
                            · simp only [Act.put, List.setIfInBounds_toArray, List.set_cons_zero, List.set_cons_succ, i64_w, i32_w]
                              rfl
                            refine pure_ (i := 20) (N := some 66) (v := ?_) (a' := ?_) #[true, true, true, true, true, true, true, true, true, true, true, true, true, true, true, true, true, true, true, true, true, true, false, true, false, false, true, true, false, false, false, false, false] rfl rfl (any_of HT_.out (by kernel_rfl)) (fun _ _ _ h => h) (Or.inl ⟨by rfl, ?_⟩) ?_ ?_
                            rotate_left
                            · intro w'
                              go_simp
                              with_reducible rfl
                            rotate_left
                            · simp only [Act.put, List.setIfInBounds_toArray, List.set_cons_zero, List.set_cons_succ, i64_w, i32_w]
                              rfl
                            refine one_ (i := 22) (N := some 68) #[true, true, true, true, true, true, true, true, true, true, true, true, true, true, true, true, true, true, true, true, true, true, true, true, false, false, true, true, false, false, false, false, false] rfl rfl (one_of HT_.out (by kernel_rfl)) (by decide) (fun K hK => ?_)
                            refine goes_ Tryd.func174 (by kernel_rfl) rfl #[.int .u32 (rd x7_1 (ji16)), .int .u64 17] (by rfl) rfl rfl (by (try simp only [List.map_toArray, List.map_cons, List.map_nil]); first | done | (simp only [hji16]; rfl) | rfl | (simp only [List.length_drop, List.length_take]; rfl)) ?_
                            with_reducible refine (spec_l4Right.calls (rd x7_1 (ji16)) 17 t111 _ A27.out).mono ?_
                            rintro e w' ⟨rfl, ⟨nd, rfl⟩⟩
                            refine ⟨_, rfl, ?_⟩
                            refine hK.out _ _ ⟨hHeld.1, hHeld.2⟩ (fun hHeld => ?_)
                            clear hK K
                            refine norm_ (a' := ?_) ?_ ?_
                            rotate_left
                            · show Act.put _ (some 68) _ = _
                              simp only [Act.put, List.setIfInBounds_toArray, List.set_cons_zero, List.set_cons_succ, i64_w, i32_w]
                              rfl
                            refine one_ (i := 24) (N := some 70) #[true, true, true, true, true, true, true, true, true, true, true, true, true, true, true, true, true, true, true, true, true, true, true, true, true, false, true, true, false, false, false, false, false] rfl rfl (one_of HT_.out (by kernel_rfl)) (by decide) (fun K hK => ?_)
                            refine goes_ Tryd.func174 (by kernel_rfl) rfl #[.int .u32 (rd x7_1 (ji16)), .int .u64 19] (by rfl) rfl rfl (by (try simp only [List.map_toArray, List.map_cons, List.map_nil]); first | done | (simp only [hji16]; rfl) | rfl | (simp only [List.length_drop, List.length_take]; rfl)) ?_
                            with_reducible refine (spec_l4Right.calls (rd x7_1 (ji16)) 19 t112 _ A28.out).mono ?_
                            rintro e w' ⟨rfl, ⟨nd, rfl⟩⟩
                            refine ⟨_, rfl, ?_⟩
                            refine hK.out _ _ ⟨hHeld.1, hHeld.2⟩ (fun hHeld => ?_)
                            clear hK K
                            refine norm_ (a' := ?_) ?_ ?_
                            rotate_left
                            · show Act.put _ (some 70) _ = _
                              simp only [Act.put, List.setIfInBounds_toArray, List.set_cons_zero, List.set_cons_succ, i64_w, i32_w]
                              rfl
                            refine pure_ (i := 25) (N := some 71) (v := ?_) (a' := ?_) #[true, true, true, true, true, true, true, true, true, true, true, true, true, true, true, true, true, true, true, true, true, true, true, true, true, true, true, true, false, false, false, false, false] rfl rfl (any_of HT_.out (by kernel_rfl)) (fun _ _ _ h => h) (Or.inl ⟨by rfl, ?_⟩) ?_ ?_
                            rotate_left
                            · intro w'
                              go_simp
                              with_reducible rfl
                            rotate_left
                            · simp only [Act.put, List.setIfInBounds_toArray, List.set_cons_zero, List.set_cons_succ, i64_w, i32_w]
                              rfl
                            refine pure_ (i := 28) (N := some 74) (v := ?_) (a' := ?_) #[true, true, true, true, true, true, true, true, true, true, true, true, true, true, true, true, true, true, true, true, true, true, true, true, true, true, true, true, true, false, false, false, false] rfl rfl (any_of HT_.out (by kernel_rfl)) (fun _ _ _ h => h) (Or.inl ⟨by rfl, ?_⟩) ?_ ?_
                            rotate_left
                            · intro w'
                              go_simp
                              with_reducible rfl
                            rotate_left
                            · simp only [Act.put, List.setIfInBounds_toArray, List.set_cons_zero, List.set_cons_succ, i64_w, i32_w]
                              rfl
                            refine pure_ (i := 29) (N := some 75) (v := ?_) (a' := ?_) #[true, true, true, true, true, true, true, true, true, true, true, true, true, true, true, true, true, true, true, true, true, true, true, true, true, true, true, true, true, true, false, false, false] rfl rfl (any_of HT_.out (by kernel_rfl)) (fun _ _ _ h => h) (Or.inl ⟨by rfl, ?_⟩) ?_ ?_
                            rotate_left
                            · intro w'
                              go_simp
                              with_reducible rfl
                            rotate_left
                            · simp only [Act.put, List.setIfInBounds_toArray, List.set_cons_zero, List.set_cons_succ, i64_w, i32_w]
                              rfl
                            refine last_ (i := 30) (N := some 76) #[true, true, true, true, true, true, true, true, true, true, true, true, true, true, true, true, true, true, true, true, true, true, true, true, true, true, true, true, true, true, true, false, false] rfl rfl (one_of HT_.out (by kernel_rfl)) (by decide) (fun K hK => ?_)
                            refine value_ (w1 := ?_) (v := ?_) (by rfl) rfl ?_ ?_
                            rotate_left 2
                            · go_simp
                              constructor
                              · rfl
                              · rfl
                            refine hK.out _ _ ?_
                            clear hK K
                            refine norm_ (a' := ?_) ?_ ?_
                            rotate_left
                            · show Act.put _ (some 76) _ = _
                              simp only [Act.put, List.setIfInBounds_toArray, List.set_cons_zero, List.set_cons_succ, i64_w, i32_w]
                              rfl
                            refine last_ (i := 31) (N := some 77) #[true, true, true, true, true, true, true, true, true, true, true, true, true, true, true, true, true, true, true, true, true, true, true, true, true, true, true, true, true, true, true, true, false] rfl rfl (one_of HT_.out (by kernel_rfl)) (by decide) (fun K hK => ?_)
                            refine Kd.R_append_step (Kd.int .u32) (w0 := w) w.heap.size (by rfl) (.tmp 46) (.tmp 76) 118 145 (.int .u32 0) 4 rfl Tryd.underlying118 info145 rfl (by decide) (by omega) (.slice (some ad105) x7_1.length co30) x7_1 (((((((rd x7_1 (ji19)) + (Go.bits .xor .u32 (Go.bits .xor .u32 t108 t109) ((rd x7_1 (ji13)) / 8))) % 4294967296) + (rd x7_1 (ji24))) % 4294967296) + (Go.bits .xor .u32 (Go.bits .xor .u32 t111 t112) ((rd x7_1 (ji16)) / 1024))) % 4294967296) [.int .u32 (((((((rd x7_1 (ji19)) + (Go.bits .xor .u32 (Go.bits .xor .u32 t108 t109) ((rd x7_1 (ji13)) / 8))) % 4294967296) + (rd x7_1 (ji24))) % 4294967296) + (Go.bits .xor .u32 (Go.bits .xor .u32 t111 t112) ((rd x7_1 (ji16)) / 1024))) % 4294967296)] (fun _ => True) (fun _ => False) rfl rfl ?aP (fun _ hk => hk.elim) ?aF ?aO ?aB ?aS ?aL ?_
                            (case aP => exact rfl)
                            (case aB => exact (by repeat (first | (with_reducible first | exact HB.out | apply below_alloc | apply pw_below_drewN | apply below_drew1) | exact HB.out)))
                            (case aF => exact (fun _ _ => trivial))
                            (case aO => exact (by (with_reducible repeat (first | apply Kd.R_alloc | apply Kd.R_drewN | apply Kd.R_drew)); exact HO_7.out))
                            (case aS => exact (below_size (by repeat (first | (with_reducible first | exact HB.out | apply below_alloc | apply pw_below_drewN | apply below_drew1) | exact HB.out))))
                            (case aL => have := LMc29.out; omega)
                            intro v114 w32 ho hb hg hat
                            rw [← Ny113.out] at ho
                            have n0_ := Aside0.mk (hb)
                            have n1_ := Aside0.mk (ho)
                            clear HB
                            clear HO_7
                            have HB := n0_
                            have HO115 := n1_
                            clear n0_ n1_
                            clear ho hb hg hat
                            refine hK.out _ _ ?_
                            clear hK K
                            refine norm_ (a' := ?_) ?_ ?_
                            rotate_left
                            · show Act.put _ (some 77) _ = _
                              simp only [Act.put, List.setIfInBounds_toArray, List.set_cons_zero, List.set_cons_succ, i64_w, i32_w]
                              rfl
                            refine pure_ (i := 32) (N := some 7) (v := ?_) (a' := ?_) #[true, true, true, true, true, true, true, true, true, true, true, true, true, true, true, true, true, true, true, true, true, true, true, true, true, true, true, true, true, true, true, true, true] rfl rfl (any_of HT_.out (by kernel_rfl)) (fun _ _ _ h => h) (Or.inl ⟨by rfl, ?_⟩) ?_ ?_
                            rotate_left
                            · intro w'
                              go_simp
                              with_reducible rfl
                            rotate_left
                            · simp only [Act.put, List.setIfInBounds_toArray, List.set_cons_zero, List.set_cons_succ, i64_w, i32_w]
                              rfl
                            refine done_ (done_of HT_.out (by kernel_rfl)) ?_
                            try go_wp2
                            go_roundg k1
                            case measure => have := HK1.out; omega
                            case rel => exact ⟨(y113), (wrap64 (x8_1 + 1)), (by first | rfl | (simp; done) | (simp [*]; done)), H', ⟨by have := HK1.out; omega⟩, ⟨by (with_reducible repeat (first | apply Kd.R_alloc | apply Kd.R_drewN | apply Kd.R_drew)); exact HO115.out⟩, ⟨by repeat (first | (with_reducible first | exact HB.out | apply below_alloc | apply pw_below_drewN | apply below_drew1) | exact HB.out)⟩⟩
                          · rw [if_neg c29] at H
                            exact absurd H (by simp)
                        · rw [if_neg c26] at H
                          exact absurd H (by simp)
                      · rw [if_neg c25] at H
                        exact absurd H (by simp)
                    · rw [if_neg c21] at H
                      exact absurd H (by simp)
                  · rw [if_neg c20] at H
                    exact absurd H (by simp)
                · rw [if_neg c18] at H
                  exact absurd H (by simp)
              · rw [if_neg c17] at H
                exact absurd H (by simp)
            · rw [if_neg c15] at H
              exact absurd H (by simp)
          · rw [if_neg c14] at H
            exact absurd H (by simp)
      · rw [if_neg c4] at H
        have c4b0 : decide (x8_1 < 64) = false := decide_eq_false c4
        clear c4
        obtain ⟨y116, hy116⟩ : ∃ y_ : List Int, y_ = (([] : List Int)) := ⟨_, rfl⟩
        replace H : (if y116.length + l0.length < 35184372088832 then (spec_l4Round.l1 k1 l0 l1 x7_1 (y116 ++ l0) 0) else (none)) = some r := by first | (rw [hy116]; with_reducible exact H) | (have H2_ := (Option.bind_some _ _).symm.trans H; rw [hy116]; with_reducible exact H2_) | (have H2_ := (Option.bind_some _ _).symm.trans H; with_reducible exact H2_) | with_reducible exact H | (rw [hy116]; exact H) | exact H
        have Ny116 := Aside0.mk hy116
        clear hy116
        by_cases c33 : y116.length + l0.length < 35184372088832
        · rw [if_pos c33] at H
          have LMc33 := Aside0.mk c33
          clear c33
          obtain ⟨y119, hy119⟩ : ∃ y_ : List Int, y_ = (y116 ++ l0) := ⟨_, rfl⟩
          replace H : (spec_l4Round.l1 k1 l0 l1 x7_1 y119 0) = some r := by first | (rw [hy119]; with_reducible exact H) | (have H2_ := (Option.bind_some _ _).symm.trans H; rw [hy119]; with_reducible exact H2_) | (have H2_ := (Option.bind_some _ _).symm.trans H; with_reducible exact H2_) | with_reducible exact H | (rw [hy119]; exact H) | exact H
          have Ny119 := Aside0.mk hy119
          clear hy119
          have H' := Aside0.mk H
          clear H
          go_wp2_with (first | ((with_reducible refine gate_dst (N := 78) rfl ?_); refine Kd.R_lit (Kd.int .u32) _ 145 ?hg (N := 78) ?hd (xs := ([] : List Int)) (inner := []) (ok := fun _ => True) (okp := fun _ => True) ?hr ?hp (fun _ hk => hk) trivial (Below.refl _ _) (Nat.le_refl _) (by simp) ?_; (case hd => rfl); (case hg => rfl); (case hr => first | (go_simp; done) | (go_simp; rfl) | (go_simp; simp [IntKind.wrap, IntKind.bits, IntKind.signed])); (case hp => exact (Reps.none _ _)); intro v117 w34 ho35 hb hg_ hnew_; clear hg_ hnew_; (first | rw [← Ny116.out] at ho35 | (simp only [Int.reduceToNat] at ho35; rw [← Ny116.out] at ho35)); have n0_ := Aside0.mk (Kd.R_elder' (by (with_reducible repeat (first | apply Kd.R_alloc | apply Kd.R_drewN | apply Kd.R_drew)); exact HO_7.out) (Kd.R_base ho35) hb); have n1_ := Aside0.mk (Kd.R_lower (Kd.R_new' ho35 (Kd.R_lt (by (with_reducible repeat (first | apply Kd.R_alloc | apply Kd.R_drewN | apply Kd.R_drew)); exact HO_7.out))) (below_size (by repeat (first | (with_reducible first | exact HB.out | apply below_alloc | apply pw_below_drewN | apply below_drew1) | exact HB.out)))); have n2_ := Aside0.mk (below_step (by repeat (first | (with_reducible first | exact HB.out | apply below_alloc | apply pw_below_drewN | apply below_drew1) | exact HB.out)) hb); clear HO_7; clear HB; have HO_7 := n0_; have HO118 := n1_; have HB := n2_; clear n0_ n1_ n2_; clear hb ho35) | ((with_reducible refine gate_builtin (b := .append) (xs := #[.tmp 78, .tmp 79]) rfl ?_); at_builtin; refine Kd.R_append_rows (Kd.int .u32) (w0 := w) w.heap.size rfl (.tmp 78) (.tmp 79) 118 145 (.int .u32 0) 4 rfl Tryd.underlying118 info145 rfl (by decide) (by omega) v117 y116 l0 _ _ _ (fun k_ => some k_ ≠ (u7 : Value).ownBlock) (fun _ => False) rfl rfl ?aO ?aR (fun _ _ h => h) (fun _ h => h.elim) ?aF ?aB ?aS ?aL ?_; (case aR => repeat (first | exact (Kd.C_below HR0.out HB.out) | (with_reducible refine Kd.C_alloc ?_ _) | (with_reducible refine Kd.C_drewN ?_ _) | (with_reducible refine Kd.C_drew ?_))); (case aB => exact (by repeat (first | (with_reducible first | exact HB.out | apply below_alloc | apply pw_below_drewN | apply below_drew1) | exact HB.out))); (case aF => exact (fun k_ hk => Kd.fresh' (Kd.R_lt (by (with_reducible repeat (first | apply Kd.R_alloc | apply Kd.R_drewN | apply Kd.R_drew)); exact HO_7.out)) k_ hk)); (case aO => exact (by (with_reducible repeat (first | apply Kd.R_alloc | apply Kd.R_drewN | apply Kd.R_drew)); exact Kd.R_mono HO118.out (fun _ hk => hk.2))); (case aS => exact (below_size (by repeat (first | (with_reducible first | exact HB.out | apply below_alloc | apply pw_below_drewN | apply below_drew1) | exact HB.out)))); (case aL => have := LMc33.out; omega); intro v120 w36 ho hb hg hat; rw [← Ny119.out] at ho; have n0_ := Aside0.mk (Kd.R_after (ok := (fun _ => True)) (by (with_reducible repeat (first | apply Kd.R_alloc | apply Kd.R_drewN | apply Kd.R_drew)); exact HO_7.out) hg hat); have n1_ := Aside0.mk (hb); have n2_ := Aside0.mk (ho); clear HO_7; clear HB; clear HO118; have HO_7 := n0_; have HB := n1_; have HO121 := n2_; clear n0_ n1_ n2_; clear ho hb hg hat))
          go_loopg [11, 12] k1 (fun kq v11 v12 w' => ∃ (x11_2 : List Int) (x12_2 : Int), v12 = .int .i64 x12_2 ∧ Aside0 (spec_l4Round.l1 kq l0 l1 x7_1 x11_2 x12_2 = some r) ∧ Aside0 (kq ≤ k1) ∧ Aside0 (Kd.R (Kd.int .u32) 145 w' w.heap.size (fun k_ => some k_ ≠ (v11 : Value).ownBlock) u7 x7_1) ∧ Aside0 (Kd.R (Kd.int .u32) 145 w' w.heap.size (fun k_ => some k_ ≠ (u7 : Value).ownBlock) v11 x11_2) ∧ Aside0 (Below w.heap.size w w'))
          case atStart => exact ⟨(y119), (0), (by first | rfl | (simp; done) | (simp [*]; done)), H', ⟨Nat.le_refl _⟩, ⟨by (with_reducible repeat (first | apply Kd.R_alloc | apply Kd.R_drewN | apply Kd.R_drew)); exact Kd.R_mono HO_7.out (fun _ hk => hk.2)⟩, ⟨by (with_reducible repeat (first | apply Kd.R_alloc | apply Kd.R_drewN | apply Kd.R_drew)); exact HO121.out⟩, ⟨by repeat (first | (with_reducible first | exact HB.out | apply below_alloc | apply pw_below_drewN | apply below_drew1) | exact HB.out)⟩⟩
          case round =>
            clear H'
            try clear c1
            try clear p1
            try clear q1
            try clear hx1
            try clear c2
            try clear p2
            try clear c3
            try clear c4
            try clear c4b0
            try clear c5
            try clear c5b0
            try clear p6
            try clear c7
            try clear c7b0
            try clear c7b1
            try clear c8
            try clear c8b0
            try clear c8b1
            try clear c9
            try clear c9b0
            try clear c9b1
            try clear c10
            try clear p10
            try clear q10
            try clear hx10
            try clear c11
            try clear p11
            try clear q11
            try clear hx11
            try clear c14
            try clear c14b0
            try clear c15
            try clear c15b0
            try clear c17
            try clear c17b0
            try clear c18
            try clear c18b0
            try clear c20
            try clear c20b0
            try clear c21
            try clear c21b0
            try clear c25
            try clear c25b0
            try clear c26
            try clear c26b0
            try clear c29
            try clear c33
            try clear hx105_0
            try clear hx106_0
            try clear hx107_0
            try clear hx110_0
            try clear p105
            try clear p106
            try clear p107
            try clear p110
            try clear p2
            try clear q105
            try clear q106
            try clear q107
            try clear q110
            obtain ⟨x11_2, x12_2, rfl, HA, HK2, HO_7, HO_11, HB⟩ := hrel
            cases gk with
            | zero => exact absurd HA.out (by simp [spec_l4Round.l1])
            | succ k2 =>
              have H := HA.out
              clear HA
              simp only [spec_l4Round.l1] at H
              by_cases c37 : x12_2 < 64
              · rw [if_pos c37] at H
                have c37b0 : decide (x12_2 < 64) = true := decide_eq_true c37
                clear c37
                by_cases c38 : 4 < (x11_2.length : Int)
                · rw [if_pos c38] at H
                  have c38b0 : decide (4 < (x11_2.length : Int)) = true := decide_eq_true c38
                  have c38b1 : decide (4 < x11_2.length) = true := decide_eq_true (by omega)
                  clear c38
                  by_cases c39 : 0 < (x11_2.length : Int)
                  · rw [if_pos c39] at H
                    have c39b0 : decide (0 < (x11_2.length : Int)) = true := decide_eq_true c39
                    have c39b1 : decide (0 < x11_2.length) = true := decide_eq_true (by omega)
                    clear c39
                    by_cases c40 : 7 < (x11_2.length : Int)
                    · rw [if_pos c40] at H
                      have c40b0 : decide (7 < (x11_2.length : Int)) = true := decide_eq_true c40
                      have c40b1 : decide (7 < x11_2.length) = true := decide_eq_true (by omega)
                      clear c40
                      replace H := Option.bind_eq_some_iff.mp H
                      obtain ⟨t125, A410, H⟩ := H
                      replace H : ((spec_l4Right.f (rd x11_2 4) 11).bind fun t126 => ((spec_l4Right.f (rd x11_2 4) 25).bind fun t127 => (if 5 < (x11_2.length : Int) then (if 6 < (x11_2.length : Int) then (if 0 ≤ x12_2 then (if x12_2 < (l1.length : Int) then (if x12_2 < (x7_1.length : Int) then ((spec_l4Right.f (rd x11_2 0) 2).bind fun t132 => ((spec_l4Right.f (rd x11_2 0) 13).bind fun t133 => ((spec_l4Right.f (rd x11_2 0) 22).bind fun t134 => (if 1 < (x11_2.length : Int) then (if 2 < (x11_2.length : Int) then (if 3 < (x11_2.length : Int) then (spec_l4Round.l1 k2 l0 l1 x7_1 (([((((((((((rd x11_2 7) + (Go.bits .xor .u32 (Go.bits .xor .u32 t125 t126) t127)) % 4294967296) + (Go.bits .xor .u32 (Go.bits .and .u32 (rd x11_2 4) (rd x11_2 5)) (Go.bits .and .u32 (Go.bits .xor .u32 IntKind.u32.max (rd x11_2 4)) (rd x11_2 6)))) % 4294967296) + (rd l1 x12_2)) % 4294967296) + (rd x7_1 x12_2)) % 4294967296) + (((Go.bits .xor .u32 (Go.bits .xor .u32 t132 t133) t134) + (Go.bits .xor .u32 (Go.bits .xor .u32 (Go.bits .and .u32 (rd x11_2 0) (rd x11_2 1)) (Go.bits .and .u32 (rd x11_2 0) (rd x11_2 2))) (Go.bits .and .u32 (rd x11_2 1) (rd x11_2 2)))) % 4294967296)) % 4294967296, rd x11_2 0, rd x11_2 1, rd x11_2 2, ((rd x11_2 3) + (((((((((rd x11_2 7) + (Go.bits .xor .u32 (Go.bits .xor .u32 t125 t126) t127)) % 4294967296) + (Go.bits .xor .u32 (Go.bits .and .u32 (rd x11_2 4) (rd x11_2 5)) (Go.bits .and .u32 (Go.bits .xor .u32 IntKind.u32.max (rd x11_2 4)) (rd x11_2 6)))) % 4294967296) + (rd l1 x12_2)) % 4294967296) + (rd x7_1 x12_2)) % 4294967296)) % 4294967296, rd x11_2 4, rd x11_2 5, rd x11_2 6] : List Int)) (wrap64 (x12_2 + 1))) else (none)) else (none)) else (none))))) else (none)) else (none)) else (none)) else (none)) else (none)))) = some r := H
                      have A41 := Aside0.mk A410
                      clear A410
                      replace H := Option.bind_eq_some_iff.mp H
                      obtain ⟨t126, A420, H⟩ := H
                      replace H : ((spec_l4Right.f (rd x11_2 4) 25).bind fun t127 => (if 5 < (x11_2.length : Int) then (if 6 < (x11_2.length : Int) then (if 0 ≤ x12_2 then (if x12_2 < (l1.length : Int) then (if x12_2 < (x7_1.length : Int) then ((spec_l4Right.f (rd x11_2 0) 2).bind fun t132 => ((spec_l4Right.f (rd x11_2 0) 13).bind fun t133 => ((spec_l4Right.f (rd x11_2 0) 22).bind fun t134 => (if 1 < (x11_2.length : Int) then (if 2 < (x11_2.length : Int) then (if 3 < (x11_2.length : Int) then (spec_l4Round.l1 k2 l0 l1 x7_1 (([((((((((((rd x11_2 7) + (Go.bits .xor .u32 (Go.bits .xor .u32 t125 t126) t127)) % 4294967296) + (Go.bits .xor .u32 (Go.bits .and .u32 (rd x11_2 4) (rd x11_2 5)) (Go.bits .and .u32 (Go.bits .xor .u32 IntKind.u32.max (rd x11_2 4)) (rd x11_2 6)))) % 4294967296) + (rd l1 x12_2)) % 4294967296) + (rd x7_1 x12_2)) % 4294967296) + (((Go.bits .xor .u32 (Go.bits .xor .u32 t132 t133) t134) + (Go.bits .xor .u32 (Go.bits .xor .u32 (Go.bits .and .u32 (rd x11_2 0) (rd x11_2 1)) (Go.bits .and .u32 (rd x11_2 0) (rd x11_2 2))) (Go.bits .and .u32 (rd x11_2 1) (rd x11_2 2)))) % 4294967296)) % 4294967296, rd x11_2 0, rd x11_2 1, rd x11_2 2, ((rd x11_2 3) + (((((((((rd x11_2 7) + (Go.bits .xor .u32 (Go.bits .xor .u32 t125 t126) t127)) % 4294967296) + (Go.bits .xor .u32 (Go.bits .and .u32 (rd x11_2 4) (rd x11_2 5)) (Go.bits .and .u32 (Go.bits .xor .u32 IntKind.u32.max (rd x11_2 4)) (rd x11_2 6)))) % 4294967296) + (rd l1 x12_2)) % 4294967296) + (rd x7_1 x12_2)) % 4294967296)) % 4294967296, rd x11_2 4, rd x11_2 5, rd x11_2 6] : List Int)) (wrap64 (x12_2 + 1))) else (none)) else (none)) else (none))))) else (none)) else (none)) else (none)) else (none)) else (none))) = some r := H
                      have A42 := Aside0.mk A420
                      clear A420
                      replace H := Option.bind_eq_some_iff.mp H
                      obtain ⟨t127, A430, H⟩ := H
                      replace H : (if 5 < (x11_2.length : Int) then (if 6 < (x11_2.length : Int) then (if 0 ≤ x12_2 then (if x12_2 < (l1.length : Int) then (if x12_2 < (x7_1.length : Int) then ((spec_l4Right.f (rd x11_2 0) 2).bind fun t132 => ((spec_l4Right.f (rd x11_2 0) 13).bind fun t133 => ((spec_l4Right.f (rd x11_2 0) 22).bind fun t134 => (if 1 < (x11_2.length : Int) then (if 2 < (x11_2.length : Int) then (if 3 < (x11_2.length : Int) then (spec_l4Round.l1 k2 l0 l1 x7_1 (([((((((((((rd x11_2 7) + (Go.bits .xor .u32 (Go.bits .xor .u32 t125 t126) t127)) % 4294967296) + (Go.bits .xor .u32 (Go.bits .and .u32 (rd x11_2 4) (rd x11_2 5)) (Go.bits .and .u32 (Go.bits .xor .u32 IntKind.u32.max (rd x11_2 4)) (rd x11_2 6)))) % 4294967296) + (rd l1 x12_2)) % 4294967296) + (rd x7_1 x12_2)) % 4294967296) + (((Go.bits .xor .u32 (Go.bits .xor .u32 t132 t133) t134) + (Go.bits .xor .u32 (Go.bits .xor .u32 (Go.bits .and .u32 (rd x11_2 0) (rd x11_2 1)) (Go.bits .and .u32 (rd x11_2 0) (rd x11_2 2))) (Go.bits .and .u32 (rd x11_2 1) (rd x11_2 2)))) % 4294967296)) % 4294967296, rd x11_2 0, rd x11_2 1, rd x11_2 2, ((rd x11_2 3) + (((((((((rd x11_2 7) + (Go.bits .xor .u32 (Go.bits .xor .u32 t125 t126) t127)) % 4294967296) + (Go.bits .xor .u32 (Go.bits .and .u32 (rd x11_2 4) (rd x11_2 5)) (Go.bits .and .u32 (Go.bits .xor .u32 IntKind.u32.max (rd x11_2 4)) (rd x11_2 6)))) % 4294967296) + (rd l1 x12_2)) % 4294967296) + (rd x7_1 x12_2)) % 4294967296)) % 4294967296, rd x11_2 4, rd x11_2 5, rd x11_2 6] : List Int)) (wrap64 (x12_2 + 1))) else (none)) else (none)) else (none))))) else (none)) else (none)) else (none)) else (none)) else (none)) = some r := H
                      have A43 := Aside0.mk A430
                      clear A430
                      by_cases c44 : 5 < (x11_2.length : Int)
                      · rw [if_pos c44] at H
                        have c44b0 : decide (5 < (x11_2.length : Int)) = true := decide_eq_true c44
                        have c44b1 : decide (5 < x11_2.length) = true := decide_eq_true (by omega)
                        clear c44
                        by_cases c45 : 6 < (x11_2.length : Int)
                        · rw [if_pos c45] at H
                          have c45b0 : decide (6 < (x11_2.length : Int)) = true := decide_eq_true c45
                          have c45b1 : decide (6 < x11_2.length) = true := decide_eq_true (by omega)
                          clear c45
                          by_cases c46 : 0 ≤ x12_2
                          · rw [if_pos c46] at H
                            have c46b0 : decide (0 ≤ x12_2) = true := decide_eq_true c46
                            clear c46
                            by_cases c47 : x12_2 < (l1.length : Int)
                            · rw [if_pos c47] at H
                              have c47b0 : decide (x12_2 < (l1.length : Int)) = true := decide_eq_true c47
                              clear c47
                              by_cases c48 : x12_2 < (x7_1.length : Int)
                              · rw [if_pos c48] at H
                                have c48b0 : decide (x12_2 < (x7_1.length : Int)) = true := decide_eq_true c48
                                clear c48
                                replace H := Option.bind_eq_some_iff.mp H
                                obtain ⟨t132, A490, H⟩ := H
                                replace H : ((spec_l4Right.f (rd x11_2 0) 13).bind fun t133 => ((spec_l4Right.f (rd x11_2 0) 22).bind fun t134 => (if 1 < (x11_2.length : Int) then (if 2 < (x11_2.length : Int) then (if 3 < (x11_2.length : Int) then (spec_l4Round.l1 k2 l0 l1 x7_1 (([((((((((((rd x11_2 7) + (Go.bits .xor .u32 (Go.bits .xor .u32 t125 t126) t127)) % 4294967296) + (Go.bits .xor .u32 (Go.bits .and .u32 (rd x11_2 4) (rd x11_2 5)) (Go.bits .and .u32 (Go.bits .xor .u32 IntKind.u32.max (rd x11_2 4)) (rd x11_2 6)))) % 4294967296) + (rd l1 x12_2)) % 4294967296) + (rd x7_1 x12_2)) % 4294967296) + (((Go.bits .xor .u32 (Go.bits .xor .u32 t132 t133) t134) + (Go.bits .xor .u32 (Go.bits .xor .u32 (Go.bits .and .u32 (rd x11_2 0) (rd x11_2 1)) (Go.bits .and .u32 (rd x11_2 0) (rd x11_2 2))) (Go.bits .and .u32 (rd x11_2 1) (rd x11_2 2)))) % 4294967296)) % 4294967296, rd x11_2 0, rd x11_2 1, rd x11_2 2, ((rd x11_2 3) + (((((((((rd x11_2 7) + (Go.bits .xor .u32 (Go.bits .xor .u32 t125 t126) t127)) % 4294967296) + (Go.bits .xor .u32 (Go.bits .and .u32 (rd x11_2 4) (rd x11_2 5)) (Go.bits .and .u32 (Go.bits .xor .u32 IntKind.u32.max (rd x11_2 4)) (rd x11_2 6)))) % 4294967296) + (rd l1 x12_2)) % 4294967296) + (rd x7_1 x12_2)) % 4294967296)) % 4294967296, rd x11_2 4, rd x11_2 5, rd x11_2 6] : List Int)) (wrap64 (x12_2 + 1))) else (none)) else (none)) else (none)))) = some r := H
                                have A49 := Aside0.mk A490
                                clear A490
                                replace H := Option.bind_eq_some_iff.mp H
                                obtain ⟨t133, A500, H⟩ := H
                                replace H : ((spec_l4Right.f (rd x11_2 0) 22).bind fun t134 => (if 1 < (x11_2.length : Int) then (if 2 < (x11_2.length : Int) then (if 3 < (x11_2.length : Int) then (spec_l4Round.l1 k2 l0 l1 x7_1 (([((((((((((rd x11_2 7) + (Go.bits .xor .u32 (Go.bits .xor .u32 t125 t126) t127)) % 4294967296) + (Go.bits .xor .u32 (Go.bits .and .u32 (rd x11_2 4) (rd x11_2 5)) (Go.bits .and .u32 (Go.bits .xor .u32 IntKind.u32.max (rd x11_2 4)) (rd x11_2 6)))) % 4294967296) + (rd l1 x12_2)) % 4294967296) + (rd x7_1 x12_2)) % 4294967296) + (((Go.bits .xor .u32 (Go.bits .xor .u32 t132 t133) t134) + (Go.bits .xor .u32 (Go.bits .xor .u32 (Go.bits .and .u32 (rd x11_2 0) (rd x11_2 1)) (Go.bits .and .u32 (rd x11_2 0) (rd x11_2 2))) (Go.bits .and .u32 (rd x11_2 1) (rd x11_2 2)))) % 4294967296)) % 4294967296, rd x11_2 0, rd x11_2 1, rd x11_2 2, ((rd x11_2 3) + (((((((((rd x11_2 7) + (Go.bits .xor .u32 (Go.bits .xor .u32 t125 t126) t127)) % 4294967296) + (Go.bits .xor .u32 (Go.bits .and .u32 (rd x11_2 4) (rd x11_2 5)) (Go.bits .and .u32 (Go.bits .xor .u32 IntKind.u32.max (rd x11_2 4)) (rd x11_2 6)))) % 4294967296) + (rd l1 x12_2)) % 4294967296) + (rd x7_1 x12_2)) % 4294967296)) % 4294967296, rd x11_2 4, rd x11_2 5, rd x11_2 6] : List Int)) (wrap64 (x12_2 + 1))) else (none)) else (none)) else (none))) = some r := H
                                have A50 := Aside0.mk A500
                                clear A500
                                replace H := Option.bind_eq_some_iff.mp H
                                obtain ⟨t134, A510, H⟩ := H
                                replace H : (if 1 < (x11_2.length : Int) then (if 2 < (x11_2.length : Int) then (if 3 < (x11_2.length : Int) then (spec_l4Round.l1 k2 l0 l1 x7_1 (([((((((((((rd x11_2 7) + (Go.bits .xor .u32 (Go.bits .xor .u32 t125 t126) t127)) % 4294967296) + (Go.bits .xor .u32 (Go.bits .and .u32 (rd x11_2 4) (rd x11_2 5)) (Go.bits .and .u32 (Go.bits .xor .u32 IntKind.u32.max (rd x11_2 4)) (rd x11_2 6)))) % 4294967296) + (rd l1 x12_2)) % 4294967296) + (rd x7_1 x12_2)) % 4294967296) + (((Go.bits .xor .u32 (Go.bits .xor .u32 t132 t133) t134) + (Go.bits .xor .u32 (Go.bits .xor .u32 (Go.bits .and .u32 (rd x11_2 0) (rd x11_2 1)) (Go.bits .and .u32 (rd x11_2 0) (rd x11_2 2))) (Go.bits .and .u32 (rd x11_2 1) (rd x11_2 2)))) % 4294967296)) % 4294967296, rd x11_2 0, rd x11_2 1, rd x11_2 2, ((rd x11_2 3) + (((((((((rd x11_2 7) + (Go.bits .xor .u32 (Go.bits .xor .u32 t125 t126) t127)) % 4294967296) + (Go.bits .xor .u32 (Go.bits .and .u32 (rd x11_2 4) (rd x11_2 5)) (Go.bits .and .u32 (Go.bits .xor .u32 IntKind.u32.max (rd x11_2 4)) (rd x11_2 6)))) % 4294967296) + (rd l1 x12_2)) % 4294967296) + (rd x7_1 x12_2)) % 4294967296)) % 4294967296, rd x11_2 4, rd x11_2 5, rd x11_2 6] : List Int)) (wrap64 (x12_2 + 1))) else (none)) else (none)) else (none)) = some r := H
                                have A51 := Aside0.mk A510
                                clear A510
                                by_cases c52 : 1 < (x11_2.length : Int)
                                · rw [if_pos c52] at H
                                  have c52b0 : decide (1 < (x11_2.length : Int)) = true := decide_eq_true c52
                                  have c52b1 : decide (1 < x11_2.length) = true := decide_eq_true (by omega)
                                  clear c52
                                  by_cases c53 : 2 < (x11_2.length : Int)
                                  · rw [if_pos c53] at H
                                    have c53b0 : decide (2 < (x11_2.length : Int)) = true := decide_eq_true c53
                                    have c53b1 : decide (2 < x11_2.length) = true := decide_eq_true (by omega)
                                    clear c53
                                    by_cases c54 : 3 < (x11_2.length : Int)
                                    · rw [if_pos c54] at H
                                      have c54b0 : decide (3 < (x11_2.length : Int)) = true := decide_eq_true c54
                                      have c54b1 : decide (3 < x11_2.length) = true := decide_eq_true (by omega)
                                      clear c54
                                      obtain ⟨y144, hy144⟩ : ∃ y_ : List Int, y_ = (([((((((((((rd x11_2 7) + (Go.bits .xor .u32 (Go.bits .xor .u32 t125 t126) t127)) % 4294967296) + (Go.bits .xor .u32 (Go.bits .and .u32 (rd x11_2 4) (rd x11_2 5)) (Go.bits .and .u32 (Go.bits .xor .u32 IntKind.u32.max (rd x11_2 4)) (rd x11_2 6)))) % 4294967296) + (rd l1 x12_2)) % 4294967296) + (rd x7_1 x12_2)) % 4294967296) + (((Go.bits .xor .u32 (Go.bits .xor .u32 t132 t133) t134) + (Go.bits .xor .u32 (Go.bits .xor .u32 (Go.bits .and .u32 (rd x11_2 0) (rd x11_2 1)) (Go.bits .and .u32 (rd x11_2 0) (rd x11_2 2))) (Go.bits .and .u32 (rd x11_2 1) (rd x11_2 2)))) % 4294967296)) % 4294967296, rd x11_2 0, rd x11_2 1, rd x11_2 2, ((rd x11_2 3) + (((((((((rd x11_2 7) + (Go.bits .xor .u32 (Go.bits .xor .u32 t125 t126) t127)) % 4294967296) + (Go.bits .xor .u32 (Go.bits .and .u32 (rd x11_2 4) (rd x11_2 5)) (Go.bits .and .u32 (Go.bits .xor .u32 IntKind.u32.max (rd x11_2 4)) (rd x11_2 6)))) % 4294967296) + (rd l1 x12_2)) % 4294967296) + (rd x7_1 x12_2)) % 4294967296)) % 4294967296, rd x11_2 4, rd x11_2 5, rd x11_2 6] : List Int)) := ⟨_, rfl⟩
                                      replace H : (spec_l4Round.l1 k2 l0 l1 x7_1 y144 (wrap64 (x12_2 + 1))) = some r := by first | (rw [hy144]; with_reducible exact H) | (have H2_ := (Option.bind_some _ _).symm.trans H; rw [hy144]; with_reducible exact H2_) | (have H2_ := (Option.bind_some _ _).symm.trans H; with_reducible exact H2_) | with_reducible exact H | (rw [hy144]; exact H) | exact H
                                      have Ny144 := Aside0.mk hy144
                                      clear hy144
                                      have H' := Aside0.mk H
                                      clear H
                                      obtain ⟨Ao55, co55, eo55⟩ := Kd.R_slice HO_11.out
                                      subst eo55
                                      have p122 : 0 ≤ (4 : Int) := (by omega)
                                      have q122 : 4 < (x11_2.length : Int) := of_decide_eq_true (by first | (with_reducible assumption) | assumption)
                                      obtain ⟨ad122, e122, hx122_0⟩ := Kd.at_int (Kd.R_reads' HO_11.out).2.2 4 p122 q122
                                      cases e122
                                      (try simp only [show (4 : Int).toNat = 4 from rfl, Nat.reduceMul, Nat.reduceEqDiff, Go.Addr.add, ↓reduceIte] at hx122_0)
                                      have qi122 : (4 < x11_2.length) = True := eq_true (by omega)
                                      (try rw [show ((4 : Int)).toNat = 4 from rfl] at hx122_0)
                                      replace p122 := eq_true p122
                                      replace q122 := eq_true q122
                                      have p123 : 0 ≤ (0 : Int) := (by omega)
                                      have q123 : 0 < (x11_2.length : Int) := of_decide_eq_true (by first | (with_reducible assumption) | assumption)
                                      obtain ⟨ad123, e123, hx123_0⟩ := Kd.at_int (Kd.R_reads' HO_11.out).2.2 0 p123 q123
                                      obtain rfl : ad122 = ad123 := (by injection e123)
                                      have qi123 : (0 < x11_2.length) = True := eq_true (by omega)
                                      (try rw [show ((0 : Int)).toNat = 0 from rfl] at hx123_0)
                                      (try rw [Addr.add_zero'] at hx123_0)
                                      replace p123 := eq_true p123
                                      replace q123 := eq_true q123
                                      try go_wp2
                                      have n0_ := Aside0.mk (Kd.R_drew HO_7.out)
                                      have n1_ := Aside0.mk (Kd.R_drew HO_11.out)
                                      have n2_ := Aside0.mk (below_drew1 HB.out)
                                      clear HO_7
                                      clear HO_11
                                      clear HB
                                      have HO_7 := n0_
                                      have HO_11 := n1_
                                      have HB := n2_
                                      clear n0_ n1_ n2_
                                      have p124 : 0 ≤ (7 : Int) := (by omega)
                                      have q124 : 7 < (x11_2.length : Int) := of_decide_eq_true (by first | (with_reducible assumption) | assumption)
                                      obtain ⟨ad124, e124, hx124_0⟩ := Kd.at_int (Kd.R_reads' HO_11.out).2.2 7 p124 q124
                                      obtain rfl : ad122 = ad124 := (by injection e124)
                                      (try simp only [show (7 : Int).toNat = 7 from rfl, Nat.reduceMul, Nat.reduceEqDiff, Go.Addr.add, ↓reduceIte] at hx124_0)
                                      have qi124 : (7 < x11_2.length) = True := eq_true (by omega)
                                      (try rw [show ((7 : Int)).toNat = 7 from rfl] at hx124_0)
                                      replace p124 := eq_true p124
                                      replace q124 := eq_true q124
                                      have p128 : 0 ≤ (5 : Int) := (by omega)
                                      have q128 : 5 < (x11_2.length : Int) := of_decide_eq_true (by first | (with_reducible assumption) | assumption)
                                      obtain ⟨ad128, e128, hx128_0⟩ := Kd.at_int (Kd.R_reads' HO_11.out).2.2 5 p128 q128
                                      obtain rfl : ad122 = ad128 := (by injection e128)
                                      (try simp only [show (5 : Int).toNat = 5 from rfl, Nat.reduceMul, Nat.reduceEqDiff, Go.Addr.add, ↓reduceIte] at hx128_0)
                                      have qi128 : (5 < x11_2.length) = True := eq_true (by omega)
                                      (try rw [show ((5 : Int)).toNat = 5 from rfl] at hx128_0)
                                      replace p128 := eq_true p128
                                      replace q128 := eq_true q128
                                      have p129 : 0 ≤ (6 : Int) := (by omega)
                                      have q129 : 6 < (x11_2.length : Int) := of_decide_eq_true (by first | (with_reducible assumption) | assumption)
                                      obtain ⟨ad129, e129, hx129_0⟩ := Kd.at_int (Kd.R_reads' HO_11.out).2.2 6 p129 q129
                                      obtain rfl : ad122 = ad129 := (by injection e129)
                                      (try simp only [show (6 : Int).toNat = 6 from rfl, Nat.reduceMul, Nat.reduceEqDiff, Go.Addr.add, ↓reduceIte] at hx129_0)
                                      have qi129 : (6 < x11_2.length) = True := eq_true (by omega)
                                      (try rw [show ((6 : Int)).toNat = 6 from rfl] at hx129_0)
                                      replace p129 := eq_true p129
                                      replace q129 := eq_true q129
                                      have p130 : 0 ≤ (x12_2 : Int) := of_decide_eq_true (by first | (with_reducible assumption) | assumption)
                                      have q130 : x12_2 < (l1.length : Int) := of_decide_eq_true (by first | (with_reducible assumption) | assumption)
                                      obtain ⟨ad130, e130, hx130_0⟩ := Kd.at_int HR1.out x12_2 p130 q130
                                      have hw130_0 := hx130_0
                                      cases e130
                                      replace hx130_0 := (HB.out.cell (World.block_lt_of_cell? w _ hx130_0)).trans hx130_0
                                      replace p130 := eq_true p130
                                      replace q130 := eq_true q130
                                      obtain ⟨Ao57, co57, eo57⟩ := Kd.R_slice HO_7.out
                                      (first | subst eo57 | (injection eo57 with f1_ f2_ f3_; have f4_ := f1_.symm; have f5_ := f3_.symm; clear f1_ f2_ f3_; subst f4_; subst f5_))
                                      have p131 : 0 ≤ (x12_2 : Int) := of_decide_eq_true (by first | (with_reducible assumption) | assumption)
                                      have q131 : x12_2 < (x7_1.length : Int) := of_decide_eq_true (by first | (with_reducible assumption) | assumption)
                                      obtain ⟨ad131, e131, hx131_0⟩ := Kd.at_int (Kd.R_reads' HO_7.out).2.2 x12_2 p131 q131
                                      cases e131
                                      replace p131 := eq_true p131
                                      replace q131 := eq_true q131
                                      refine start_ (n := 36) (S := fun w' => w'.cell? ⟨ad122.block, ad122.off + 7, none⟩ = some (.int .u32 (rd x11_2 7)) ∧ w'.cell? ⟨ad122.block, ad122.off + 5, none⟩ = some (.int .u32 (rd x11_2 5)) ∧ w'.cell? ⟨ad122.block, ad122.off + 6, none⟩ = some (.int .u32 (rd x11_2 6)) ∧ w'.cell? (ad130.add (x12_2).toNat) = some (.int .u32 (rd l1 x12_2)) ∧ w'.cell? (ad131.add (x12_2).toNat) = some (.int .u32 (rd x7_1 x12_2))) (ds := []) #[false, false, false, false, false, false, false, false, false, false, false, false, false, false, false, false, false, false, false, false, false, false, false, false, false, false, false, false, false, false, false, false, false, false, false, false] (by kernel_rfl) rfl rfl ⟨hx124_0, hx128_0, hx129_0, ((HB.out.cell (World.block_lt_of_cell? w _ hw130_0)).trans hw130_0), hx131_0⟩ (fun hHeld => ?_); refine with_tabW spec_l4Round.tab16 spec_l4Round.bits16 (fun HT_ HW_ => ?_)
                                      generalize wr.drew = w56 at HO_7 HO_11 HB hx124_0 hx128_0 hx129_0 hx130_0 hx131_0 hHeld ⊢
                                      refine pure_ (i := 0) (N := some 91) (v := ?_) (a' := ?_) #[true, false, false, false, false, false, false, false, false, false, false, false, false, false, false, false, false, false, false, false, false, false, false, false, false, false, false, false, false, false, false, false, false, false, false, false] rfl rfl (any_of HT_.out (by kernel_rfl)) (fun _ _ _ h => h) (Or.inl ⟨by rfl, ?_⟩) ?_ ?_
                                      rotate_left
                                      · intro w'
                                        go_simp
                                        with_reducible rfl
                                      rotate_left
                                      · simp only [Act.put, List.setIfInBounds_toArray, List.set_cons_zero, List.set_cons_succ, i64_w, i32_w]
                                        rfl
                                      refine pure_ (i := 1) (N := some 92) (v := ?_) (a' := ?_) #[true, true, false, false, false, false, false, false, false, false, false, false, false, false, false, false, false, false, false, false, false, false, false, false, false, false, false, false, false, false, false, false, false, false, false, false] rfl rfl (any_of HT_.out (by kernel_rfl)) (fun _ _ _ h => h) (Or.inl ⟨by rfl, ?_⟩) ?_ ?_
                                      rotate_left
                                      · intro w'
                                        go_simp
                                        with_reducible rfl
                                      rotate_left
                                      · simp only [Act.put, List.setIfInBounds_toArray, List.set_cons_zero, List.set_cons_succ, i64_w, i32_w]
                                        rfl
                                      refine pure_ (i := 3) (N := some 94) (v := ?_) (a' := ?_) #[true, true, false, true, false, false, false, false, false, false, false, false, false, false, false, false, false, false, false, false, false, false, false, false, false, false, false, false, false, false, false, false, false, false, false, false] rfl rfl (any_of HT_.out (by kernel_rfl)) (fun _ _ _ h => h) (Or.inl ⟨by rfl, ?_⟩) ?_ ?_
                                      rotate_left
                                      · intro w'
                                        go_simp
                                        with_reducible rfl
                                      rotate_left
                                      · simp only [Act.put, List.setIfInBounds_toArray, List.set_cons_zero, List.set_cons_succ, i64_w, i32_w]
                                        rfl
                                      refine pure_ (i := 5) (N := some 96) (v := ?_) (a' := ?_) #[true, true, false, true, false, true, false, false, false, false, false, false, false, false, false, false, false, false, false, false, false, false, false, false, false, false, false, false, false, false, false, false, false, false, false, false] rfl rfl (any_of HT_.out (by kernel_rfl)) (fun _ _ _ h => h) (Or.inl ⟨by rfl, ?_⟩) ?_ ?_
                                      rotate_left
                                      · intro w'
                                        go_simp
                                        with_reducible rfl
                                      rotate_left
                                      · simp only [Act.put, List.setIfInBounds_toArray, List.set_cons_zero, List.set_cons_succ, i64_w, i32_w]
                                        rfl
                                      refine pure_ (i := 8) (N := some 99) (v := ?_) (a' := ?_) #[true, true, false, true, false, true, false, false, true, false, false, false, false, false, false, false, false, false, false, false, false, false, false, false, false, false, false, false, false, false, false, false, false, false, false, false] rfl rfl (any_of HT_.out (by kernel_rfl)) (fun _ _ _ h => h) (Or.inl ⟨by rfl, ?_⟩) ?_ ?_
                                      rotate_left
                                      · intro w'
                                        go_simp
                                        with_reducible rfl
                                      rotate_left
                                      · simp only [Act.put, List.setIfInBounds_toArray, List.set_cons_zero, List.set_cons_succ, i64_w, i32_w]
                                        rfl
                                      refine pure_ (i := 12) (N := some 103) (v := ?_) (a' := ?_) #[true, true, false, true, false, true, false, false, true, false, false, false, true, false, false, false, false, false, false, false, false, false, false, false, false, false, false, false, false, false, false, false, false, false, false, false] rfl rfl (any_of HT_.out (by kernel_rfl)) (fun _ _ _ h => h) (Or.inl ⟨by rfl, ?_⟩) ?_ ?_
                                      rotate_left
                                      · intro w'
                                        go_simp
                                        with_reducible rfl
                                      rotate_left
                                      · simp only [Act.put, List.setIfInBounds_toArray, List.set_cons_zero, List.set_cons_succ, i64_w, i32_w]
                                        rfl
                                      refine pure_ (i := 13) (N := some 104) (v := ?_) (a' := ?_) #[true, true, false, true, false, true, false, false, true, false, false, false, true, true, false, false, false, false, false, false, false, false, false, false, false, false, false, false, false, false, false, false, false, false, false, false] rfl rfl (any_of HT_.out (by kernel_rfl)) (fun _ _ _ h => h) (Or.inl ⟨by rfl, ?_⟩) ?_ ?_
                                      rotate_left
                                      · intro w'
                                        go_simp
                                        with_reducible rfl
                                      rotate_left
                                      · simp only [Act.put, List.setIfInBounds_toArray, List.set_cons_zero, List.set_cons_succ, i64_w, i32_w]
                                        rfl
                                      refine pure_ (i := 14) (N := some 105) (v := ?_) (a' := ?_) #[true, true, false, true, false, true, false, false, true, false, false, false, true, true, true, false, false, false, false, false, false, false, false, false, false, false, false, false, false, false, false, false, false, false, false, false] rfl rfl (any_of HT_.out (by kernel_rfl)) (fun _ _ _ h => h) (Or.inl ⟨by rfl, ?_⟩) ?_ ?_
                                      rotate_left
                                      · intro w'
                                        go_simp
                                        with_reducible rfl
                                      rotate_left
                                      · simp only [Act.put, List.setIfInBounds_toArray, List.set_cons_zero, List.set_cons_succ, i64_w, i32_w]
                                        rfl
                                      refine pure_ (i := 17) (N := some 108) (v := ?_) (a' := ?_) #[true, true, false, true, false, true, false, false, true, false, false, false, true, true, true, false, false, true, false, false, false, false, false, false, false, false, false, false, false, false, false, false, false, false, false, false] rfl rfl (any_of HT_.out (by kernel_rfl)) (fun _ _ _ h => h) (Or.inl ⟨by rfl, ?_⟩) ?_ ?_
                                      rotate_left
                                      · intro w'
                                        go_simp
                                        with_reducible rfl
                                      rotate_left
                                      · simp only [Act.put, List.setIfInBounds_toArray, List.set_cons_zero, List.set_cons_succ, i64_w, i32_w]
                                        rfl
                                      refine pure_ (i := 18) (N := some 109) (v := ?_) (a' := ?_) #[true, true, false, true, false, true, false, false, true, false, false, false, true, true, true, false, false, true, true, false, false, false, false, false, false, false, false, false, false, false, false, false, false, false, false, false] rfl rfl (any_of HT_.out (by kernel_rfl)) (fun _ _ _ h => h) (Or.inl ⟨by rfl, ?_⟩) ?_ ?_
                                      rotate_left
                                      · intro w'
                                        go_simp
                                        with_reducible rfl
                                      rotate_left
                                      · simp only [Act.put, List.setIfInBounds_toArray, List.set_cons_zero, List.set_cons_succ, i64_w, i32_w]
                                        rfl
                                      refine pure_ (i := 19) (N := some 110) (v := ?_) (a' := ?_) #[true, true, false, true, false, true, false, false, true, false, false, false, true, true, true, false, false, true, true, true, false, false, false, false, false, false, false, false, false, false, false, false, false, false, false, false] rfl rfl (any_of HT_.out (by kernel_rfl)) (fun _ _ _ h => h) (Or.inl ⟨by rfl, ?_⟩) ?_ ?_
                                      rotate_left
                                      · intro w'
                                        go_simp
                                        with_reducible rfl
                                      rotate_left
                                      · simp only [Act.put, List.setIfInBounds_toArray, List.set_cons_zero, List.set_cons_succ, i64_w, i32_w]
                                        rfl
                                      refine pure_ (i := 20) (N := some 111) (v := ?_) (a' := ?_) #[true, true, false, true, false, true, false, false, true, false, false, false, true, true, true, false, false, true, true, true, true, false, false, false, false, false, false, false, false, false, false, false, false, false, false, false] rfl rfl (any_of HT_.out (by kernel_rfl)) (fun _ _ _ h => h) (Or.inl ⟨by rfl, ?_⟩) ?_ ?_
                                      rotate_left
                                      · intro w'
                                        go_simp
                                        with_reducible rfl
                                      rotate_left
                                      · simp only [Act.put, List.setIfInBounds_toArray, List.set_cons_zero, List.set_cons_succ, i64_w, i32_w]
                                        rfl
                                      refine pure_ (i := 25) (N := some 116) (v := ?_) (a' := ?_) #[true, true, false, true, false, true, false, false, true, false, false, false, true, true, true, false, false, true, true, true, true, false, false, false, false, true, false, false, false, false, false, false, false, false, false, false] rfl rfl (any_of HT_.out (by kernel_rfl)) (fun _ _ _ h => h) (Or.inl ⟨by rfl, ?_⟩) ?_ ?_
                                      rotate_left
                                      · intro w'
                                        go_simp
                                        with_reducible rfl
                                      rotate_left
                                      · simp only [Act.put, List.setIfInBounds_toArray, List.set_cons_zero, List.set_cons_succ, i64_w, i32_w]
                                        rfl
                                      refine pure_ (i := 26) (N := some 117) (v := ?_) (a' := ?_) #[true, true, false, true, false, true, false, false, true, false, false, false, true, true, true, false, false, true, true, true, true, false, false, false, false, true, true, false, false, false, false, false, false, false, false, false] rfl rfl (any_of HT_.out (by kernel_rfl)) (fun _ _ _ h => h) (Or.inl ⟨by rfl, ?_⟩) ?_ ?_
                                      rotate_left
                                      · intro w'
                                        go_simp
                                        with_reducible rfl
                                      rotate_left
                                      · simp only [Act.put, List.setIfInBounds_toArray, List.set_cons_zero, List.set_cons_succ, i64_w, i32_w]
                                        rfl
                                      refine pure_ (i := 27) (N := some 118) (v := ?_) (a' := ?_) #[true, true, false, true, false, true, false, false, true, false, false, false, true, true, true, false, false, true, true, true, true, false, false, false, false, true, true, true, false, false, false, false, false, false, false, false] rfl rfl (any_of HT_.out (by kernel_rfl)) (fun _ _ _ h => h) (Or.inl ⟨by rfl, ?_⟩) ?_ ?_
                                      rotate_left
                                      · intro w'
                                        go_simp
                                        with_reducible rfl
                                      rotate_left
                                      · simp only [Act.put, List.setIfInBounds_toArray, List.set_cons_zero, List.set_cons_succ, i64_w, i32_w]
                                        rfl
                                      refine pure_ (i := 30) (N := some 121) (v := ?_) (a' := ?_) #[true, true, false, true, false, true, false, false, true, false, false, false, true, true, true, false, false, true, true, true, true, false, false, false, false, true, true, true, false, false, true, false, false, false, false, false] rfl rfl (any_of HT_.out (by kernel_rfl)) (fun _ _ _ h => h) (Or.inl ⟨by rfl, ?_⟩) ?_ ?_
                                      rotate_left
                                      · intro w'
                                        go_simp
                                        with_reducible rfl
                                      rotate_left
                                      · simp only [Act.put, List.setIfInBounds_toArray, List.set_cons_zero, List.set_cons_succ, i64_w, i32_w]
                                        rfl
                                      refine pure_ (i := 31) (N := some 122) (v := ?_) (a' := ?_) #[true, true, false, true, false, true, false, false, true, false, false, false, true, true, true, false, false, true, true, true, true, false, false, false, false, true, true, true, false, false, true, true, false, false, false, false] rfl rfl (any_of HT_.out (by kernel_rfl)) (fun _ _ _ h => h) (Or.inl ⟨by rfl, ?_⟩) ?_ ?_
                                      rotate_left
                                      · intro w'
                                        go_simp
                                        with_reducible rfl
                                      rotate_left
                                      · simp only [Act.put, List.setIfInBounds_toArray, List.set_cons_zero, List.set_cons_succ, i64_w, i32_w]
                                        rfl
                                      refine pure_ (i := 32) (N := some 123) (v := ?_) (a' := ?_) #[true, true, false, true, false, true, false, false, true, false, false, false, true, true, true, false, false, true, true, true, true, false, false, false, false, true, true, true, false, false, true, true, true, false, false, false] rfl rfl (any_of HT_.out (by kernel_rfl)) (fun _ _ _ h => h) (Or.inl ⟨by rfl, ?_⟩) ?_ ?_
                                      rotate_left
                                      · intro w'
                                        go_simp
                                        with_reducible rfl
                                      rotate_left
                                      · simp only [Act.put, List.setIfInBounds_toArray, List.set_cons_zero, List.set_cons_succ, i64_w, i32_w]
                                        rfl
                                      refine take_ (i := 2) (N := some 93) (v := ?_) (a' := ?_) #[true, true, true, true, false, true, false, false, true, false, false, false, true, true, true, false, false, true, true, true, true, false, false, false, false, true, true, true, false, false, true, true, true, false, false, false] rfl rfl (take_ofW HT_.out HW_.out (by kernel_rfl)) (fun _ _ _ h => h) (Or.inl ⟨by rfl, ?_⟩) hHeld ?_ ?_
                                      rotate_left
                                      · rintro w' ⟨s0, s1, s2, s3, s4⟩
                                        go_simp
                                        with_reducible rfl
                                      rotate_left
                                      · simp only [Act.put, List.setIfInBounds_toArray, List.set_cons_zero, List.set_cons_succ, i64_w, i32_w]
                                        rfl
                                      refine take_ (i := 15) (N := some 106) (v := ?_) (a' := ?_) #[true, true, true, true, false, true, false, false, true, false, false, false, true, true, true, true, false, true, true, true, true, false, false, false, false, true, true, true, false, false, true, true, true, false, false, false] rfl rfl (take_ofW HT_.out HW_.out (by kernel_rfl)) (fun _ _ _ h => h) (Or.inl ⟨by rfl, ?_⟩) hHeld ?_ ?_
                                      rotate_left
                                      · rintro w' ⟨s0, s1, s2, s3, s4⟩
                                        go_simp
                                        with_reducible rfl
                                      rotate_left
                                      · simp only [Act.put, List.setIfInBounds_toArray, List.set_cons_zero, List.set_cons_succ, i64_w, i32_w]
                                        rfl
                                      refine pure_ (i := 16) (N := some 107) (v := ?_) (a' := ?_) #[true, true, true, true, false, true, false, false, true, false, false, false, true, true, true, true, true, true, true, true, true, false, false, false, false, true, true, true, false, false, true, true, true, false, false, false] rfl rfl (any_of HT_.out (by kernel_rfl)) (fun _ _ _ h => h) (Or.inl ⟨by rfl, ?_⟩) ?_ ?_
                                      rotate_left
                                      · intro w'
                                        go_simp
                                        with_reducible rfl
                                      rotate_left
                                      · simp only [Act.put, List.setIfInBounds_toArray, List.set_cons_zero, List.set_cons_succ, i64_w, i32_w]
                                        rfl
                                      refine take_ (i := 21) (N := some 112) (v := ?_) (a' := ?_) #[true, true, true, true, false, true, false, false, true, false, false, false, true, true, true, true, true, true, true, true, true, true, false, false, false, true, true, true, false, false, true, true, true, false, false, false] rfl rfl (take_ofW HT_.out HW_.out (by kernel_rfl)) (fun _ _ _ h => h) (Or.inl ⟨by rfl, ?_⟩) hHeld ?_ ?_
                                      rotate_left
                                      · rintro w' ⟨s0, s1, s2, s3, s4⟩
                                        go_simp
                                        with_reducible rfl
                                      rotate_left
                                      · simp only [Act.put, List.setIfInBounds_toArray, List.set_cons_zero, List.set_cons_succ, i64_w, i32_w]
                                        rfl
                                      refine pure_ (i := 22) (N := some 113) (v := ?_) (a' := ?_) #[true, true, true, true, false, true, false, false, true, false, false, false, true, true, true, true, true, true, true, true, true, true, true, false, false, true, true, true, false, false, true, true, true, false, false, false] rfl rfl (any_of HT_.out (by kernel_rfl)) (fun _ _ _ h => h) (Or.inl ⟨by rfl, ?_⟩) ?_ ?_
                                      rotate_left
                                      · intro w'
                                        go_simp
                                        with_reducible rfl
                                      rotate_left
                                      · simp only [Act.put, List.setIfInBounds_toArray, List.set_cons_zero, List.set_cons_succ, i64_w, i32_w]
                                        rfl
                                      refine pure_ (i := 23) (N := some 114) (v := ?_) (a' := ?_) #[true, true, true, true, false, true, false, false, true, false, false, false, true, true, true, true, true, true, true, true, true, true, true, true, false, true, true, true, false, false, true, true, true, false, false, false] rfl rfl (any_of HT_.out (by kernel_rfl)) (fun _ _ _ h => h) (Or.inl ⟨by rfl, ?_⟩) ?_ ?_
                                      rotate_left
                                      · intro w'
                                        go_simp
                                        with_reducible rfl
                                      rotate_left
                                      · simp only [Act.put, List.setIfInBounds_toArray, List.set_cons_zero, List.set_cons_succ, i64_w, i32_w]
                                        rfl
                                      refine take_ (i := 28) (N := some 119) (v := ?_) (a' := ?_) #[true, true, true, true, false, true, false, false, true, false, false, false, true, true, true, true, true, true, true, true, true, true, true, true, false, true, true, true, true, false, true, true, true, false, false, false] rfl rfl (take_ofW HT_.out HW_.out (by kernel_rfl)) (fun _ _ _ h => h) (Or.inl ⟨by rfl, ?_⟩) hHeld ?_ ?_
                                      rotate_left
                                      · rintro w' ⟨s0, s1, s2, s3, s4⟩
                                        go_simp
                                        with_reducible rfl
                                      rotate_left
                                      · simp only [Act.put, List.setIfInBounds_toArray, List.set_cons_zero, List.set_cons_succ, i64_w, i32_w]
                                        rfl
                                      refine take_ (i := 33) (N := some 124) (v := ?_) (a' := ?_) #[true, true, true, true, false, true, false, false, true, false, false, false, true, true, true, true, true, true, true, true, true, true, true, true, false, true, true, true, true, false, true, true, true, true, false, false] rfl rfl (take_ofW HT_.out HW_.out (by kernel_rfl)) (fun _ _ _ h => h) (Or.inl ⟨by rfl, ?_⟩) hHeld ?_ ?_
                                      rotate_left
                                      · rintro w' ⟨s0, s1, s2, s3, s4⟩
                                        go_simp
                                        with_reducible rfl
                                      rotate_left
                                      · simp only [Act.put, List.setIfInBounds_toArray, List.set_cons_zero, List.set_cons_succ, i64_w, i32_w]
                                        rfl
                                      refine one_ (i := 4) (N := some 95) #[true, true, true, true, true, true, false, false, true, false, false, false, true, true, true, true, true, true, true, true, true, true, true, true, false, true, true, true, true, false, true, true, true, true, false, false] rfl rfl (one_of HT_.out (by kernel_rfl)) (by decide) (fun K hK => ?_)
                                      refine goes_ Tryd.func174 (by kernel_rfl) rfl #[.int .u32 (rd x11_2 4), .int .u64 6] (by rfl) rfl rfl (by (try simp only [List.map_toArray, List.map_cons, List.map_nil]); first | done | rfl | (simp only [List.length_drop, List.length_take]; rfl)) ?_
                                      with_reducible refine (spec_l4Right.calls (rd x11_2 4) 6 t125 _ A41.out).mono ?_
                                      rintro e w' ⟨rfl, ⟨nd, rfl⟩⟩
                                      refine ⟨_, rfl, ?_⟩
                                      refine hK.out _ _ ⟨hHeld.1, hHeld.2.1, hHeld.2.2.1, ((HB.out.cell (World.block_lt_of_cell? w _ hw130_0)).trans hw130_0), hHeld.2.2.2.2⟩ (fun hHeld => ?_)
                                      clear hK K
                                      refine norm_ (a' := ?_) ?_ ?_
                                      rotate_left
                                      · show Act.put _ (some 95) _ = _
                                        simp only [Act.put, List.setIfInBounds_toArray, List.set_cons_zero, List.set_cons_succ, i64_w, i32_w]
                                        rfl
                                      refine one_ (i := 6) (N := some 97) #[true, true, true, true, true, true, true, false, true, false, false, false, true, true, true, true, true, true, true, true, true, true, true, true, false, true, true, true, true, false, true, true, true, true, false, false] rfl rfl (one_of HT_.out (by kernel_rfl)) (by decide) (fun K hK => ?_)
                                      refine goes_ Tryd.func174 (by kernel_rfl) rfl #[.int .u32 (rd x11_2 4), .int .u64 11] (by rfl) rfl rfl (by (try simp only [List.map_toArray, List.map_cons, List.map_nil]); first | done | rfl | (simp only [List.length_drop, List.length_take]; rfl)) ?_
                                      with_reducible refine (spec_l4Right.calls (rd x11_2 4) 11 t126 _ A42.out).mono ?_
                                      rintro e w' ⟨rfl, ⟨nd, rfl⟩⟩
                                      refine ⟨_, rfl, ?_⟩
                                      refine hK.out _ _ ⟨hHeld.1, hHeld.2.1, hHeld.2.2.1, ((HB.out.cell (World.block_lt_of_cell? w _ hw130_0)).trans hw130_0), hHeld.2.2.2.2⟩ (fun hHeld => ?_)
                                      clear hK K
                                      refine norm_ (a' := ?_) ?_ ?_
                                      rotate_left
                                      · show Act.put _ (some 97) _ = _
                                        simp only [Act.put, List.setIfInBounds_toArray, List.set_cons_zero, List.set_cons_succ, i64_w, i32_w]
                                        rfl
                                      refine pure_ (i := 7) (N := some 98) (v := ?_) (a' := ?_) #[true, true, true, true, true, true, true, true, true, false, false, false, true, true, true, true, true, true, true, true, true, true, true, true, false, true, true, true, true, false, true, true, true, true, false, false] rfl rfl (any_of HT_.out (by kernel_rfl)) (fun _ _ _ h => h) (Or.inl ⟨by rfl, ?_⟩) ?_ ?_
                                      rotate_left
                                      · intro w'
                                        go_simp
                                        with_reducible rfl
                                      rotate_left
                                      · simp only [Act.put, List.setIfInBounds_toArray, List.set_cons_zero, List.set_cons_succ, i64_w, i32_w]
                                        rfl
                                      refine one_ (i := 9) (N := some 100) #[true, true, true, true, true, true, true, true, true, true, false, false, true, true, true, true, true, true, true, true, true, true, true, true, false, true, true, true, true, false, true, true, true, true, false, false] rfl rfl (one_of HT_.out (by kernel_rfl)) (by decide) (fun K hK => ?_)
                                      refine goes_ Tryd.func174 (by kernel_rfl) rfl #[.int .u32 (rd x11_2 4), .int .u64 25] (by rfl) rfl rfl (by (try simp only [List.map_toArray, List.map_cons, List.map_nil]); first | done | rfl | (simp only [List.length_drop, List.length_take]; rfl)) ?_
                                      with_reducible refine (spec_l4Right.calls (rd x11_2 4) 25 t127 _ A43.out).mono ?_
                                      rintro e w' ⟨rfl, ⟨nd, rfl⟩⟩
                                      refine ⟨_, rfl, ?_⟩
                                      refine hK.out _ _ ⟨hHeld.1, hHeld.2.1, hHeld.2.2.1, ((HB.out.cell (World.block_lt_of_cell? w _ hw130_0)).trans hw130_0), hHeld.2.2.2.2⟩ (fun hHeld => ?_)
                                      clear hK K
                                      refine norm_ (a' := ?_) ?_ ?_
                                      rotate_left
                                      · show Act.put _ (some 100) _ = _
                                        simp only [Act.put, List.setIfInBounds_toArray, List.set_cons_zero, List.set_cons_succ, i64_w, i32_w]
                                        rfl
                                      refine pure_ (i := 10) (N := some 101) (v := ?_) (a' := ?_) #[true, true, true, true, true, true, true, true, true, true, true, false, true, true, true, true, true, true, true, true, true, true, true, true, false, true, true, true, true, false, true, true, true, true, false, false] rfl rfl (any_of HT_.out (by kernel_rfl)) (fun _ _ _ h => h) (Or.inl ⟨by rfl, ?_⟩) ?_ ?_
                                      rotate_left
                                      · intro w'
                                        go_simp
                                        with_reducible rfl
                                      rotate_left
                                      · simp only [Act.put, List.setIfInBounds_toArray, List.set_cons_zero, List.set_cons_succ, i64_w, i32_w]
                                        rfl
                                      refine pure_ (i := 11) (N := some 102) (v := ?_) (a' := ?_) #[true, true, true, true, true, true, true, true, true, true, true, true, true, true, true, true, true, true, true, true, true, true, true, true, false, true, true, true, true, false, true, true, true, true, false, false] rfl rfl (any_of HT_.out (by kernel_rfl)) (fun _ _ _ h => h) (Or.inl ⟨by rfl, ?_⟩) ?_ ?_
                                      rotate_left
                                      · intro w'
                                        go_simp
                                        with_reducible rfl
                                      rotate_left
                                      · simp only [Act.put, List.setIfInBounds_toArray, List.set_cons_zero, List.set_cons_succ, i64_w, i32_w]
                                        rfl
                                      refine pure_ (i := 24) (N := some 115) (v := ?_) (a' := ?_) #[true, true, true, true, true, true, true, true, true, true, true, true, true, true, true, true, true, true, true, true, true, true, true, true, true, true, true, true, true, false, true, true, true, true, false, false] rfl rfl (any_of HT_.out (by kernel_rfl)) (fun _ _ _ h => h) (Or.inl ⟨by rfl, ?_⟩) ?_ ?_
                                      rotate_left
                                      · intro w'
                                        go_simp
                                        with_reducible rfl
                                      rotate_left
                                      · simp only [Act.put, List.setIfInBounds_toArray, List.set_cons_zero, List.set_cons_succ, i64_w, i32_w]
                                        rfl
                                      refine pure_ (i := 29) (N := some 120) (v := ?_) (a' := ?_) #[true, true, true, true, true, true, true, true, true, true, true, true, true, true, true, true, true, true, true, true, true, true, true, true, true, true, true, true, true, true, true, true, true, true, false, false] rfl rfl (any_of HT_.out (by kernel_rfl)) (fun _ _ _ h => h) (Or.inl ⟨by rfl, ?_⟩) ?_ ?_
                                      rotate_left
                                      · intro w'
                                        go_simp
                                        with_reducible rfl
                                      rotate_left
                                      · simp only [Act.put, List.setIfInBounds_toArray, List.set_cons_zero, List.set_cons_succ, i64_w, i32_w]
                                        rfl
                                      refine pure_ (i := 34) (N := some 125) (v := ?_) (a' := ?_) #[true, true, true, true, true, true, true, true, true, true, true, true, true, true, true, true, true, true, true, true, true, true, true, true, true, true, true, true, true, true, true, true, true, true, true, false] rfl rfl (any_of HT_.out (by kernel_rfl)) (fun _ _ _ h => h) (Or.inl ⟨by rfl, ?_⟩) ?_ ?_
                                      rotate_left
                                      · intro w'
                                        go_simp
                                        with_reducible rfl
                                      rotate_left
                                      · simp only [Act.put, List.setIfInBounds_toArray, List.set_cons_zero, List.set_cons_succ, i64_w, i32_w]
                                        rfl
                                      refine pure_ (i := 35) (N := some 15) (v := ?_) (a' := ?_) #[true, true, true, true, true, true, true, true, true, true, true, true, true, true, true, true, true, true, true, true, true, true, true, true, true, true, true, true, true, true, true, true, true, true, true, true] rfl rfl (any_of HT_.out (by kernel_rfl)) (fun _ _ _ h => h) (Or.inl ⟨by rfl, ?_⟩) ?_ ?_
                                      rotate_left
                                      · intro w'
                                        go_simp
                                        with_reducible rfl
                                      rotate_left
                                      · simp only [Act.put, List.setIfInBounds_toArray, List.set_cons_zero, List.set_cons_succ, i64_w, i32_w]
                                        rfl
                                      refine done_ (done_of HT_.out (by kernel_rfl)) ?_
                                      try go_wp2
                                      (try (rw [drewN_self w56]; generalize hq_ : World.drewN w56 _ = w56; have n0_ : Aside0 (Kd.R (Kd.int .u32) 145 w56 w.heap.size (fun k_ => some k_ ≠ (.slice (some ad131) x7_1.length co57 : Value).ownBlock) (.slice (some ad122) x11_2.length co55) x11_2) := ⟨by rw [← hq_]; exact (by (with_reducible repeat (first | apply Kd.R_alloc | apply Kd.R_drewN | apply Kd.R_drew)); exact HO_11.out)⟩; have n1_ : Aside0 (Kd.R (Kd.int .u32) 145 w56 w.heap.size (fun k_ => some k_ ≠ (.slice (some ad122) x11_2.length co55 : Value).ownBlock) (.slice (some ad131) x7_1.length co57) x7_1) := ⟨by rw [← hq_]; exact (by (with_reducible repeat (first | apply Kd.R_alloc | apply Kd.R_drewN | apply Kd.R_drew)); exact HO_7.out)⟩; have n2_ : Aside0 (Below w.heap.size w w56) := ⟨by rw [← hq_]; exact (by repeat (first | (with_reducible first | exact HB.out | apply below_alloc | apply pw_below_drewN | apply below_drew1) | exact HB.out))⟩; clear HO_11 HO_7 HB hq_; have HO_11 := n0_; have HO_7 := n1_; have HB := n2_; clear n0_ n1_ n2_))
                                      have n0_ := Aside0.mk (Kd.R_drew HO_7.out)
                                      have n1_ := Aside0.mk (Kd.R_drew HO_11.out)
                                      have n2_ := Aside0.mk (below_drew1 HB.out)
                                      clear HO_7
                                      clear HO_11
                                      clear HB
                                      have HO_7 := n0_
                                      have HO_11 := n1_
                                      have HB := n2_
                                      clear n0_ n1_ n2_
                                      have p135 : 0 ≤ (1 : Int) := (by omega)
                                      have q135 : 1 < (x11_2.length : Int) := of_decide_eq_true (by first | (with_reducible assumption) | assumption)
                                      obtain ⟨ad135, e135, hx135_0⟩ := Kd.at_int (Kd.R_reads' HO_11.out).2.2 1 p135 q135
                                      obtain rfl : ad122 = ad135 := (by injection e135)
                                      (try simp only [show (1 : Int).toNat = 1 from rfl, Nat.reduceMul, Nat.reduceEqDiff, Go.Addr.add, ↓reduceIte] at hx135_0)
                                      have qi135 : (1 < x11_2.length) = True := eq_true (by omega)
                                      (try rw [show ((1 : Int)).toNat = 1 from rfl] at hx135_0)
                                      replace p135 := eq_true p135
                                      replace q135 := eq_true q135
                                      have p136 : 0 ≤ (2 : Int) := (by omega)
                                      have q136 : 2 < (x11_2.length : Int) := of_decide_eq_true (by first | (with_reducible assumption) | assumption)
                                      obtain ⟨ad136, e136, hx136_0⟩ := Kd.at_int (Kd.R_reads' HO_11.out).2.2 2 p136 q136
                                      obtain rfl : ad122 = ad136 := (by injection e136)
                                      (try simp only [show (2 : Int).toNat = 2 from rfl, Nat.reduceMul, Nat.reduceEqDiff, Go.Addr.add, ↓reduceIte] at hx136_0)
                                      have qi136 : (2 < x11_2.length) = True := eq_true (by omega)
                                      (try rw [show ((2 : Int)).toNat = 2 from rfl] at hx136_0)
                                      replace p136 := eq_true p136
                                      replace q136 := eq_true q136
                                      have p137 : 0 ≤ (1 : Int) := (by omega)
                                      have q137 : 1 < (x11_2.length : Int) := of_decide_eq_true (by first | (with_reducible assumption) | assumption)
                                      obtain ⟨ad137, e137, hx137_0⟩ := Kd.at_int (Kd.R_reads' HO_11.out).2.2 1 p137 q137
                                      obtain rfl : ad122 = ad137 := (by injection e137)
                                      (try simp only [show (1 : Int).toNat = 1 from rfl, Nat.reduceMul, Nat.reduceEqDiff, Go.Addr.add, ↓reduceIte] at hx137_0)
                                      have qi137 : (1 < x11_2.length) = True := eq_true (by omega)
                                      (try rw [show ((1 : Int)).toNat = 1 from rfl] at hx137_0)
                                      replace p137 := eq_true p137
                                      replace q137 := eq_true q137
                                      have p138 : 0 ≤ (2 : Int) := (by omega)
                                      have q138 : 2 < (x11_2.length : Int) := of_decide_eq_true (by first | (with_reducible assumption) | assumption)
                                      obtain ⟨ad138, e138, hx138_0⟩ := Kd.at_int (Kd.R_reads' HO_11.out).2.2 2 p138 q138
                                      obtain rfl : ad122 = ad138 := (by injection e138)
                                      (try simp only [show (2 : Int).toNat = 2 from rfl, Nat.reduceMul, Nat.reduceEqDiff, Go.Addr.add, ↓reduceIte] at hx138_0)
                                      have qi138 : (2 < x11_2.length) = True := eq_true (by omega)
                                      (try rw [show ((2 : Int)).toNat = 2 from rfl] at hx138_0)
                                      replace p138 := eq_true p138
                                      replace q138 := eq_true q138
                                      refine start_ (n := 29) (S := fun w' => w'.cell? ⟨ad122.block, ad122.off + 1, none⟩ = some (.int .u32 (rd x11_2 1)) ∧ w'.cell? ⟨ad122.block, ad122.off + 2, none⟩ = some (.int .u32 (rd x11_2 2)) ∧ w'.cell? ⟨ad122.block, ad122.off + 1, none⟩ = some (.int .u32 (rd x11_2 1)) ∧ w'.cell? ⟨ad122.block, ad122.off + 2, none⟩ = some (.int .u32 (rd x11_2 2))) (ds := []) #[false, false, false, false, false, false, false, false, false, false, false, false, false, false, false, false, false, false, false, false, false, false, false, false, false, false, false, false, false] (by kernel_rfl) rfl rfl ⟨hx135_0, hx136_0, hx137_0, hx138_0⟩ (fun hHeld => ?_); refine with_tabW spec_l4Round.tab17 spec_l4Round.bits17 (fun HT_ HW_ => ?_)
                                      generalize w56.drew = w58 at HO_7 HO_11 HB hx135_0 hx136_0 hx137_0 hx138_0 hHeld ⊢
                                      refine pure_ (i := 0) (N := some 126) (v := ?_) (a' := ?_) #[true, false, false, false, false, false, false, false, false, false, false, false, false, false, false, false, false, false, false, false, false, false, false, false, false, false, false, false, false] rfl rfl (any_of HT_.out (by kernel_rfl)) (fun _ _ _ h => h) (Or.inl ⟨by rfl, ?_⟩) ?_ ?_
                                      rotate_left
                                      · intro w'
                                        go_simp
                                        with_reducible rfl
                                      rotate_left
                                      · simp only [Act.put, List.setIfInBounds_toArray, List.set_cons_zero, List.set_cons_succ, i64_w, i32_w]
                                        rfl
                                      refine pure_ (i := 2) (N := some 128) (v := ?_) (a' := ?_) #[true, false, true, false, false, false, false, false, false, false, false, false, false, false, false, false, false, false, false, false, false, false, false, false, false, false, false, false, false] rfl rfl (any_of HT_.out (by kernel_rfl)) (fun _ _ _ h => h) (Or.inl ⟨by rfl, ?_⟩) ?_ ?_
                                      rotate_left
                                      · intro w'
                                        go_simp
                                        with_reducible rfl
                                      rotate_left
                                      · simp only [Act.put, List.setIfInBounds_toArray, List.set_cons_zero, List.set_cons_succ, i64_w, i32_w]
                                        rfl
                                      refine pure_ (i := 5) (N := some 131) (v := ?_) (a' := ?_) #[true, false, true, false, false, true, false, false, false, false, false, false, false, false, false, false, false, false, false, false, false, false, false, false, false, false, false, false, false] rfl rfl (any_of HT_.out (by kernel_rfl)) (fun _ _ _ h => h) (Or.inl ⟨by rfl, ?_⟩) ?_ ?_
                                      rotate_left
                                      · intro w'
                                        go_simp
                                        with_reducible rfl
                                      rotate_left
                                      · simp only [Act.put, List.setIfInBounds_toArray, List.set_cons_zero, List.set_cons_succ, i64_w, i32_w]
                                        rfl
                                      refine pure_ (i := 8) (N := some 134) (v := ?_) (a' := ?_) #[true, false, true, false, false, true, false, false, true, false, false, false, false, false, false, false, false, false, false, false, false, false, false, false, false, false, false, false, false] rfl rfl (any_of HT_.out (by kernel_rfl)) (fun _ _ _ h => h) (Or.inl ⟨by rfl, ?_⟩) ?_ ?_
                                      rotate_left
                                      · intro w'
                                        go_simp
                                        with_reducible rfl
                                      rotate_left
                                      · simp only [Act.put, List.setIfInBounds_toArray, List.set_cons_zero, List.set_cons_succ, i64_w, i32_w]
                                        rfl
                                      refine pure_ (i := 9) (N := some 135) (v := ?_) (a' := ?_) #[true, false, true, false, false, true, false, false, true, true, false, false, false, false, false, false, false, false, false, false, false, false, false, false, false, false, false, false, false] rfl rfl (any_of HT_.out (by kernel_rfl)) (fun _ _ _ h => h) (Or.inl ⟨by rfl, ?_⟩) ?_ ?_
                                      rotate_left
                                      · intro w'
                                        go_simp
                                        with_reducible rfl
                                      rotate_left
                                      · simp only [Act.put, List.setIfInBounds_toArray, List.set_cons_zero, List.set_cons_succ, i64_w, i32_w]
                                        rfl
                                      refine pure_ (i := 10) (N := some 136) (v := ?_) (a' := ?_) #[true, false, true, false, false, true, false, false, true, true, true, false, false, false, false, false, false, false, false, false, false, false, false, false, false, false, false, false, false] rfl rfl (any_of HT_.out (by kernel_rfl)) (fun _ _ _ h => h) (Or.inl ⟨by rfl, ?_⟩) ?_ ?_
                                      rotate_left
                                      · intro w'
                                        go_simp
                                        with_reducible rfl
                                      rotate_left
                                      · simp only [Act.put, List.setIfInBounds_toArray, List.set_cons_zero, List.set_cons_succ, i64_w, i32_w]
                                        rfl
                                      refine pure_ (i := 13) (N := some 139) (v := ?_) (a' := ?_) #[true, false, true, false, false, true, false, false, true, true, true, false, false, true, false, false, false, false, false, false, false, false, false, false, false, false, false, false, false] rfl rfl (any_of HT_.out (by kernel_rfl)) (fun _ _ _ h => h) (Or.inl ⟨by rfl, ?_⟩) ?_ ?_
                                      rotate_left
                                      · intro w'
                                        go_simp
                                        with_reducible rfl
                                      rotate_left
                                      · simp only [Act.put, List.setIfInBounds_toArray, List.set_cons_zero, List.set_cons_succ, i64_w, i32_w]
                                        rfl
                                      refine pure_ (i := 14) (N := some 140) (v := ?_) (a' := ?_) #[true, false, true, false, false, true, false, false, true, true, true, false, false, true, true, false, false, false, false, false, false, false, false, false, false, false, false, false, false] rfl rfl (any_of HT_.out (by kernel_rfl)) (fun _ _ _ h => h) (Or.inl ⟨by rfl, ?_⟩) ?_ ?_
                                      rotate_left
                                      · intro w'
                                        go_simp
                                        with_reducible rfl
                                      rotate_left
                                      · simp only [Act.put, List.setIfInBounds_toArray, List.set_cons_zero, List.set_cons_succ, i64_w, i32_w]
                                        rfl
                                      refine pure_ (i := 15) (N := some 141) (v := ?_) (a' := ?_) #[true, false, true, false, false, true, false, false, true, true, true, false, false, true, true, true, false, false, false, false, false, false, false, false, false, false, false, false, false] rfl rfl (any_of HT_.out (by kernel_rfl)) (fun _ _ _ h => h) (Or.inl ⟨by rfl, ?_⟩) ?_ ?_
                                      rotate_left
                                      · intro w'
                                        go_simp
                                        with_reducible rfl
                                      rotate_left
                                      · simp only [Act.put, List.setIfInBounds_toArray, List.set_cons_zero, List.set_cons_succ, i64_w, i32_w]
                                        rfl
                                      refine pure_ (i := 19) (N := some 145) (v := ?_) (a' := ?_) #[true, false, true, false, false, true, false, false, true, true, true, false, false, true, true, true, false, false, false, true, false, false, false, false, false, false, false, false, false] rfl rfl (any_of HT_.out (by kernel_rfl)) (fun _ _ _ h => h) (Or.inl ⟨by rfl, ?_⟩) ?_ ?_
                                      rotate_left
                                      · intro w'
                                        go_simp
                                        with_reducible rfl
                                      rotate_left
                                      · simp only [Act.put, List.setIfInBounds_toArray, List.set_cons_zero, List.set_cons_succ, i64_w, i32_w]
                                        rfl
                                      refine pure_ (i := 20) (N := some 146) (v := ?_) (a' := ?_) #[true, false, true, false, false, true, false, false, true, true, true, false, false, true, true, true, false, false, false, true, true, false, false, false, false, false, false, false, false] rfl rfl (any_of HT_.out (by kernel_rfl)) (fun _ _ _ h => h) (Or.inl ⟨by rfl, ?_⟩) ?_ ?_
                                      rotate_left
                                      · intro w'
                                        go_simp
                                        with_reducible rfl
                                      rotate_left
                                      · simp only [Act.put, List.setIfInBounds_toArray, List.set_cons_zero, List.set_cons_succ, i64_w, i32_w]
                                        rfl
                                      refine pure_ (i := 22) (N := some 148) (v := ?_) (a' := ?_) #[true, false, true, false, false, true, false, false, true, true, true, false, false, true, true, true, false, false, false, true, true, false, true, false, false, false, false, false, false] rfl rfl (any_of HT_.out (by kernel_rfl)) (fun _ _ _ h => h) (Or.inl ⟨by rfl, ?_⟩) ?_ ?_
                                      rotate_left
                                      · intro w'
                                        go_simp
                                        with_reducible rfl
                                      rotate_left
                                      · simp only [Act.put, List.setIfInBounds_toArray, List.set_cons_zero, List.set_cons_succ, i64_w, i32_w]
                                        rfl
                                      refine pure_ (i := 23) (N := some 149) (v := ?_) (a' := ?_) #[true, false, true, false, false, true, false, false, true, true, true, false, false, true, true, true, false, false, false, true, true, false, true, true, false, false, false, false, false] rfl rfl (any_of HT_.out (by kernel_rfl)) (fun _ _ _ h => h) (Or.inl ⟨by rfl, ?_⟩) ?_ ?_
                                      rotate_left
                                      · intro w'
                                        go_simp
                                        with_reducible rfl
                                      rotate_left
                                      · simp only [Act.put, List.setIfInBounds_toArray, List.set_cons_zero, List.set_cons_succ, i64_w, i32_w]
                                        rfl
                                      refine take_ (i := 11) (N := some 137) (v := ?_) (a' := ?_) #[true, false, true, false, false, true, false, false, true, true, true, true, false, true, true, true, false, false, false, true, true, false, true, true, false, false, false, false, false] rfl rfl (take_ofW HT_.out HW_.out (by kernel_rfl)) (fun _ _ _ h => h) (Or.inl ⟨by rfl, ?_⟩) hHeld ?_ ?_
                                      rotate_left
                                      · rintro w' ⟨s0, s1, s2, s3⟩
                                        go_simp
                                        with_reducible rfl
                                      rotate_left
                                      · simp only [Act.put, List.setIfInBounds_toArray, List.set_cons_zero, List.set_cons_succ, i64_w, i32_w]
                                        rfl
                                      refine pure_ (i := 12) (N := some 138) (v := ?_) (a' := ?_) #[true, false, true, false, false, true, false, false, true, true, true, true, true, true, true, true, false, false, false, true, true, false, true, true, false, false, false, false, false] rfl rfl (any_of HT_.out (by kernel_rfl)) (fun _ _ _ h => h) (Or.inl ⟨by rfl, ?_⟩) ?_ ?_
                                      rotate_left
                                      · intro w'
                                        go_simp
                                        with_reducible rfl
                                      rotate_left
                                      · simp only [Act.put, List.setIfInBounds_toArray, List.set_cons_zero, List.set_cons_succ, i64_w, i32_w]
                                        rfl
                                      refine take_ (i := 16) (N := some 142) (v := ?_) (a' := ?_) #[true, false, true, false, false, true, false, false, true, true, true, true, true, true, true, true, true, false, false, true, true, false, true, true, false, false, false, false, false] rfl rfl (take_ofW HT_.out HW_.out (by kernel_rfl)) (fun _ _ _ h => h) (Or.inl ⟨by rfl, ?_⟩) hHeld ?_ ?_
                                      rotate_left
                                      · rintro w' ⟨s0, s1, s2, s3⟩
                                        go_simp
                                        with_reducible rfl
                                      rotate_left
                                      · simp only [Act.put, List.setIfInBounds_toArray, List.set_cons_zero, List.set_cons_succ, i64_w, i32_w]
                                        rfl
                                      refine pure_ (i := 17) (N := some 143) (v := ?_) (a' := ?_) #[true, false, true, false, false, true, false, false, true, true, true, true, true, true, true, true, true, true, false, true, true, false, true, true, false, false, false, false, false] rfl rfl (any_of HT_.out (by kernel_rfl)) (fun _ _ _ h => h) (Or.inl ⟨by rfl, ?_⟩) ?_ ?_
                                      rotate_left
                                      · intro w'
                                        go_simp
                                        with_reducible rfl
                                      rotate_left
                                      · simp only [Act.put, List.setIfInBounds_toArray, List.set_cons_zero, List.set_cons_succ, i64_w, i32_w]
                                        rfl
                                      refine pure_ (i := 18) (N := some 144) (v := ?_) (a' := ?_) #[true, false, true, false, false, true, false, false, true, true, true, true, true, true, true, true, true, true, true, true, true, false, true, true, false, false, false, false, false] rfl rfl (any_of HT_.out (by kernel_rfl)) (fun _ _ _ h => h) (Or.inl ⟨by rfl, ?_⟩) ?_ ?_
                                      rotate_left
                                      · intro w'
                                        go_simp
                                        with_reducible rfl
                                      rotate_left
                                      · simp only [Act.put, List.setIfInBounds_toArray, List.set_cons_zero, List.set_cons_succ, i64_w, i32_w]
                                        rfl
                                      refine take_ (i := 21) (N := some 147) (v := ?_) (a' := ?_) #[true, false, true, false, false, true, false, false, true, true, true, true, true, true, true, true, true, true, true, true, true, true, true, true, false, false, false, false, false] rfl rfl (take_ofW HT_.out HW_.out (by kernel_rfl)) (fun _ _ _ h => h) (Or.inl ⟨by rfl, ?_⟩) hHeld ?_ ?_
                                      rotate_left
                                      · rintro w' ⟨s0, s1, s2, s3⟩
                                        go_simp
                                        with_reducible rfl
                                      rotate_left
                                      · simp only [Act.put, List.setIfInBounds_toArray, List.set_cons_zero, List.set_cons_succ, i64_w, i32_w]
                                        rfl
                                      refine take_ (i := 24) (N := some 150) (v := ?_) (a' := ?_) #[true, false, true, false, false, true, false, false, true, true, true, true, true, true, true, true, true, true, true, true, true, true, true, true, true, false, false, false, false] rfl rfl (take_ofW HT_.out HW_.out (by kernel_rfl)) (fun _ _ _ h => h) (Or.inl ⟨by rfl, ?_⟩) hHeld ?_ ?_
                                      rotate_left
                                      · rintro w' ⟨s0, s1, s2, s3⟩
                                        go_simp
                                        with_reducible rfl
                                      rotate_left
                                      · simp only [Act.put, List.setIfInBounds_toArray, List.set_cons_zero, List.set_cons_succ, i64_w, i32_w]
                                        rfl
                                      refine pure_ (i := 25) (N := some 151) (v := ?_) (a' := ?_) #[true, false, true, false, false, true, false, false, true, true, true, true, true, true, true, true, true, true, true, true, true, true, true, true, true, true, false, false, false] rfl rfl (any_of HT_.out (by kernel_rfl)) (fun _ _ _ h => h) (Or.inl ⟨by rfl, ?_⟩) ?_ ?_
                                      rotate_left
                                      · intro w'
                                        go_simp
                                        with_reducible rfl
                                      rotate_left
                                      · simp only [Act.put, List.setIfInBounds_toArray, List.set_cons_zero, List.set_cons_succ, i64_w, i32_w]
                                        rfl
                                      refine pure_ (i := 26) (N := some 152) (v := ?_) (a' := ?_) #[true, false, true, false, false, true, false, false, true, true, true, true, true, true, true, true, true, true, true, true, true, true, true, true, true, true, true, false, false] rfl rfl (any_of HT_.out (by kernel_rfl)) (fun _ _ _ h => h) (Or.inl ⟨by rfl, ?_⟩) ?_ ?_
                                      rotate_left
                                      · intro w'
                                        go_simp
                                        with_reducible rfl
                                      rotate_left
                                      · simp only [Act.put, List.setIfInBounds_toArray, List.set_cons_zero, List.set_cons_succ, i64_w, i32_w]
                                        rfl
                                      refine one_ (i := 1) (N := some 127) #[true, true, true, false, false, true, false, false, true, true, true, true, true, true, true, true, true, true, true, true, true, true, true, true, true, true, true, false, false] rfl rfl (one_of HT_.out (by kernel_rfl)) (by decide) (fun K hK => ?_)
                                      refine goes_ Tryd.func174 (by kernel_rfl) rfl #[.int .u32 (rd x11_2 0), .int .u64 2] (by rfl) rfl rfl (by (try simp only [List.map_toArray, List.map_cons, List.map_nil]); first | done | rfl | (simp only [List.length_drop, List.length_take]; rfl)) ?_
                                      with_reducible refine (spec_l4Right.calls (rd x11_2 0) 2 t132 _ A49.out).mono ?_
                                      rintro e w' ⟨rfl, ⟨nd, rfl⟩⟩
                                      refine ⟨_, rfl, ?_⟩
                                      refine hK.out _ _ ⟨hHeld.1, hHeld.2.1, hHeld.2.2.1, hHeld.2.2.2⟩ (fun hHeld => ?_)
                                      clear hK K
                                      refine norm_ (a' := ?_) ?_ ?_
                                      rotate_left
                                      · show Act.put _ (some 127) _ = _
                                        simp only [Act.put, List.setIfInBounds_toArray, List.set_cons_zero, List.set_cons_succ, i64_w, i32_w]
                                        rfl
                                      refine one_ (i := 3) (N := some 129) #[true, true, true, true, false, true, false, false, true, true, true, true, true, true, true, true, true, true, true, true, true, true, true, true, true, true, true, false, false] rfl rfl (one_of HT_.out (by kernel_rfl)) (by decide) (fun K hK => ?_)
                                      refine goes_ Tryd.func174 (by kernel_rfl) rfl #[.int .u32 (rd x11_2 0), .int .u64 13] (by rfl) rfl rfl (by (try simp only [List.map_toArray, List.map_cons, List.map_nil]); first | done | rfl | (simp only [List.length_drop, List.length_take]; rfl)) ?_
                                      with_reducible refine (spec_l4Right.calls (rd x11_2 0) 13 t133 _ A50.out).mono ?_
                                      rintro e w' ⟨rfl, ⟨nd, rfl⟩⟩
                                      refine ⟨_, rfl, ?_⟩
                                      refine hK.out _ _ ⟨hHeld.1, hHeld.2.1, hHeld.2.2.1, hHeld.2.2.2⟩ (fun hHeld => ?_)
                                      clear hK K
                                      refine norm_ (a' := ?_) ?_ ?_
                                      rotate_left
                                      · show Act.put _ (some 129) _ = _
                                        simp only [Act.put, List.setIfInBounds_toArray, List.set_cons_zero, List.set_cons_succ, i64_w, i32_w]
                                        rfl
                                      refine pure_ (i := 4) (N := some 130) (v := ?_) (a' := ?_) #[true, true, true, true, true, true, false, false, true, true, true, true, true, true, true, true, true, true, true, true, true, true, true, true, true, true, true, false, false] rfl rfl (any_of HT_.out (by kernel_rfl)) (fun _ _ _ h => h) (Or.inl ⟨by rfl, ?_⟩) ?_ ?_
                                      rotate_left
                                      · intro w'
                                        go_simp
                                        with_reducible rfl
                                      rotate_left
                                      · simp only [Act.put, List.setIfInBounds_toArray, List.set_cons_zero, List.set_cons_succ, i64_w, i32_w]
                                        rfl
                                      refine one_ (i := 6) (N := some 132) #[true, true, true, true, true, true, true, false, true, true, true, true, true, true, true, true, true, true, true, true, true, true, true, true, true, true, true, false, false] rfl rfl (one_of HT_.out (by kernel_rfl)) (by decide) (fun K hK => ?_)
                                      refine goes_ Tryd.func174 (by kernel_rfl) rfl #[.int .u32 (rd x11_2 0), .int .u64 22] (by rfl) rfl rfl (by (try simp only [List.map_toArray, List.map_cons, List.map_nil]); first | done | rfl | (simp only [List.length_drop, List.length_take]; rfl)) ?_
                                      with_reducible refine (spec_l4Right.calls (rd x11_2 0) 22 t134 _ A51.out).mono ?_
                                      rintro e w' ⟨rfl, ⟨nd, rfl⟩⟩
                                      refine ⟨_, rfl, ?_⟩
                                      refine hK.out _ _ ⟨hHeld.1, hHeld.2.1, hHeld.2.2.1, hHeld.2.2.2⟩ (fun hHeld => ?_)
                                      clear hK K
                                      refine norm_ (a' := ?_) ?_ ?_
                                      rotate_left
                                      · show Act.put _ (some 132) _ = _
                                        simp only [Act.put, List.setIfInBounds_toArray, List.set_cons_zero, List.set_cons_succ, i64_w, i32_w]
                                        rfl
                                      refine pure_ (i := 7) (N := some 133) (v := ?_) (a' := ?_) #[true, true, true, true, true, true, true, true, true, true, true, true, true, true, true, true, true, true, true, true, true, true, true, true, true, true, true, false, false] rfl rfl (any_of HT_.out (by kernel_rfl)) (fun _ _ _ h => h) (Or.inl ⟨by rfl, ?_⟩) ?_ ?_
                                      rotate_left
                                      · intro w'
                                        go_simp
                                        with_reducible rfl
                                      rotate_left
                                      · simp only [Act.put, List.setIfInBounds_toArray, List.set_cons_zero, List.set_cons_succ, i64_w, i32_w]
                                        rfl
                                      refine pure_ (i := 27) (N := some 153) (v := ?_) (a' := ?_) #[true, true, true, true, true, true, true, true, true, true, true, true, true, true, true, true, true, true, true, true, true, true, true, true, true, true, true, true, false] rfl rfl (any_of HT_.out (by kernel_rfl)) (fun _ _ _ h => h) (Or.inl ⟨by rfl, ?_⟩) ?_ ?_
                                      rotate_left
                                      · intro w'
                                        go_simp
                                        with_reducible rfl
                                      rotate_left
                                      · simp only [Act.put, List.setIfInBounds_toArray, List.set_cons_zero, List.set_cons_succ, i64_w, i32_w]
                                        rfl
                                      refine pure_ (i := 28) (N := some 16) (v := ?_) (a' := ?_) #[true, true, true, true, true, true, true, true, true, true, true, true, true, true, true, true, true, true, true, true, true, true, true, true, true, true, true, true, true] rfl rfl (any_of HT_.out (by kernel_rfl)) (fun _ _ _ h => h) (Or.inl ⟨by rfl, ?_⟩) ?_ ?_
                                      rotate_left
                                      · intro w'
                                        go_simp
                                        with_reducible rfl
                                      rotate_left
                                      · simp only [Act.put, List.setIfInBounds_toArray, List.set_cons_zero, List.set_cons_succ, i64_w, i32_w]
                                        rfl
                                      refine done_ (done_of HT_.out (by kernel_rfl)) ?_
                                      try go_wp2
                                      (try (rw [drewN_self w58]; generalize hq_ : World.drewN w58 _ = w58; have n0_ : Aside0 (Kd.R (Kd.int .u32) 145 w58 w.heap.size (fun k_ => some k_ ≠ (.slice (some ad131) x7_1.length co57 : Value).ownBlock) (.slice (some ad122) x11_2.length co55) x11_2) := ⟨by rw [← hq_]; exact (by (with_reducible repeat (first | apply Kd.R_alloc | apply Kd.R_drewN | apply Kd.R_drew)); exact HO_11.out)⟩; have n1_ : Aside0 (Kd.R (Kd.int .u32) 145 w58 w.heap.size (fun k_ => some k_ ≠ (.slice (some ad122) x11_2.length co55 : Value).ownBlock) (.slice (some ad131) x7_1.length co57) x7_1) := ⟨by rw [← hq_]; exact (by (with_reducible repeat (first | apply Kd.R_alloc | apply Kd.R_drewN | apply Kd.R_drew)); exact HO_7.out)⟩; have n2_ : Aside0 (Below w.heap.size w w58) := ⟨by rw [← hq_]; exact (by repeat (first | (with_reducible first | exact HB.out | apply below_alloc | apply pw_below_drewN | apply below_drew1) | exact HB.out))⟩; clear HO_11 HO_7 HB hq_; have HO_11 := n0_; have HO_7 := n1_; have HB := n2_; clear n0_ n1_ n2_))
                                      have n0_ := Aside0.mk (Kd.R_drew HO_7.out)
                                      have n1_ := Aside0.mk (Kd.R_drew HO_11.out)
                                      have n2_ := Aside0.mk (below_drew1 HB.out)
                                      clear HO_7
                                      clear HO_11
                                      clear HB
                                      have HO_7 := n0_
                                      have HO_11 := n1_
                                      have HB := n2_
                                      clear n0_ n1_ n2_
                                      have p139 : 0 ≤ (1 : Int) := (by omega)
                                      have q139 : 1 < (x11_2.length : Int) := of_decide_eq_true (by first | (with_reducible assumption) | assumption)
                                      obtain ⟨ad139, e139, hx139_0⟩ := Kd.at_int (Kd.R_reads' HO_11.out).2.2 1 p139 q139
                                      obtain rfl : ad122 = ad139 := (by injection e139)
                                      (try simp only [show (1 : Int).toNat = 1 from rfl, Nat.reduceMul, Nat.reduceEqDiff, Go.Addr.add, ↓reduceIte] at hx139_0)
                                      have qi139 : (1 < x11_2.length) = True := eq_true (by omega)
                                      (try rw [show ((1 : Int)).toNat = 1 from rfl] at hx139_0)
                                      replace p139 := eq_true p139
                                      replace q139 := eq_true q139
                                      have p140 : 0 ≤ (2 : Int) := (by omega)
                                      have q140 : 2 < (x11_2.length : Int) := of_decide_eq_true (by first | (with_reducible assumption) | assumption)
                                      obtain ⟨ad140, e140, hx140_0⟩ := Kd.at_int (Kd.R_reads' HO_11.out).2.2 2 p140 q140
                                      obtain rfl : ad122 = ad140 := (by injection e140)
                                      (try simp only [show (2 : Int).toNat = 2 from rfl, Nat.reduceMul, Nat.reduceEqDiff, Go.Addr.add, ↓reduceIte] at hx140_0)
                                      have qi140 : (2 < x11_2.length) = True := eq_true (by omega)
                                      (try rw [show ((2 : Int)).toNat = 2 from rfl] at hx140_0)
                                      replace p140 := eq_true p140
                                      replace q140 := eq_true q140
                                      have p141 : 0 ≤ (3 : Int) := (by omega)
                                      have q141 : 3 < (x11_2.length : Int) := of_decide_eq_true (by first | (with_reducible assumption) | assumption)
                                      obtain ⟨ad141, e141, hx141_0⟩ := Kd.at_int (Kd.R_reads' HO_11.out).2.2 3 p141 q141
                                      obtain rfl : ad122 = ad141 := (by injection e141)
                                      (try simp only [show (3 : Int).toNat = 3 from rfl, Nat.reduceMul, Nat.reduceEqDiff, Go.Addr.add, ↓reduceIte] at hx141_0)
                                      have qi141 : (3 < x11_2.length) = True := eq_true (by omega)
                                      (try rw [show ((3 : Int)).toNat = 3 from rfl] at hx141_0)
                                      replace p141 := eq_true p141
                                      replace q141 := eq_true q141
                                      have p142 : 0 ≤ (5 : Int) := (by omega)
                                      have q142 : 5 < (x11_2.length : Int) := of_decide_eq_true (by first | (with_reducible assumption) | assumption)
                                      obtain ⟨ad142, e142, hx142_0⟩ := Kd.at_int (Kd.R_reads' HO_11.out).2.2 5 p142 q142
                                      obtain rfl : ad122 = ad142 := (by injection e142)
                                      (try simp only [show (5 : Int).toNat = 5 from rfl, Nat.reduceMul, Nat.reduceEqDiff, Go.Addr.add, ↓reduceIte] at hx142_0)
                                      have qi142 : (5 < x11_2.length) = True := eq_true (by omega)
                                      (try rw [show ((5 : Int)).toNat = 5 from rfl] at hx142_0)
                                      replace p142 := eq_true p142
                                      replace q142 := eq_true q142
                                      have p143 : 0 ≤ (6 : Int) := (by omega)
                                      have q143 : 6 < (x11_2.length : Int) := of_decide_eq_true (by first | (with_reducible assumption) | assumption)
                                      obtain ⟨ad143, e143, hx143_0⟩ := Kd.at_int (Kd.R_reads' HO_11.out).2.2 6 p143 q143
                                      obtain rfl : ad122 = ad143 := (by injection e143)
                                      (try simp only [show (6 : Int).toNat = 6 from rfl, Nat.reduceMul, Nat.reduceEqDiff, Go.Addr.add, ↓reduceIte] at hx143_0)
                                      have qi143 : (6 < x11_2.length) = True := eq_true (by omega)
                                      (try rw [show ((6 : Int)).toNat = 6 from rfl] at hx143_0)
                                      replace p143 := eq_true p143
                                      replace q143 := eq_true q143
                                      refine start_ (n := 24) (S := fun w' => w'.cell? ⟨ad122.block, ad122.off + 1, none⟩ = some (.int .u32 (rd x11_2 1)) ∧ w'.cell? ⟨ad122.block, ad122.off + 2, none⟩ = some (.int .u32 (rd x11_2 2)) ∧ w'.cell? ⟨ad122.block, ad122.off + 3, none⟩ = some (.int .u32 (rd x11_2 3)) ∧ w'.cell? ⟨ad122.block, ad122.off + 5, none⟩ = some (.int .u32 (rd x11_2 5)) ∧ w'.cell? ⟨ad122.block, ad122.off + 6, none⟩ = some (.int .u32 (rd x11_2 6))) (ds := []) #[false, false, false, false, false, false, false, false, false, false, false, false, false, false, false, false, false, false, false, false, false, false, false, false] (by kernel_rfl) rfl rfl ⟨hx139_0, hx140_0, hx141_0, hx142_0, hx143_0⟩ (fun hHeld => ?_); refine with_tabW spec_l4Round.tab18 spec_l4Round.bits18 (fun HT_ HW_ => ?_)
                                      generalize w58.drew = w59 at HO_7 HO_11 HB hx139_0 hx140_0 hx141_0 hx142_0 hx143_0 hHeld ⊢
                                      refine pure_ (i := 0) (N := some 154) (v := ?_) (a' := ?_) #[true, false, false, false, false, false, false, false, false, false, false, false, false, false, false, false, false, false, false, false, false, false, false, false] rfl rfl (any_of HT_.out (by kernel_rfl)) (fun _ _ _ h => h) (Or.inl ⟨by rfl, ?_⟩) ?_ ?_
                                      rotate_left
                                      · intro w'
                                        go_simp
                                        with_reducible rfl
                                      rotate_left
                                      · simp only [Act.put, List.setIfInBounds_toArray, List.set_cons_zero, List.set_cons_succ, i64_w, i32_w]
                                        rfl
                                      refine pure_ (i := 1) (N := some 155) (v := ?_) (a' := ?_) #[true, true, false, false, false, false, false, false, false, false, false, false, false, false, false, false, false, false, false, false, false, false, false, false] rfl rfl (any_of HT_.out (by kernel_rfl)) (fun _ _ _ h => h) (Or.inl ⟨by rfl, ?_⟩) ?_ ?_
                                      rotate_left
                                      · intro w'
                                        go_simp
                                        with_reducible rfl
                                      rotate_left
                                      · simp only [Act.put, List.setIfInBounds_toArray, List.set_cons_zero, List.set_cons_succ, i64_w, i32_w]
                                        rfl
                                      refine pure_ (i := 2) (N := some 156) (v := ?_) (a' := ?_) #[true, true, true, false, false, false, false, false, false, false, false, false, false, false, false, false, false, false, false, false, false, false, false, false] rfl rfl (any_of HT_.out (by kernel_rfl)) (fun _ _ _ h => h) (Or.inl ⟨by rfl, ?_⟩) ?_ ?_
                                      rotate_left
                                      · intro w'
                                        go_simp
                                        with_reducible rfl
                                      rotate_left
                                      · simp only [Act.put, List.setIfInBounds_toArray, List.set_cons_zero, List.set_cons_succ, i64_w, i32_w]
                                        rfl
                                      refine pure_ (i := 3) (N := some 157) (v := ?_) (a' := ?_) #[true, true, true, true, false, false, false, false, false, false, false, false, false, false, false, false, false, false, false, false, false, false, false, false] rfl rfl (any_of HT_.out (by kernel_rfl)) (fun _ _ _ h => h) (Or.inl ⟨by rfl, ?_⟩) ?_ ?_
                                      rotate_left
                                      · intro w'
                                        go_simp
                                        with_reducible rfl
                                      rotate_left
                                      · simp only [Act.put, List.setIfInBounds_toArray, List.set_cons_zero, List.set_cons_succ, i64_w, i32_w]
                                        rfl
                                      refine pure_ (i := 4) (N := some 158) (v := ?_) (a' := ?_) #[true, true, true, true, true, false, false, false, false, false, false, false, false, false, false, false, false, false, false, false, false, false, false, false] rfl rfl (any_of HT_.out (by kernel_rfl)) (fun _ _ _ h => h) (Or.inl ⟨by rfl, ?_⟩) ?_ ?_
                                      rotate_left
                                      · intro w'
                                        go_simp
                                        with_reducible rfl
                                      rotate_left
                                      · simp only [Act.put, List.setIfInBounds_toArray, List.set_cons_zero, List.set_cons_succ, i64_w, i32_w]
                                        rfl
                                      refine pure_ (i := 5) (N := some 159) (v := ?_) (a' := ?_) #[true, true, true, true, true, true, false, false, false, false, false, false, false, false, false, false, false, false, false, false, false, false, false, false] rfl rfl (any_of HT_.out (by kernel_rfl)) (fun _ _ _ h => h) (Or.inl ⟨by rfl, ?_⟩) ?_ ?_
                                      rotate_left
                                      · intro w'
                                        go_simp
                                        with_reducible rfl
                                      rotate_left
                                      · simp only [Act.put, List.setIfInBounds_toArray, List.set_cons_zero, List.set_cons_succ, i64_w, i32_w]
                                        rfl
                                      refine pure_ (i := 7) (N := some 161) (v := ?_) (a' := ?_) #[true, true, true, true, true, true, false, true, false, false, false, false, false, false, false, false, false, false, false, false, false, false, false, false] rfl rfl (any_of HT_.out (by kernel_rfl)) (fun _ _ _ h => h) (Or.inl ⟨by rfl, ?_⟩) ?_ ?_
                                      rotate_left
                                      · intro w'
                                        go_simp
                                        with_reducible rfl
                                      rotate_left
                                      · simp only [Act.put, List.setIfInBounds_toArray, List.set_cons_zero, List.set_cons_succ, i64_w, i32_w]
                                        rfl
                                      refine pure_ (i := 8) (N := some 162) (v := ?_) (a' := ?_) #[true, true, true, true, true, true, false, true, true, false, false, false, false, false, false, false, false, false, false, false, false, false, false, false] rfl rfl (any_of HT_.out (by kernel_rfl)) (fun _ _ _ h => h) (Or.inl ⟨by rfl, ?_⟩) ?_ ?_
                                      rotate_left
                                      · intro w'
                                        go_simp
                                        with_reducible rfl
                                      rotate_left
                                      · simp only [Act.put, List.setIfInBounds_toArray, List.set_cons_zero, List.set_cons_succ, i64_w, i32_w]
                                        rfl
                                      refine pure_ (i := 10) (N := some 164) (v := ?_) (a' := ?_) #[true, true, true, true, true, true, false, true, true, false, true, false, false, false, false, false, false, false, false, false, false, false, false, false] rfl rfl (any_of HT_.out (by kernel_rfl)) (fun _ _ _ h => h) (Or.inl ⟨by rfl, ?_⟩) ?_ ?_
                                      rotate_left
                                      · intro w'
                                        go_simp
                                        with_reducible rfl
                                      rotate_left
                                      · simp only [Act.put, List.setIfInBounds_toArray, List.set_cons_zero, List.set_cons_succ, i64_w, i32_w]
                                        rfl
                                      refine pure_ (i := 11) (N := some 165) (v := ?_) (a' := ?_) #[true, true, true, true, true, true, false, true, true, false, true, true, false, false, false, false, false, false, false, false, false, false, false, false] rfl rfl (any_of HT_.out (by kernel_rfl)) (fun _ _ _ h => h) (Or.inl ⟨by rfl, ?_⟩) ?_ ?_
                                      rotate_left
                                      · intro w'
                                        go_simp
                                        with_reducible rfl
                                      rotate_left
                                      · simp only [Act.put, List.setIfInBounds_toArray, List.set_cons_zero, List.set_cons_succ, i64_w, i32_w]
                                        rfl
                                      refine pure_ (i := 13) (N := some 167) (v := ?_) (a' := ?_) #[true, true, true, true, true, true, false, true, true, false, true, true, false, true, false, false, false, false, false, false, false, false, false, false] rfl rfl (any_of HT_.out (by kernel_rfl)) (fun _ _ _ h => h) (Or.inl ⟨by rfl, ?_⟩) ?_ ?_
                                      rotate_left
                                      · intro w'
                                        go_simp
                                        with_reducible rfl
                                      rotate_left
                                      · simp only [Act.put, List.setIfInBounds_toArray, List.set_cons_zero, List.set_cons_succ, i64_w, i32_w]
                                        rfl
                                      refine pure_ (i := 15) (N := some 169) (v := ?_) (a' := ?_) #[true, true, true, true, true, true, false, true, true, false, true, true, false, true, false, true, false, false, false, false, false, false, false, false] rfl rfl (any_of HT_.out (by kernel_rfl)) (fun _ _ _ h => h) (Or.inl ⟨by rfl, ?_⟩) ?_ ?_
                                      rotate_left
                                      · intro w'
                                        go_simp
                                        with_reducible rfl
                                      rotate_left
                                      · simp only [Act.put, List.setIfInBounds_toArray, List.set_cons_zero, List.set_cons_succ, i64_w, i32_w]
                                        rfl
                                      refine pure_ (i := 16) (N := some 170) (v := ?_) (a' := ?_) #[true, true, true, true, true, true, false, true, true, false, true, true, false, true, false, true, true, false, false, false, false, false, false, false] rfl rfl (any_of HT_.out (by kernel_rfl)) (fun _ _ _ h => h) (Or.inl ⟨by rfl, ?_⟩) ?_ ?_
                                      rotate_left
                                      · intro w'
                                        go_simp
                                        with_reducible rfl
                                      rotate_left
                                      · simp only [Act.put, List.setIfInBounds_toArray, List.set_cons_zero, List.set_cons_succ, i64_w, i32_w]
                                        rfl
                                      refine pure_ (i := 17) (N := some 171) (v := ?_) (a' := ?_) #[true, true, true, true, true, true, false, true, true, false, true, true, false, true, false, true, true, true, false, false, false, false, false, false] rfl rfl (any_of HT_.out (by kernel_rfl)) (fun _ _ _ h => h) (Or.inl ⟨by rfl, ?_⟩) ?_ ?_
                                      rotate_left
                                      · intro w'
                                        go_simp
                                        with_reducible rfl
                                      rotate_left
                                      · simp only [Act.put, List.setIfInBounds_toArray, List.set_cons_zero, List.set_cons_succ, i64_w, i32_w]
                                        rfl
                                      refine pure_ (i := 19) (N := some 173) (v := ?_) (a' := ?_) #[true, true, true, true, true, true, false, true, true, false, true, true, false, true, false, true, true, true, false, true, false, false, false, false] rfl rfl (any_of HT_.out (by kernel_rfl)) (fun _ _ _ h => h) (Or.inl ⟨by rfl, ?_⟩) ?_ ?_
                                      rotate_left
                                      · intro w'
                                        go_simp
                                        with_reducible rfl
                                      rotate_left
                                      · simp only [Act.put, List.setIfInBounds_toArray, List.set_cons_zero, List.set_cons_succ, i64_w, i32_w]
                                        rfl
                                      refine pure_ (i := 20) (N := some 174) (v := ?_) (a' := ?_) #[true, true, true, true, true, true, false, true, true, false, true, true, false, true, false, true, true, true, false, true, true, false, false, false] rfl rfl (any_of HT_.out (by kernel_rfl)) (fun _ _ _ h => h) (Or.inl ⟨by rfl, ?_⟩) ?_ ?_
                                      rotate_left
                                      · intro w'
                                        go_simp
                                        with_reducible rfl
                                      rotate_left
                                      · simp only [Act.put, List.setIfInBounds_toArray, List.set_cons_zero, List.set_cons_succ, i64_w, i32_w]
                                        rfl
                                      refine take_ (i := 6) (N := some 160) (v := ?_) (a' := ?_) #[true, true, true, true, true, true, true, true, true, false, true, true, false, true, false, true, true, true, false, true, true, false, false, false] rfl rfl (take_ofW HT_.out HW_.out (by kernel_rfl)) (fun _ _ _ h => h) (Or.inl ⟨by rfl, ?_⟩) hHeld ?_ ?_
                                      rotate_left
                                      · rintro w' ⟨s0, s1, s2, s3, s4⟩
                                        go_simp
                                        with_reducible rfl
                                      rotate_left
                                      · simp only [Act.put, List.setIfInBounds_toArray, List.set_cons_zero, List.set_cons_succ, i64_w, i32_w]
                                        rfl
                                      refine take_ (i := 9) (N := some 163) (v := ?_) (a' := ?_) #[true, true, true, true, true, true, true, true, true, true, true, true, false, true, false, true, true, true, false, true, true, false, false, false] rfl rfl (take_ofW HT_.out HW_.out (by kernel_rfl)) (fun _ _ _ h => h) (Or.inl ⟨by rfl, ?_⟩) hHeld ?_ ?_
                                      rotate_left
                                      · rintro w' ⟨s0, s1, s2, s3, s4⟩
                                        go_simp
                                        with_reducible rfl
                                      rotate_left
                                      · simp only [Act.put, List.setIfInBounds_toArray, List.set_cons_zero, List.set_cons_succ, i64_w, i32_w]
                                        rfl
                                      refine take_ (i := 12) (N := some 166) (v := ?_) (a' := ?_) #[true, true, true, true, true, true, true, true, true, true, true, true, true, true, false, true, true, true, false, true, true, false, false, false] rfl rfl (take_ofW HT_.out HW_.out (by kernel_rfl)) (fun _ _ _ h => h) (Or.inl ⟨by rfl, ?_⟩) hHeld ?_ ?_
                                      rotate_left
                                      · rintro w' ⟨s0, s1, s2, s3, s4⟩
                                        go_simp
                                        with_reducible rfl
                                      rotate_left
                                      · simp only [Act.put, List.setIfInBounds_toArray, List.set_cons_zero, List.set_cons_succ, i64_w, i32_w]
                                        rfl
                                      refine pure_ (i := 14) (N := some 168) (v := ?_) (a' := ?_) #[true, true, true, true, true, true, true, true, true, true, true, true, true, true, true, true, true, true, false, true, true, false, false, false] rfl rfl (any_of HT_.out (by kernel_rfl)) (fun _ _ _ h => h) (Or.inl ⟨by rfl, ?_⟩) ?_ ?_
                                      rotate_left
                                      · intro w'
                                        go_simp
                                        with_reducible rfl
                                      rotate_left
                                      · simp only [Act.put, List.setIfInBounds_toArray, List.set_cons_zero, List.set_cons_succ, i64_w, i32_w]
                                        rfl
                                      refine take_ (i := 18) (N := some 172) (v := ?_) (a' := ?_) #[true, true, true, true, true, true, true, true, true, true, true, true, true, true, true, true, true, true, true, true, true, false, false, false] rfl rfl (take_ofW HT_.out HW_.out (by kernel_rfl)) (fun _ _ _ h => h) (Or.inl ⟨by rfl, ?_⟩) hHeld ?_ ?_
                                      rotate_left
                                      · rintro w' ⟨s0, s1, s2, s3, s4⟩
                                        go_simp
                                        with_reducible rfl
                                      rotate_left
                                      · simp only [Act.put, List.setIfInBounds_toArray, List.set_cons_zero, List.set_cons_succ, i64_w, i32_w]
                                        rfl
                                      refine take_ (i := 21) (N := some 175) (v := ?_) (a' := ?_) #[true, true, true, true, true, true, true, true, true, true, true, true, true, true, true, true, true, true, true, true, true, true, false, false] rfl rfl (take_ofW HT_.out HW_.out (by kernel_rfl)) (fun _ _ _ h => h) (Or.inl ⟨by rfl, ?_⟩) hHeld ?_ ?_
                                      rotate_left
                                      · rintro w' ⟨s0, s1, s2, s3, s4⟩
                                        go_simp
                                        with_reducible rfl
                                      rotate_left
                                      · simp only [Act.put, List.setIfInBounds_toArray, List.set_cons_zero, List.set_cons_succ, i64_w, i32_w]
                                        rfl
                                      refine one_ (i := 22) (N := some 176) #[true, true, true, true, true, true, true, true, true, true, true, true, true, true, true, true, true, true, true, true, true, true, true, false] rfl rfl (one_of HT_.out (by kernel_rfl)) (by decide) (fun K hK => ?_)
                                      refine Kd.R_lit_step (Kd.int .u32) _ 145 ?hg (N := 176) ?hd (xs := ([((((((((((rd x11_2 7) + (Go.bits .xor .u32 (Go.bits .xor .u32 t125 t126) t127)) % 4294967296) + (Go.bits .xor .u32 (Go.bits .and .u32 (rd x11_2 4) (rd x11_2 5)) (Go.bits .and .u32 (Go.bits .xor .u32 IntKind.u32.max (rd x11_2 4)) (rd x11_2 6)))) % 4294967296) + (rd l1 x12_2)) % 4294967296) + (rd x7_1 x12_2)) % 4294967296) + (((Go.bits .xor .u32 (Go.bits .xor .u32 t132 t133) t134) + (Go.bits .xor .u32 (Go.bits .xor .u32 (Go.bits .and .u32 (rd x11_2 0) (rd x11_2 1)) (Go.bits .and .u32 (rd x11_2 0) (rd x11_2 2))) (Go.bits .and .u32 (rd x11_2 1) (rd x11_2 2)))) % 4294967296)) % 4294967296, rd x11_2 0, rd x11_2 1, rd x11_2 2, ((rd x11_2 3) + (((((((((rd x11_2 7) + (Go.bits .xor .u32 (Go.bits .xor .u32 t125 t126) t127)) % 4294967296) + (Go.bits .xor .u32 (Go.bits .and .u32 (rd x11_2 4) (rd x11_2 5)) (Go.bits .and .u32 (Go.bits .xor .u32 IntKind.u32.max (rd x11_2 4)) (rd x11_2 6)))) % 4294967296) + (rd l1 x12_2)) % 4294967296) + (rd x7_1 x12_2)) % 4294967296)) % 4294967296, rd x11_2 4, rd x11_2 5, rd x11_2 6] : List Int)) (inner := [.int .u32 (((((((((((rd x11_2 7) + (Go.bits .xor .u32 (Go.bits .xor .u32 t125 t126) t127)) % 4294967296) + (Go.bits .xor .u32 (Go.bits .and .u32 (rd x11_2 4) (rd x11_2 5)) (Go.bits .and .u32 (Go.bits .xor .u32 IntKind.u32.max (rd x11_2 4)) (rd x11_2 6)))) % 4294967296) + (rd l1 x12_2)) % 4294967296) + (rd x7_1 x12_2)) % 4294967296) + (((Go.bits .xor .u32 (Go.bits .xor .u32 t132 t133) t134) + (Go.bits .xor .u32 (Go.bits .xor .u32 (Go.bits .and .u32 (rd x11_2 0) (rd x11_2 1)) (Go.bits .and .u32 (rd x11_2 0) (rd x11_2 2))) (Go.bits .and .u32 (rd x11_2 1) (rd x11_2 2)))) % 4294967296)) % 4294967296), .int .u32 (rd x11_2 0), .int .u32 (rd x11_2 1), .int .u32 (rd x11_2 2), .int .u32 (((rd x11_2 3) + (((((((((rd x11_2 7) + (Go.bits .xor .u32 (Go.bits .xor .u32 t125 t126) t127)) % 4294967296) + (Go.bits .xor .u32 (Go.bits .and .u32 (rd x11_2 4) (rd x11_2 5)) (Go.bits .and .u32 (Go.bits .xor .u32 IntKind.u32.max (rd x11_2 4)) (rd x11_2 6)))) % 4294967296) + (rd l1 x12_2)) % 4294967296) + (rd x7_1 x12_2)) % 4294967296)) % 4294967296), .int .u32 (rd x11_2 4), .int .u32 (rd x11_2 5), .int .u32 (rd x11_2 6)]) (ok := fun _ => True) (okp := fun _ => True) ?hr ?hp (fun _ hk => hk) trivial (Below.refl _ _) (Nat.le_refl _) (by simp) ?_; (case hd => rfl); (case hg => rfl); (case hr => first | (go_simp; done) | (go_simp; rfl) | (go_simp; simp [IntKind.wrap, IntKind.bits, IntKind.signed])); (case hp => exact (Reps.one (show Kd.M (Kd.int .u32) _ _ _ (((((((((((rd x11_2 7) + (Go.bits .xor .u32 (Go.bits .xor .u32 t125 t126) t127)) % 4294967296) + (Go.bits .xor .u32 (Go.bits .and .u32 (rd x11_2 4) (rd x11_2 5)) (Go.bits .and .u32 (Go.bits .xor .u32 IntKind.u32.max (rd x11_2 4)) (rd x11_2 6)))) % 4294967296) + (rd l1 x12_2)) % 4294967296) + (rd x7_1 x12_2)) % 4294967296) + (((Go.bits .xor .u32 (Go.bits .xor .u32 t132 t133) t134) + (Go.bits .xor .u32 (Go.bits .xor .u32 (Go.bits .and .u32 (rd x11_2 0) (rd x11_2 1)) (Go.bits .and .u32 (rd x11_2 0) (rd x11_2 2))) (Go.bits .and .u32 (rd x11_2 1) (rd x11_2 2)))) % 4294967296)) % 4294967296) [.int .u32 (((((((((((rd x11_2 7) + (Go.bits .xor .u32 (Go.bits .xor .u32 t125 t126) t127)) % 4294967296) + (Go.bits .xor .u32 (Go.bits .and .u32 (rd x11_2 4) (rd x11_2 5)) (Go.bits .and .u32 (Go.bits .xor .u32 IntKind.u32.max (rd x11_2 4)) (rd x11_2 6)))) % 4294967296) + (rd l1 x12_2)) % 4294967296) + (rd x7_1 x12_2)) % 4294967296) + (((Go.bits .xor .u32 (Go.bits .xor .u32 t132 t133) t134) + (Go.bits .xor .u32 (Go.bits .xor .u32 (Go.bits .and .u32 (rd x11_2 0) (rd x11_2 1)) (Go.bits .and .u32 (rd x11_2 0) (rd x11_2 2))) (Go.bits .and .u32 (rd x11_2 1) (rd x11_2 2)))) % 4294967296)) % 4294967296)] from rfl) (Reps.one (show Kd.M (Kd.int .u32) _ _ _ (rd x11_2 0) [.int .u32 (rd x11_2 0)] from rfl) (Reps.one (show Kd.M (Kd.int .u32) _ _ _ (rd x11_2 1) [.int .u32 (rd x11_2 1)] from rfl) (Reps.one (show Kd.M (Kd.int .u32) _ _ _ (rd x11_2 2) [.int .u32 (rd x11_2 2)] from rfl) (Reps.one (show Kd.M (Kd.int .u32) _ _ _ (((rd x11_2 3) + (((((((((rd x11_2 7) + (Go.bits .xor .u32 (Go.bits .xor .u32 t125 t126) t127)) % 4294967296) + (Go.bits .xor .u32 (Go.bits .and .u32 (rd x11_2 4) (rd x11_2 5)) (Go.bits .and .u32 (Go.bits .xor .u32 IntKind.u32.max (rd x11_2 4)) (rd x11_2 6)))) % 4294967296) + (rd l1 x12_2)) % 4294967296) + (rd x7_1 x12_2)) % 4294967296)) % 4294967296) [.int .u32 (((rd x11_2 3) + (((((((((rd x11_2 7) + (Go.bits .xor .u32 (Go.bits .xor .u32 t125 t126) t127)) % 4294967296) + (Go.bits .xor .u32 (Go.bits .and .u32 (rd x11_2 4) (rd x11_2 5)) (Go.bits .and .u32 (Go.bits .xor .u32 IntKind.u32.max (rd x11_2 4)) (rd x11_2 6)))) % 4294967296) + (rd l1 x12_2)) % 4294967296) + (rd x7_1 x12_2)) % 4294967296)) % 4294967296)] from rfl) (Reps.one (show Kd.M (Kd.int .u32) _ _ _ (rd x11_2 4) [.int .u32 (rd x11_2 4)] from rfl) (Reps.one (show Kd.M (Kd.int .u32) _ _ _ (rd x11_2 5) [.int .u32 (rd x11_2 5)] from rfl) (Reps.one (show Kd.M (Kd.int .u32) _ _ _ (rd x11_2 6) [.int .u32 (rd x11_2 6)] from rfl) (Reps.none _ _))))))))))
                                      intro v145 w60 ho61 hb hg_ hnew_
                                      have HS0_ := (hb.cell (World.block_lt_of_cell? _ _ (hHeld.1))).trans (hHeld.1)
                                      have HS1_ := (hb.cell (World.block_lt_of_cell? _ _ (hHeld.2.1))).trans (hHeld.2.1)
                                      have HS2_ := (hb.cell (World.block_lt_of_cell? _ _ (hHeld.2.2.1))).trans (hHeld.2.2.1)
                                      have HS3_ := (hb.cell (World.block_lt_of_cell? _ _ (hHeld.2.2.2.1))).trans (hHeld.2.2.2.1)
                                      have HS4_ := (hb.cell (World.block_lt_of_cell? _ _ (hHeld.2.2.2.2))).trans (hHeld.2.2.2.2)
                                      clear hg_ hnew_
                                      (first | rw [← Ny144.out] at ho61 | (simp only [Int.reduceToNat] at ho61; rw [← Ny144.out] at ho61))
                                      have n0_ := Aside0.mk (Kd.R_elder' (by (with_reducible repeat (first | apply Kd.R_alloc | apply Kd.R_drewN | apply Kd.R_drew)); exact HO_7.out) (Kd.R_base ho61) hb)
                                      have n1_ := Aside0.mk (Kd.R_elder' (by (with_reducible repeat (first | apply Kd.R_alloc | apply Kd.R_drewN | apply Kd.R_drew)); exact HO_11.out) (Kd.R_base ho61) hb)
                                      have n2_ := Aside0.mk (Kd.R_lower (Kd.R_new' (Kd.R_new' ho61 (Kd.R_lt (by (with_reducible repeat (first | apply Kd.R_alloc | apply Kd.R_drewN | apply Kd.R_drew)); exact HO_7.out))) (Kd.R_lt (by (with_reducible repeat (first | apply Kd.R_alloc | apply Kd.R_drewN | apply Kd.R_drew)); exact HO_11.out))) (below_size (by repeat (first | (with_reducible first | exact HB.out | apply below_alloc | apply pw_below_drewN | apply below_drew1) | exact HB.out))))
                                      have n3_ := Aside0.mk (below_step (by repeat (first | (with_reducible first | exact HB.out | apply below_alloc | apply pw_below_drewN | apply below_drew1) | exact HB.out)) hb)
                                      clear HO_7
                                      clear HO_11
                                      clear HB
                                      have HO_7 := n0_
                                      have HO_11 := n1_
                                      have HO146 := n2_
                                      have HB := n3_
                                      clear n0_ n1_ n2_ n3_
                                      clear hb ho61
                                      refine hK.out _ _ ⟨HS0_, HS1_, HS2_, HS3_, HS4_⟩ (fun hHeld => ?_)
                                      clear hK K
                                      refine norm_ (a' := ?_) ?_ ?_
                                      rotate_left
                                      · show Act.put _ (some 176) _ = _
                                        simp only [Act.put, List.setIfInBounds_toArray, List.set_cons_zero, List.set_cons_succ, i64_w, i32_w]
                                        rfl
                                      refine pure_ (i := 23) (N := some 11) (v := ?_) (a' := ?_) #[true, true, true, true, true, true, true, true, true, true, true, true, true, true, true, true, true, true, true, true, true, true, true, true] rfl rfl (any_of HT_.out (by kernel_rfl)) (fun _ _ _ h => h) (Or.inl ⟨by rfl, ?_⟩) ?_ ?_
                                      rotate_left
                                      · intro w'
                                        go_simp
                                        with_reducible rfl
                                      rotate_left
                                      · simp only [Act.put, List.setIfInBounds_toArray, List.set_cons_zero, List.set_cons_succ, i64_w, i32_w]
                                        rfl
                                      refine done_ (done_of HT_.out (by kernel_rfl)) ?_
                                      try go_wp2
                                      go_roundg k2
                                      case measure => have := HK1.out; have := HK2.out; omega
                                      case rel => exact ⟨(y144), (wrap64 (x12_2 + 1)), (by first | rfl | (simp; done) | (simp [*]; done)), H', ⟨by have := HK1.out; have := HK2.out; omega⟩, ⟨by (with_reducible repeat (first | apply Kd.R_alloc | apply Kd.R_drewN | apply Kd.R_drew)); exact Kd.R_mono HO_7.out (fun _ hk => hk.2)⟩, ⟨by (with_reducible repeat (first | apply Kd.R_alloc | apply Kd.R_drewN | apply Kd.R_drew)); exact Kd.R_mono HO146.out (fun _ hk => hk.1.2)⟩, ⟨by repeat (first | (with_reducible first | exact HB.out | apply below_alloc | apply pw_below_drewN | apply below_drew1) | exact HB.out)⟩⟩
                                    · rw [if_neg c54] at H
                                      exact absurd H (by simp)
                                  · rw [if_neg c53] at H
                                    exact absurd H (by simp)
                                · rw [if_neg c52] at H
                                  exact absurd H (by simp)
                              · rw [if_neg c48] at H
                                exact absurd H (by simp)
                            · rw [if_neg c47] at H
                              exact absurd H (by simp)
                          · rw [if_neg c46] at H
                            exact absurd H (by simp)
                        · rw [if_neg c45] at H
                          exact absurd H (by simp)
                      · rw [if_neg c44] at H
                        exact absurd H (by simp)
                    · rw [if_neg c40] at H
                      exact absurd H (by simp)
                  · rw [if_neg c39] at H
                    exact absurd H (by simp)
                · rw [if_neg c38] at H
                  exact absurd H (by simp)
              · rw [if_neg c37] at H
                have c37b0 : decide (x12_2 < 64) = false := decide_eq_false c37
                clear c37
                have H' := Aside0.mk H
                clear H
                obtain ⟨Ao62, co62, eo62⟩ := Kd.R_slice HO_11.out
                subst eo62
                go_wp2
                go_loopg [179] k2 (fun kq v179 w' => ∃ (x11_3 : List Int) (x179_3 : Int), v179 = .int .i64 x179_3 ∧ Aside0 (spec_l4Round.l2 kq l0 x11_3 (x11_2.length : Int) x179_3 = some r) ∧ Aside0 (kq ≤ k2) ∧ Aside0 (Kd.R (Kd.int .u32) 145 w' w.heap.size (fun _ => True) (.slice Ao62 x11_2.length co62) x11_3) ∧ Aside0 (Below w.heap.size w w'))
                case atStart => exact ⟨(x11_2), (0), (by first | rfl | (simp; done) | (simp [*]; done)), H', ⟨Nat.le_refl _⟩, ⟨by (with_reducible repeat (first | apply Kd.R_alloc | apply Kd.R_drewN | apply Kd.R_drew)); exact Kd.R_mono HO_11.out (fun _ hk => trivial)⟩, ⟨by repeat (first | (with_reducible first | exact HB.out | apply below_alloc | apply pw_below_drewN | apply below_drew1) | exact HB.out)⟩⟩
                case round =>
                  clear H'
                  try clear c1
                  try clear p1
                  try clear q1
                  try clear hx1
                  try clear qi1
                  try clear p2
                  try clear c3
                  try clear c4
                  try clear c5
                  try clear p6
                  try clear p13
                  try clear q13
                  try clear hx13
                  try clear qi13
                  try clear p14
                  try clear q14
                  try clear hx14
                  try clear qi14
                  try clear c17
                  try clear c37
                  try clear c37b0
                  try clear c38
                  try clear c39
                  try clear c40
                  try clear c44
                  try clear c45
                  try clear c46
                  try clear c47
                  try clear c48
                  try clear c52
                  try clear c53
                  try clear c54
                  try clear hx135_0
                  try clear hx136_0
                  try clear hx137_0
                  try clear hx138_0
                  try clear hx139_0
                  try clear hx140_0
                  try clear hx141_0
                  try clear hx142_0
                  try clear hx143_0
                  try clear p135
                  try clear p136
                  try clear p137
                  try clear p138
                  try clear p139
                  try clear p140
                  try clear p141
                  try clear p142
                  try clear p143
                  try clear q135
                  try clear q136
                  try clear q137
                  try clear q138
                  try clear q139
                  try clear q140
                  try clear q141
                  try clear q142
                  try clear q143
                  obtain ⟨x11_3, x179_3, rfl, HA, HK3, HO_11, HB⟩ := hrel
                  have hl11_3 := (Kd.R_reads' HO_11.out).1
                  rw [hl11_3] at HO_11
                  (try simp only [hl11_3])
                  cases gk with
                  | zero => exact absurd HA.out (by simp [spec_l4Round.l2])
                  | succ k3 =>
                    have H := HA.out
                    clear HA
                    simp only [spec_l4Round.l2] at H
                    by_cases c63 : x179_3 < (x11_2.length : Int)
                    · rw [if_pos c63] at H
                      have c63b0 : decide (x179_3 < (x11_2.length : Int)) = true := decide_eq_true c63
                      try (have c63b0l_hl11_3 := c63b0; rw [hl11_3] at c63b0l_hl11_3)
                      clear c63
                      by_cases c64 : 0 ≤ x179_3
                      · rw [if_pos c64] at H
                        have c64b0 : decide (0 ≤ x179_3) = true := decide_eq_true c64
                        clear c64
                        by_cases c65 : x179_3 < (x11_3.length : Int)
                        · rw [if_pos c65] at H
                          have c65b0 : decide (x179_3 < (x11_3.length : Int)) = true := decide_eq_true c65
                          try (have c65b0l_hl11_3 := c65b0; rw [hl11_3] at c65b0l_hl11_3)
                          clear c65
                          by_cases c66 : x179_3 < (l0.length : Int)
                          · rw [if_pos c66] at H
                            have c66b0 : decide (x179_3 < (l0.length : Int)) = true := decide_eq_true c66
                            try (have c66b0l_hl11_3 := c66b0; rw [hl11_3] at c66b0l_hl11_3)
                            clear c66
                            obtain ⟨y149, hy149⟩ : ∃ y_ : List Int, y_ = (x11_3.set (x179_3 : Int).toNat (((rd x11_3 x179_3) + (rd l0 x179_3)) % 4294967296)) := ⟨_, rfl⟩
                            replace H : (spec_l4Round.l2 k3 l0 y149 (x11_2.length : Int) (wrap64 (x179_3 + 1))) = some r := by first | (rw [hy149]; with_reducible exact H) | (have H2_ := (Option.bind_some _ _).symm.trans H; rw [hy149]; with_reducible exact H2_) | (have H2_ := (Option.bind_some _ _).symm.trans H; with_reducible exact H2_) | with_reducible exact H | (rw [hy149]; exact H) | exact H
                            have Ny149 := Aside0.mk hy149
                            clear hy149
                            have H' := Aside0.mk H
                            clear H
                            try go_wp2
                            have n0_ := Aside0.mk (Kd.R_drew HO_11.out)
                            have n1_ := Aside0.mk (below_drew1 HB.out)
                            clear HO_11
                            clear HB
                            have HO_11 := n0_
                            have HB := n1_
                            clear n0_ n1_
                            have p147 : 0 ≤ (x179_3 : Int) := of_decide_eq_true (by first | (with_reducible assumption) | assumption)
                            have q147 : x179_3 < (x11_3.length : Int) := of_decide_eq_true (by first | (with_reducible assumption) | assumption)
                            obtain ⟨ad147, e147, hx147_0⟩ := Kd.at_int (Kd.R_reads' HO_11.out).2.2 x179_3 p147 q147
                            cases e147
                            replace p147 := eq_true p147
                            replace q147 := eq_true q147
                            have p148 : 0 ≤ (x179_3 : Int) := of_decide_eq_true (by first | (with_reducible assumption) | assumption)
                            have q148 : x179_3 < (l0.length : Int) := of_decide_eq_true (by first | (with_reducible assumption) | assumption)
                            obtain ⟨ad148, e148, hx148_0⟩ := Kd.at_int HR0.out x179_3 p148 q148
                            have hw148_0 := hx148_0
                            cases e148
                            replace hx148_0 := (HB.out.cell (World.block_lt_of_cell? w _ hx148_0)).trans hx148_0
                            replace p148 := eq_true p148
                            replace q148 := eq_true q148
                            have p67 : 0 ≤ (x179_3 : Int) := of_decide_eq_true (by first | (with_reducible assumption) | assumption)
                            have q67 : (x179_3 : Int) < ((x11_3.length : Int) : Int) := of_decide_eq_true (by first | (with_reducible assumption) | assumption)
                            obtain ⟨go67, co67, eo67, gb67, gl67, cl67, HG67⟩ := Kd.R_form HO_11.out (by omega)
                            (first | cases eo67 | (injection eo67 with ea_ en_ ec_; (first | subst ea_ | (injection ea_ with ea_; subst ea_)); subst ec_; clear en_))
                            have GB67 := Aside0.mk gb67
                            have GG67 := Aside0.mk HG67
                            clear gb67 gl67 HG67
                            (first | simp only [add_plain] at hx147_0 | skip)
                            obtain ⟨hx67_0, hf67_0⟩ := Kd.R_celln 0 HO_11.out (x179_3 : Int) p67 q67
                            replace p67 := eq_true p67
                            replace q67 := eq_true q67
                            have HP69 := Kd.R_putn HO_11.out (x179_3 : Int) (((rd x11_3 x179_3) + (rd l0 x179_3)) % 4294967296)
                            rw [← Ny149.out] at HP69
                            have HQ69 := Aside0.mk HP69
                            clear HP69
                            refine start_ (n := 11) (S := fun w' => w'.cell? ⟨go67, (x179_3).toNat, none⟩ = some (.int .u32 (rd x11_3 x179_3)) ∧ w'.cell? (ad148.add (x179_3).toNat) = some (.int .u32 (rd l0 x179_3))) (ds := [10]) #[false, false, false, false, false, false, false, false, false, false, false] (by kernel_rfl) rfl rfl ⟨hx147_0, ((HB.out.cell (World.block_lt_of_cell? w _ hw148_0)).trans hw148_0)⟩ (fun hHeld => ?_); refine with_tabW spec_l4Round.tab22 spec_l4Round.bits22 (fun HT_ HW_ => ?_)
                            generalize wr.drew = w68 at HO_11 HB GG67 HQ69 hf67_0 hx147_0 hx148_0 hx67_0 hHeld ⊢
                            refine pure_ (i := 0) (N := some 182) (v := ?_) (a' := ?_) #[true, false, false, false, false, false, false, false, false, false, false] rfl rfl (any_of HT_.out (by kernel_rfl)) (fun _ _ _ h => h) (Or.inl ⟨by rfl, ?_⟩) ?_ ?_
                            rotate_left
                            · intro w'
                              go_simp
                              with_reducible rfl
                            rotate_left
                            · simp only [Act.put, List.setIfInBounds_toArray, List.set_cons_zero, List.set_cons_succ, i64_w, i32_w]
                              rfl
                            refine pure_ (i := 1) (N := some 183) (v := ?_) (a' := ?_) #[true, true, false, false, false, false, false, false, false, false, false] rfl rfl (any_of HT_.out (by kernel_rfl)) (fun _ _ _ h => h) (Or.inl ⟨by rfl, ?_⟩) ?_ ?_
                            rotate_left
                            · intro w'
                              go_simp
                              with_reducible rfl
                            rotate_left
                            · simp only [Act.put, List.setIfInBounds_toArray, List.set_cons_zero, List.set_cons_succ, i64_w, i32_w]
                              rfl
                            refine pure_ (i := 2) (N := some 184) (v := ?_) (a' := ?_) #[true, true, true, false, false, false, false, false, false, false, false] rfl rfl (any_of HT_.out (by kernel_rfl)) (fun _ _ _ h => h) (Or.inl ⟨by rfl, ?_⟩) ?_ ?_
                            rotate_left
                            · intro w'
                              go_simp
                              with_reducible rfl
                            rotate_left
                            · simp only [Act.put, List.setIfInBounds_toArray, List.set_cons_zero, List.set_cons_succ, i64_w, i32_w]
                              rfl
                            refine pure_ (i := 4) (N := some 186) (v := ?_) (a' := ?_) #[true, true, true, false, true, false, false, false, false, false, false] rfl rfl (any_of HT_.out (by kernel_rfl)) (fun _ _ _ h => h) (Or.inl ⟨by rfl, ?_⟩) ?_ ?_
                            rotate_left
                            · intro w'
                              go_simp
                              with_reducible rfl
                            rotate_left
                            · simp only [Act.put, List.setIfInBounds_toArray, List.set_cons_zero, List.set_cons_succ, i64_w, i32_w]
                              rfl
                            refine pure_ (i := 5) (N := some 187) (v := ?_) (a' := ?_) #[true, true, true, false, true, true, false, false, false, false, false] rfl rfl (any_of HT_.out (by kernel_rfl)) (fun _ _ _ h => h) (Or.inl ⟨by rfl, ?_⟩) ?_ ?_
                            rotate_left
                            · intro w'
                              go_simp
                              with_reducible rfl
                            rotate_left
                            · simp only [Act.put, List.setIfInBounds_toArray, List.set_cons_zero, List.set_cons_succ, i64_w, i32_w]
                              rfl
                            refine pure_ (i := 6) (N := some 188) (v := ?_) (a' := ?_) #[true, true, true, false, true, true, true, false, false, false, false] rfl rfl (any_of HT_.out (by kernel_rfl)) (fun _ _ _ h => h) (Or.inl ⟨by rfl, ?_⟩) ?_ ?_
                            rotate_left
                            · intro w'
                              go_simp
                              with_reducible rfl
                            rotate_left
                            · simp only [Act.put, List.setIfInBounds_toArray, List.set_cons_zero, List.set_cons_succ, i64_w, i32_w]
                              rfl
                            refine take_ (i := 3) (N := some 185) (v := ?_) (a' := ?_) #[true, true, true, true, true, true, true, false, false, false, false] rfl rfl (take_ofW HT_.out HW_.out (by kernel_rfl)) (fun _ _ _ h => h) (Or.inl ⟨by rfl, ?_⟩) hHeld ?_ ?_
                            rotate_left
                            · rintro w' ⟨s0, s1⟩
                              go_simp
                              with_reducible rfl
                            rotate_left
                            · simp only [Act.put, List.setIfInBounds_toArray, List.set_cons_zero, List.set_cons_succ, i64_w, i32_w]
                              rfl
                            refine take_ (i := 7) (N := some 189) (v := ?_) (a' := ?_) #[true, true, true, true, true, true, true, true, false, false, false] rfl rfl (take_ofW HT_.out HW_.out (by kernel_rfl)) (fun _ _ _ h => h) (Or.inl ⟨by rfl, ?_⟩) hHeld ?_ ?_
                            rotate_left
                            · rintro w' ⟨s0, s1⟩
                              go_simp
                              with_reducible rfl
                            rotate_left
                            · simp only [Act.put, List.setIfInBounds_toArray, List.set_cons_zero, List.set_cons_succ, i64_w, i32_w]
                              rfl
                            refine pure_ (i := 8) (N := some 190) (v := ?_) (a' := ?_) #[true, true, true, true, true, true, true, true, true, false, false] rfl rfl (any_of HT_.out (by kernel_rfl)) (fun _ _ _ h => h) (Or.inl ⟨by rfl, ?_⟩) ?_ ?_
                            rotate_left
                            · intro w'
                              go_simp
                              with_reducible rfl
                            rotate_left
                            · simp only [Act.put, List.setIfInBounds_toArray, List.set_cons_zero, List.set_cons_succ, i64_w, i32_w]
                              rfl
                            refine pure_ (i := 9) (N := some 191) (v := ?_) (a' := ?_) #[true, true, true, true, true, true, true, true, true, true, false] rfl rfl (any_of HT_.out (by kernel_rfl)) (fun _ _ _ h => h) (Or.inl ⟨by rfl, ?_⟩) ?_ ?_
                            rotate_left
                            · intro w'
                              go_simp
                              with_reducible rfl
                            rotate_left
                            · simp only [Act.put, List.setIfInBounds_toArray, List.set_cons_zero, List.set_cons_succ, i64_w, i32_w]
                              rfl
                            refine last_ (i := 10) (N := none) #[true, true, true, true, true, true, true, true, true, true, true] rfl rfl (one_of HT_.out (by kernel_rfl)) (by decide) (fun K hK => ?_)
                            refine skip_ (w1 := ?_) (by rfl) rfl ?_ ?_
                            rotate_left
                            · go_simp
                              rfl
                            refine hK.out _ _ ?_
                            clear hK K
                            refine done_ (done_of HT_.out (by kernel_rfl)) ?_
                            try go_wp2
                            (try simp only [← hl11_3])
                            go_roundg k3
                            case measure => have := HK1.out; have := HK2.out; have := HK3.out; omega
                            case rel => exact ⟨(y149), (wrap64 (x179_3 + 1)), (by first | rfl | (simp; done) | (simp [*]; done)), H', ⟨by have := HK1.out; have := HK2.out; have := HK3.out; omega⟩, ⟨by (try simp only [hl11_3]); (with_reducible repeat (first | apply Kd.R_alloc | apply Kd.R_drewN | apply Kd.R_drew)); exact HQ69.out⟩, ⟨by repeat (first | (with_reducible first | exact HB.out | apply below_alloc | apply pw_below_drewN | apply below_drew1 | refine below_set ?_ GB67.out) | exact HB.out)⟩⟩
                          · rw [if_neg c66] at H
                            exact absurd H (by simp)
                        · rw [if_neg c65] at H
                          exact absurd H (by simp)
                      · rw [if_neg c64] at H
                        exact absurd H (by simp)
                    · rw [if_neg c63] at H
                      have c63b0 : decide (x179_3 < (x11_2.length : Int)) = false := decide_eq_false c63
                      try (have c63b0l_hl11_3 := c63b0; rw [hl11_3] at c63b0l_hl11_3)
                      clear c63
                      obtain rfl := Option.some.inj H
                      go_wp2
                      go_ret
                      exact ⟨_, by first | rfl | (simp [errW_none, errW_some] <;> rfl) | (simp [*, errW_none, errW_some] <;> rfl), by (with_reducible repeat (first | apply Kd.R_alloc | apply Kd.R_drewN | apply Kd.R_drew)); exact HO_11.out, by repeat (first | (with_reducible first | exact HB.out | apply below_alloc | apply pw_below_drewN | apply below_drew1) | exact HB.out)⟩
        · rw [if_neg c33] at H
          exact absurd H (by simp)

end Go.Proofs.YtnghcnkffbjddaaDoor.PSpecR
