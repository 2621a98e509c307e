-- SHRUNK. LAID BY A PROGRAM OF THIS SESSION (wip/tools/myprint.py) over the kit's print.
import Derived.Test.YtimokakcdmcnnaaPSpecCx0
import Derived.Test.YtimokakcdmcnnaaPSpecCx1
import Derived.Test.YtimokakcdmcnnaaPSpecCx2
namespace Go.Proofs.Ytimokakcdmcnnaa.PSpecC
open Go.RowKit Go.Proofs.YtimokakcdmcnnaaV.PrintWords Go.Proofs.YtimokakcdmcnnaaV.PrintLast Go.Proofs.YtimokakcdmcnnaaV.PrintMore
attribute [local go_sem] max2_int min2_int max_two min_two max_three min_three max_four min_four   -- for this text's walks alone
set_option linter.unusedVariables false
set_option linter.unusedSimpArgs false

/-! ### spec_l7Join: function 109 -/
def spec_l7Join.f (l0 : List Int) (l1 : List Int) (a2 : Int) : Option (ByteArray) := if (Int.tmod a2 2) = 0 then (if (strOfNums l0).size + (strOfNums l1).size ≤ 9223372036854775807 then (some ((strOfNums l0) ++ (strOfNums l1))) else (none)) else (if 0 ≤ (wrap64 ((l0.length : Int) - 1)) then (if (wrap64 ((l0.length : Int) - 1)) ≤ (l0.length : Int) then (if (wrap64 ((l0.length : Int) - 1)) < (l0.length : Int) then (if 0 < (l1.length : Int) then ((some (([Go.bits .or .u8 (rd l0 (wrap64 ((l0.length : Int) - 1))) (rd l1 0)] : List Int) : List Int)).bind fun y124 => (if (strOfNums (l0.take ((wrap64 ((l0.length : Int) - 1)) : Int).toNat)).size + (strOfNums y124).size ≤ 9223372036854775807 then (if 1 ≤ (l1.length : Int) then (if ((strOfNums (l0.take ((wrap64 ((l0.length : Int) - 1)) : Int).toNat)) ++ (strOfNums y124)).size + (strOfNums (l1.drop 1)).size ≤ 9223372036854775807 then (some (((strOfNums (l0.take ((wrap64 ((l0.length : Int) - 1)) : Int).toNat)) ++ (strOfNums y124)) ++ (strOfNums (l1.drop 1)))) else (none)) else (none)) else (none))) else (none)) else (none)) else (none)) else (none))
def spec_l7Join.T4 : Bool × List (List Nat × List Nat) := (true, [([], []), ([], []), ([1], [1]), ([0, 2], [0, 2]), ([3], [3]), ([], []), ([], []), ([6], [6]), ([5, 7], [5, 7]), ([8], [8]), ([], []), ([10], [10]), ([11], [11]), ([9, 12], [9, 12]), ([13], [13]), ([14], [14]), ([4, 15], [4, 15]), ([], []), ([17], [17]), ([18], [18]), ([16, 19], [16, 19]), ([20, 0, 1, 2, 3, 4, 5, 6, 7, 8, 9, 10, 11, 12, 13, 14, 15, 16, 17, 18, 19, 20], [20])])
def spec_l7Join.B4 : List Nat := [0, 0, 2, 7, 15, 0, 0, 64, 224, 480, 0, 1024, 3072, 8160, 16352, 32736, 65535, 0, 131072, 393216, 1048575, 2097151]
theorem spec_l7Join.tab4 : rtab .any (opsOf Try.f109 4) = spec_l7Join.T4 := by kernel_rfl
theorem spec_l7Join.bits4 : waitsOk spec_l7Join.T4.2 spec_l7Join.B4 = true := by kernel_rfl
set_option maxHeartbeats 8000000 in
set_option maxRecDepth 100000 in
theorem spec_l7Join.calls (A0 : Option Addr) (c0 : Nat) (l0 : List Int) (A1 : Option Addr) (c1 : Nat) (l1 : List Int) (a2 : Int) (r : ByteArray) (w : World) (hr0 : Kd.C (Kd.int .u8) w A0 l0.length l0) (hc0 : l0.length ≤ c0) (hr1 : Kd.C (Kd.int .u8) w A1 l1.length l1) (hc1 : l1.length ≤ c1) (h : spec_l7Join.f l0 l1 a2 = some r) :
  Calls Try.prog 109 #[.slice A0 l0.length c0, .slice A1 l1.length c1, .int .i64 a2] w fun e w' => e = .returned (.string r) ∧ Below w.heap.size w w' := by
 have HR0 := Aside0.mk hr0
 have HC0 := Aside0.mk hc0
 clear hr0 hc0
 have HR1 := Aside0.mk hr1
 have HC1 := Aside0.mk hc1
 clear hr1 hc1
 have HB := Aside0.mk (Below.refl w.heap.size w)
 have H : (if (Int.tmod a2 2) = 0 then (if (strOfNums l0).size + (strOfNums l1).size ≤ 9223372036854775807 then (some ((strOfNums l0) ++ (strOfNums l1))) else (none)) else (if 0 ≤ (wrap64 ((l0.length : Int) - 1)) then (if (wrap64 ((l0.length : Int) - 1)) ≤ (l0.length : Int) then (if (wrap64 ((l0.length : Int) - 1)) < (l0.length : Int) then (if 0 < (l1.length : Int) then ((some (([Go.bits .or .u8 (rd l0 (wrap64 ((l0.length : Int) - 1))) (rd l1 0)] : List Int) : List Int)).bind fun y124 => (if (strOfNums (l0.take ((wrap64 ((l0.length : Int) - 1)) : Int).toNat)).size + (strOfNums y124).size ≤ 9223372036854775807 then (if 1 ≤ (l1.length : Int) then (if ((strOfNums (l0.take ((wrap64 ((l0.length : Int) - 1)) : Int).toNat)) ++ (strOfNums y124)).size + (strOfNums (l1.drop 1)).size ≤ 9223372036854775807 then (some (((strOfNums (l0.take ((wrap64 ((l0.length : Int) - 1)) : Int).toNat)) ++ (strOfNums y124)) ++ (strOfNums (l1.drop 1)))) else (none)) else (none)) else (none))) else (none)) else (none)) else (none)) else (none))) = some r := h
 clear h
 by_cases c4 : (Int.tmod a2 2) = 0
 ·rw [if_pos c4] at H
  have c4b0 : ((Int.tmod a2 2) == 0) = true := beq_iff_eq.mpr c4
  have c4b1 : ((Int.tmod a2 2) != 0) = false := bne_eq_false_iff_eq.mpr c4
  clear c4
  by_cases c5 : (strOfNums l0).size + (strOfNums l1).size ≤ 9223372036854775807
  ·rw [if_pos c5] at H
   have c5b0 := eq_true c5
   have c5b1 : decide ((strOfNums l0).size + (strOfNums l1).size ≤ 9223372036854775807) = true := decide_eq_true c5
   try have c5b2 : (9223372036854775807 < (strOfNums l0).size + (strOfNums l1).size) = False := eq_false (Nat.not_lt.2 c5)
   obtain rfl := Option.some.inj H
   have hcv6 := Kd.C_string (P := Try.prog) (A := _) (c := c0) Try.underlying43 Try.underlying5 Try.underlying9 HR0.out
   have hcv7 := Kd.C_string (P := Try.prog) (A := _) (c := c1) Try.underlying43 Try.underlying5 Try.underlying9 HR1.out
   go_enter Try.func109, Try.ntmps109
   go_wp2
   go_ret
   exact ⟨by first | rfl | (simp [errW_none, errW_some] <;> rfl) | (simp [*, errW_none, errW_some] <;> rfl), by repeat (first | (with_reducible first | exact HB.out | apply below_alloc | apply pw_below_drewN | apply below_drew1) | exact HB.out)⟩
  ·rw [if_neg c5] at H
   exact absurd H (by simp)
 ·rw [if_neg c4] at H
  have c4b0 : ((Int.tmod a2 2) == 0) = false := beq_eq_false_iff_ne.mpr c4
  have c4b1 : ((Int.tmod a2 2) != 0) = true := bne_iff_ne.mpr c4
  obtain ⟨ji8, hji8⟩ : ∃ j_ : Int, (wrap64 ((l0.length : Int) - 1)) = j_ := ⟨_, rfl⟩
  replace H : (if 0 ≤ (ji8) then (if (ji8) ≤ (l0.length : Int) then (if (ji8) < (l0.length : Int) then (if 0 < (l1.length : Int) then ((some (([Go.bits .or .u8 (rd l0 (ji8)) (rd l1 0)] : List Int) : List Int)).bind fun y124 => (if (strOfNums (l0.take ((ji8) : Int).toNat)).size + (strOfNums y124).size ≤ 9223372036854775807 then (if 1 ≤ (l1.length : Int) then (if ((strOfNums (l0.take ((ji8) : Int).toNat)) ++ (strOfNums y124)).size + (strOfNums (l1.drop 1)).size ≤ 9223372036854775807 then (some (((strOfNums (l0.take ((ji8) : Int).toNat)) ++ (strOfNums y124)) ++ (strOfNums (l1.drop 1)))) else (none)) else (none)) else (none))) else (none)) else (none)) else (none)) else (none)) = some r := by first | (rw [hji8] at H; exact H) | (simp only [hji8] at H ⊢; exact H)
  have hji8w : (IntKind.i64.wrap ((l0.length : Int) - 1)) = ji8 := (i64_w _).trans hji8
  by_cases c9 : 0 ≤ (ji8)
  ·rw [if_pos c9] at H
   have c9b0 := eq_true c9
   have c9b1 : decide (0 ≤ (ji8)) = true := decide_eq_true c9
   clear c9
   by_cases c10 : (ji8) ≤ (l0.length : Int)
   ·rw [if_pos c10] at H
    have c10b0 := eq_true c10
    have c10b1 : decide ((ji8) ≤ (l0.length : Int)) = true := decide_eq_true c10
    clear c10
    by_cases c11 : (ji8) < (l0.length : Int)
    ·rw [if_pos c11] at H
     have c11b0 : decide ((ji8) < (l0.length : Int)) = true := decide_eq_true c11
     clear c11
     by_cases c12 : 0 < (l1.length : Int)
     ·rw [if_pos c12] at H
      have c12b0 : decide (0 < (l1.length : Int)) = true := decide_eq_true c12
      have c12b1 : decide (0 < l1.length) = true := decide_eq_true (by omega)
      clear c12
      obtain ⟨y124, hy124⟩ : ∃ y_ : List Int, y_ = (([Go.bits .or .u8 (rd l0 (ji8)) (rd l1 0)] : List Int)) := ⟨_, rfl⟩
      replace H : (if (strOfNums (l0.take ((ji8) : Int).toNat)).size + (strOfNums y124).size ≤ 9223372036854775807 then (if 1 ≤ (l1.length : Int) then (if ((strOfNums (l0.take ((ji8) : Int).toNat)) ++ (strOfNums y124)).size + (strOfNums (l1.drop 1)).size ≤ 9223372036854775807 then (some (((strOfNums (l0.take ((ji8) : Int).toNat)) ++ (strOfNums y124)) ++ (strOfNums (l1.drop 1)))) else (none)) else (none)) else (none)) = some r := by first | (rw [hy124]; with_reducible exact H) | (have H2_ := (Option.bind_some _ _).symm.trans H; rw [hy124]; with_reducible exact H2_) | (have H2_ := (Option.bind_some _ _).symm.trans H; with_reducible exact H2_) | with_reducible exact H | (rw [hy124]; exact H) | exact H
      have Ny124 := Aside0.mk hy124
      clear hy124
      by_cases c13 : (strOfNums (l0.take ((ji8) : Int).toNat)).size + (strOfNums y124).size ≤ 9223372036854775807
      ·rw [if_pos c13] at H
       have c13b0 := eq_true c13
       have c13b1 : decide ((strOfNums (l0.take ((ji8) : Int).toNat)).size + (strOfNums y124).size ≤ 9223372036854775807) = true := decide_eq_true c13
       try have c13b2 : (9223372036854775807 < (strOfNums (l0.take ((ji8) : Int).toNat)).size + (strOfNums y124).size) = False := eq_false (Nat.not_lt.2 c13)
       by_cases c14 : 1 ≤ (l1.length : Int)
       ·rw [if_pos c14] at H
        have c14b0 := eq_true c14
        have c14b1 : decide (1 ≤ (l1.length : Int)) = true := decide_eq_true c14
        clear c14
        by_cases c15 : ((strOfNums (l0.take ((ji8) : Int).toNat)) ++ (strOfNums y124)).size + (strOfNums (l1.drop 1)).size ≤ 9223372036854775807
        ·rw [if_pos c15] at H
         have c15b0 := eq_true c15
         have c15b1 : decide (((strOfNums (l0.take ((ji8) : Int).toNat)) ++ (strOfNums y124)).size + (strOfNums (l1.drop 1)).size ≤ 9223372036854775807) = true := decide_eq_true c15
         try have c15b2 : (9223372036854775807 < ((strOfNums (l0.take ((ji8) : Int).toNat)) ++ (strOfNums y124)).size + (strOfNums (l1.drop 1)).size) = False := eq_false (Nat.not_lt.2 c15)
         try (have c15b2z := c15b2; simp only [ByteArray.size_append, ByteArray.size_extract] at c15b2z; try simp only [Nat.sub_zero] at c15b2z)
         obtain rfl := Option.some.inj H
         go_enter Try.func109, Try.ntmps109
         try go_wp2
         have n0_ := Aside0.mk (below_drew1 HB.out)
         clear HB
         have HB := n0_
         clear n0_
         obtain ⟨i017, hi017, _, hsz17, _⟩ := info_parts info5
         obtain ⟨hcut17, hA17, hC17⟩ := print_take_of (P := Try.prog) (Value.int .u8) 0 43 5 .i64 Try.underlying43 hi017 hsz17 A0 c0 l0 (ji8) (of_decide_eq_true (by first | (with_reducible assumption) | assumption)) (of_decide_eq_true (by first | (with_reducible assumption) | assumption)) HC0.out
         have HR121 := Aside0.mk (Kd.C_of_reads (h1 := fun _ => rfl) (hA17 _ (Kd.reads_of_C HR0.out)))
         have HC121 := Aside0.mk hC17
         clear hA17 hC17 hi017 hsz17
         have p122 : 0 ≤ ((ji8) : Int) := of_decide_eq_true (by first | (with_reducible assumption) | assumption)
         have q122 : (ji8) < (l0.length : Int) := of_decide_eq_true (by first | (with_reducible assumption) | assumption)
         obtain ⟨ad122, e122, hx122_0⟩ := Kd.at_int HR0.out (ji8) p122 q122
         have hw122_0 := hx122_0
         cases e122
         replace hx122_0 := (HB.out.cell (World.block_lt_of_cell? w _ hx122_0)).trans hx122_0
         replace p122 := eq_true p122
         replace q122 := eq_true q122
         have p123 : 0 ≤ (0 : Int) := (by omega)
         have q123 : 0 < (l1.length : Int) := of_decide_eq_true (by first | (with_reducible assumption) | assumption)
         obtain ⟨ad123, e123, hx123_0⟩ := Kd.at_int HR1.out 0 p123 q123
         have hw123_0 := hx123_0
         (try rw [show ((0 : Int)).toNat = 0 from rfl] at hw123_0)
         (try rw [show 0 * 1 = 0 from rfl] at hw123_0)
         (try rw [Addr.add_zero'] at hw123_0)
         cases e123
         have qi123 : (0 < l1.length) = True := eq_true (by omega)
         (try rw [show ((0 : Int)).toNat = 0 from rfl] at hx123_0)
         (try rw [Addr.add_zero'] at hx123_0)
         replace hx123_0 := (HB.out.cell (World.block_lt_of_cell? w _ hx123_0)).trans hx123_0
         replace p123 := eq_true p123
         replace q123 := eq_true q123
         obtain ⟨i018, hi018, _, hsz18, _⟩ := info_parts info5
         obtain ⟨A18, hcut18, hA18, hC18⟩ := print_drop_of (P := Try.prog) (Value.int .u8) 0 43 5 .i64 Try.underlying43 hi018 hsz18 (some ad123) c1 l1 1 (by omega) (of_decide_eq_true (by first | (with_reducible assumption) | assumption)) HC1.out
         have HR127 := Aside0.mk (Kd.C_of_reads (h1 := fun _ => rfl) (hA18 _ (Kd.reads_of_C HR1.out)))
         have HC127 := Aside0.mk hC18
         clear hA18 hC18 hi018 hsz18
         have hcv19 := Kd.C_string (P := Try.prog) (A := _) (c := c0) Try.underlying43 Try.underlying5 Try.underlying9 (Kd.C_below HR121.out HB.out)
         have c15t : (9223372036854775807 < (strOfNums (List.take ji8.toNat l0)).size + (strOfNums y124).size + (strOfNums l1.tail).size) = False := (by have t_ := c15; simp only [ByteArray.size_append] at t_; rw [List.drop_one] at t_; exact eq_false (by omega))
         refine start_ (n := 22) (S := fun w' => w'.cell? (ad122.add ((ji8)).toNat) = some (.int .u8 (rd l0 (ji8))) ∧ w'.cell? ad123 = some (.int .u8 (rd l1 0)) ∧ (convert 43 9 (.slice (some ad122) ji8.toNat c0)).run Try.prog w' = .ok (.string (strOfNums (l0.take ji8.toNat))) w' ∧ (convert 43 9 (.slice A18 (l1.length - 1) (c1 - 1))).run Try.prog w' = .ok (.string (strOfNums (l1.drop 1))) w') (ds := []) #[false, false, false, false, false, false, false, false, false, false, false, false, false, false, false, false, false, false, false, false, false, false] (by kernel_rfl) rfl rfl ⟨((HB.out.cell (World.block_lt_of_cell? w _ hw122_0)).trans hw122_0), ((HB.out.cell (World.block_lt_of_cell? w _ hw123_0)).trans hw123_0), (by have e_ : (l0.take ji8.toNat).length = ji8.toNat := (by rw [List.length_take]; have := of_decide_eq_true c10b1; omega); have t_ := Kd.C_string (P := Try.prog) (c := c0) Try.underlying43 Try.underlying5 Try.underlying9 (Kd.C_below HR121.out HB.out); rw [e_] at t_; exact t_), (by have e_ : (l1.drop 1).length = l1.length - 1 := List.length_drop; have t_ := Kd.C_string (P := Try.prog) (c := c1 - 1) Try.underlying43 Try.underlying5 Try.underlying9 (Kd.C_below HR127.out HB.out); (try rw [show ((1 : Int)).toNat = 1 from rfl] at t_); rw [e_] at t_; exact t_)⟩ (fun hHeld => ?_); refine with_tabW spec_l7Join.tab4 spec_l7Join.bits4 (fun HT_ HW_ => ?_)
         generalize w.drew = w16 at HB HR121 HR127 hx122_0 hx123_0 hHeld ⊢
         refine pure_ (i := 0) (N := some 18) (v := ?_) (a' := ?_) #[true, false, false, false, false, false, false, false, false, false, false, false, false, false, false, false, false, false, false, false, false, false] rfl rfl (any_of HT_.out (by kernel_rfl)) (fun _ _ _ h => h) (Or.inl ⟨by rfl, ?_⟩) ?_ ?_
         rotate_left
         ·intro w'
          go_simp
          with_reducible rfl
         rotate_left
         ·simp only [Act.put, List.setIfInBounds_toArray, List.set_cons_zero, List.set_cons_succ, i64_w, i32_w]
          rfl
         refine pure_ (i := 1) (N := some 19) (v := ?_) (a' := ?_) #[true, true, false, false, false, false, false, false, false, false, false, false, false, false, false, false, false, false, false, false, false, false] rfl rfl (any_of HT_.out (by kernel_rfl)) (fun _ _ _ h => h) (Or.inl ⟨by rfl, ?_⟩) ?_ ?_
         rotate_left
         ·intro w'
          go_simp
          with_reducible rfl
         rotate_left
         ·simp only [Act.put, List.setIfInBounds_toArray, List.set_cons_zero, List.set_cons_succ, i64_w, i32_w]
          rfl
         refine pure_ (i := 2) (N := some 20) (v := ?_) (a' := ?_) #[true, true, true, false, false, false, false, false, false, false, false, false, false, false, false, false, false, false, false, false, false, false] rfl rfl (any_of HT_.out (by kernel_rfl)) (fun _ _ _ h => h) (Or.inl ⟨by rfl, ?_⟩) ?_ ?_
         rotate_left
         ·intro w'
          go_simp
          with_reducible rfl
         rotate_left
         ·simp only [Act.put, List.setIfInBounds_toArray, List.set_cons_zero, List.set_cons_succ, i64_w, i32_w]
          rfl
         refine pure_ (i := 3) (N := some 21) (v := ?_) (a' := ?_) #[true, true, true, true, false, false, false, false, false, false, false, false, false, false, false, false, false, false, false, false, false, false] rfl rfl (any_of HT_.out (by kernel_rfl)) (fun _ _ _ h => h) (Or.inl ⟨by rfl, ?_⟩) ?_ ?_
         rotate_left
         ·intro w'
          go_simp
          with_reducible rfl
         rotate_left
         ·simp only [Act.put, List.setIfInBounds_toArray, List.set_cons_zero, List.set_cons_succ, i64_w, i32_w]
          rfl
         refine take_ (i := 4) (N := some 22) (v := ?_) (a' := ?_) #[true, true, true, true, true, false, false, false, false, false, false, false, false, false, false, false, false, false, false, false, false, false] rfl rfl (take_ofW HT_.out HW_.out (by kernel_rfl)) (fun _ _ _ h => h) (Or.inl ⟨by rfl, ?_⟩) hHeld ?_ ?_
         rotate_left
         ·rintro w' ⟨s0, s1, s2, s3⟩
          go_simp
          with_reducible rfl
         rotate_left
         ·simp only [Act.put, List.setIfInBounds_toArray, List.set_cons_zero, List.set_cons_succ, i64_w, i32_w]
          rfl
         refine pure_ (i := 5) (N := some 23) (v := ?_) (a' := ?_) #[true, true, true, true, true, true, false, false, false, false, false, false, false, false, false, false, false, false, false, false, false, false] rfl rfl (any_of HT_.out (by kernel_rfl)) (fun _ _ _ h => h) (Or.inl ⟨by rfl, ?_⟩) ?_ ?_
         rotate_left
         ·intro w'
          go_simp
          with_reducible rfl
         rotate_left
         ·simp only [Act.put, List.setIfInBounds_toArray, List.set_cons_zero, List.set_cons_succ, i64_w, i32_w]
          rfl
         refine pure_ (i := 6) (N := some 24) (v := ?_) (a' := ?_) #[true, true, true, true, true, true, true, false, false, false, false, false, false, false, false, false, false, false, false, false, false, false] rfl rfl (any_of HT_.out (by kernel_rfl)) (fun _ _ _ h => h) (Or.inl ⟨by rfl, ?_⟩) ?_ ?_
         rotate_left
         ·intro w'
          go_simp
          with_reducible rfl
         rotate_left
         ·simp only [Act.put, List.setIfInBounds_toArray, List.set_cons_zero, List.set_cons_succ, i64_w, i32_w]
          rfl
         refine pure_ (i := 7) (N := some 25) (v := ?_) (a' := ?_) #[true, true, true, true, true, true, true, true, false, false, false, false, false, false, false, false, false, false, false, false, false, false] rfl rfl (any_of HT_.out (by kernel_rfl)) (fun _ _ _ h => h) (Or.inl ⟨by rfl, ?_⟩) ?_ ?_
         rotate_left
         ·intro w'
          go_simp
          with_reducible rfl
         rotate_left
         ·simp only [Act.put, List.setIfInBounds_toArray, List.set_cons_zero, List.set_cons_succ, i64_w, i32_w]
          rfl
         refine pure_ (i := 8) (N := some 26) (v := ?_) (a' := ?_) #[true, true, true, true, true, true, true, true, true, false, false, false, false, false, false, false, false, false, false, false, false, false] rfl rfl (any_of HT_.out (by kernel_rfl)) (fun _ _ _ h => h) (Or.inl ⟨by rfl, ?_⟩) ?_ ?_
         rotate_left
         ·intro w'
          go_simp
          with_reducible rfl
         rotate_left
         ·simp only [Act.put, List.setIfInBounds_toArray, List.set_cons_zero, List.set_cons_succ, i64_w, i32_w]
          rfl
         refine pure_ (i := 10) (N := some 28) (v := ?_) (a' := ?_) #[true, true, true, true, true, true, true, true, true, false, true, false, false, false, false, false, false, false, false, false, false, false] rfl rfl (any_of HT_.out (by kernel_rfl)) (fun _ _ _ h => h) (Or.inl ⟨by rfl, ?_⟩) ?_ ?_
         rotate_left
         ·intro w'
          go_simp
          with_reducible rfl
         rotate_left
         ·simp only [Act.put, List.setIfInBounds_toArray, List.set_cons_zero, List.set_cons_succ, i64_w, i32_w]
          rfl
         refine pure_ (i := 11) (N := some 29) (v := ?_) (a' := ?_) #[true, true, true, true, true, true, true, true, true, false, true, true, false, false, false, false, false, false, false, false, false, false] rfl rfl (any_of HT_.out (by kernel_rfl)) (fun _ _ _ h => h) (Or.inl ⟨by rfl, ?_⟩) ?_ ?_
         rotate_left
         ·intro w'
          go_simp
          with_reducible rfl
         rotate_left
         ·simp only [Act.put, List.setIfInBounds_toArray, List.set_cons_zero, List.set_cons_succ, i64_w, i32_w]
          rfl
         refine pure_ (i := 17) (N := some 35) (v := ?_) (a' := ?_) #[true, true, true, true, true, true, true, true, true, false, true, true, false, false, false, false, false, true, false, false, false, false] rfl rfl (any_of HT_.out (by kernel_rfl)) (fun _ _ _ h => h) (Or.inl ⟨by rfl, ?_⟩) ?_ ?_
         rotate_left
         ·intro w'
          go_simp
          with_reducible rfl
         rotate_left
         ·simp only [Act.put, List.setIfInBounds_toArray, List.set_cons_zero, List.set_cons_succ, i64_w, i32_w]
          rfl
         refine pure_ (i := 18) (N := some 36) (v := ?_) (a' := ?_) #[true, true, true, true, true, true, true, true, true, false, true, true, false, false, false, false, false, true, true, false, false, false] rfl rfl (any_of HT_.out (by kernel_rfl)) (fun _ _ _ h => h) (Or.inl ⟨by rfl, ?_⟩) ?_ ?_
         rotate_left
         ·intro w'
          go_simp
          with_reducible rfl
         rotate_left
         ·simp only [Act.put, List.setIfInBounds_toArray, List.set_cons_zero, List.set_cons_succ, i64_w, i32_w]
          rfl
         refine take_ (i := 19) (N := some 37) (v := ?_) (a' := ?_) #[true, true, true, true, true, true, true, true, true, false, true, true, false, false, false, false, false, true, true, true, false, false] rfl rfl (take_ofW HT_.out HW_.out (by kernel_rfl)) (fun _ _ _ h => h) (Or.inl ⟨by rfl, ?_⟩) hHeld ?_ ?_
         rotate_left
         ·rintro w' ⟨s0, s1, s2, s3⟩
          go_simp
          with_reducible rfl
         rotate_left
         ·simp only [Act.put, List.setIfInBounds_toArray, List.set_cons_zero, List.set_cons_succ, i64_w, i32_w]
          rfl
         refine take_ (i := 9) (N := some 27) (v := ?_) (a' := ?_) #[true, true, true, true, true, true, true, true, true, true, true, true, false, false, false, false, false, true, true, true, false, false] rfl rfl (take_ofW HT_.out HW_.out (by kernel_rfl)) (fun _ _ _ h => h) (Or.inl ⟨by rfl, ?_⟩) hHeld ?_ ?_
         rotate_left
         ·rintro w' ⟨s0, s1, s2, s3⟩
          go_simp
          with_reducible rfl
         rotate_left
         ·simp only [Act.put, List.setIfInBounds_toArray, List.set_cons_zero, List.set_cons_succ, i64_w, i32_w]
          rfl
         refine take_ (i := 12) (N := some 30) (v := ?_) (a' := ?_) #[true, true, true, true, true, true, true, true, true, true, true, true, true, false, false, false, false, true, true, true, false, false] rfl rfl (take_ofW HT_.out HW_.out (by kernel_rfl)) (fun _ _ _ h => h) (Or.inl ⟨by rfl, ?_⟩) hHeld ?_ ?_
         rotate_left
         ·rintro w' ⟨s0, s1, s2, s3⟩
          go_simp
          with_reducible rfl
         rotate_left
         ·simp only [Act.put, List.setIfInBounds_toArray, List.set_cons_zero, List.set_cons_succ, i64_w, i32_w]
          rfl
         refine pure_ (i := 13) (N := some 31) (v := ?_) (a' := ?_) #[true, true, true, true, true, true, true, true, true, true, true, true, true, true, false, false, false, true, true, true, false, false] rfl rfl (any_of HT_.out (by kernel_rfl)) (fun _ _ _ h => h) (Or.inl ⟨by rfl, ?_⟩) ?_ ?_
         rotate_left
         ·intro w'
          go_simp
          with_reducible rfl
         rotate_left
         ·simp only [Act.put, List.setIfInBounds_toArray, List.set_cons_zero, List.set_cons_succ, i64_w, i32_w]
          rfl
         refine one_ (i := 14) (N := some 32) #[true, true, true, true, true, true, true, true, true, true, true, true, true, true, true, false, false, true, true, true, false, false] rfl rfl (one_of HT_.out (by kernel_rfl)) (by decide) (fun K hK => ?_)
         refine Kd.R_lit_step (Kd.int .u8) _ 5 ?hg (N := 32) ?hd (xs := ([Go.bits .or .u8 (rd l0 (ji8)) (rd l1 0)] : List Int)) (inner := [.int .u8 (Go.bits .or .u8 (rd l0 (ji8)) (rd l1 0))]) (ok := fun _ => True) (okp := fun _ => True) ?hr ?hp (fun _ hk => hk) trivial (Below.refl _ _) (Nat.le_refl _) (by simp) ?_; (case hd => rfl); (case hg => rfl); (case hr => first | (go_simp; done) | (go_simp; rfl)); (case hp => exact (Reps.one (show Kd.M (Kd.int .u8) _ _ _ (Go.bits .or .u8 (rd l0 (ji8)) (rd l1 0)) [.int .u8 (Go.bits .or .u8 (rd l0 (ji8)) (rd l1 0))] from rfl) (Reps.none _ _)))
         intro v125 w20 ho21 hb hg_ hnew_
         clear hg_ hnew_
         (first | rw [← Ny124.out] at ho21 | (simp only [Int.reduceToNat] at ho21; rw [← Ny124.out] at ho21))
         have n0_ := Aside0.mk (Kd.R_lower ho21 (below_size (by repeat (first | (with_reducible first | exact HB.out | apply below_alloc | apply pw_below_drewN | apply below_drew1) | exact HB.out))))
         have n1_ := Aside0.mk (below_step (by repeat (first | (with_reducible first | exact HB.out | apply below_alloc | apply pw_below_drewN | apply below_drew1) | exact HB.out)) hb)
         clear HB
         have HO126 := n0_
         have HB := n1_
         clear n0_ n1_
         clear hb ho21
         have hcv23 := Kd.C_string (P := Try.prog) (A := _) (c := (c1 - 1)) Try.underlying43 Try.underlying5 Try.underlying9 (Kd.C_below HR127.out HB.out)
         refine hK.out _ _ ⟨((HB.out.cell (World.block_lt_of_cell? w _ hw122_0)).trans hw122_0), ((HB.out.cell (World.block_lt_of_cell? w _ hw123_0)).trans hw123_0), (by have e_ : (l0.take ji8.toNat).length = ji8.toNat := (by rw [List.length_take]; have := of_decide_eq_true c10b1; omega); have t_ := Kd.C_string (P := Try.prog) (c := c0) Try.underlying43 Try.underlying5 Try.underlying9 (Kd.C_below HR121.out HB.out); rw [e_] at t_; exact t_), (by have e_ : (l1.drop 1).length = l1.length - 1 := List.length_drop; have t_ := Kd.C_string (P := Try.prog) (c := c1 - 1) Try.underlying43 Try.underlying5 Try.underlying9 (Kd.C_below HR127.out HB.out); (try rw [show ((1 : Int)).toNat = 1 from rfl] at t_); rw [e_] at t_; exact t_)⟩ (fun hHeld => ?_)
         clear hK K
         refine norm_ (a' := ?_) ?_ ?_
         rotate_left
         ·show Act.put _ (some 32) _ = _
          simp only [Act.put, List.setIfInBounds_toArray, List.set_cons_zero, List.set_cons_succ, i64_w, i32_w]
          rfl
         refine one_ (i := 15) (N := some 33) #[true, true, true, true, true, true, true, true, true, true, true, true, true, true, true, true, false, true, true, true, false, false] rfl rfl (one_of HT_.out (by kernel_rfl)) (by decide) (fun K hK => ?_)
         have hcv22 := own_string (P := Try.prog) Try.underlying43 Try.underlying5 Try.underlying9 (Kd.own_of_R HO126.out)
         refine value_ (w1 := ?_) (v := ?_) (by rfl) rfl ?_ ?_
         rotate_left 2
         ·go_simp
          constructor
          ·rfl
          ·rfl
         clear hcv22
         refine hK.out _ _ ⟨((HB.out.cell (World.block_lt_of_cell? w _ hw122_0)).trans hw122_0), ((HB.out.cell (World.block_lt_of_cell? w _ hw123_0)).trans hw123_0), (by have e_ : (l0.take ji8.toNat).length = ji8.toNat := (by rw [List.length_take]; have := of_decide_eq_true c10b1; omega); have t_ := Kd.C_string (P := Try.prog) (c := c0) Try.underlying43 Try.underlying5 Try.underlying9 (Kd.C_below HR121.out HB.out); rw [e_] at t_; exact t_), (by have e_ : (l1.drop 1).length = l1.length - 1 := List.length_drop; have t_ := Kd.C_string (P := Try.prog) (c := c1 - 1) Try.underlying43 Try.underlying5 Try.underlying9 (Kd.C_below HR127.out HB.out); (try rw [show ((1 : Int)).toNat = 1 from rfl] at t_); rw [e_] at t_; exact t_)⟩ (fun hHeld => ?_)
         clear hK K
         refine norm_ (a' := ?_) ?_ ?_
         rotate_left
         ·show Act.put _ (some 33) _ = _
          simp only [Act.put, List.setIfInBounds_toArray, List.set_cons_zero, List.set_cons_succ, i64_w, i32_w]
          rfl
         refine pure_ (i := 16) (N := some 34) (v := ?_) (a' := ?_) #[true, true, true, true, true, true, true, true, true, true, true, true, true, true, true, true, true, true, true, true, false, false] rfl rfl (any_of HT_.out (by kernel_rfl)) (fun _ _ _ h => h) (Or.inl ⟨by rfl, ?_⟩) ?_ ?_
         rotate_left
         ·intro w'
          go_simp
          with_reducible rfl
         rotate_left
         ·simp only [Act.put, List.setIfInBounds_toArray, List.set_cons_zero, List.set_cons_succ, i64_w, i32_w]
          rfl
         refine pure_ (i := 20) (N := some 38) (v := ?_) (a' := ?_) #[true, true, true, true, true, true, true, true, true, true, true, true, true, true, true, true, true, true, true, true, true, false] rfl rfl (any_of HT_.out (by kernel_rfl)) (fun _ _ _ h => h) (Or.inl ⟨by rfl, ?_⟩) ?_ ?_
         rotate_left
         ·intro w'
          go_simp
          with_reducible rfl
         rotate_left
         ·simp only [Act.put, List.setIfInBounds_toArray, List.set_cons_zero, List.set_cons_succ, i64_w, i32_w]
          rfl
         refine pure_ (i := 21) (N := some 6) (v := ?_) (a' := ?_) #[true, true, true, true, true, true, true, true, true, true, true, true, true, true, true, true, true, true, true, true, true, true] rfl rfl (any_of HT_.out (by kernel_rfl)) (fun _ _ _ h => h) (Or.inl ⟨by rfl, ?_⟩) ?_ ?_
         rotate_left
         ·intro w'
          go_simp
          with_reducible rfl
         rotate_left
         ·simp only [Act.put, List.setIfInBounds_toArray, List.set_cons_zero, List.set_cons_succ, i64_w, i32_w]
          rfl
         refine done_ (done_of HT_.out (by kernel_rfl)) ?_
         try go_wp2
         go_ret
         exact ⟨by first | rfl | (simp [errW_none, errW_some] <;> rfl) | (simp only [← hji8]; first | rfl | (simp [errW_none, errW_some] <;> rfl)) | (simp [*, errW_none, errW_some] <;> rfl), by repeat (first | (with_reducible first | exact HB.out | apply below_alloc | apply pw_below_drewN | apply below_drew1) | exact HB.out)⟩
        ·rw [if_neg c15] at H
         exact absurd H (by simp)
       ·rw [if_neg c14] at H
        exact absurd H (by simp)
      ·rw [if_neg c13] at H
       exact absurd H (by simp)
     ·rw [if_neg c12] at H
      exact absurd H (by simp)
    ·rw [if_neg c11] at H
     exact absurd H (by simp)
   ·rw [if_neg c10] at H
    exact absurd H (by simp)
  ·rw [if_neg c9] at H
   exact absurd H (by simp)

/-! ### spec_l7Passes: function 72 -/
def spec_l7Passes.l0 : Nat → ByteArray → List Int → List Int → List Int → List Int → Int → Bool → List Int → Int → Int → Option (ByteArray)
 | 0, _, _, _, _, _, _, _, _, _, _ => none
 | k + 1, x1, x7, x8, x9, x10, x11, x12, x29, x30, x31 => if x31 < x30 then (if 0 ≤ x31 then (if x31 < (x29.length : Int) then (if (Int.tmod (rd x29 x31) 2) = 1 then ((spec_l7Half.f k (strOfNums x7) (x1.size : Int) (rd x29 x31)).bind fun t142 => ((spec_l3With.f k x9 x10 t142).bind fun t143 => (if t143.size ≤ 9223372036854775807 then ((some (bytesOf t143 : List Int)).bind fun y144 => (if 0 ≤ x11 then (if x11 ≤ (y144.length : Int) then ((spec_l3Xor.f k x8 (y144.take (x11 : Int).toNat)).bind fun t151 => (if x12 = true then (if 0 < (t151.length : Int) then (spec_l7Passes.l0 k x1 x7 (t151.set (0 : Int).toNat (Go.bits .and .u8 (rd t151 0) 15)) x9 x10 x11 x12 x29 x30 (wrap64 (x31 + 1))) else (none)) else (spec_l7Passes.l0 k x1 x7 t151 x9 x10 x11 x12 x29 x30 (wrap64 (x31 + 1))))) else (none)) else (none))) else (none)))) else ((spec_l7Half.f k (strOfNums x8) (x1.size : Int) (rd x29 x31)).bind fun t156 => ((spec_l3With.f k x9 x10 t156).bind fun t157 => (if t157.size ≤ 9223372036854775807 then ((some (bytesOf t157 : List Int)).bind fun y158 => (if 0 ≤ x11 then (if x11 ≤ (y158.length : Int) then ((spec_l3Xor.f k x7 (y158.take (x11 : Int).toNat)).bind fun t165 => (if x12 = true then (if 0 ≤ (wrap64 (x11 - 1)) then (if (wrap64 (x11 - 1)) < (t165.length : Int) then (spec_l7Passes.l0 k x1 (t165.set ((wrap64 (x11 - 1)) : Int).toNat (Go.bits .and .u8 (rd t165 (wrap64 (x11 - 1))) 240)) x8 x9 x10 x11 x12 x29 x30 (wrap64 (x31 + 1))) else (none)) else (none)) else (spec_l7Passes.l0 k x1 t165 x8 x9 x10 x11 x12 x29 x30 (wrap64 (x31 + 1))))) else (none)) else (none))) else (none))))) else (none)) else (none)) else ((spec_l7Join.f x7 x8 (x1.size : Int)).bind fun t140 => (some t140))
def spec_l7Passes.f (k : Nat) (a0 : ByteArray) (a1 : ByteArray) (l2 : List Int) : Option (ByteArray) := (spec_l7Cut.f a1).bind fun bt128 => ((spec_l3Keys.f k a0).bind fun t134 => ((spec_l3Table.f k).bind fun t137 => (spec_l7Passes.l0 k a1 bt128.1 bt128.2 t134 t137 (bt128.1.length : Int) (((a1.size : Int) % 2) == 1) l2 (l2.length : Int) 0)))
set_option maxHeartbeats 8000000 in
set_option maxRecDepth 100000 in
theorem spec_l7Passes.calls_true (k : Nat) (a0 : ByteArray) (a1 : ByteArray) (A2 : Option Addr) (c2 : Nat) (l2 : List Int) (r : ByteArray) (w : World) (hr2 : Kd.C (Kd.int .i64) w A2 l2.length l2) (hc2 : l2.length ≤ c2) (h : spec_l7Passes.f k a0 a1 l2 = some r) (ho_ : (((a1.size : Int) % 2) == 1) = true) :
  Calls Try.prog 72 #[.string a0, .string a1, .slice A2 l2.length c2] w fun e w' => e = .returned (.string r) ∧ Below w.heap.size w w' := by
 have HR2 := Aside0.mk hr2
 have HC2 := Aside0.mk hc2
 clear hr2 hc2
 have HB := Aside0.mk (Below.refl w.heap.size w)
 have H : ((spec_l7Cut.f a1).bind fun bt128 => ((spec_l3Keys.f k a0).bind fun t134 => ((spec_l3Table.f k).bind fun t137 => (spec_l7Passes.l0 k a1 bt128.1 bt128.2 t134 t137 (bt128.1.length : Int) (((a1.size : Int) % 2) == 1) l2 (l2.length : Int) 0)))) = some r := h
 clear h
 replace H := Option.bind_eq_some_iff.mp H
 obtain ⟨⟨t128, t129⟩, A40, H⟩ := H
 replace H : ((spec_l3Keys.f k a0).bind fun t134 => ((spec_l3Table.f k).bind fun t137 => (spec_l7Passes.l0 k a1 t128 t129 t134 t137 (t128.length : Int) (((a1.size : Int) % 2) == 1) l2 (l2.length : Int) 0))) = some r := H
 have A4 := Aside0.mk A40
 clear A40
 replace H := Option.bind_eq_some_iff.mp H
 obtain ⟨t134, A50, H⟩ := H
 replace H : ((spec_l3Table.f k).bind fun t137 => (spec_l7Passes.l0 k a1 t128 t129 t134 t137 (t128.length : Int) (((a1.size : Int) % 2) == 1) l2 (l2.length : Int) 0)) = some r := H
 have A5 := Aside0.mk A50
 clear A50
 replace H := Option.bind_eq_some_iff.mp H
 obtain ⟨t137, A60, H⟩ := H
 replace H : (spec_l7Passes.l0 k a1 t128 t129 t134 t137 (t128.length : Int) (((a1.size : Int) % 2) == 1) l2 (l2.length : Int) 0) = some r := H
 have A6 := Aside0.mk A60
 clear A60
 have H' := Aside0.mk H
 clear H
 go_enter Try.func72, Try.ntmps72
 go_wp2_with (first | ((with_reducible refine gate_callee (f := 107) rfl ?_); refine goesL_ (some 17) rfl rfl Try.func107 (by kernel_rfl) rfl #[.string a1] rfl (by (try simp only [List.map_toArray, List.map_cons, List.map_nil]); first | done | rfl | (simp only [List.length_drop, List.length_take]; rfl)) ?_; (with_reducible refine (spec_l7Cut.calls a1 t128 t129 _ A4.out).mono ?_); rintro e w7 ⟨v130, v132, rfl, ho0, ho1, hb⟩; refine ⟨_, rfl, ?_⟩; have n0_ := Aside0.mk (Kd.R_lower ho0 (below_size (by repeat (first | (with_reducible first | exact HB.out | apply below_alloc | apply pw_below_drewN | apply below_drew1) | exact HB.out)))); have n1_ := Aside0.mk (Kd.R_lower ho1 (below_size (by repeat (first | (with_reducible first | exact HB.out | apply below_alloc | apply pw_below_drewN | apply below_drew1) | exact HB.out)))); have n2_ := Aside0.mk (below_step (by repeat (first | (with_reducible first | exact HB.out | apply below_alloc | apply pw_below_drewN | apply below_drew1) | exact HB.out)) hb); clear HB; have HO131 := n0_; have HO133 := n1_; have HB := n2_; clear n0_ n1_ n2_; (try clear hb); (try clear hb2); (try clear hk); (try clear hi); (try clear ho0); (try clear ho1)) | ((with_reducible refine gate_callee (f := 52) rfl ?_); refine goesL_ (some 21) rfl rfl Try.func52 (by kernel_rfl) rfl #[.string a0] rfl (by (try simp only [List.map_toArray, List.map_cons, List.map_nil]); first | done | rfl | (simp only [List.length_drop, List.length_take]; rfl)) ?_; (with_reducible refine (spec_l3Keys.calls k a0 t134 _ A5.out).mono ?_); rintro e w8 ⟨v135, rfl, ho0, hb⟩; refine ⟨_, rfl, ?_⟩; have n0_ := Aside0.mk (Kd.R_elder' (by (with_reducible repeat (first | apply Kd.R_alloc | apply Kd.R_drewN | apply Kd.R_drew)); exact HO131.out) (Kd.R_base ho0) hb); have n1_ := Aside0.mk (Kd.R_elder' (by (with_reducible repeat (first | apply Kd.R_alloc | apply Kd.R_drewN | apply Kd.R_drew)); exact HO133.out) (Kd.R_base ho0) hb); have n2_ := Aside0.mk (Kd.R_lower (Kd.R_new' (Kd.R_new' ho0 (Kd.R_lt (by (with_reducible repeat (first | apply Kd.R_alloc | apply Kd.R_drewN | apply Kd.R_drew)); exact HO131.out))) (Kd.R_lt (by (with_reducible repeat (first | apply Kd.R_alloc | apply Kd.R_drewN | apply Kd.R_drew)); exact HO133.out))) (below_size (by repeat (first | (with_reducible first | exact HB.out | apply below_alloc | apply pw_below_drewN | apply below_drew1) | exact HB.out)))); have n3_ := Aside0.mk (below_step (by repeat (first | (with_reducible first | exact HB.out | apply below_alloc | apply pw_below_drewN | apply below_drew1) | exact HB.out)) hb); clear HO131; clear HO133; clear HB; have HO131 := n0_; have HO133 := n1_; have HO136 := n2_; have HB := n3_; clear n0_ n1_ n2_ n3_; (try clear hb); (try clear hb2); (try clear hk); (try clear hi); (try clear ho0)) | ((with_reducible refine gate_callee (f := 94) rfl ?_); refine goesL_ (some 22) rfl rfl Try.func94 (by kernel_rfl) rfl #[] rfl (by (try simp only [List.map_toArray, List.map_cons, List.map_nil]); first | done | rfl | (simp only [List.length_drop, List.length_take]; rfl)) ?_; (with_reducible refine (spec_l3Table.calls k  t137 _ A6.out).mono ?_); rintro e w9 ⟨v138, rfl, ho0, hb⟩; refine ⟨_, rfl, ?_⟩; have n0_ := Aside0.mk (Kd.R_elder' (by (with_reducible repeat (first | apply Kd.R_alloc | apply Kd.R_drewN | apply Kd.R_drew)); exact HO131.out) (Kd.R_base ho0) hb); have n1_ := Aside0.mk (Kd.R_elder' (by (with_reducible repeat (first | apply Kd.R_alloc | apply Kd.R_drewN | apply Kd.R_drew)); exact HO133.out) (Kd.R_base ho0) hb); have n2_ := Aside0.mk (Kd.R_elder' (by (with_reducible repeat (first | apply Kd.R_alloc | apply Kd.R_drewN | apply Kd.R_drew)); exact HO136.out) (Kd.R_base ho0) hb); have n3_ := Aside0.mk (Kd.R_lower (Kd.R_new' (Kd.R_new' (Kd.R_new' ho0 (Kd.R_lt (by (with_reducible repeat (first | apply Kd.R_alloc | apply Kd.R_drewN | apply Kd.R_drew)); exact HO131.out))) (Kd.R_lt (by (with_reducible repeat (first | apply Kd.R_alloc | apply Kd.R_drewN | apply Kd.R_drew)); exact HO133.out))) (Kd.R_lt (by (with_reducible repeat (first | apply Kd.R_alloc | apply Kd.R_drewN | apply Kd.R_drew)); exact HO136.out))) (below_size (by repeat (first | (with_reducible first | exact HB.out | apply below_alloc | apply pw_below_drewN | apply below_drew1) | exact HB.out)))); have n4_ := Aside0.mk (below_step (by repeat (first | (with_reducible first | exact HB.out | apply below_alloc | apply pw_below_drewN | apply below_drew1) | exact HB.out)) hb); clear HO131; clear HO133; clear HO136; clear HB; have HO131 := n0_; have HO133 := n1_; have HO136 := n2_; have HO139 := n3_; have HB := n4_; clear n0_ n1_ n2_ n3_ n4_; (try clear hb); (try clear hb2); (try clear hk); (try clear hi); (try clear ho0); obtain ⟨Ao10, co10, eo10⟩ := Kd.R_slice HO131.out; subst eo10))
 go_loopg [7, 8, 31] k (fun kq v7 v8 v31 w' => ∃ (x7_1 : List Int) (x8_1 : List Int) (x9_1 : List Int) (x10_1 : List Int) (x31_1 : Int), v31 = .int .i64 x31_1 ∧ Aside0 (spec_l7Passes.l0 kq a1 x7_1 x8_1 x9_1 x10_1 (t128.length : Int) (((a1.size : Int) % 2) == 1) l2 (l2.length : Int) x31_1 = some r) ∧ Aside0 (kq ≤ k) ∧ Aside0 (Kd.R (Kd.int .u8) 5 w' w.heap.size (fun k_ => some k_ ≠ (v8 : Value).ownBlock ∧ some k_ ≠ (v135 : Value).ownBlock ∧ some k_ ≠ (v138 : Value).ownBlock) v7 x7_1) ∧ Aside0 (Kd.R (Kd.int .u8) 5 w' w.heap.size (fun k_ => some k_ ≠ (v7 : Value).ownBlock ∧ some k_ ≠ (v135 : Value).ownBlock ∧ some k_ ≠ (v138 : Value).ownBlock) v8 x8_1) ∧ Aside0 (Kd.R (Kd.int .u8) 5 w' w.heap.size (fun k_ => some k_ ≠ (v7 : Value).ownBlock ∧ some k_ ≠ (v8 : Value).ownBlock ∧ some k_ ≠ (v138 : Value).ownBlock) v135 x9_1) ∧ Aside0 (Kd.R (Kd.int .u8) 5 w' w.heap.size (fun k_ => some k_ ≠ (v7 : Value).ownBlock ∧ some k_ ≠ (v8 : Value).ownBlock ∧ some k_ ≠ (v135 : Value).ownBlock) v138 x10_1) ∧ Aside0 (Below w.heap.size w w'))
 case atStart => exact ⟨(t128), (t129), (t134), (t137), (0), (by first | rfl | (simp; done) | (simp [*]; done)), H', ⟨Nat.le_refl _⟩, ⟨by (with_reducible repeat (first | apply Kd.R_alloc | apply Kd.R_drewN | apply Kd.R_drew)); exact Kd.R_mono HO131.out (fun _ hk => ⟨hk.1.1, ⟨hk.1.2, hk.2⟩⟩)⟩, ⟨by (with_reducible repeat (first | apply Kd.R_alloc | apply Kd.R_drewN | apply Kd.R_drew)); exact Kd.R_mono HO133.out (fun _ hk => ⟨hk.1.1, ⟨hk.1.2, hk.2⟩⟩)⟩, ⟨by (with_reducible repeat (first | apply Kd.R_alloc | apply Kd.R_drewN | apply Kd.R_drew)); exact Kd.R_mono HO136.out (fun _ hk => ⟨hk.1.1.2, ⟨hk.1.2, hk.2⟩⟩)⟩, ⟨by (with_reducible repeat (first | apply Kd.R_alloc | apply Kd.R_drewN | apply Kd.R_drew)); exact Kd.R_mono HO139.out (fun _ hk => ⟨hk.1.1.2, ⟨hk.1.2, hk.2⟩⟩)⟩, ⟨by repeat (first | (with_reducible first | exact HB.out | apply below_alloc | apply pw_below_drewN | apply below_drew1) | exact HB.out)⟩⟩
 case round =>
  clear H'
  try clear c1
  try clear c2
  try clear p2
  try clear c5
  try clear c7
  try clear c9
  try clear c10
  obtain ⟨x7_1, x8_1, x9_1, x10_1, x31_1, rfl, HA, HK1, HO_7, HO_8, HO_9, HO_10, HB⟩ := hrel
  cases gk with
  | zero => exact absurd HA.out (by simp [spec_l7Passes.l0])
  | succ k1 =>
   have H := HA.out
   clear HA
   simp only [spec_l7Passes.l0] at H
   by_cases c11 : x31_1 < (l2.length : Int)
   ·rw [if_pos c11] at H
    have c11b0 : decide (x31_1 < (l2.length : Int)) = true := decide_eq_true c11
    clear c11
    by_cases c12 : 0 ≤ x31_1
    ·rw [if_pos c12] at H
     have c12b0 : decide (0 ≤ x31_1) = true := decide_eq_true c12
     clear c12
     by_cases c13 : x31_1 < (l2.length : Int)
     ·rw [if_pos c13] at H
      have c13b0 : decide (x31_1 < (l2.length : Int)) = true := decide_eq_true c13
      clear c13
      by_cases c14 : (Int.tmod (rd l2 x31_1) 2) = 1
      ·rw [if_pos c14] at H
       have c14b0 : ((Int.tmod (rd l2 x31_1) 2) == 1) = true := beq_iff_eq.mpr c14
       have c14b1 : ((Int.tmod (rd l2 x31_1) 2) != 1) = false := bne_eq_false_iff_eq.mpr c14
       clear c14
       replace H := Option.bind_eq_some_iff.mp H
       obtain ⟨t142, A150, H⟩ := H
       replace H : ((spec_l3With.f k1 x9_1 x10_1 t142).bind fun t143 => (if t143.size ≤ 9223372036854775807 then ((some (bytesOf t143 : List Int)).bind fun y144 => (if 0 ≤ (t128.length : Int) then (if (t128.length : Int) ≤ (y144.length : Int) then ((spec_l3Xor.f k1 x8_1 (y144.take ((t128.length : Int) : Int).toNat)).bind fun t151 => (if (((a1.size : Int) % 2) == 1) = true then (if 0 < (t151.length : Int) then (spec_l7Passes.l0 k1 a1 x7_1 (t151.set (0 : Int).toNat (Go.bits .and .u8 (rd t151 0) 15)) x9_1 x10_1 (t128.length : Int) (((a1.size : Int) % 2) == 1) l2 (l2.length : Int) (wrap64 (x31_1 + 1))) else (none)) else (spec_l7Passes.l0 k1 a1 x7_1 t151 x9_1 x10_1 (t128.length : Int) (((a1.size : Int) % 2) == 1) l2 (l2.length : Int) (wrap64 (x31_1 + 1))))) else (none)) else (none))) else (none))) = some r := H
       have A15 := Aside0.mk A150
       clear A150
       replace H := Option.bind_eq_some_iff.mp H
       obtain ⟨t143, A160, H⟩ := H
       replace H : (if t143.size ≤ 9223372036854775807 then ((some (bytesOf t143 : List Int)).bind fun y144 => (if 0 ≤ (t128.length : Int) then (if (t128.length : Int) ≤ (y144.length : Int) then ((spec_l3Xor.f k1 x8_1 (y144.take ((t128.length : Int) : Int).toNat)).bind fun t151 => (if (((a1.size : Int) % 2) == 1) = true then (if 0 < (t151.length : Int) then (spec_l7Passes.l0 k1 a1 x7_1 (t151.set (0 : Int).toNat (Go.bits .and .u8 (rd t151 0) 15)) x9_1 x10_1 (t128.length : Int) (((a1.size : Int) % 2) == 1) l2 (l2.length : Int) (wrap64 (x31_1 + 1))) else (none)) else (spec_l7Passes.l0 k1 a1 x7_1 t151 x9_1 x10_1 (t128.length : Int) (((a1.size : Int) % 2) == 1) l2 (l2.length : Int) (wrap64 (x31_1 + 1))))) else (none)) else (none))) else (none)) = some r := H
       have A16 := Aside0.mk A160
       clear A160
       by_cases c17 : t143.size ≤ 9223372036854775807
       ·rw [if_pos c17] at H
        have c17b0 := eq_true c17
        have c17b1 : decide (t143.size ≤ 9223372036854775807) = true := decide_eq_true c17
        try have c17b2 : (9223372036854775807 < t143.size) = False := eq_false (Nat.not_lt.2 c17)
        clear c17
        obtain ⟨y144, hy144⟩ : ∃ y_ : List Int, y_ = (bytesOf t143) := ⟨_, rfl⟩
        replace H : (if 0 ≤ (t128.length : Int) then (if (t128.length : Int) ≤ (y144.length : Int) then ((spec_l3Xor.f k1 x8_1 (y144.take ((t128.length : Int) : Int).toNat)).bind fun t151 => (if (((a1.size : Int) % 2) == 1) = true then (if 0 < (t151.length : Int) then (spec_l7Passes.l0 k1 a1 x7_1 (t151.set (0 : Int).toNat (Go.bits .and .u8 (rd t151 0) 15)) x9_1 x10_1 (t128.length : Int) (((a1.size : Int) % 2) == 1) l2 (l2.length : Int) (wrap64 (x31_1 + 1))) else (none)) else (spec_l7Passes.l0 k1 a1 x7_1 t151 x9_1 x10_1 (t128.length : Int) (((a1.size : Int) % 2) == 1) l2 (l2.length : Int) (wrap64 (x31_1 + 1))))) else (none)) else (none)) = some r := by first | (rw [hy144]; with_reducible exact H) | (have H2_ := (Option.bind_some _ _).symm.trans H; rw [hy144]; with_reducible exact H2_) | (have H2_ := (Option.bind_some _ _).symm.trans H; with_reducible exact H2_) | with_reducible exact H | (rw [hy144]; exact H) | exact H
        have Ny144 := Aside0.mk hy144
        clear hy144
        by_cases c18 : 0 ≤ (t128.length : Int)
        ·rw [if_pos c18] at H
         have c18b0 := eq_true c18
         have c18b1 : decide (0 ≤ (t128.length : Int)) = true := decide_eq_true c18
         clear c18
         by_cases c19 : (t128.length : Int) ≤ (y144.length : Int)
         ·rw [if_pos c19] at H
          have c19b0 := eq_true c19
          have c19b1 : decide ((t128.length : Int) ≤ (y144.length : Int)) = true := decide_eq_true c19
          clear c19
          obtain ⟨y147, hy147⟩ : ∃ y_ : List Int, y_ = (y144.take ((t128.length : Int) : Int).toNat) := ⟨_, rfl⟩
          replace H : ((spec_l3Xor.f k1 x8_1 y147).bind fun t151 => (if (((a1.size : Int) % 2) == 1) = true then (if 0 < (t151.length : Int) then (spec_l7Passes.l0 k1 a1 x7_1 (t151.set (0 : Int).toNat (Go.bits .and .u8 (rd t151 0) 15)) x9_1 x10_1 (t128.length : Int) (((a1.size : Int) % 2) == 1) l2 (l2.length : Int) (wrap64 (x31_1 + 1))) else (none)) else (spec_l7Passes.l0 k1 a1 x7_1 t151 x9_1 x10_1 (t128.length : Int) (((a1.size : Int) % 2) == 1) l2 (l2.length : Int) (wrap64 (x31_1 + 1))))) = some r := by first | (rw [hy147]; with_reducible exact H) | (have H2_ := (Option.bind_some _ _).symm.trans H; rw [hy147]; with_reducible exact H2_) | (have H2_ := (Option.bind_some _ _).symm.trans H; with_reducible exact H2_) | with_reducible exact H | (rw [hy147]; exact H) | exact H
          have Ny147 := Aside0.mk hy147
          clear hy147
          replace H := Option.bind_eq_some_iff.mp H
          obtain ⟨t151, A200, H⟩ := H
          replace H : (if (((a1.size : Int) % 2) == 1) = true then (if 0 < (t151.length : Int) then (spec_l7Passes.l0 k1 a1 x7_1 (t151.set (0 : Int).toNat (Go.bits .and .u8 (rd t151 0) 15)) x9_1 x10_1 (t128.length : Int) (((a1.size : Int) % 2) == 1) l2 (l2.length : Int) (wrap64 (x31_1 + 1))) else (none)) else (spec_l7Passes.l0 k1 a1 x7_1 t151 x9_1 x10_1 (t128.length : Int) (((a1.size : Int) % 2) == 1) l2 (l2.length : Int) (wrap64 (x31_1 + 1)))) = some r := H
          have A20 := Aside0.mk A200
          clear A200
          by_cases c21 : (((a1.size : Int) % 2) == 1) = true
          ·rw [if_pos c21] at H
           have c21b0 : (((a1.size : Int) % 2) == 1) = true := c21
           (try (have c21b1 : decide (((a1.size : Int) % 2) = 1) = true := by simpa using c21))
           (try (have c21b2 : (((a1.size : Int) % 2) == 1) = true := by simpa using c21))
           clear c21
           by_cases c22 : 0 < (t151.length : Int)
           ·rw [if_pos c22] at H
            have c22b0 : decide (0 < (t151.length : Int)) = true := decide_eq_true c22
            have c22b1 : decide (0 < t151.length) = true := decide_eq_true (by omega)
            clear c22
            obtain ⟨y155, hy155⟩ : ∃ y_ : List Int, y_ = (t151.set (0 : Int).toNat (Go.bits .and .u8 (rd t151 0) 15)) := ⟨_, rfl⟩
            replace H : (spec_l7Passes.l0 k1 a1 x7_1 y155 x9_1 x10_1 (t128.length : Int) (((a1.size : Int) % 2) == 1) l2 (l2.length : Int) (wrap64 (x31_1 + 1))) = some r := by first | (rw [hy155]; with_reducible exact H) | (have H2_ := (Option.bind_some _ _).symm.trans H; rw [hy155]; with_reducible exact H2_) | (have H2_ := (Option.bind_some _ _).symm.trans H; with_reducible exact H2_) | with_reducible exact H | (rw [hy155]; exact H) | exact H
            have Ny155 := Aside0.mk hy155
            clear hy155
            have H' := Aside0.mk H
            clear H
            have p141 : 0 ≤ (x31_1 : Int) := of_decide_eq_true (by first | (with_reducible assumption) | assumption)
            have q141 : x31_1 < (l2.length : Int) := of_decide_eq_true (by first | (with_reducible assumption) | assumption)
            obtain ⟨ad141, e141, hx141_0⟩ := Kd.at_int HR2.out x31_1 p141 q141
            cases e141
            replace hx141_0 := (HB.out.cell (World.block_lt_of_cell? w _ hx141_0)).trans hx141_0
            replace p141 := eq_true p141
            replace q141 := eq_true q141
            have hcv24 := own_string (P := Try.prog) Try.underlying43 Try.underlying5 Try.underlying9 (Kd.own_of_R HO_7.out)
            go_wp2_with (first | ((with_reducible refine gate_callee (f := 108) rfl ?_); refine goesL_ (some 46) rfl rfl Try.func108 (by kernel_rfl) rfl #[.string (strOfNums x7_1), .int .i64 (a1.size : Int), .int .i64 (rd l2 x31_1)] rfl (by (try simp only [List.map_toArray, List.map_cons, List.map_nil]); first | done | rfl | (simp only [List.length_drop, List.length_take]; rfl)) ?_; (with_reducible refine (spec_l7Half.calls k1 (strOfNums x7_1) (a1.size : Int) (rd l2 x31_1) t142 _ A15.out).mono ?_); rintro e w25 ⟨rfl, hb⟩; refine ⟨_, rfl, ?_⟩; have n0_ := Aside0.mk (Kd.R_below (by (with_reducible repeat (first | apply Kd.R_alloc | apply Kd.R_drewN | apply Kd.R_drew)); exact HO_7.out) hb); have n1_ := Aside0.mk (Kd.R_below (by (with_reducible repeat (first | apply Kd.R_alloc | apply Kd.R_drewN | apply Kd.R_drew)); exact HO_8.out) hb); have n2_ := Aside0.mk (Kd.R_below (by (with_reducible repeat (first | apply Kd.R_alloc | apply Kd.R_drewN | apply Kd.R_drew)); exact HO_9.out) hb); have n3_ := Aside0.mk (Kd.R_below (by (with_reducible repeat (first | apply Kd.R_alloc | apply Kd.R_drewN | apply Kd.R_drew)); exact HO_10.out) hb); have n4_ := Aside0.mk (below_step (by repeat (first | (with_reducible first | exact HB.out | apply below_alloc | apply pw_below_drewN | apply below_drew1) | exact HB.out)) hb); clear HO_7; clear HO_8; clear HO_9; clear HO_10; clear HB; have HO_7 := n0_; have HO_8 := n1_; have HO_9 := n2_; have HO_10 := n3_; have HB := n4_; clear n0_ n1_ n2_ n3_ n4_; (try clear hb); (try clear hb2); (try clear hk); (try clear hi); obtain ⟨Ao26, co26, eo26⟩ := Kd.R_slice HO_9.out; subst eo26; obtain ⟨Ao27, co27, eo27⟩ := Kd.R_slice HO_10.out; subst eo27) | ((with_reducible refine gate_callee (f := 93) rfl ?_); refine goesL_ (some 47) rfl rfl Try.func93 (by kernel_rfl) rfl #[.slice Ao26 x9_1.length co26, .slice Ao27 x10_1.length co27, .string t142] rfl (by (try simp only [List.map_toArray, List.map_cons, List.map_nil]); first | done | rfl | (simp only [List.length_drop, List.length_take]; rfl)) ?_; (with_reducible refine (spec_l3With.calls k1 _ _ x9_1 _ _ x10_1 t142 t143 _ ?side1 ?side2 ?side3 ?side4 A16.out).mono ?_); (case side1 => repeat (first | exact (Kd.R_reads' HO_9.out).2.2 | (with_reducible refine Kd.C_alloc ?_ _) | (with_reducible refine Kd.C_drewN ?_ _) | (with_reducible refine Kd.C_drew ?_))); (case side2 => exact (Kd.R_reads' HO_9.out).2.1); (case side3 => repeat (first | exact (Kd.R_reads' HO_10.out).2.2 | (with_reducible refine Kd.C_alloc ?_ _) | (with_reducible refine Kd.C_drewN ?_ _) | (with_reducible refine Kd.C_drew ?_))); (case side4 => exact (Kd.R_reads' HO_10.out).2.1); rintro e w28 ⟨rfl, hb⟩; refine ⟨_, rfl, ?_⟩; have n0_ := Aside0.mk (Kd.R_below (by (with_reducible repeat (first | apply Kd.R_alloc | apply Kd.R_drewN | apply Kd.R_drew)); exact HO_7.out) hb); have n1_ := Aside0.mk (Kd.R_below (by (with_reducible repeat (first | apply Kd.R_alloc | apply Kd.R_drewN | apply Kd.R_drew)); exact HO_8.out) hb); have n2_ := Aside0.mk (Kd.R_below (by (with_reducible repeat (first | apply Kd.R_alloc | apply Kd.R_drewN | apply Kd.R_drew)); exact HO_9.out) hb); have n3_ := Aside0.mk (Kd.R_below (by (with_reducible repeat (first | apply Kd.R_alloc | apply Kd.R_drewN | apply Kd.R_drew)); exact HO_10.out) hb); have n4_ := Aside0.mk (below_step (by repeat (first | (with_reducible first | exact HB.out | apply below_alloc | apply pw_below_drewN | apply below_drew1) | exact HB.out)) hb); clear HO_7; clear HO_8; clear HO_9; clear HO_10; clear HB; have HO_7 := n0_; have HO_8 := n1_; have HO_9 := n2_; have HO_10 := n3_; have HB := n4_; clear n0_ n1_ n2_ n3_ n4_; (try clear hb); (try clear hb2); (try clear hk); (try clear hi)) | ((with_reducible refine gate_dst (N := 48) rfl ?_); refine Kd.R_bytes _ 5 rfl (N := 48) rfl 9 43 _ rfl t143 rfl Try.underlying9 Try.underlying43 Try.underlying5 (ok := fun _ => True) trivial (of_decide_eq_true (by first | (with_reducible assumption) | assumption)) (Below.refl _ _) (Nat.le_refl _) ?_; intro v145 w29 ho30 hb hg_ hnew_; clear hg_ hnew_; (first | rw [← Ny144.out] at ho30 | (simp only [Int.reduceToNat] at ho30; rw [← Ny144.out] at ho30)); have n0_ := Aside0.mk (Kd.R_elder' (by (with_reducible repeat (first | apply Kd.R_alloc | apply Kd.R_drewN | apply Kd.R_drew)); exact HO_7.out) (Kd.R_base ho30) hb); have n1_ := Aside0.mk (Kd.R_elder' (by (with_reducible repeat (first | apply Kd.R_alloc | apply Kd.R_drewN | apply Kd.R_drew)); exact HO_8.out) (Kd.R_base ho30) hb); have n2_ := Aside0.mk (Kd.R_elder' (by (with_reducible repeat (first | apply Kd.R_alloc | apply Kd.R_drewN | apply Kd.R_drew)); exact HO_9.out) (Kd.R_base ho30) hb); have n3_ := Aside0.mk (Kd.R_elder' (by (with_reducible repeat (first | apply Kd.R_alloc | apply Kd.R_drewN | apply Kd.R_drew)); exact HO_10.out) (Kd.R_base ho30) hb); have n4_ := Aside0.mk (Kd.R_lower (Kd.R_new' (Kd.R_new' (Kd.R_new' (Kd.R_new' ho30 (Kd.R_lt (by (with_reducible repeat (first | apply Kd.R_alloc | apply Kd.R_drewN | apply Kd.R_drew)); exact HO_7.out))) (Kd.R_lt (by (with_reducible repeat (first | apply Kd.R_alloc | apply Kd.R_drewN | apply Kd.R_drew)); exact HO_8.out))) (Kd.R_lt (by (with_reducible repeat (first | apply Kd.R_alloc | apply Kd.R_drewN | apply Kd.R_drew)); exact HO_9.out))) (Kd.R_lt (by (with_reducible repeat (first | apply Kd.R_alloc | apply Kd.R_drewN | apply Kd.R_drew)); exact HO_10.out))) (below_size (by repeat (first | (with_reducible first | exact HB.out | apply below_alloc | apply pw_below_drewN | apply below_drew1) | exact HB.out)))); have n5_ := Aside0.mk (below_step (by repeat (first | (with_reducible first | exact HB.out | apply below_alloc | apply pw_below_drewN | apply below_drew1) | exact HB.out)) hb); clear HO_7; clear HO_8; clear HO_9; clear HO_10; clear HB; have HO_7 := n0_; have HO_8 := n1_; have HO_9 := n2_; have HO_10 := n3_; have HO146 := n4_; have HB := n5_; clear n0_ n1_ n2_ n3_ n4_ n5_; clear hb ho30; obtain ⟨Ao32, co32, eo32⟩ := Kd.R_slice HO146.out; subst eo32; have q31 : ((t128.length : Int) : Int) ≤ ((y144.length : Int) : Int) := of_decide_eq_true (by first | (with_reducible assumption) | assumption); obtain ⟨i031, hi031, _, hsz31, _⟩ := info_parts info5; have hroom31 : y144.length ≤ co32 := (Kd.R_reads' HO146.out).2.1; have hC31 : Kd.C (Kd.int .u8) _ Ao32 y144.length y144 := (Kd.R_reads' HO146.out).2.2; have hcut31 := cut_to (P := Try.prog) 43 5 .i64 Try.underlying43 hi031 Ao32 y144.length co32 (t128.length : Int) (of_decide_eq_true (by first | (with_reducible assumption) | assumption)) q31 hroom31; have hr31 := Kd.C_take (m := ((t128.length : Int) : Int).toNat) hC31 (by omega); have hy31 : y147.length = ((t128.length : Int) : Int).toNat := (by rw [Ny147.out, List.length_take]; omega); rw [← Ny147.out] at hr31; rw [← hy31] at hcut31; have HR150 := Aside0.mk hr31; have HC150 := Aside0.mk (show y147.length ≤ co32 from by omega); clear hr31 hC31 hroom31 hi031 hsz31; have KY31 := Aside0.mk hy31; clear hy31; have KL31 := Aside0.mk (show ((t128.length : Int) : Int).toNat ≤ y144.length from by omega); replace q31 := eq_true q31; obtain ⟨Ao33, co33, eo33⟩ := Kd.R_slice HO_8.out; subst eo33) | ((with_reducible refine gate_callee (f := 89) rfl ?_); refine goesL_ (some 51) rfl rfl Try.func89 (by kernel_rfl) rfl #[.slice Ao33 x8_1.length co33, .slice Ao32 y147.length co32] rfl (by (try simp only [List.map_toArray, List.map_cons, List.map_nil]); first | done | rfl | (simp only [List.length_drop, List.length_take]; rfl)) ?_; (with_reducible refine (spec_l3Xor.calls k1 _ _ x8_1 _ _ y147 t151 _ ?side1 ?side2 ?side3 ?side4 A20.out).mono ?_); (case side1 => repeat (first | exact (Kd.R_reads' HO_8.out).2.2 | (with_reducible refine Kd.C_alloc ?_ _) | (with_reducible refine Kd.C_drewN ?_ _) | (with_reducible refine Kd.C_drew ?_))); (case side2 => exact (Kd.R_reads' HO_8.out).2.1); (case side3 => repeat (first | exact (by repeat (first | (with_reducible exact HR150.out) | (with_reducible refine Kd.C_alloc ?_ _) | (with_reducible refine Kd.C_drewN ?_ _) | (with_reducible refine Kd.C_drew ?_) | exact HR150.out)) | (with_reducible refine Kd.C_alloc ?_ _) | (with_reducible refine Kd.C_drewN ?_ _) | (with_reducible refine Kd.C_drew ?_))); (case side4 => exact HC150.out); rintro e w34 ⟨v152, rfl, ho0, hb⟩; refine ⟨_, rfl, ?_⟩; have n0_ := Aside0.mk (Kd.R_elder' (by (with_reducible repeat (first | apply Kd.R_alloc | apply Kd.R_drewN | apply Kd.R_drew)); exact HO_7.out) (Kd.R_base ho0) hb); have n1_ := Aside0.mk (Kd.R_elder' (by (with_reducible repeat (first | apply Kd.R_alloc | apply Kd.R_drewN | apply Kd.R_drew)); exact HO_8.out) (Kd.R_base ho0) hb); have n2_ := Aside0.mk (Kd.R_elder' (by (with_reducible repeat (first | apply Kd.R_alloc | apply Kd.R_drewN | apply Kd.R_drew)); exact HO_9.out) (Kd.R_base ho0) hb); have n3_ := Aside0.mk (Kd.R_elder' (by (with_reducible repeat (first | apply Kd.R_alloc | apply Kd.R_drewN | apply Kd.R_drew)); exact HO_10.out) (Kd.R_base ho0) hb); have n4_ := Aside0.mk (Kd.R_elder' (by (with_reducible repeat (first | apply Kd.R_alloc | apply Kd.R_drewN | apply Kd.R_drew)); exact HO146.out) (Kd.R_base ho0) hb); have n5_ := Aside0.mk (Kd.R_lower (Kd.R_new' (Kd.R_new' (Kd.R_new' (Kd.R_new' (Kd.R_new' ho0 (Kd.R_lt (by (with_reducible repeat (first | apply Kd.R_alloc | apply Kd.R_drewN | apply Kd.R_drew)); exact HO_7.out))) (Kd.R_lt (by (with_reducible repeat (first | apply Kd.R_alloc | apply Kd.R_drewN | apply Kd.R_drew)); exact HO_8.out))) (Kd.R_lt (by (with_reducible repeat (first | apply Kd.R_alloc | apply Kd.R_drewN | apply Kd.R_drew)); exact HO_9.out))) (Kd.R_lt (by (with_reducible repeat (first | apply Kd.R_alloc | apply Kd.R_drewN | apply Kd.R_drew)); exact HO_10.out))) (Kd.R_lt (by (with_reducible repeat (first | apply Kd.R_alloc | apply Kd.R_drewN | apply Kd.R_drew)); exact HO146.out))) (below_size (by repeat (first | (with_reducible first | exact HB.out | apply below_alloc | apply pw_below_drewN | apply below_drew1) | exact HB.out)))); have n6_ := Aside0.mk (Kd.C_below (by repeat (first | (with_reducible exact HR150.out) | (with_reducible refine Kd.C_alloc ?_ _) | (with_reducible refine Kd.C_drewN ?_ _) | (with_reducible refine Kd.C_drew ?_) | exact HR150.out)) hb); have n7_ := Aside0.mk (below_step (by repeat (first | (with_reducible first | exact HB.out | apply below_alloc | apply pw_below_drewN | apply below_drew1) | exact HB.out)) hb); clear HO_7; clear HO_8; clear HO_9; clear HO_10; clear HO146; clear HR150; clear HB; have HO_7 := n0_; have HO_8 := n1_; have HO_9 := n2_; have HO_10 := n3_; have HO146 := n4_; have HO153 := n5_; have HR150 := n6_; have HB := n7_; clear n0_ n1_ n2_ n3_ n4_ n5_ n6_ n7_; (try clear hb); (try clear hb2); (try clear hk); (try clear hi); (try clear ho0); obtain ⟨Ao35, co35, eo35⟩ := Kd.R_slice HO153.out; subst eo35; have p154 : 0 ≤ (0 : Int) := (by omega); have q154 : 0 < (t151.length : Int) := of_decide_eq_true (by first | (with_reducible assumption) | assumption); obtain ⟨ad154, e154, hx154_0⟩ := Kd.at_int (Kd.R_reads' HO153.out).2.2 0 p154 q154; cases e154; have qi154 : (0 < t151.length) = True := eq_true (by omega); (try rw [show ((0 : Int)).toNat = 0 from rfl] at hx154_0); (try rw [Addr.add_zero'] at hx154_0); replace p154 := eq_true p154; replace q154 := eq_true q154; have p23 : 0 ≤ (0 : Int) := (by omega); have q23 : (0 : Int) < ((t151.length : Int) : Int) := of_decide_eq_true (by first | (with_reducible assumption) | assumption); have qi23 : (0 < t151.length) = True := eq_true (by omega); obtain ⟨go23, co23, eo23, gb23, gl23, cl23, HG23⟩ := Kd.R_form HO153.out (by omega); (first | cases eo23 | (injection eo23 with ea_ en_ ec_; (first | subst ea_ | (injection ea_ with ea_; subst ea_)); subst ec_; clear en_)); have GB23 := Aside0.mk gb23; have GG23 := Aside0.mk HG23; clear gb23 gl23 HG23; (first | simp only [add_plain] at hx154_0 | skip); obtain ⟨hx23_0, hf23_0⟩ := Kd.R_celln 0 HO153.out (0 : Int) p23 q23; (try rw [show ((0 : Int)).toNat = 0 from rfl] at hx23_0); (try simp only [Nat.reduceMul, Nat.zero_mul, Nat.zero_add, Nat.reduceAdd] at hx23_0); (try rw [show ((0 : Int)).toNat = 0 from rfl] at hf23_0); (try simp only [Nat.reduceMul, Nat.zero_mul, Nat.zero_add, Nat.reduceAdd] at hf23_0); replace p23 := eq_true p23; replace q23 := eq_true q23; have n_ := Aside0.mk (Kd.R_mono (ok' := (fun k_ => some k_ ≠ (u7 : Value).ownBlock ∧ some k_ ≠ (.slice Ao33 x8_1.length co33 : Value).ownBlock ∧ some k_ ≠ (.slice Ao26 x9_1.length co26 : Value).ownBlock ∧ some k_ ≠ (.slice Ao27 x10_1.length co27 : Value).ownBlock ∧ some k_ ≠ (.slice Ao32 y144.length co32 : Value).ownBlock)) HO153.out (fun k_ hk => ⟨hk.1.1.1.1.2, ⟨hk.1.1.1.2, ⟨hk.1.1.2, ⟨hk.1.2, hk.2⟩⟩⟩⟩)); clear HO153; have HO153 := n_; clear n_; obtain ⟨hy36_, hz36_⟩ := Kd.R_celln 0 HO153.out (0 : Int) (by omega) (of_decide_eq_true (by first | (with_reducible assumption) | assumption)); (try simp only [Int.reduceToNat, Int.toNat_zero, Int.toNat_ofNat, Nat.reduceMul, Nat.zero_mul, Nat.zero_add] at hy36_ hz36_); (try rw [show ((0 : Int)).toNat = 0 from rfl] at hy36_); (try rw [show ((0 : Int)).toNat = 0 from rfl] at hz36_); have HP36 := Kd.R_putg HO153.out (0 : Int) (Go.bits .and .u8 (rd t151 0) 15)) | ((with_reducible refine gate_store (t := 5) (p := 57) rfl ?_); refine store_event (t := 5) (p := 57) (v := ?vo_w37) (w1 := (w34.setCell ⟨go23, (0 : Int).toNat, none⟩ (.int .u8 (Go.bits .and .u8 (rd t151 0) 15)))) ?hg ?ho ?hn ?hr ?_; (case ho => rfl); (case hg => rfl); (case hn => rfl); (case hr => first | (go_simp; done) | (go_simp; rfl)); intro w37 hw; have hg : w34.grownBy w37 (some go23) := (by rw [hw]; exact HP36.2); have hp_ : Kd.R (Kd.int .u8) 5 w37 w.heap.size (fun k_ => some k_ ≠ (u7 : Value).ownBlock ∧ some k_ ≠ (.slice Ao33 x8_1.length co33 : Value).ownBlock ∧ some k_ ≠ (.slice Ao26 x9_1.length co26 : Value).ownBlock ∧ some k_ ≠ (.slice Ao27 x10_1.length co27 : Value).ownBlock ∧ some k_ ≠ (.slice Ao32 y144.length co32 : Value).ownBlock) (.slice (some ⟨go23, 0, none⟩) t151.length co35) y155 := (by rw [hw, Ny155.out]; exact HP36.1); clear HP36; have n0_ := Aside0.mk (Kd.R_after (v := (.slice (some ⟨go23, 0, none⟩) t151.length co35)) (v1 := (.slice (some ⟨go23, 0, none⟩) t151.length co35)) (ok := (fun k_ => some k_ ≠ (.slice Ao33 x8_1.length co33 : Value).ownBlock ∧ some k_ ≠ (.slice Ao26 x9_1.length co26 : Value).ownBlock ∧ some k_ ≠ (.slice Ao27 x10_1.length co27 : Value).ownBlock ∧ some k_ ≠ (.slice Ao32 y144.length co32 : Value).ownBlock)) (by (with_reducible repeat (first | apply Kd.R_alloc | apply Kd.R_drewN | apply Kd.R_drew)); exact Kd.R_mono HO_7.out (fun _ hk => ⟨⟨hk.1.1.1, ⟨hk.1.1.2.1, ⟨hk.1.1.2.2, hk.1.2⟩⟩⟩, hk.2⟩)) hg (.inl rfl)); have n1_ := Aside0.mk (Kd.R_after (v := (.slice (some ⟨go23, 0, none⟩) t151.length co35)) (v1 := (.slice (some ⟨go23, 0, none⟩) t151.length co35)) (ok := (fun k_ => some k_ ≠ (u7 : Value).ownBlock ∧ some k_ ≠ (.slice Ao26 x9_1.length co26 : Value).ownBlock ∧ some k_ ≠ (.slice Ao27 x10_1.length co27 : Value).ownBlock ∧ some k_ ≠ (.slice Ao32 y144.length co32 : Value).ownBlock)) (by (with_reducible repeat (first | apply Kd.R_alloc | apply Kd.R_drewN | apply Kd.R_drew)); exact Kd.R_mono HO_8.out (fun _ hk => ⟨⟨hk.1.1.1, ⟨hk.1.1.2.1, ⟨hk.1.1.2.2, hk.1.2⟩⟩⟩, hk.2⟩)) hg (.inl rfl)); have n2_ := Aside0.mk (Kd.R_after (v := (.slice (some ⟨go23, 0, none⟩) t151.length co35)) (v1 := (.slice (some ⟨go23, 0, none⟩) t151.length co35)) (ok := (fun k_ => some k_ ≠ (u7 : Value).ownBlock ∧ some k_ ≠ (.slice Ao33 x8_1.length co33 : Value).ownBlock ∧ some k_ ≠ (.slice Ao27 x10_1.length co27 : Value).ownBlock ∧ some k_ ≠ (.slice Ao32 y144.length co32 : Value).ownBlock)) (by (with_reducible repeat (first | apply Kd.R_alloc | apply Kd.R_drewN | apply Kd.R_drew)); exact Kd.R_mono HO_9.out (fun _ hk => ⟨⟨hk.1.1.1, ⟨hk.1.1.2.1, ⟨hk.1.1.2.2, hk.1.2⟩⟩⟩, hk.2⟩)) hg (.inl rfl)); have n3_ := Aside0.mk (Kd.R_after (v := (.slice (some ⟨go23, 0, none⟩) t151.length co35)) (v1 := (.slice (some ⟨go23, 0, none⟩) t151.length co35)) (ok := (fun k_ => some k_ ≠ (u7 : Value).ownBlock ∧ some k_ ≠ (.slice Ao33 x8_1.length co33 : Value).ownBlock ∧ some k_ ≠ (.slice Ao26 x9_1.length co26 : Value).ownBlock ∧ some k_ ≠ (.slice Ao32 y144.length co32 : Value).ownBlock)) (by (with_reducible repeat (first | apply Kd.R_alloc | apply Kd.R_drewN | apply Kd.R_drew)); exact Kd.R_mono HO_10.out (fun _ hk => ⟨⟨hk.1.1.1, ⟨hk.1.1.2.1, ⟨hk.1.1.2.2, hk.1.2⟩⟩⟩, hk.2⟩)) hg (.inl rfl)); have n4_ := Aside0.mk (Kd.R_after (v := (.slice (some ⟨go23, 0, none⟩) t151.length co35)) (v1 := (.slice (some ⟨go23, 0, none⟩) t151.length co35)) (ok := (fun k_ => some k_ ≠ (u7 : Value).ownBlock ∧ some k_ ≠ (.slice Ao33 x8_1.length co33 : Value).ownBlock ∧ some k_ ≠ (.slice Ao26 x9_1.length co26 : Value).ownBlock ∧ some k_ ≠ (.slice Ao27 x10_1.length co27 : Value).ownBlock)) (by (with_reducible repeat (first | apply Kd.R_alloc | apply Kd.R_drewN | apply Kd.R_drew)); exact Kd.R_mono HO146.out (fun _ hk => ⟨⟨hk.1.1.1.1.2, ⟨hk.1.1.1.2, ⟨hk.1.1.2, hk.1.2⟩⟩⟩, hk.2⟩)) hg (.inl rfl)); have n5_ := Aside0.mk (hp_); have n6_ := Aside0.mk ((by rw [hw]; exact below_set (HB.out) GB23.out : Below w.heap.size w w37)); have n7_ := Aside0.mk ((show Kd.C (Kd.int .u8) w37 Ao32 y147.length y147 from by rw [Ny147.out]; exact Kd.C_take (m := ((t128.length : Int) : Int).toNat) ((Kd.R_reads' (Kd.R_after (v := (.slice (some ⟨go23, 0, none⟩) t151.length co35)) (v1 := (.slice (some ⟨go23, 0, none⟩) t151.length co35)) (ok := (fun k_ => some k_ ≠ (u7 : Value).ownBlock ∧ some k_ ≠ (.slice Ao33 x8_1.length co33 : Value).ownBlock ∧ some k_ ≠ (.slice Ao26 x9_1.length co26 : Value).ownBlock ∧ some k_ ≠ (.slice Ao27 x10_1.length co27 : Value).ownBlock)) (by (with_reducible repeat (first | apply Kd.R_alloc | apply Kd.R_drewN | apply Kd.R_drew)); exact Kd.R_mono HO146.out (fun _ hk => ⟨⟨hk.1.1.1.1.2, ⟨hk.1.1.1.2, ⟨hk.1.1.2, hk.1.2⟩⟩⟩, hk.2⟩)) hg (.inl rfl))).2.2) KL31.out)); clear HO_7; clear HO_8; clear HO_9; clear HO_10; clear HO146; clear HO153; clear HB; clear HR150; have HO_7 := n0_; have HO_8 := n1_; have HO_9 := n2_; have HO_10 := n3_; have HO146 := n4_; have HO153 := n5_; have HB := n6_; have HR150 := n7_; clear n0_ n1_ n2_ n3_ n4_ n5_ n6_ n7_; clear hg hw hp_))
            go_roundg k1
            case measure => have := HK1.out; omega
            case rel => exact ⟨(x7_1), (y155), (x9_1), (x10_1), (wrap64 (x31_1 + 1)), (by first | rfl | (simp; done) | (simp [*]; done)), H', ⟨by have := HK1.out; omega⟩, ⟨by (with_reducible repeat (first | apply Kd.R_alloc | apply Kd.R_drewN | apply Kd.R_drew)); exact Kd.R_mono HO_7.out (fun _ hk => ⟨hk.2, ⟨hk.1.2.1, hk.1.2.2.1⟩⟩)⟩, ⟨by (with_reducible repeat (first | apply Kd.R_alloc | apply Kd.R_drewN | apply Kd.R_drew)); exact Kd.R_mono HO153.out (fun _ hk => ⟨hk.1, ⟨hk.2.2.1, hk.2.2.2.1⟩⟩)⟩, ⟨by (with_reducible repeat (first | apply Kd.R_alloc | apply Kd.R_drewN | apply Kd.R_drew)); exact Kd.R_mono HO_9.out (fun _ hk => ⟨hk.1.1, ⟨hk.2, hk.1.2.2.1⟩⟩)⟩, ⟨by (with_reducible repeat (first | apply Kd.R_alloc | apply Kd.R_drewN | apply Kd.R_drew)); exact Kd.R_mono HO_10.out (fun _ hk => ⟨hk.1.1, ⟨hk.2, hk.1.2.2.1⟩⟩)⟩, ⟨by repeat (first | (with_reducible first | exact HB.out | apply below_alloc | apply pw_below_drewN | apply below_drew1) | exact HB.out)⟩⟩
           ·rw [if_neg c22] at H
            exact absurd H (by simp)
          ·exact absurd ho_ c21
         ·rw [if_neg c19] at H
          exact absurd H (by simp)
        ·rw [if_neg c18] at H
         exact absurd H (by simp)
       ·rw [if_neg c17] at H
        exact absurd H (by simp)
      ·rw [if_neg c14] at H
       have c14b0 : ((Int.tmod (rd l2 x31_1) 2) == 1) = false := beq_eq_false_iff_ne.mpr c14
       have c14b1 : ((Int.tmod (rd l2 x31_1) 2) != 1) = true := bne_iff_ne.mpr c14
       replace H := Option.bind_eq_some_iff.mp H
       obtain ⟨t156, A490, H⟩ := H
       replace H : ((spec_l3With.f k1 x9_1 x10_1 t156).bind fun t157 => (if t157.size ≤ 9223372036854775807 then ((some (bytesOf t157 : List Int)).bind fun y158 => (if 0 ≤ (t128.length : Int) then (if (t128.length : Int) ≤ (y158.length : Int) then ((spec_l3Xor.f k1 x7_1 (y158.take ((t128.length : Int) : Int).toNat)).bind fun t165 => (if (((a1.size : Int) % 2) == 1) = true then (if 0 ≤ (wrap64 ((t128.length : Int) - 1)) then (if (wrap64 ((t128.length : Int) - 1)) < (t165.length : Int) then (spec_l7Passes.l0 k1 a1 (t165.set ((wrap64 ((t128.length : Int) - 1)) : Int).toNat (Go.bits .and .u8 (rd t165 (wrap64 ((t128.length : Int) - 1))) 240)) x8_1 x9_1 x10_1 (t128.length : Int) (((a1.size : Int) % 2) == 1) l2 (l2.length : Int) (wrap64 (x31_1 + 1))) else (none)) else (none)) else (spec_l7Passes.l0 k1 a1 t165 x8_1 x9_1 x10_1 (t128.length : Int) (((a1.size : Int) % 2) == 1) l2 (l2.length : Int) (wrap64 (x31_1 + 1))))) else (none)) else (none))) else (none))) = some r := H
       have A49 := Aside0.mk A490
       clear A490
       replace H := Option.bind_eq_some_iff.mp H
       obtain ⟨t157, A500, H⟩ := H
       replace H : (if t157.size ≤ 9223372036854775807 then ((some (bytesOf t157 : List Int)).bind fun y158 => (if 0 ≤ (t128.length : Int) then (if (t128.length : Int) ≤ (y158.length : Int) then ((spec_l3Xor.f k1 x7_1 (y158.take ((t128.length : Int) : Int).toNat)).bind fun t165 => (if (((a1.size : Int) % 2) == 1) = true then (if 0 ≤ (wrap64 ((t128.length : Int) - 1)) then (if (wrap64 ((t128.length : Int) - 1)) < (t165.length : Int) then (spec_l7Passes.l0 k1 a1 (t165.set ((wrap64 ((t128.length : Int) - 1)) : Int).toNat (Go.bits .and .u8 (rd t165 (wrap64 ((t128.length : Int) - 1))) 240)) x8_1 x9_1 x10_1 (t128.length : Int) (((a1.size : Int) % 2) == 1) l2 (l2.length : Int) (wrap64 (x31_1 + 1))) else (none)) else (none)) else (spec_l7Passes.l0 k1 a1 t165 x8_1 x9_1 x10_1 (t128.length : Int) (((a1.size : Int) % 2) == 1) l2 (l2.length : Int) (wrap64 (x31_1 + 1))))) else (none)) else (none))) else (none)) = some r := H
       have A50 := Aside0.mk A500
       clear A500
       by_cases c51 : t157.size ≤ 9223372036854775807
       ·rw [if_pos c51] at H
        have c51b0 := eq_true c51
        have c51b1 : decide (t157.size ≤ 9223372036854775807) = true := decide_eq_true c51
        try have c51b2 : (9223372036854775807 < t157.size) = False := eq_false (Nat.not_lt.2 c51)
        clear c51
        obtain ⟨y158, hy158⟩ : ∃ y_ : List Int, y_ = (bytesOf t157) := ⟨_, rfl⟩
        replace H : (if 0 ≤ (t128.length : Int) then (if (t128.length : Int) ≤ (y158.length : Int) then ((spec_l3Xor.f k1 x7_1 (y158.take ((t128.length : Int) : Int).toNat)).bind fun t165 => (if (((a1.size : Int) % 2) == 1) = true then (if 0 ≤ (wrap64 ((t128.length : Int) - 1)) then (if (wrap64 ((t128.length : Int) - 1)) < (t165.length : Int) then (spec_l7Passes.l0 k1 a1 (t165.set ((wrap64 ((t128.length : Int) - 1)) : Int).toNat (Go.bits .and .u8 (rd t165 (wrap64 ((t128.length : Int) - 1))) 240)) x8_1 x9_1 x10_1 (t128.length : Int) (((a1.size : Int) % 2) == 1) l2 (l2.length : Int) (wrap64 (x31_1 + 1))) else (none)) else (none)) else (spec_l7Passes.l0 k1 a1 t165 x8_1 x9_1 x10_1 (t128.length : Int) (((a1.size : Int) % 2) == 1) l2 (l2.length : Int) (wrap64 (x31_1 + 1))))) else (none)) else (none)) = some r := by first | (rw [hy158]; with_reducible exact H) | (have H2_ := (Option.bind_some _ _).symm.trans H; rw [hy158]; with_reducible exact H2_) | (have H2_ := (Option.bind_some _ _).symm.trans H; with_reducible exact H2_) | with_reducible exact H | (rw [hy158]; exact H) | exact H
        have Ny158 := Aside0.mk hy158
        clear hy158
        by_cases c52 : 0 ≤ (t128.length : Int)
        ·rw [if_pos c52] at H
         have c52b0 := eq_true c52
         have c52b1 : decide (0 ≤ (t128.length : Int)) = true := decide_eq_true c52
         clear c52
         by_cases c53 : (t128.length : Int) ≤ (y158.length : Int)
         ·rw [if_pos c53] at H
          have c53b0 := eq_true c53
          have c53b1 : decide ((t128.length : Int) ≤ (y158.length : Int)) = true := decide_eq_true c53
          clear c53
          obtain ⟨y161, hy161⟩ : ∃ y_ : List Int, y_ = (y158.take ((t128.length : Int) : Int).toNat) := ⟨_, rfl⟩
          replace H : ((spec_l3Xor.f k1 x7_1 y161).bind fun t165 => (if (((a1.size : Int) % 2) == 1) = true then (if 0 ≤ (wrap64 ((t128.length : Int) - 1)) then (if (wrap64 ((t128.length : Int) - 1)) < (t165.length : Int) then (spec_l7Passes.l0 k1 a1 (t165.set ((wrap64 ((t128.length : Int) - 1)) : Int).toNat (Go.bits .and .u8 (rd t165 (wrap64 ((t128.length : Int) - 1))) 240)) x8_1 x9_1 x10_1 (t128.length : Int) (((a1.size : Int) % 2) == 1) l2 (l2.length : Int) (wrap64 (x31_1 + 1))) else (none)) else (none)) else (spec_l7Passes.l0 k1 a1 t165 x8_1 x9_1 x10_1 (t128.length : Int) (((a1.size : Int) % 2) == 1) l2 (l2.length : Int) (wrap64 (x31_1 + 1))))) = some r := by first | (rw [hy161]; with_reducible exact H) | (have H2_ := (Option.bind_some _ _).symm.trans H; rw [hy161]; with_reducible exact H2_) | (have H2_ := (Option.bind_some _ _).symm.trans H; with_reducible exact H2_) | with_reducible exact H | (rw [hy161]; exact H) | exact H
          have Ny161 := Aside0.mk hy161
          clear hy161
          replace H := Option.bind_eq_some_iff.mp H
          obtain ⟨t165, A540, H⟩ := H
          replace H : (if (((a1.size : Int) % 2) == 1) = true then (if 0 ≤ (wrap64 ((t128.length : Int) - 1)) then (if (wrap64 ((t128.length : Int) - 1)) < (t165.length : Int) then (spec_l7Passes.l0 k1 a1 (t165.set ((wrap64 ((t128.length : Int) - 1)) : Int).toNat (Go.bits .and .u8 (rd t165 (wrap64 ((t128.length : Int) - 1))) 240)) x8_1 x9_1 x10_1 (t128.length : Int) (((a1.size : Int) % 2) == 1) l2 (l2.length : Int) (wrap64 (x31_1 + 1))) else (none)) else (none)) else (spec_l7Passes.l0 k1 a1 t165 x8_1 x9_1 x10_1 (t128.length : Int) (((a1.size : Int) % 2) == 1) l2 (l2.length : Int) (wrap64 (x31_1 + 1)))) = some r := H
          have A54 := Aside0.mk A540
          clear A540
          by_cases c55 : (((a1.size : Int) % 2) == 1) = true
          ·rw [if_pos c55] at H
           have c55b0 : (((a1.size : Int) % 2) == 1) = true := c55
           (try (have c55b1 : decide (((a1.size : Int) % 2) = 1) = true := by simpa using c55))
           (try (have c55b2 : (((a1.size : Int) % 2) == 1) = true := by simpa using c55))
           clear c55
           obtain ⟨ji56, hji56⟩ : ∃ j_ : Int, (wrap64 ((t128.length : Int) - 1)) = j_ := ⟨_, rfl⟩
           replace H : (if 0 ≤ (ji56) then (if (ji56) < (t165.length : Int) then (spec_l7Passes.l0 k1 a1 (t165.set ((ji56) : Int).toNat (Go.bits .and .u8 (rd t165 (ji56)) 240)) x8_1 x9_1 x10_1 (t128.length : Int) (((a1.size : Int) % 2) == 1) l2 (l2.length : Int) (wrap64 (x31_1 + 1))) else (none)) else (none)) = some r := by first | (rw [hji56] at H; exact H) | (simp only [hji56] at H ⊢; exact H)
           (try rw [hji56] at A49)
           (try rw [hji56] at A50)
           (try rw [hji56] at A54)
           have hji56w : (IntKind.i64.wrap ((t128.length : Int) - 1)) = ji56 := (i64_w _).trans hji56
           by_cases c57 : 0 ≤ (ji56)
           ·rw [if_pos c57] at H
            have c57b0 : decide (0 ≤ (ji56)) = true := decide_eq_true c57
            clear c57
            by_cases c58 : (ji56) < (t165.length : Int)
            ·rw [if_pos c58] at H
             have c58b0 : decide ((ji56) < (t165.length : Int)) = true := decide_eq_true c58
             clear c58
             obtain ⟨y169, hy169⟩ : ∃ y_ : List Int, y_ = (t165.set ((ji56) : Int).toNat (Go.bits .and .u8 (rd t165 (ji56)) 240)) := ⟨_, rfl⟩
             replace H : (spec_l7Passes.l0 k1 a1 y169 x8_1 x9_1 x10_1 (t128.length : Int) (((a1.size : Int) % 2) == 1) l2 (l2.length : Int) (wrap64 (x31_1 + 1))) = some r := by first | (rw [hy169]; with_reducible exact H) | (have H2_ := (Option.bind_some _ _).symm.trans H; rw [hy169]; with_reducible exact H2_) | (have H2_ := (Option.bind_some _ _).symm.trans H; with_reducible exact H2_) | with_reducible exact H | (rw [hy169]; exact H) | exact H
             have Ny169 := Aside0.mk hy169
             clear hy169
             have H' := Aside0.mk H
             clear H
             have p141 : 0 ≤ (x31_1 : Int) := of_decide_eq_true (by first | (with_reducible assumption) | assumption)
             have q141 : x31_1 < (l2.length : Int) := of_decide_eq_true (by first | (with_reducible assumption) | assumption)
             obtain ⟨ad141, e141, hx141_0⟩ := Kd.at_int HR2.out x31_1 p141 q141
             cases e141
             replace hx141_0 := (HB.out.cell (World.block_lt_of_cell? w _ hx141_0)).trans hx141_0
             replace p141 := eq_true p141
             replace q141 := eq_true q141
             have hcv60 := own_string (P := Try.prog) Try.underlying43 Try.underlying5 Try.underlying9 (Kd.own_of_R HO_8.out)
             go_wp2_with (first | ((with_reducible refine gate_callee (f := 108) rfl ?_); refine goesL_ (some 66) rfl rfl Try.func108 (by kernel_rfl) rfl #[.string (strOfNums x8_1), .int .i64 (a1.size : Int), .int .i64 (rd l2 x31_1)] rfl (by (try simp only [List.map_toArray, List.map_cons, List.map_nil]); first | done | rfl | (simp only [List.length_drop, List.length_take]; rfl)) ?_; (with_reducible refine (spec_l7Half.calls k1 (strOfNums x8_1) (a1.size : Int) (rd l2 x31_1) t156 _ A49.out).mono ?_); rintro e w61 ⟨rfl, hb⟩; refine ⟨_, rfl, ?_⟩; have n0_ := Aside0.mk (Kd.R_below (by (with_reducible repeat (first | apply Kd.R_alloc | apply Kd.R_drewN | apply Kd.R_drew)); exact HO_7.out) hb); have n1_ := Aside0.mk (Kd.R_below (by (with_reducible repeat (first | apply Kd.R_alloc | apply Kd.R_drewN | apply Kd.R_drew)); exact HO_8.out) hb); have n2_ := Aside0.mk (Kd.R_below (by (with_reducible repeat (first | apply Kd.R_alloc | apply Kd.R_drewN | apply Kd.R_drew)); exact HO_9.out) hb); have n3_ := Aside0.mk (Kd.R_below (by (with_reducible repeat (first | apply Kd.R_alloc | apply Kd.R_drewN | apply Kd.R_drew)); exact HO_10.out) hb); have n4_ := Aside0.mk (below_step (by repeat (first | (with_reducible first | exact HB.out | apply below_alloc | apply pw_below_drewN | apply below_drew1) | exact HB.out)) hb); clear HO_7; clear HO_8; clear HO_9; clear HO_10; clear HB; have HO_7 := n0_; have HO_8 := n1_; have HO_9 := n2_; have HO_10 := n3_; have HB := n4_; clear n0_ n1_ n2_ n3_ n4_; (try clear hb); (try clear hb2); (try clear hk); (try clear hi); obtain ⟨Ao62, co62, eo62⟩ := Kd.R_slice HO_9.out; subst eo62; obtain ⟨Ao63, co63, eo63⟩ := Kd.R_slice HO_10.out; subst eo63) | ((with_reducible refine gate_callee (f := 93) rfl ?_); refine goesL_ (some 67) rfl rfl Try.func93 (by kernel_rfl) rfl #[.slice Ao62 x9_1.length co62, .slice Ao63 x10_1.length co63, .string t156] rfl (by (try simp only [List.map_toArray, List.map_cons, List.map_nil]); first | done | rfl | (simp only [List.length_drop, List.length_take]; rfl)) ?_; (with_reducible refine (spec_l3With.calls k1 _ _ x9_1 _ _ x10_1 t156 t157 _ ?side1 ?side2 ?side3 ?side4 A50.out).mono ?_); (case side1 => repeat (first | exact (Kd.R_reads' HO_9.out).2.2 | (with_reducible refine Kd.C_alloc ?_ _) | (with_reducible refine Kd.C_drewN ?_ _) | (with_reducible refine Kd.C_drew ?_))); (case side2 => exact (Kd.R_reads' HO_9.out).2.1); (case side3 => repeat (first | exact (Kd.R_reads' HO_10.out).2.2 | (with_reducible refine Kd.C_alloc ?_ _) | (with_reducible refine Kd.C_drewN ?_ _) | (with_reducible refine Kd.C_drew ?_))); (case side4 => exact (Kd.R_reads' HO_10.out).2.1); rintro e w64 ⟨rfl, hb⟩; refine ⟨_, rfl, ?_⟩; have n0_ := Aside0.mk (Kd.R_below (by (with_reducible repeat (first | apply Kd.R_alloc | apply Kd.R_drewN | apply Kd.R_drew)); exact HO_7.out) hb); have n1_ := Aside0.mk (Kd.R_below (by (with_reducible repeat (first | apply Kd.R_alloc | apply Kd.R_drewN | apply Kd.R_drew)); exact HO_8.out) hb); have n2_ := Aside0.mk (Kd.R_below (by (with_reducible repeat (first | apply Kd.R_alloc | apply Kd.R_drewN | apply Kd.R_drew)); exact HO_9.out) hb); have n3_ := Aside0.mk (Kd.R_below (by (with_reducible repeat (first | apply Kd.R_alloc | apply Kd.R_drewN | apply Kd.R_drew)); exact HO_10.out) hb); have n4_ := Aside0.mk (below_step (by repeat (first | (with_reducible first | exact HB.out | apply below_alloc | apply pw_below_drewN | apply below_drew1) | exact HB.out)) hb); clear HO_7; clear HO_8; clear HO_9; clear HO_10; clear HB; have HO_7 := n0_; have HO_8 := n1_; have HO_9 := n2_; have HO_10 := n3_; have HB := n4_; clear n0_ n1_ n2_ n3_ n4_; (try clear hb); (try clear hb2); (try clear hk); (try clear hi)) | ((with_reducible refine gate_dst (N := 68) rfl ?_); refine Kd.R_bytes _ 5 rfl (N := 68) rfl 9 43 _ rfl t157 rfl Try.underlying9 Try.underlying43 Try.underlying5 (ok := fun _ => True) trivial (of_decide_eq_true (by first | (with_reducible assumption) | assumption)) (Below.refl _ _) (Nat.le_refl _) ?_; intro v159 w65 ho66 hb hg_ hnew_; clear hg_ hnew_; (first | rw [← Ny158.out] at ho66 | (simp only [Int.reduceToNat] at ho66; rw [← Ny158.out] at ho66)); have n0_ := Aside0.mk (Kd.R_elder' (by (with_reducible repeat (first | apply Kd.R_alloc | apply Kd.R_drewN | apply Kd.R_drew)); exact HO_7.out) (Kd.R_base ho66) hb); have n1_ := Aside0.mk (Kd.R_elder' (by (with_reducible repeat (first | apply Kd.R_alloc | apply Kd.R_drewN | apply Kd.R_drew)); exact HO_8.out) (Kd.R_base ho66) hb); have n2_ := Aside0.mk (Kd.R_elder' (by (with_reducible repeat (first | apply Kd.R_alloc | apply Kd.R_drewN | apply Kd.R_drew)); exact HO_9.out) (Kd.R_base ho66) hb); have n3_ := Aside0.mk (Kd.R_elder' (by (with_reducible repeat (first | apply Kd.R_alloc | apply Kd.R_drewN | apply Kd.R_drew)); exact HO_10.out) (Kd.R_base ho66) hb); have n4_ := Aside0.mk (Kd.R_lower (Kd.R_new' (Kd.R_new' (Kd.R_new' (Kd.R_new' ho66 (Kd.R_lt (by (with_reducible repeat (first | apply Kd.R_alloc | apply Kd.R_drewN | apply Kd.R_drew)); exact HO_7.out))) (Kd.R_lt (by (with_reducible repeat (first | apply Kd.R_alloc | apply Kd.R_drewN | apply Kd.R_drew)); exact HO_8.out))) (Kd.R_lt (by (with_reducible repeat (first | apply Kd.R_alloc | apply Kd.R_drewN | apply Kd.R_drew)); exact HO_9.out))) (Kd.R_lt (by (with_reducible repeat (first | apply Kd.R_alloc | apply Kd.R_drewN | apply Kd.R_drew)); exact HO_10.out))) (below_size (by repeat (first | (with_reducible first | exact HB.out | apply below_alloc | apply pw_below_drewN | apply below_drew1) | exact HB.out)))); have n5_ := Aside0.mk (below_step (by repeat (first | (with_reducible first | exact HB.out | apply below_alloc | apply pw_below_drewN | apply below_drew1) | exact HB.out)) hb); clear HO_7; clear HO_8; clear HO_9; clear HO_10; clear HB; have HO_7 := n0_; have HO_8 := n1_; have HO_9 := n2_; have HO_10 := n3_; have HO160 := n4_; have HB := n5_; clear n0_ n1_ n2_ n3_ n4_ n5_; clear hb ho66; obtain ⟨Ao68, co68, eo68⟩ := Kd.R_slice HO160.out; subst eo68; have q67 : ((t128.length : Int) : Int) ≤ ((y158.length : Int) : Int) := of_decide_eq_true (by first | (with_reducible assumption) | assumption); obtain ⟨i067, hi067, _, hsz67, _⟩ := info_parts info5; have hroom67 : y158.length ≤ co68 := (Kd.R_reads' HO160.out).2.1; have hC67 : Kd.C (Kd.int .u8) _ Ao68 y158.length y158 := (Kd.R_reads' HO160.out).2.2; have hcut67 := cut_to (P := Try.prog) 43 5 .i64 Try.underlying43 hi067 Ao68 y158.length co68 (t128.length : Int) (of_decide_eq_true (by first | (with_reducible assumption) | assumption)) q67 hroom67; have hr67 := Kd.C_take (m := ((t128.length : Int) : Int).toNat) hC67 (by omega); have hy67 : y161.length = ((t128.length : Int) : Int).toNat := (by rw [Ny161.out, List.length_take]; omega); rw [← Ny161.out] at hr67; rw [← hy67] at hcut67; have HR164 := Aside0.mk hr67; have HC164 := Aside0.mk (show y161.length ≤ co68 from by omega); clear hr67 hC67 hroom67 hi067 hsz67; have KY67 := Aside0.mk hy67; clear hy67; have KL67 := Aside0.mk (show ((t128.length : Int) : Int).toNat ≤ y158.length from by omega); replace q67 := eq_true q67; obtain ⟨Ao69, co69, eo69⟩ := Kd.R_slice HO_7.out; subst eo69) | ((with_reducible refine gate_callee (f := 89) rfl ?_); refine goesL_ (some 71) rfl rfl Try.func89 (by kernel_rfl) rfl #[.slice Ao69 x7_1.length co69, .slice Ao68 y161.length co68] rfl (by (try simp only [List.map_toArray, List.map_cons, List.map_nil]); first | done | rfl | (simp only [List.length_drop, List.length_take]; rfl)) ?_; (with_reducible refine (spec_l3Xor.calls k1 _ _ x7_1 _ _ y161 t165 _ ?side1 ?side2 ?side3 ?side4 A54.out).mono ?_); (case side1 => repeat (first | exact (Kd.R_reads' HO_7.out).2.2 | (with_reducible refine Kd.C_alloc ?_ _) | (with_reducible refine Kd.C_drewN ?_ _) | (with_reducible refine Kd.C_drew ?_))); (case side2 => exact (Kd.R_reads' HO_7.out).2.1); (case side3 => repeat (first | exact (by repeat (first | (with_reducible exact HR164.out) | (with_reducible refine Kd.C_alloc ?_ _) | (with_reducible refine Kd.C_drewN ?_ _) | (with_reducible refine Kd.C_drew ?_) | exact HR164.out)) | (with_reducible refine Kd.C_alloc ?_ _) | (with_reducible refine Kd.C_drewN ?_ _) | (with_reducible refine Kd.C_drew ?_))); (case side4 => exact HC164.out); rintro e w70 ⟨v166, rfl, ho0, hb⟩; refine ⟨_, rfl, ?_⟩; have n0_ := Aside0.mk (Kd.R_elder' (by (with_reducible repeat (first | apply Kd.R_alloc | apply Kd.R_drewN | apply Kd.R_drew)); exact HO_7.out) (Kd.R_base ho0) hb); have n1_ := Aside0.mk (Kd.R_elder' (by (with_reducible repeat (first | apply Kd.R_alloc | apply Kd.R_drewN | apply Kd.R_drew)); exact HO_8.out) (Kd.R_base ho0) hb); have n2_ := Aside0.mk (Kd.R_elder' (by (with_reducible repeat (first | apply Kd.R_alloc | apply Kd.R_drewN | apply Kd.R_drew)); exact HO_9.out) (Kd.R_base ho0) hb); have n3_ := Aside0.mk (Kd.R_elder' (by (with_reducible repeat (first | apply Kd.R_alloc | apply Kd.R_drewN | apply Kd.R_drew)); exact HO_10.out) (Kd.R_base ho0) hb); have n4_ := Aside0.mk (Kd.R_elder' (by (with_reducible repeat (first | apply Kd.R_alloc | apply Kd.R_drewN | apply Kd.R_drew)); exact HO160.out) (Kd.R_base ho0) hb); have n5_ := Aside0.mk (Kd.R_lower (Kd.R_new' (Kd.R_new' (Kd.R_new' (Kd.R_new' (Kd.R_new' ho0 (Kd.R_lt (by (with_reducible repeat (first | apply Kd.R_alloc | apply Kd.R_drewN | apply Kd.R_drew)); exact HO_7.out))) (Kd.R_lt (by (with_reducible repeat (first | apply Kd.R_alloc | apply Kd.R_drewN | apply Kd.R_drew)); exact HO_8.out))) (Kd.R_lt (by (with_reducible repeat (first | apply Kd.R_alloc | apply Kd.R_drewN | apply Kd.R_drew)); exact HO_9.out))) (Kd.R_lt (by (with_reducible repeat (first | apply Kd.R_alloc | apply Kd.R_drewN | apply Kd.R_drew)); exact HO_10.out))) (Kd.R_lt (by (with_reducible repeat (first | apply Kd.R_alloc | apply Kd.R_drewN | apply Kd.R_drew)); exact HO160.out))) (below_size (by repeat (first | (with_reducible first | exact HB.out | apply below_alloc | apply pw_below_drewN | apply below_drew1) | exact HB.out)))); have n6_ := Aside0.mk (Kd.C_below (by repeat (first | (with_reducible exact HR164.out) | (with_reducible refine Kd.C_alloc ?_ _) | (with_reducible refine Kd.C_drewN ?_ _) | (with_reducible refine Kd.C_drew ?_) | exact HR164.out)) hb); have n7_ := Aside0.mk (below_step (by repeat (first | (with_reducible first | exact HB.out | apply below_alloc | apply pw_below_drewN | apply below_drew1) | exact HB.out)) hb); clear HO_7; clear HO_8; clear HO_9; clear HO_10; clear HO160; clear HR164; clear HB; have HO_7 := n0_; have HO_8 := n1_; have HO_9 := n2_; have HO_10 := n3_; have HO160 := n4_; have HO167 := n5_; have HR164 := n6_; have HB := n7_; clear n0_ n1_ n2_ n3_ n4_ n5_ n6_ n7_; (try clear hb); (try clear hb2); (try clear hk); (try clear hi); (try clear ho0); obtain ⟨Ao71, co71, eo71⟩ := Kd.R_slice HO167.out; subst eo71; have p168 : 0 ≤ ((ji56) : Int) := of_decide_eq_true (by first | (with_reducible assumption) | assumption); have q168 : (ji56) < (t165.length : Int) := of_decide_eq_true (by first | (with_reducible assumption) | assumption); obtain ⟨ad168, e168, hx168_0⟩ := Kd.at_int (Kd.R_reads' HO167.out).2.2 (ji56) p168 q168; cases e168; replace p168 := eq_true p168; replace q168 := eq_true q168; have p59 : 0 ≤ ((ji56) : Int) := of_decide_eq_true (by first | (with_reducible assumption) | assumption); have q59 : ((ji56) : Int) < ((t165.length : Int) : Int) := of_decide_eq_true (by first | (with_reducible assumption) | assumption); obtain ⟨go59, co59, eo59, gb59, gl59, cl59, HG59⟩ := Kd.R_form HO167.out (by omega); (first | cases eo59 | (injection eo59 with ea_ en_ ec_; (first | subst ea_ | (injection ea_ with ea_; subst ea_)); subst ec_; clear en_)); have GB59 := Aside0.mk gb59; have GG59 := Aside0.mk HG59; clear gb59 gl59 HG59; (first | simp only [add_plain] at hx168_0 | skip); obtain ⟨hx59_0, hf59_0⟩ := Kd.R_celln 0 HO167.out ((ji56) : Int) p59 q59; replace p59 := eq_true p59; replace q59 := eq_true q59; have n_ := Aside0.mk (Kd.R_mono (ok' := (fun k_ => some k_ ≠ (.slice Ao69 x7_1.length co69 : Value).ownBlock ∧ some k_ ≠ (u8 : Value).ownBlock ∧ some k_ ≠ (.slice Ao62 x9_1.length co62 : Value).ownBlock ∧ some k_ ≠ (.slice Ao63 x10_1.length co63 : Value).ownBlock ∧ some k_ ≠ (.slice Ao68 y158.length co68 : Value).ownBlock)) HO167.out (fun k_ hk => ⟨hk.1.1.1.1.2, ⟨hk.1.1.1.2, ⟨hk.1.1.2, ⟨hk.1.2, hk.2⟩⟩⟩⟩)); clear HO167; have HO167 := n_; clear n_; obtain ⟨hy72_, hz72_⟩ := Kd.R_celln 0 HO167.out ((ji56) : Int) (of_decide_eq_true (by first | (with_reducible assumption) | assumption)) (of_decide_eq_true (by first | (with_reducible assumption) | assumption)); have HP72 := Kd.R_putg HO167.out ((ji56) : Int) (Go.bits .and .u8 (rd t165 (ji56)) 240)) | ((with_reducible refine gate_store (t := 5) (p := 79) rfl ?_); refine store_event (t := 5) (p := 79) (v := ?vo_w73) (w1 := (w70.setCell ⟨go59, ((ji56) : Int).toNat, none⟩ (.int .u8 (Go.bits .and .u8 (rd t165 (ji56)) 240)))) ?hg ?ho ?hn ?hr ?_; (case ho => rfl); (case hg => rfl); (case hn => rfl); (case hr => first | (go_simp; done) | (go_simp; rfl)); intro w73 hw; have hg : w70.grownBy w73 (some go59) := (by rw [hw]; exact HP72.2); have hp_ : Kd.R (Kd.int .u8) 5 w73 w.heap.size (fun k_ => some k_ ≠ (.slice Ao69 x7_1.length co69 : Value).ownBlock ∧ some k_ ≠ (u8 : Value).ownBlock ∧ some k_ ≠ (.slice Ao62 x9_1.length co62 : Value).ownBlock ∧ some k_ ≠ (.slice Ao63 x10_1.length co63 : Value).ownBlock ∧ some k_ ≠ (.slice Ao68 y158.length co68 : Value).ownBlock) (.slice (some ⟨go59, 0, none⟩) t165.length co71) y169 := (by rw [hw, Ny169.out]; exact HP72.1); clear HP72; have n0_ := Aside0.mk (Kd.R_after (v := (.slice (some ⟨go59, 0, none⟩) t165.length co71)) (v1 := (.slice (some ⟨go59, 0, none⟩) t165.length co71)) (ok := (fun k_ => some k_ ≠ (u8 : Value).ownBlock ∧ some k_ ≠ (.slice Ao62 x9_1.length co62 : Value).ownBlock ∧ some k_ ≠ (.slice Ao63 x10_1.length co63 : Value).ownBlock ∧ some k_ ≠ (.slice Ao68 y158.length co68 : Value).ownBlock)) (by (with_reducible repeat (first | apply Kd.R_alloc | apply Kd.R_drewN | apply Kd.R_drew)); exact Kd.R_mono HO_7.out (fun _ hk => ⟨⟨hk.1.1.1, ⟨hk.1.1.2.1, ⟨hk.1.1.2.2, hk.1.2⟩⟩⟩, hk.2⟩)) hg (.inl rfl)); have n1_ := Aside0.mk (Kd.R_after (v := (.slice (some ⟨go59, 0, none⟩) t165.length co71)) (v1 := (.slice (some ⟨go59, 0, none⟩) t165.length co71)) (ok := (fun k_ => some k_ ≠ (.slice Ao69 x7_1.length co69 : Value).ownBlock ∧ some k_ ≠ (.slice Ao62 x9_1.length co62 : Value).ownBlock ∧ some k_ ≠ (.slice Ao63 x10_1.length co63 : Value).ownBlock ∧ some k_ ≠ (.slice Ao68 y158.length co68 : Value).ownBlock)) (by (with_reducible repeat (first | apply Kd.R_alloc | apply Kd.R_drewN | apply Kd.R_drew)); exact Kd.R_mono HO_8.out (fun _ hk => ⟨⟨hk.1.1.1, ⟨hk.1.1.2.1, ⟨hk.1.1.2.2, hk.1.2⟩⟩⟩, hk.2⟩)) hg (.inl rfl)); have n2_ := Aside0.mk (Kd.R_after (v := (.slice (some ⟨go59, 0, none⟩) t165.length co71)) (v1 := (.slice (some ⟨go59, 0, none⟩) t165.length co71)) (ok := (fun k_ => some k_ ≠ (.slice Ao69 x7_1.length co69 : Value).ownBlock ∧ some k_ ≠ (u8 : Value).ownBlock ∧ some k_ ≠ (.slice Ao63 x10_1.length co63 : Value).ownBlock ∧ some k_ ≠ (.slice Ao68 y158.length co68 : Value).ownBlock)) (by (with_reducible repeat (first | apply Kd.R_alloc | apply Kd.R_drewN | apply Kd.R_drew)); exact Kd.R_mono HO_9.out (fun _ hk => ⟨⟨hk.1.1.1, ⟨hk.1.1.2.1, ⟨hk.1.1.2.2, hk.1.2⟩⟩⟩, hk.2⟩)) hg (.inl rfl)); have n3_ := Aside0.mk (Kd.R_after (v := (.slice (some ⟨go59, 0, none⟩) t165.length co71)) (v1 := (.slice (some ⟨go59, 0, none⟩) t165.length co71)) (ok := (fun k_ => some k_ ≠ (.slice Ao69 x7_1.length co69 : Value).ownBlock ∧ some k_ ≠ (u8 : Value).ownBlock ∧ some k_ ≠ (.slice Ao62 x9_1.length co62 : Value).ownBlock ∧ some k_ ≠ (.slice Ao68 y158.length co68 : Value).ownBlock)) (by (with_reducible repeat (first | apply Kd.R_alloc | apply Kd.R_drewN | apply Kd.R_drew)); exact Kd.R_mono HO_10.out (fun _ hk => ⟨⟨hk.1.1.1, ⟨hk.1.1.2.1, ⟨hk.1.1.2.2, hk.1.2⟩⟩⟩, hk.2⟩)) hg (.inl rfl)); have n4_ := Aside0.mk (Kd.R_after (v := (.slice (some ⟨go59, 0, none⟩) t165.length co71)) (v1 := (.slice (some ⟨go59, 0, none⟩) t165.length co71)) (ok := (fun k_ => some k_ ≠ (.slice Ao69 x7_1.length co69 : Value).ownBlock ∧ some k_ ≠ (u8 : Value).ownBlock ∧ some k_ ≠ (.slice Ao62 x9_1.length co62 : Value).ownBlock ∧ some k_ ≠ (.slice Ao63 x10_1.length co63 : Value).ownBlock)) (by (with_reducible repeat (first | apply Kd.R_alloc | apply Kd.R_drewN | apply Kd.R_drew)); exact Kd.R_mono HO160.out (fun _ hk => ⟨⟨hk.1.1.1.1.2, ⟨hk.1.1.1.2, ⟨hk.1.1.2, hk.1.2⟩⟩⟩, hk.2⟩)) hg (.inl rfl)); have n5_ := Aside0.mk (hp_); have n6_ := Aside0.mk ((by rw [hw]; exact below_set (HB.out) GB59.out : Below w.heap.size w w73)); have n7_ := Aside0.mk ((show Kd.C (Kd.int .u8) w73 Ao68 y161.length y161 from by rw [Ny161.out]; exact Kd.C_take (m := ((t128.length : Int) : Int).toNat) ((Kd.R_reads' (Kd.R_after (v := (.slice (some ⟨go59, 0, none⟩) t165.length co71)) (v1 := (.slice (some ⟨go59, 0, none⟩) t165.length co71)) (ok := (fun k_ => some k_ ≠ (.slice Ao69 x7_1.length co69 : Value).ownBlock ∧ some k_ ≠ (u8 : Value).ownBlock ∧ some k_ ≠ (.slice Ao62 x9_1.length co62 : Value).ownBlock ∧ some k_ ≠ (.slice Ao63 x10_1.length co63 : Value).ownBlock)) (by (with_reducible repeat (first | apply Kd.R_alloc | apply Kd.R_drewN | apply Kd.R_drew)); exact Kd.R_mono HO160.out (fun _ hk => ⟨⟨hk.1.1.1.1.2, ⟨hk.1.1.1.2, ⟨hk.1.1.2, hk.1.2⟩⟩⟩, hk.2⟩)) hg (.inl rfl))).2.2) KL67.out)); clear HO_7; clear HO_8; clear HO_9; clear HO_10; clear HO160; clear HO167; clear HB; clear HR164; have HO_7 := n0_; have HO_8 := n1_; have HO_9 := n2_; have HO_10 := n3_; have HO160 := n4_; have HO167 := n5_; have HB := n6_; have HR164 := n7_; clear n0_ n1_ n2_ n3_ n4_ n5_ n6_ n7_; clear hg hw hp_))
             go_roundg k1
             case measure => have := HK1.out; omega
             case rel => exact ⟨(y169), (x8_1), (x9_1), (x10_1), (wrap64 (x31_1 + 1)), (by first | rfl | (simp; done) | (simp [*]; done)), H', ⟨by have := HK1.out; omega⟩, ⟨by (with_reducible repeat (first | apply Kd.R_alloc | apply Kd.R_drewN | apply Kd.R_drew)); exact Kd.R_mono HO167.out (fun _ hk => ⟨hk.2.1, ⟨hk.2.2.1, hk.2.2.2.1⟩⟩)⟩, ⟨by (with_reducible repeat (first | apply Kd.R_alloc | apply Kd.R_drewN | apply Kd.R_drew)); exact Kd.R_mono HO_8.out (fun _ hk => ⟨hk.2, ⟨hk.1.2.1, hk.1.2.2.1⟩⟩)⟩, ⟨by (with_reducible repeat (first | apply Kd.R_alloc | apply Kd.R_drewN | apply Kd.R_drew)); exact Kd.R_mono HO_9.out (fun _ hk => ⟨hk.2, ⟨hk.1.2.1, hk.1.2.2.1⟩⟩)⟩, ⟨by (with_reducible repeat (first | apply Kd.R_alloc | apply Kd.R_drewN | apply Kd.R_drew)); exact Kd.R_mono HO_10.out (fun _ hk => ⟨hk.2, ⟨hk.1.2.1, hk.1.2.2.1⟩⟩)⟩, ⟨by repeat (first | (with_reducible first | exact HB.out | apply below_alloc | apply pw_below_drewN | apply below_drew1) | exact HB.out)⟩⟩
            ·rw [if_neg c58] at H
             exact absurd H (by simp)
           ·rw [if_neg c57] at H
            exact absurd H (by simp)
          ·exact absurd ho_ c55
         ·rw [if_neg c53] at H
          exact absurd H (by simp)
        ·rw [if_neg c52] at H
         exact absurd H (by simp)
       ·rw [if_neg c51] at H
        exact absurd H (by simp)
     ·rw [if_neg c13] at H
      exact absurd H (by simp)
    ·rw [if_neg c12] at H
     exact absurd H (by simp)
   ·rw [if_neg c11] at H
    have c11b0 : decide (x31_1 < (l2.length : Int)) = false := decide_eq_false c11
    clear c11
    replace H := Option.bind_eq_some_iff.mp H
    obtain ⟨t140, A850, H⟩ := H
    replace H : (some t140) = some r := H
    have A85 := Aside0.mk A850
    clear A850
    obtain rfl := Option.some.inj H
    obtain ⟨Ao86, co86, eo86⟩ := Kd.R_slice HO_7.out
    subst eo86
    obtain ⟨Ao87, co87, eo87⟩ := Kd.R_slice HO_8.out
    subst eo87
    go_wp2_with (first | ((with_reducible refine gate_callee (f := 109) rfl ?_); refine goesL_ (some 85) rfl rfl Try.func109 (by kernel_rfl) rfl #[.slice Ao86 x7_1.length co86, .slice Ao87 x8_1.length co87, .int .i64 (a1.size : Int)] rfl (by (try simp only [List.map_toArray, List.map_cons, List.map_nil]); first | done | rfl | (simp only [List.length_drop, List.length_take]; rfl)) ?_; (with_reducible refine (spec_l7Join.calls _ _ x7_1 _ _ x8_1 (a1.size : Int) t140 _ ?side1 ?side2 ?side3 ?side4 A85.out).mono ?_); (case side1 => repeat (first | exact (Kd.R_reads' HO_7.out).2.2 | (with_reducible refine Kd.C_alloc ?_ _) | (with_reducible refine Kd.C_drewN ?_ _) | (with_reducible refine Kd.C_drew ?_))); (case side2 => exact (Kd.R_reads' HO_7.out).2.1); (case side3 => repeat (first | exact (Kd.R_reads' HO_8.out).2.2 | (with_reducible refine Kd.C_alloc ?_ _) | (with_reducible refine Kd.C_drewN ?_ _) | (with_reducible refine Kd.C_drew ?_))); (case side4 => exact (Kd.R_reads' HO_8.out).2.1); rintro e w88 ⟨rfl, hb⟩; refine ⟨_, rfl, ?_⟩; have n0_ := Aside0.mk (Kd.R_below (by (with_reducible repeat (first | apply Kd.R_alloc | apply Kd.R_drewN | apply Kd.R_drew)); exact HO_7.out) hb); have n1_ := Aside0.mk (Kd.R_below (by (with_reducible repeat (first | apply Kd.R_alloc | apply Kd.R_drewN | apply Kd.R_drew)); exact HO_8.out) hb); have n2_ := Aside0.mk (Kd.R_below (by (with_reducible repeat (first | apply Kd.R_alloc | apply Kd.R_drewN | apply Kd.R_drew)); exact HO_9.out) hb); have n3_ := Aside0.mk (Kd.R_below (by (with_reducible repeat (first | apply Kd.R_alloc | apply Kd.R_drewN | apply Kd.R_drew)); exact HO_10.out) hb); have n4_ := Aside0.mk (below_step (by repeat (first | (with_reducible first | exact HB.out | apply below_alloc | apply pw_below_drewN | apply below_drew1) | exact HB.out)) hb); clear HO_7; clear HO_8; clear HO_9; clear HO_10; clear HB; have HO_7 := n0_; have HO_8 := n1_; have HO_9 := n2_; have HO_10 := n3_; have HB := n4_; clear n0_ n1_ n2_ n3_ n4_; (try clear hb); (try clear hb2); (try clear hk); (try clear hi)))
    go_ret
    exact ⟨by first | rfl | (simp [errW_none, errW_some] <;> rfl) | (simp [*, errW_none, errW_some] <;> rfl), by repeat (first | (with_reducible first | exact HB.out | apply below_alloc | apply pw_below_drewN | apply below_drew1) | exact HB.out)⟩
set_option maxHeartbeats 8000000 in
set_option maxRecDepth 100000 in
theorem spec_l7Passes.calls_false (k : Nat) (a0 : ByteArray) (a1 : ByteArray) (A2 : Option Addr) (c2 : Nat) (l2 : List Int) (r : ByteArray) (w : World) (hr2 : Kd.C (Kd.int .i64) w A2 l2.length l2) (hc2 : l2.length ≤ c2) (h : spec_l7Passes.f k a0 a1 l2 = some r) (ho_ : (((a1.size : Int) % 2) == 1) = false) :
  Calls Try.prog 72 #[.string a0, .string a1, .slice A2 l2.length c2] w fun e w' => e = .returned (.string r) ∧ Below w.heap.size w w' := by
 have HR2 := Aside0.mk hr2
 have HC2 := Aside0.mk hc2
 clear hr2 hc2
 have HB := Aside0.mk (Below.refl w.heap.size w)
 have H : ((spec_l7Cut.f a1).bind fun bt128 => ((spec_l3Keys.f k a0).bind fun t134 => ((spec_l3Table.f k).bind fun t137 => (spec_l7Passes.l0 k a1 bt128.1 bt128.2 t134 t137 (bt128.1.length : Int) (((a1.size : Int) % 2) == 1) l2 (l2.length : Int) 0)))) = some r := h
 clear h
 replace H := Option.bind_eq_some_iff.mp H
 obtain ⟨⟨t128, t129⟩, A40, H⟩ := H
 replace H : ((spec_l3Keys.f k a0).bind fun t134 => ((spec_l3Table.f k).bind fun t137 => (spec_l7Passes.l0 k a1 t128 t129 t134 t137 (t128.length : Int) (((a1.size : Int) % 2) == 1) l2 (l2.length : Int) 0))) = some r := H
 have A4 := Aside0.mk A40
 clear A40
 replace H := Option.bind_eq_some_iff.mp H
 obtain ⟨t134, A50, H⟩ := H
 replace H : ((spec_l3Table.f k).bind fun t137 => (spec_l7Passes.l0 k a1 t128 t129 t134 t137 (t128.length : Int) (((a1.size : Int) % 2) == 1) l2 (l2.length : Int) 0)) = some r := H
 have A5 := Aside0.mk A50
 clear A50
 replace H := Option.bind_eq_some_iff.mp H
 obtain ⟨t137, A60, H⟩ := H
 replace H : (spec_l7Passes.l0 k a1 t128 t129 t134 t137 (t128.length : Int) (((a1.size : Int) % 2) == 1) l2 (l2.length : Int) 0) = some r := H
 have A6 := Aside0.mk A60
 clear A60
 have H' := Aside0.mk H
 clear H
 go_enter Try.func72, Try.ntmps72
 go_wp2_with (first | ((with_reducible refine gate_callee (f := 107) rfl ?_); refine goesL_ (some 17) rfl rfl Try.func107 (by kernel_rfl) rfl #[.string a1] rfl (by (try simp only [List.map_toArray, List.map_cons, List.map_nil]); first | done | rfl | (simp only [List.length_drop, List.length_take]; rfl)) ?_; (with_reducible refine (spec_l7Cut.calls a1 t128 t129 _ A4.out).mono ?_); rintro e w7 ⟨v130, v132, rfl, ho0, ho1, hb⟩; refine ⟨_, rfl, ?_⟩; have n0_ := Aside0.mk (Kd.R_lower ho0 (below_size (by repeat (first | (with_reducible first | exact HB.out | apply below_alloc | apply pw_below_drewN | apply below_drew1) | exact HB.out)))); have n1_ := Aside0.mk (Kd.R_lower ho1 (below_size (by repeat (first | (with_reducible first | exact HB.out | apply below_alloc | apply pw_below_drewN | apply below_drew1) | exact HB.out)))); have n2_ := Aside0.mk (below_step (by repeat (first | (with_reducible first | exact HB.out | apply below_alloc | apply pw_below_drewN | apply below_drew1) | exact HB.out)) hb); clear HB; have HO131 := n0_; have HO133 := n1_; have HB := n2_; clear n0_ n1_ n2_; (try clear hb); (try clear hb2); (try clear hk); (try clear hi); (try clear ho0); (try clear ho1)) | ((with_reducible refine gate_callee (f := 52) rfl ?_); refine goesL_ (some 21) rfl rfl Try.func52 (by kernel_rfl) rfl #[.string a0] rfl (by (try simp only [List.map_toArray, List.map_cons, List.map_nil]); first | done | rfl | (simp only [List.length_drop, List.length_take]; rfl)) ?_; (with_reducible refine (spec_l3Keys.calls k a0 t134 _ A5.out).mono ?_); rintro e w8 ⟨v135, rfl, ho0, hb⟩; refine ⟨_, rfl, ?_⟩; have n0_ := Aside0.mk (Kd.R_elder' (by (with_reducible repeat (first | apply Kd.R_alloc | apply Kd.R_drewN | apply Kd.R_drew)); exact HO131.out) (Kd.R_base ho0) hb); have n1_ := Aside0.mk (Kd.R_elder' (by (with_reducible repeat (first | apply Kd.R_alloc | apply Kd.R_drewN | apply Kd.R_drew)); exact HO133.out) (Kd.R_base ho0) hb); have n2_ := Aside0.mk (Kd.R_lower (Kd.R_new' (Kd.R_new' ho0 (Kd.R_lt (by (with_reducible repeat (first | apply Kd.R_alloc | apply Kd.R_drewN | apply Kd.R_drew)); exact HO131.out))) (Kd.R_lt (by (with_reducible repeat (first | apply Kd.R_alloc | apply Kd.R_drewN | apply Kd.R_drew)); exact HO133.out))) (below_size (by repeat (first | (with_reducible first | exact HB.out | apply below_alloc | apply pw_below_drewN | apply below_drew1) | exact HB.out)))); have n3_ := Aside0.mk (below_step (by repeat (first | (with_reducible first | exact HB.out | apply below_alloc | apply pw_below_drewN | apply below_drew1) | exact HB.out)) hb); clear HO131; clear HO133; clear HB; have HO131 := n0_; have HO133 := n1_; have HO136 := n2_; have HB := n3_; clear n0_ n1_ n2_ n3_; (try clear hb); (try clear hb2); (try clear hk); (try clear hi); (try clear ho0)) | ((with_reducible refine gate_callee (f := 94) rfl ?_); refine goesL_ (some 22) rfl rfl Try.func94 (by kernel_rfl) rfl #[] rfl (by (try simp only [List.map_toArray, List.map_cons, List.map_nil]); first | done | rfl | (simp only [List.length_drop, List.length_take]; rfl)) ?_; (with_reducible refine (spec_l3Table.calls k  t137 _ A6.out).mono ?_); rintro e w9 ⟨v138, rfl, ho0, hb⟩; refine ⟨_, rfl, ?_⟩; have n0_ := Aside0.mk (Kd.R_elder' (by (with_reducible repeat (first | apply Kd.R_alloc | apply Kd.R_drewN | apply Kd.R_drew)); exact HO131.out) (Kd.R_base ho0) hb); have n1_ := Aside0.mk (Kd.R_elder' (by (with_reducible repeat (first | apply Kd.R_alloc | apply Kd.R_drewN | apply Kd.R_drew)); exact HO133.out) (Kd.R_base ho0) hb); have n2_ := Aside0.mk (Kd.R_elder' (by (with_reducible repeat (first | apply Kd.R_alloc | apply Kd.R_drewN | apply Kd.R_drew)); exact HO136.out) (Kd.R_base ho0) hb); have n3_ := Aside0.mk (Kd.R_lower (Kd.R_new' (Kd.R_new' (Kd.R_new' ho0 (Kd.R_lt (by (with_reducible repeat (first | apply Kd.R_alloc | apply Kd.R_drewN | apply Kd.R_drew)); exact HO131.out))) (Kd.R_lt (by (with_reducible repeat (first | apply Kd.R_alloc | apply Kd.R_drewN | apply Kd.R_drew)); exact HO133.out))) (Kd.R_lt (by (with_reducible repeat (first | apply Kd.R_alloc | apply Kd.R_drewN | apply Kd.R_drew)); exact HO136.out))) (below_size (by repeat (first | (with_reducible first | exact HB.out | apply below_alloc | apply pw_below_drewN | apply below_drew1) | exact HB.out)))); have n4_ := Aside0.mk (below_step (by repeat (first | (with_reducible first | exact HB.out | apply below_alloc | apply pw_below_drewN | apply below_drew1) | exact HB.out)) hb); clear HO131; clear HO133; clear HO136; clear HB; have HO131 := n0_; have HO133 := n1_; have HO136 := n2_; have HO139 := n3_; have HB := n4_; clear n0_ n1_ n2_ n3_ n4_; (try clear hb); (try clear hb2); (try clear hk); (try clear hi); (try clear ho0); obtain ⟨Ao10, co10, eo10⟩ := Kd.R_slice HO131.out; subst eo10))
 go_loopg [7, 8, 31] k (fun kq v7 v8 v31 w' => ∃ (x7_1 : List Int) (x8_1 : List Int) (x9_1 : List Int) (x10_1 : List Int) (x31_1 : Int), v31 = .int .i64 x31_1 ∧ Aside0 (spec_l7Passes.l0 kq a1 x7_1 x8_1 x9_1 x10_1 (t128.length : Int) (((a1.size : Int) % 2) == 1) l2 (l2.length : Int) x31_1 = some r) ∧ Aside0 (kq ≤ k) ∧ Aside0 (Kd.R (Kd.int .u8) 5 w' w.heap.size (fun k_ => some k_ ≠ (v8 : Value).ownBlock ∧ some k_ ≠ (v135 : Value).ownBlock ∧ some k_ ≠ (v138 : Value).ownBlock) v7 x7_1) ∧ Aside0 (Kd.R (Kd.int .u8) 5 w' w.heap.size (fun k_ => some k_ ≠ (v7 : Value).ownBlock ∧ some k_ ≠ (v135 : Value).ownBlock ∧ some k_ ≠ (v138 : Value).ownBlock) v8 x8_1) ∧ Aside0 (Kd.R (Kd.int .u8) 5 w' w.heap.size (fun k_ => some k_ ≠ (v7 : Value).ownBlock ∧ some k_ ≠ (v8 : Value).ownBlock ∧ some k_ ≠ (v138 : Value).ownBlock) v135 x9_1) ∧ Aside0 (Kd.R (Kd.int .u8) 5 w' w.heap.size (fun k_ => some k_ ≠ (v7 : Value).ownBlock ∧ some k_ ≠ (v8 : Value).ownBlock ∧ some k_ ≠ (v135 : Value).ownBlock) v138 x10_1) ∧ Aside0 (Below w.heap.size w w'))
 case atStart => exact ⟨(t128), (t129), (t134), (t137), (0), (by first | rfl | (simp; done) | (simp [*]; done)), H', ⟨Nat.le_refl _⟩, ⟨by (with_reducible repeat (first | apply Kd.R_alloc | apply Kd.R_drewN | apply Kd.R_drew)); exact Kd.R_mono HO131.out (fun _ hk => ⟨hk.1.1, ⟨hk.1.2, hk.2⟩⟩)⟩, ⟨by (with_reducible repeat (first | apply Kd.R_alloc | apply Kd.R_drewN | apply Kd.R_drew)); exact Kd.R_mono HO133.out (fun _ hk => ⟨hk.1.1, ⟨hk.1.2, hk.2⟩⟩)⟩, ⟨by (with_reducible repeat (first | apply Kd.R_alloc | apply Kd.R_drewN | apply Kd.R_drew)); exact Kd.R_mono HO136.out (fun _ hk => ⟨hk.1.1.2, ⟨hk.1.2, hk.2⟩⟩)⟩, ⟨by (with_reducible repeat (first | apply Kd.R_alloc | apply Kd.R_drewN | apply Kd.R_drew)); exact Kd.R_mono HO139.out (fun _ hk => ⟨hk.1.1.2, ⟨hk.1.2, hk.2⟩⟩)⟩, ⟨by repeat (first | (with_reducible first | exact HB.out | apply below_alloc | apply pw_below_drewN | apply below_drew1) | exact HB.out)⟩⟩
 case round =>
  clear H'
  try clear c1
  try clear c2
  try clear p2
  try clear c5
  try clear c7
  try clear c9
  try clear c10
  obtain ⟨x7_1, x8_1, x9_1, x10_1, x31_1, rfl, HA, HK1, HO_7, HO_8, HO_9, HO_10, HB⟩ := hrel
  cases gk with
  | zero => exact absurd HA.out (by simp [spec_l7Passes.l0])
  | succ k1 =>
   have H := HA.out
   clear HA
   simp only [spec_l7Passes.l0] at H
   by_cases c11 : x31_1 < (l2.length : Int)
   ·rw [if_pos c11] at H
    have c11b0 : decide (x31_1 < (l2.length : Int)) = true := decide_eq_true c11
    clear c11
    by_cases c12 : 0 ≤ x31_1
    ·rw [if_pos c12] at H
     have c12b0 : decide (0 ≤ x31_1) = true := decide_eq_true c12
     clear c12
     by_cases c13 : x31_1 < (l2.length : Int)
     ·rw [if_pos c13] at H
      have c13b0 : decide (x31_1 < (l2.length : Int)) = true := decide_eq_true c13
      clear c13
      by_cases c14 : (Int.tmod (rd l2 x31_1) 2) = 1
      ·rw [if_pos c14] at H
       have c14b0 : ((Int.tmod (rd l2 x31_1) 2) == 1) = true := beq_iff_eq.mpr c14
       have c14b1 : ((Int.tmod (rd l2 x31_1) 2) != 1) = false := bne_eq_false_iff_eq.mpr c14
       clear c14
       replace H := Option.bind_eq_some_iff.mp H
       obtain ⟨t142, A150, H⟩ := H
       replace H : ((spec_l3With.f k1 x9_1 x10_1 t142).bind fun t143 => (if t143.size ≤ 9223372036854775807 then ((some (bytesOf t143 : List Int)).bind fun y144 => (if 0 ≤ (t128.length : Int) then (if (t128.length : Int) ≤ (y144.length : Int) then ((spec_l3Xor.f k1 x8_1 (y144.take ((t128.length : Int) : Int).toNat)).bind fun t151 => (if (((a1.size : Int) % 2) == 1) = true then (if 0 < (t151.length : Int) then (spec_l7Passes.l0 k1 a1 x7_1 (t151.set (0 : Int).toNat (Go.bits .and .u8 (rd t151 0) 15)) x9_1 x10_1 (t128.length : Int) (((a1.size : Int) % 2) == 1) l2 (l2.length : Int) (wrap64 (x31_1 + 1))) else (none)) else (spec_l7Passes.l0 k1 a1 x7_1 t151 x9_1 x10_1 (t128.length : Int) (((a1.size : Int) % 2) == 1) l2 (l2.length : Int) (wrap64 (x31_1 + 1))))) else (none)) else (none))) else (none))) = some r := H
       have A15 := Aside0.mk A150
       clear A150
       replace H := Option.bind_eq_some_iff.mp H
       obtain ⟨t143, A160, H⟩ := H
       replace H : (if t143.size ≤ 9223372036854775807 then ((some (bytesOf t143 : List Int)).bind fun y144 => (if 0 ≤ (t128.length : Int) then (if (t128.length : Int) ≤ (y144.length : Int) then ((spec_l3Xor.f k1 x8_1 (y144.take ((t128.length : Int) : Int).toNat)).bind fun t151 => (if (((a1.size : Int) % 2) == 1) = true then (if 0 < (t151.length : Int) then (spec_l7Passes.l0 k1 a1 x7_1 (t151.set (0 : Int).toNat (Go.bits .and .u8 (rd t151 0) 15)) x9_1 x10_1 (t128.length : Int) (((a1.size : Int) % 2) == 1) l2 (l2.length : Int) (wrap64 (x31_1 + 1))) else (none)) else (spec_l7Passes.l0 k1 a1 x7_1 t151 x9_1 x10_1 (t128.length : Int) (((a1.size : Int) % 2) == 1) l2 (l2.length : Int) (wrap64 (x31_1 + 1))))) else (none)) else (none))) else (none)) = some r := H
       have A16 := Aside0.mk A160
       clear A160
       by_cases c17 : t143.size ≤ 9223372036854775807
       ·rw [if_pos c17] at H
        have c17b0 := eq_true c17
        have c17b1 : decide (t143.size ≤ 9223372036854775807) = true := decide_eq_true c17
        try have c17b2 : (9223372036854775807 < t143.size) = False := eq_false (Nat.not_lt.2 c17)
        clear c17
        obtain ⟨y144, hy144⟩ : ∃ y_ : List Int, y_ = (bytesOf t143) := ⟨_, rfl⟩
        replace H : (if 0 ≤ (t128.length : Int) then (if (t128.length : Int) ≤ (y144.length : Int) then ((spec_l3Xor.f k1 x8_1 (y144.take ((t128.length : Int) : Int).toNat)).bind fun t151 => (if (((a1.size : Int) % 2) == 1) = true then (if 0 < (t151.length : Int) then (spec_l7Passes.l0 k1 a1 x7_1 (t151.set (0 : Int).toNat (Go.bits .and .u8 (rd t151 0) 15)) x9_1 x10_1 (t128.length : Int) (((a1.size : Int) % 2) == 1) l2 (l2.length : Int) (wrap64 (x31_1 + 1))) else (none)) else (spec_l7Passes.l0 k1 a1 x7_1 t151 x9_1 x10_1 (t128.length : Int) (((a1.size : Int) % 2) == 1) l2 (l2.length : Int) (wrap64 (x31_1 + 1))))) else (none)) else (none)) = some r := by first | (rw [hy144]; with_reducible exact H) | (have H2_ := (Option.bind_some _ _).symm.trans H; rw [hy144]; with_reducible exact H2_) | (have H2_ := (Option.bind_some _ _).symm.trans H; with_reducible exact H2_) | with_reducible exact H | (rw [hy144]; exact H) | exact H
        have Ny144 := Aside0.mk hy144
        clear hy144
        by_cases c18 : 0 ≤ (t128.length : Int)
        ·rw [if_pos c18] at H
         have c18b0 := eq_true c18
         have c18b1 : decide (0 ≤ (t128.length : Int)) = true := decide_eq_true c18
         clear c18
         by_cases c19 : (t128.length : Int) ≤ (y144.length : Int)
         ·rw [if_pos c19] at H
          have c19b0 := eq_true c19
          have c19b1 : decide ((t128.length : Int) ≤ (y144.length : Int)) = true := decide_eq_true c19
          clear c19
          obtain ⟨y147, hy147⟩ : ∃ y_ : List Int, y_ = (y144.take ((t128.length : Int) : Int).toNat) := ⟨_, rfl⟩
          replace H : ((spec_l3Xor.f k1 x8_1 y147).bind fun t151 => (if (((a1.size : Int) % 2) == 1) = true then (if 0 < (t151.length : Int) then (spec_l7Passes.l0 k1 a1 x7_1 (t151.set (0 : Int).toNat (Go.bits .and .u8 (rd t151 0) 15)) x9_1 x10_1 (t128.length : Int) (((a1.size : Int) % 2) == 1) l2 (l2.length : Int) (wrap64 (x31_1 + 1))) else (none)) else (spec_l7Passes.l0 k1 a1 x7_1 t151 x9_1 x10_1 (t128.length : Int) (((a1.size : Int) % 2) == 1) l2 (l2.length : Int) (wrap64 (x31_1 + 1))))) = some r := by first | (rw [hy147]; with_reducible exact H) | (have H2_ := (Option.bind_some _ _).symm.trans H; rw [hy147]; with_reducible exact H2_) | (have H2_ := (Option.bind_some _ _).symm.trans H; with_reducible exact H2_) | with_reducible exact H | (rw [hy147]; exact H) | exact H
          have Ny147 := Aside0.mk hy147
          clear hy147
          replace H := Option.bind_eq_some_iff.mp H
          obtain ⟨t151, A200, H⟩ := H
          replace H : (if (((a1.size : Int) % 2) == 1) = true then (if 0 < (t151.length : Int) then (spec_l7Passes.l0 k1 a1 x7_1 (t151.set (0 : Int).toNat (Go.bits .and .u8 (rd t151 0) 15)) x9_1 x10_1 (t128.length : Int) (((a1.size : Int) % 2) == 1) l2 (l2.length : Int) (wrap64 (x31_1 + 1))) else (none)) else (spec_l7Passes.l0 k1 a1 x7_1 t151 x9_1 x10_1 (t128.length : Int) (((a1.size : Int) % 2) == 1) l2 (l2.length : Int) (wrap64 (x31_1 + 1)))) = some r := H
          have A20 := Aside0.mk A200
          clear A200
          by_cases c21 : (((a1.size : Int) % 2) == 1) = true
          ·exact absurd (c21.symm.trans ho_) (by decide)
          ·rw [if_neg c21] at H
           have c21b0 : (((a1.size : Int) % 2) == 1) = false := by simpa using c21
           (try (have c21b1 : decide (((a1.size : Int) % 2) = 1) = false := by simpa using c21))
           (try (have c21b2 : (((a1.size : Int) % 2) == 1) = false := by simpa using c21))
           (try (have c21b3 : ¬ (((a1.size : Int) % 2) = 1) := by simpa using c21))
           clear c21
           have H' := Aside0.mk H
           clear H
           have p141 : 0 ≤ (x31_1 : Int) := of_decide_eq_true (by first | (with_reducible assumption) | assumption)
           have q141 : x31_1 < (l2.length : Int) := of_decide_eq_true (by first | (with_reducible assumption) | assumption)
           obtain ⟨ad141, e141, hx141_0⟩ := Kd.at_int HR2.out x31_1 p141 q141
           cases e141
           replace hx141_0 := (HB.out.cell (World.block_lt_of_cell? w _ hx141_0)).trans hx141_0
           replace p141 := eq_true p141
           replace q141 := eq_true q141
           have hcv38 := own_string (P := Try.prog) Try.underlying43 Try.underlying5 Try.underlying9 (Kd.own_of_R HO_7.out)
           go_wp2_with (first | ((with_reducible refine gate_callee (f := 108) rfl ?_); refine goesL_ (some 46) rfl rfl Try.func108 (by kernel_rfl) rfl #[.string (strOfNums x7_1), .int .i64 (a1.size : Int), .int .i64 (rd l2 x31_1)] rfl (by (try simp only [List.map_toArray, List.map_cons, List.map_nil]); first | done | rfl | (simp only [List.length_drop, List.length_take]; rfl)) ?_; (with_reducible refine (spec_l7Half.calls k1 (strOfNums x7_1) (a1.size : Int) (rd l2 x31_1) t142 _ A15.out).mono ?_); rintro e w39 ⟨rfl, hb⟩; refine ⟨_, rfl, ?_⟩; have n0_ := Aside0.mk (Kd.R_below (by (with_reducible repeat (first | apply Kd.R_alloc | apply Kd.R_drewN | apply Kd.R_drew)); exact HO_7.out) hb); have n1_ := Aside0.mk (Kd.R_below (by (with_reducible repeat (first | apply Kd.R_alloc | apply Kd.R_drewN | apply Kd.R_drew)); exact HO_8.out) hb); have n2_ := Aside0.mk (Kd.R_below (by (with_reducible repeat (first | apply Kd.R_alloc | apply Kd.R_drewN | apply Kd.R_drew)); exact HO_9.out) hb); have n3_ := Aside0.mk (Kd.R_below (by (with_reducible repeat (first | apply Kd.R_alloc | apply Kd.R_drewN | apply Kd.R_drew)); exact HO_10.out) hb); have n4_ := Aside0.mk (below_step (by repeat (first | (with_reducible first | exact HB.out | apply below_alloc | apply pw_below_drewN | apply below_drew1) | exact HB.out)) hb); clear HO_7; clear HO_8; clear HO_9; clear HO_10; clear HB; have HO_7 := n0_; have HO_8 := n1_; have HO_9 := n2_; have HO_10 := n3_; have HB := n4_; clear n0_ n1_ n2_ n3_ n4_; (try clear hb); (try clear hb2); (try clear hk); (try clear hi); obtain ⟨Ao40, co40, eo40⟩ := Kd.R_slice HO_9.out; subst eo40; obtain ⟨Ao41, co41, eo41⟩ := Kd.R_slice HO_10.out; subst eo41) | ((with_reducible refine gate_callee (f := 93) rfl ?_); refine goesL_ (some 47) rfl rfl Try.func93 (by kernel_rfl) rfl #[.slice Ao40 x9_1.length co40, .slice Ao41 x10_1.length co41, .string t142] rfl (by (try simp only [List.map_toArray, List.map_cons, List.map_nil]); first | done | rfl | (simp only [List.length_drop, List.length_take]; rfl)) ?_; (with_reducible refine (spec_l3With.calls k1 _ _ x9_1 _ _ x10_1 t142 t143 _ ?side1 ?side2 ?side3 ?side4 A16.out).mono ?_); (case side1 => repeat (first | exact (Kd.R_reads' HO_9.out).2.2 | (with_reducible refine Kd.C_alloc ?_ _) | (with_reducible refine Kd.C_drewN ?_ _) | (with_reducible refine Kd.C_drew ?_))); (case side2 => exact (Kd.R_reads' HO_9.out).2.1); (case side3 => repeat (first | exact (Kd.R_reads' HO_10.out).2.2 | (with_reducible refine Kd.C_alloc ?_ _) | (with_reducible refine Kd.C_drewN ?_ _) | (with_reducible refine Kd.C_drew ?_))); (case side4 => exact (Kd.R_reads' HO_10.out).2.1); rintro e w42 ⟨rfl, hb⟩; refine ⟨_, rfl, ?_⟩; have n0_ := Aside0.mk (Kd.R_below (by (with_reducible repeat (first | apply Kd.R_alloc | apply Kd.R_drewN | apply Kd.R_drew)); exact HO_7.out) hb); have n1_ := Aside0.mk (Kd.R_below (by (with_reducible repeat (first | apply Kd.R_alloc | apply Kd.R_drewN | apply Kd.R_drew)); exact HO_8.out) hb); have n2_ := Aside0.mk (Kd.R_below (by (with_reducible repeat (first | apply Kd.R_alloc | apply Kd.R_drewN | apply Kd.R_drew)); exact HO_9.out) hb); have n3_ := Aside0.mk (Kd.R_below (by (with_reducible repeat (first | apply Kd.R_alloc | apply Kd.R_drewN | apply Kd.R_drew)); exact HO_10.out) hb); have n4_ := Aside0.mk (below_step (by repeat (first | (with_reducible first | exact HB.out | apply below_alloc | apply pw_below_drewN | apply below_drew1) | exact HB.out)) hb); clear HO_7; clear HO_8; clear HO_9; clear HO_10; clear HB; have HO_7 := n0_; have HO_8 := n1_; have HO_9 := n2_; have HO_10 := n3_; have HB := n4_; clear n0_ n1_ n2_ n3_ n4_; (try clear hb); (try clear hb2); (try clear hk); (try clear hi)) | ((with_reducible refine gate_dst (N := 48) rfl ?_); refine Kd.R_bytes _ 5 rfl (N := 48) rfl 9 43 _ rfl t143 rfl Try.underlying9 Try.underlying43 Try.underlying5 (ok := fun _ => True) trivial (of_decide_eq_true (by first | (with_reducible assumption) | assumption)) (Below.refl _ _) (Nat.le_refl _) ?_; intro v145 w43 ho44 hb hg_ hnew_; clear hg_ hnew_; (first | rw [← Ny144.out] at ho44 | (simp only [Int.reduceToNat] at ho44; rw [← Ny144.out] at ho44)); have n0_ := Aside0.mk (Kd.R_elder' (by (with_reducible repeat (first | apply Kd.R_alloc | apply Kd.R_drewN | apply Kd.R_drew)); exact HO_7.out) (Kd.R_base ho44) hb); have n1_ := Aside0.mk (Kd.R_elder' (by (with_reducible repeat (first | apply Kd.R_alloc | apply Kd.R_drewN | apply Kd.R_drew)); exact HO_8.out) (Kd.R_base ho44) hb); have n2_ := Aside0.mk (Kd.R_elder' (by (with_reducible repeat (first | apply Kd.R_alloc | apply Kd.R_drewN | apply Kd.R_drew)); exact HO_9.out) (Kd.R_base ho44) hb); have n3_ := Aside0.mk (Kd.R_elder' (by (with_reducible repeat (first | apply Kd.R_alloc | apply Kd.R_drewN | apply Kd.R_drew)); exact HO_10.out) (Kd.R_base ho44) hb); have n4_ := Aside0.mk (Kd.R_lower (Kd.R_new' (Kd.R_new' (Kd.R_new' (Kd.R_new' ho44 (Kd.R_lt (by (with_reducible repeat (first | apply Kd.R_alloc | apply Kd.R_drewN | apply Kd.R_drew)); exact HO_7.out))) (Kd.R_lt (by (with_reducible repeat (first | apply Kd.R_alloc | apply Kd.R_drewN | apply Kd.R_drew)); exact HO_8.out))) (Kd.R_lt (by (with_reducible repeat (first | apply Kd.R_alloc | apply Kd.R_drewN | apply Kd.R_drew)); exact HO_9.out))) (Kd.R_lt (by (with_reducible repeat (first | apply Kd.R_alloc | apply Kd.R_drewN | apply Kd.R_drew)); exact HO_10.out))) (below_size (by repeat (first | (with_reducible first | exact HB.out | apply below_alloc | apply pw_below_drewN | apply below_drew1) | exact HB.out)))); have n5_ := Aside0.mk (below_step (by repeat (first | (with_reducible first | exact HB.out | apply below_alloc | apply pw_below_drewN | apply below_drew1) | exact HB.out)) hb); clear HO_7; clear HO_8; clear HO_9; clear HO_10; clear HB; have HO_7 := n0_; have HO_8 := n1_; have HO_9 := n2_; have HO_10 := n3_; have HO146 := n4_; have HB := n5_; clear n0_ n1_ n2_ n3_ n4_ n5_; clear hb ho44; obtain ⟨Ao46, co46, eo46⟩ := Kd.R_slice HO146.out; subst eo46; have q45 : ((t128.length : Int) : Int) ≤ ((y144.length : Int) : Int) := of_decide_eq_true (by first | (with_reducible assumption) | assumption); obtain ⟨i045, hi045, _, hsz45, _⟩ := info_parts info5; have hroom45 : y144.length ≤ co46 := (Kd.R_reads' HO146.out).2.1; have hC45 : Kd.C (Kd.int .u8) _ Ao46 y144.length y144 := (Kd.R_reads' HO146.out).2.2; have hcut45 := cut_to (P := Try.prog) 43 5 .i64 Try.underlying43 hi045 Ao46 y144.length co46 (t128.length : Int) (of_decide_eq_true (by first | (with_reducible assumption) | assumption)) q45 hroom45; have hr45 := Kd.C_take (m := ((t128.length : Int) : Int).toNat) hC45 (by omega); have hy45 : y147.length = ((t128.length : Int) : Int).toNat := (by rw [Ny147.out, List.length_take]; omega); rw [← Ny147.out] at hr45; rw [← hy45] at hcut45; have HR150 := Aside0.mk hr45; have HC150 := Aside0.mk (show y147.length ≤ co46 from by omega); clear hr45 hC45 hroom45 hi045 hsz45; have KY45 := Aside0.mk hy45; clear hy45; have KL45 := Aside0.mk (show ((t128.length : Int) : Int).toNat ≤ y144.length from by omega); replace q45 := eq_true q45; obtain ⟨Ao47, co47, eo47⟩ := Kd.R_slice HO_8.out; subst eo47) | ((with_reducible refine gate_callee (f := 89) rfl ?_); refine goesL_ (some 51) rfl rfl Try.func89 (by kernel_rfl) rfl #[.slice Ao47 x8_1.length co47, .slice Ao46 y147.length co46] rfl (by (try simp only [List.map_toArray, List.map_cons, List.map_nil]); first | done | rfl | (simp only [List.length_drop, List.length_take]; rfl)) ?_; (with_reducible refine (spec_l3Xor.calls k1 _ _ x8_1 _ _ y147 t151 _ ?side1 ?side2 ?side3 ?side4 A20.out).mono ?_); (case side1 => repeat (first | exact (Kd.R_reads' HO_8.out).2.2 | (with_reducible refine Kd.C_alloc ?_ _) | (with_reducible refine Kd.C_drewN ?_ _) | (with_reducible refine Kd.C_drew ?_))); (case side2 => exact (Kd.R_reads' HO_8.out).2.1); (case side3 => repeat (first | exact (by repeat (first | (with_reducible exact HR150.out) | (with_reducible refine Kd.C_alloc ?_ _) | (with_reducible refine Kd.C_drewN ?_ _) | (with_reducible refine Kd.C_drew ?_) | exact HR150.out)) | (with_reducible refine Kd.C_alloc ?_ _) | (with_reducible refine Kd.C_drewN ?_ _) | (with_reducible refine Kd.C_drew ?_))); (case side4 => exact HC150.out); rintro e w48 ⟨v152, rfl, ho0, hb⟩; refine ⟨_, rfl, ?_⟩; have n0_ := Aside0.mk (Kd.R_elder' (by (with_reducible repeat (first | apply Kd.R_alloc | apply Kd.R_drewN | apply Kd.R_drew)); exact HO_7.out) (Kd.R_base ho0) hb); have n1_ := Aside0.mk (Kd.R_elder' (by (with_reducible repeat (first | apply Kd.R_alloc | apply Kd.R_drewN | apply Kd.R_drew)); exact HO_8.out) (Kd.R_base ho0) hb); have n2_ := Aside0.mk (Kd.R_elder' (by (with_reducible repeat (first | apply Kd.R_alloc | apply Kd.R_drewN | apply Kd.R_drew)); exact HO_9.out) (Kd.R_base ho0) hb); have n3_ := Aside0.mk (Kd.R_elder' (by (with_reducible repeat (first | apply Kd.R_alloc | apply Kd.R_drewN | apply Kd.R_drew)); exact HO_10.out) (Kd.R_base ho0) hb); have n4_ := Aside0.mk (Kd.R_elder' (by (with_reducible repeat (first | apply Kd.R_alloc | apply Kd.R_drewN | apply Kd.R_drew)); exact HO146.out) (Kd.R_base ho0) hb); have n5_ := Aside0.mk (Kd.R_lower (Kd.R_new' (Kd.R_new' (Kd.R_new' (Kd.R_new' (Kd.R_new' ho0 (Kd.R_lt (by (with_reducible repeat (first | apply Kd.R_alloc | apply Kd.R_drewN | apply Kd.R_drew)); exact HO_7.out))) (Kd.R_lt (by (with_reducible repeat (first | apply Kd.R_alloc | apply Kd.R_drewN | apply Kd.R_drew)); exact HO_8.out))) (Kd.R_lt (by (with_reducible repeat (first | apply Kd.R_alloc | apply Kd.R_drewN | apply Kd.R_drew)); exact HO_9.out))) (Kd.R_lt (by (with_reducible repeat (first | apply Kd.R_alloc | apply Kd.R_drewN | apply Kd.R_drew)); exact HO_10.out))) (Kd.R_lt (by (with_reducible repeat (first | apply Kd.R_alloc | apply Kd.R_drewN | apply Kd.R_drew)); exact HO146.out))) (below_size (by repeat (first | (with_reducible first | exact HB.out | apply below_alloc | apply pw_below_drewN | apply below_drew1) | exact HB.out)))); have n6_ := Aside0.mk (Kd.C_below (by repeat (first | (with_reducible exact HR150.out) | (with_reducible refine Kd.C_alloc ?_ _) | (with_reducible refine Kd.C_drewN ?_ _) | (with_reducible refine Kd.C_drew ?_) | exact HR150.out)) hb); have n7_ := Aside0.mk (below_step (by repeat (first | (with_reducible first | exact HB.out | apply below_alloc | apply pw_below_drewN | apply below_drew1) | exact HB.out)) hb); clear HO_7; clear HO_8; clear HO_9; clear HO_10; clear HO146; clear HR150; clear HB; have HO_7 := n0_; have HO_8 := n1_; have HO_9 := n2_; have HO_10 := n3_; have HO146 := n4_; have HO153 := n5_; have HR150 := n6_; have HB := n7_; clear n0_ n1_ n2_ n3_ n4_ n5_ n6_ n7_; (try clear hb); (try clear hb2); (try clear hk); (try clear hi); (try clear ho0)))
           go_roundg k1
           case measure => have := HK1.out; omega
           case rel => exact ⟨(x7_1), (t151), (x9_1), (x10_1), (wrap64 (x31_1 + 1)), (by first | rfl | (simp; done) | (simp [*]; done)), H', ⟨by have := HK1.out; omega⟩, ⟨by (with_reducible repeat (first | apply Kd.R_alloc | apply Kd.R_drewN | apply Kd.R_drew)); exact Kd.R_mono HO_7.out (fun _ hk => ⟨hk.2, ⟨hk.1.1.2.1, hk.1.1.2.2⟩⟩)⟩, ⟨by (with_reducible repeat (first | apply Kd.R_alloc | apply Kd.R_drewN | apply Kd.R_drew)); exact Kd.R_mono HO153.out (fun _ hk => ⟨hk.1.1.1.1.2, ⟨hk.1.1.2, hk.1.2⟩⟩)⟩, ⟨by (with_reducible repeat (first | apply Kd.R_alloc | apply Kd.R_drewN | apply Kd.R_drew)); exact Kd.R_mono HO_9.out (fun _ hk => ⟨hk.1.1.1, ⟨hk.2, hk.1.1.2.2⟩⟩)⟩, ⟨by (with_reducible repeat (first | apply Kd.R_alloc | apply Kd.R_drewN | apply Kd.R_drew)); exact Kd.R_mono HO_10.out (fun _ hk => ⟨hk.1.1.1, ⟨hk.2, hk.1.1.2.2⟩⟩)⟩, ⟨by repeat (first | (with_reducible first | exact HB.out | apply below_alloc | apply pw_below_drewN | apply below_drew1) | exact HB.out)⟩⟩
         ·rw [if_neg c19] at H
          exact absurd H (by simp)
        ·rw [if_neg c18] at H
         exact absurd H (by simp)
       ·rw [if_neg c17] at H
        exact absurd H (by simp)
      ·rw [if_neg c14] at H
       have c14b0 : ((Int.tmod (rd l2 x31_1) 2) == 1) = false := beq_eq_false_iff_ne.mpr c14
       have c14b1 : ((Int.tmod (rd l2 x31_1) 2) != 1) = true := bne_iff_ne.mpr c14
       replace H := Option.bind_eq_some_iff.mp H
       obtain ⟨t156, A490, H⟩ := H
       replace H : ((spec_l3With.f k1 x9_1 x10_1 t156).bind fun t157 => (if t157.size ≤ 9223372036854775807 then ((some (bytesOf t157 : List Int)).bind fun y158 => (if 0 ≤ (t128.length : Int) then (if (t128.length : Int) ≤ (y158.length : Int) then ((spec_l3Xor.f k1 x7_1 (y158.take ((t128.length : Int) : Int).toNat)).bind fun t165 => (if (((a1.size : Int) % 2) == 1) = true then (if 0 ≤ (wrap64 ((t128.length : Int) - 1)) then (if (wrap64 ((t128.length : Int) - 1)) < (t165.length : Int) then (spec_l7Passes.l0 k1 a1 (t165.set ((wrap64 ((t128.length : Int) - 1)) : Int).toNat (Go.bits .and .u8 (rd t165 (wrap64 ((t128.length : Int) - 1))) 240)) x8_1 x9_1 x10_1 (t128.length : Int) (((a1.size : Int) % 2) == 1) l2 (l2.length : Int) (wrap64 (x31_1 + 1))) else (none)) else (none)) else (spec_l7Passes.l0 k1 a1 t165 x8_1 x9_1 x10_1 (t128.length : Int) (((a1.size : Int) % 2) == 1) l2 (l2.length : Int) (wrap64 (x31_1 + 1))))) else (none)) else (none))) else (none))) = some r := H
       have A49 := Aside0.mk A490
       clear A490
       replace H := Option.bind_eq_some_iff.mp H
       obtain ⟨t157, A500, H⟩ := H
       replace H : (if t157.size ≤ 9223372036854775807 then ((some (bytesOf t157 : List Int)).bind fun y158 => (if 0 ≤ (t128.length : Int) then (if (t128.length : Int) ≤ (y158.length : Int) then ((spec_l3Xor.f k1 x7_1 (y158.take ((t128.length : Int) : Int).toNat)).bind fun t165 => (if (((a1.size : Int) % 2) == 1) = true then (if 0 ≤ (wrap64 ((t128.length : Int) - 1)) then (if (wrap64 ((t128.length : Int) - 1)) < (t165.length : Int) then (spec_l7Passes.l0 k1 a1 (t165.set ((wrap64 ((t128.length : Int) - 1)) : Int).toNat (Go.bits .and .u8 (rd t165 (wrap64 ((t128.length : Int) - 1))) 240)) x8_1 x9_1 x10_1 (t128.length : Int) (((a1.size : Int) % 2) == 1) l2 (l2.length : Int) (wrap64 (x31_1 + 1))) else (none)) else (none)) else (spec_l7Passes.l0 k1 a1 t165 x8_1 x9_1 x10_1 (t128.length : Int) (((a1.size : Int) % 2) == 1) l2 (l2.length : Int) (wrap64 (x31_1 + 1))))) else (none)) else (none))) else (none)) = some r := H
       have A50 := Aside0.mk A500
       clear A500
       by_cases c51 : t157.size ≤ 9223372036854775807
       ·rw [if_pos c51] at H
        have c51b0 := eq_true c51
        have c51b1 : decide (t157.size ≤ 9223372036854775807) = true := decide_eq_true c51
        try have c51b2 : (9223372036854775807 < t157.size) = False := eq_false (Nat.not_lt.2 c51)
        clear c51
        obtain ⟨y158, hy158⟩ : ∃ y_ : List Int, y_ = (bytesOf t157) := ⟨_, rfl⟩
        replace H : (if 0 ≤ (t128.length : Int) then (if (t128.length : Int) ≤ (y158.length : Int) then ((spec_l3Xor.f k1 x7_1 (y158.take ((t128.length : Int) : Int).toNat)).bind fun t165 => (if (((a1.size : Int) % 2) == 1) = true then (if 0 ≤ (wrap64 ((t128.length : Int) - 1)) then (if (wrap64 ((t128.length : Int) - 1)) < (t165.length : Int) then (spec_l7Passes.l0 k1 a1 (t165.set ((wrap64 ((t128.length : Int) - 1)) : Int).toNat (Go.bits .and .u8 (rd t165 (wrap64 ((t128.length : Int) - 1))) 240)) x8_1 x9_1 x10_1 (t128.length : Int) (((a1.size : Int) % 2) == 1) l2 (l2.length : Int) (wrap64 (x31_1 + 1))) else (none)) else (none)) else (spec_l7Passes.l0 k1 a1 t165 x8_1 x9_1 x10_1 (t128.length : Int) (((a1.size : Int) % 2) == 1) l2 (l2.length : Int) (wrap64 (x31_1 + 1))))) else (none)) else (none)) = some r := by first | (rw [hy158]; with_reducible exact H) | (have H2_ := (Option.bind_some _ _).symm.trans H; rw [hy158]; with_reducible exact H2_) | (have H2_ := (Option.bind_some _ _).symm.trans H; with_reducible exact H2_) | with_reducible exact H | (rw [hy158]; exact H) | exact H
        have Ny158 := Aside0.mk hy158
        clear hy158
        by_cases c52 : 0 ≤ (t128.length : Int)
        ·rw [if_pos c52] at H
         have c52b0 := eq_true c52
         have c52b1 : decide (0 ≤ (t128.length : Int)) = true := decide_eq_true c52
         clear c52
         by_cases c53 : (t128.length : Int) ≤ (y158.length : Int)
         ·rw [if_pos c53] at H
          have c53b0 := eq_true c53
          have c53b1 : decide ((t128.length : Int) ≤ (y158.length : Int)) = true := decide_eq_true c53
          clear c53
          obtain ⟨y161, hy161⟩ : ∃ y_ : List Int, y_ = (y158.take ((t128.length : Int) : Int).toNat) := ⟨_, rfl⟩
          replace H : ((spec_l3Xor.f k1 x7_1 y161).bind fun t165 => (if (((a1.size : Int) % 2) == 1) = true then (if 0 ≤ (wrap64 ((t128.length : Int) - 1)) then (if (wrap64 ((t128.length : Int) - 1)) < (t165.length : Int) then (spec_l7Passes.l0 k1 a1 (t165.set ((wrap64 ((t128.length : Int) - 1)) : Int).toNat (Go.bits .and .u8 (rd t165 (wrap64 ((t128.length : Int) - 1))) 240)) x8_1 x9_1 x10_1 (t128.length : Int) (((a1.size : Int) % 2) == 1) l2 (l2.length : Int) (wrap64 (x31_1 + 1))) else (none)) else (none)) else (spec_l7Passes.l0 k1 a1 t165 x8_1 x9_1 x10_1 (t128.length : Int) (((a1.size : Int) % 2) == 1) l2 (l2.length : Int) (wrap64 (x31_1 + 1))))) = some r := by first | (rw [hy161]; with_reducible exact H) | (have H2_ := (Option.bind_some _ _).symm.trans H; rw [hy161]; with_reducible exact H2_) | (have H2_ := (Option.bind_some _ _).symm.trans H; with_reducible exact H2_) | with_reducible exact H | (rw [hy161]; exact H) | exact H
          have Ny161 := Aside0.mk hy161
          clear hy161
          replace H := Option.bind_eq_some_iff.mp H
          obtain ⟨t165, A540, H⟩ := H
          replace H : (if (((a1.size : Int) % 2) == 1) = true then (if 0 ≤ (wrap64 ((t128.length : Int) - 1)) then (if (wrap64 ((t128.length : Int) - 1)) < (t165.length : Int) then (spec_l7Passes.l0 k1 a1 (t165.set ((wrap64 ((t128.length : Int) - 1)) : Int).toNat (Go.bits .and .u8 (rd t165 (wrap64 ((t128.length : Int) - 1))) 240)) x8_1 x9_1 x10_1 (t128.length : Int) (((a1.size : Int) % 2) == 1) l2 (l2.length : Int) (wrap64 (x31_1 + 1))) else (none)) else (none)) else (spec_l7Passes.l0 k1 a1 t165 x8_1 x9_1 x10_1 (t128.length : Int) (((a1.size : Int) % 2) == 1) l2 (l2.length : Int) (wrap64 (x31_1 + 1)))) = some r := H
          have A54 := Aside0.mk A540
          clear A540
          by_cases c55 : (((a1.size : Int) % 2) == 1) = true
          ·exact absurd (c55.symm.trans ho_) (by decide)
          ·rw [if_neg c55] at H
           have c55b0 : (((a1.size : Int) % 2) == 1) = false := by simpa using c55
           (try (have c55b1 : decide (((a1.size : Int) % 2) = 1) = false := by simpa using c55))
           (try (have c55b2 : (((a1.size : Int) % 2) == 1) = false := by simpa using c55))
           (try (have c55b3 : ¬ (((a1.size : Int) % 2) = 1) := by simpa using c55))
           clear c55
           have H' := Aside0.mk H
           clear H
           have p141 : 0 ≤ (x31_1 : Int) := of_decide_eq_true (by first | (with_reducible assumption) | assumption)
           have q141 : x31_1 < (l2.length : Int) := of_decide_eq_true (by first | (with_reducible assumption) | assumption)
           obtain ⟨ad141, e141, hx141_0⟩ := Kd.at_int HR2.out x31_1 p141 q141
           cases e141
           replace hx141_0 := (HB.out.cell (World.block_lt_of_cell? w _ hx141_0)).trans hx141_0
           replace p141 := eq_true p141
           replace q141 := eq_true q141
           have hcv74 := own_string (P := Try.prog) Try.underlying43 Try.underlying5 Try.underlying9 (Kd.own_of_R HO_8.out)
           go_wp2_with (first | ((with_reducible refine gate_callee (f := 108) rfl ?_); refine goesL_ (some 66) rfl rfl Try.func108 (by kernel_rfl) rfl #[.string (strOfNums x8_1), .int .i64 (a1.size : Int), .int .i64 (rd l2 x31_1)] rfl (by (try simp only [List.map_toArray, List.map_cons, List.map_nil]); first | done | rfl | (simp only [List.length_drop, List.length_take]; rfl)) ?_; (with_reducible refine (spec_l7Half.calls k1 (strOfNums x8_1) (a1.size : Int) (rd l2 x31_1) t156 _ A49.out).mono ?_); rintro e w75 ⟨rfl, hb⟩; refine ⟨_, rfl, ?_⟩; have n0_ := Aside0.mk (Kd.R_below (by (with_reducible repeat (first | apply Kd.R_alloc | apply Kd.R_drewN | apply Kd.R_drew)); exact HO_7.out) hb); have n1_ := Aside0.mk (Kd.R_below (by (with_reducible repeat (first | apply Kd.R_alloc | apply Kd.R_drewN | apply Kd.R_drew)); exact HO_8.out) hb); have n2_ := Aside0.mk (Kd.R_below (by (with_reducible repeat (first | apply Kd.R_alloc | apply Kd.R_drewN | apply Kd.R_drew)); exact HO_9.out) hb); have n3_ := Aside0.mk (Kd.R_below (by (with_reducible repeat (first | apply Kd.R_alloc | apply Kd.R_drewN | apply Kd.R_drew)); exact HO_10.out) hb); have n4_ := Aside0.mk (below_step (by repeat (first | (with_reducible first | exact HB.out | apply below_alloc | apply pw_below_drewN | apply below_drew1) | exact HB.out)) hb); clear HO_7; clear HO_8; clear HO_9; clear HO_10; clear HB; have HO_7 := n0_; have HO_8 := n1_; have HO_9 := n2_; have HO_10 := n3_; have HB := n4_; clear n0_ n1_ n2_ n3_ n4_; (try clear hb); (try clear hb2); (try clear hk); (try clear hi); obtain ⟨Ao76, co76, eo76⟩ := Kd.R_slice HO_9.out; subst eo76; obtain ⟨Ao77, co77, eo77⟩ := Kd.R_slice HO_10.out; subst eo77) | ((with_reducible refine gate_callee (f := 93) rfl ?_); refine goesL_ (some 67) rfl rfl Try.func93 (by kernel_rfl) rfl #[.slice Ao76 x9_1.length co76, .slice Ao77 x10_1.length co77, .string t156] rfl (by (try simp only [List.map_toArray, List.map_cons, List.map_nil]); first | done | rfl | (simp only [List.length_drop, List.length_take]; rfl)) ?_; (with_reducible refine (spec_l3With.calls k1 _ _ x9_1 _ _ x10_1 t156 t157 _ ?side1 ?side2 ?side3 ?side4 A50.out).mono ?_); (case side1 => repeat (first | exact (Kd.R_reads' HO_9.out).2.2 | (with_reducible refine Kd.C_alloc ?_ _) | (with_reducible refine Kd.C_drewN ?_ _) | (with_reducible refine Kd.C_drew ?_))); (case side2 => exact (Kd.R_reads' HO_9.out).2.1); (case side3 => repeat (first | exact (Kd.R_reads' HO_10.out).2.2 | (with_reducible refine Kd.C_alloc ?_ _) | (with_reducible refine Kd.C_drewN ?_ _) | (with_reducible refine Kd.C_drew ?_))); (case side4 => exact (Kd.R_reads' HO_10.out).2.1); rintro e w78 ⟨rfl, hb⟩; refine ⟨_, rfl, ?_⟩; have n0_ := Aside0.mk (Kd.R_below (by (with_reducible repeat (first | apply Kd.R_alloc | apply Kd.R_drewN | apply Kd.R_drew)); exact HO_7.out) hb); have n1_ := Aside0.mk (Kd.R_below (by (with_reducible repeat (first | apply Kd.R_alloc | apply Kd.R_drewN | apply Kd.R_drew)); exact HO_8.out) hb); have n2_ := Aside0.mk (Kd.R_below (by (with_reducible repeat (first | apply Kd.R_alloc | apply Kd.R_drewN | apply Kd.R_drew)); exact HO_9.out) hb); have n3_ := Aside0.mk (Kd.R_below (by (with_reducible repeat (first | apply Kd.R_alloc | apply Kd.R_drewN | apply Kd.R_drew)); exact HO_10.out) hb); have n4_ := Aside0.mk (below_step (by repeat (first | (with_reducible first | exact HB.out | apply below_alloc | apply pw_below_drewN | apply below_drew1) | exact HB.out)) hb); clear HO_7; clear HO_8; clear HO_9; clear HO_10; clear HB; have HO_7 := n0_; have HO_8 := n1_; have HO_9 := n2_; have HO_10 := n3_; have HB := n4_; clear n0_ n1_ n2_ n3_ n4_; (try clear hb); (try clear hb2); (try clear hk); (try clear hi)) | ((with_reducible refine gate_dst (N := 68) rfl ?_); refine Kd.R_bytes _ 5 rfl (N := 68) rfl 9 43 _ rfl t157 rfl Try.underlying9 Try.underlying43 Try.underlying5 (ok := fun _ => True) trivial (of_decide_eq_true (by first | (with_reducible assumption) | assumption)) (Below.refl _ _) (Nat.le_refl _) ?_; intro v159 w79 ho80 hb hg_ hnew_; clear hg_ hnew_; (first | rw [← Ny158.out] at ho80 | (simp only [Int.reduceToNat] at ho80; rw [← Ny158.out] at ho80)); have n0_ := Aside0.mk (Kd.R_elder' (by (with_reducible repeat (first | apply Kd.R_alloc | apply Kd.R_drewN | apply Kd.R_drew)); exact HO_7.out) (Kd.R_base ho80) hb); have n1_ := Aside0.mk (Kd.R_elder' (by (with_reducible repeat (first | apply Kd.R_alloc | apply Kd.R_drewN | apply Kd.R_drew)); exact HO_8.out) (Kd.R_base ho80) hb); have n2_ := Aside0.mk (Kd.R_elder' (by (with_reducible repeat (first | apply Kd.R_alloc | apply Kd.R_drewN | apply Kd.R_drew)); exact HO_9.out) (Kd.R_base ho80) hb); have n3_ := Aside0.mk (Kd.R_elder' (by (with_reducible repeat (first | apply Kd.R_alloc | apply Kd.R_drewN | apply Kd.R_drew)); exact HO_10.out) (Kd.R_base ho80) hb); have n4_ := Aside0.mk (Kd.R_lower (Kd.R_new' (Kd.R_new' (Kd.R_new' (Kd.R_new' ho80 (Kd.R_lt (by (with_reducible repeat (first | apply Kd.R_alloc | apply Kd.R_drewN | apply Kd.R_drew)); exact HO_7.out))) (Kd.R_lt (by (with_reducible repeat (first | apply Kd.R_alloc | apply Kd.R_drewN | apply Kd.R_drew)); exact HO_8.out))) (Kd.R_lt (by (with_reducible repeat (first | apply Kd.R_alloc | apply Kd.R_drewN | apply Kd.R_drew)); exact HO_9.out))) (Kd.R_lt (by (with_reducible repeat (first | apply Kd.R_alloc | apply Kd.R_drewN | apply Kd.R_drew)); exact HO_10.out))) (below_size (by repeat (first | (with_reducible first | exact HB.out | apply below_alloc | apply pw_below_drewN | apply below_drew1) | exact HB.out)))); have n5_ := Aside0.mk (below_step (by repeat (first | (with_reducible first | exact HB.out | apply below_alloc | apply pw_below_drewN | apply below_drew1) | exact HB.out)) hb); clear HO_7; clear HO_8; clear HO_9; clear HO_10; clear HB; have HO_7 := n0_; have HO_8 := n1_; have HO_9 := n2_; have HO_10 := n3_; have HO160 := n4_; have HB := n5_; clear n0_ n1_ n2_ n3_ n4_ n5_; clear hb ho80; obtain ⟨Ao82, co82, eo82⟩ := Kd.R_slice HO160.out; subst eo82; have q81 : ((t128.length : Int) : Int) ≤ ((y158.length : Int) : Int) := of_decide_eq_true (by first | (with_reducible assumption) | assumption); obtain ⟨i081, hi081, _, hsz81, _⟩ := info_parts info5; have hroom81 : y158.length ≤ co82 := (Kd.R_reads' HO160.out).2.1; have hC81 : Kd.C (Kd.int .u8) _ Ao82 y158.length y158 := (Kd.R_reads' HO160.out).2.2; have hcut81 := cut_to (P := Try.prog) 43 5 .i64 Try.underlying43 hi081 Ao82 y158.length co82 (t128.length : Int) (of_decide_eq_true (by first | (with_reducible assumption) | assumption)) q81 hroom81; have hr81 := Kd.C_take (m := ((t128.length : Int) : Int).toNat) hC81 (by omega); have hy81 : y161.length = ((t128.length : Int) : Int).toNat := (by rw [Ny161.out, List.length_take]; omega); rw [← Ny161.out] at hr81; rw [← hy81] at hcut81; have HR164 := Aside0.mk hr81; have HC164 := Aside0.mk (show y161.length ≤ co82 from by omega); clear hr81 hC81 hroom81 hi081 hsz81; have KY81 := Aside0.mk hy81; clear hy81; have KL81 := Aside0.mk (show ((t128.length : Int) : Int).toNat ≤ y158.length from by omega); replace q81 := eq_true q81; obtain ⟨Ao83, co83, eo83⟩ := Kd.R_slice HO_7.out; subst eo83) | ((with_reducible refine gate_callee (f := 89) rfl ?_); refine goesL_ (some 71) rfl rfl Try.func89 (by kernel_rfl) rfl #[.slice Ao83 x7_1.length co83, .slice Ao82 y161.length co82] rfl (by (try simp only [List.map_toArray, List.map_cons, List.map_nil]); first | done | rfl | (simp only [List.length_drop, List.length_take]; rfl)) ?_; (with_reducible refine (spec_l3Xor.calls k1 _ _ x7_1 _ _ y161 t165 _ ?side1 ?side2 ?side3 ?side4 A54.out).mono ?_); (case side1 => repeat (first | exact (Kd.R_reads' HO_7.out).2.2 | (with_reducible refine Kd.C_alloc ?_ _) | (with_reducible refine Kd.C_drewN ?_ _) | (with_reducible refine Kd.C_drew ?_))); (case side2 => exact (Kd.R_reads' HO_7.out).2.1); (case side3 => repeat (first | exact (by repeat (first | (with_reducible exact HR164.out) | (with_reducible refine Kd.C_alloc ?_ _) | (with_reducible refine Kd.C_drewN ?_ _) | (with_reducible refine Kd.C_drew ?_) | exact HR164.out)) | (with_reducible refine Kd.C_alloc ?_ _) | (with_reducible refine Kd.C_drewN ?_ _) | (with_reducible refine Kd.C_drew ?_))); (case side4 => exact HC164.out); rintro e w84 ⟨v166, rfl, ho0, hb⟩; refine ⟨_, rfl, ?_⟩; have n0_ := Aside0.mk (Kd.R_elder' (by (with_reducible repeat (first | apply Kd.R_alloc | apply Kd.R_drewN | apply Kd.R_drew)); exact HO_7.out) (Kd.R_base ho0) hb); have n1_ := Aside0.mk (Kd.R_elder' (by (with_reducible repeat (first | apply Kd.R_alloc | apply Kd.R_drewN | apply Kd.R_drew)); exact HO_8.out) (Kd.R_base ho0) hb); have n2_ := Aside0.mk (Kd.R_elder' (by (with_reducible repeat (first | apply Kd.R_alloc | apply Kd.R_drewN | apply Kd.R_drew)); exact HO_9.out) (Kd.R_base ho0) hb); have n3_ := Aside0.mk (Kd.R_elder' (by (with_reducible repeat (first | apply Kd.R_alloc | apply Kd.R_drewN | apply Kd.R_drew)); exact HO_10.out) (Kd.R_base ho0) hb); have n4_ := Aside0.mk (Kd.R_elder' (by (with_reducible repeat (first | apply Kd.R_alloc | apply Kd.R_drewN | apply Kd.R_drew)); exact HO160.out) (Kd.R_base ho0) hb); have n5_ := Aside0.mk (Kd.R_lower (Kd.R_new' (Kd.R_new' (Kd.R_new' (Kd.R_new' (Kd.R_new' ho0 (Kd.R_lt (by (with_reducible repeat (first | apply Kd.R_alloc | apply Kd.R_drewN | apply Kd.R_drew)); exact HO_7.out))) (Kd.R_lt (by (with_reducible repeat (first | apply Kd.R_alloc | apply Kd.R_drewN | apply Kd.R_drew)); exact HO_8.out))) (Kd.R_lt (by (with_reducible repeat (first | apply Kd.R_alloc | apply Kd.R_drewN | apply Kd.R_drew)); exact HO_9.out))) (Kd.R_lt (by (with_reducible repeat (first | apply Kd.R_alloc | apply Kd.R_drewN | apply Kd.R_drew)); exact HO_10.out))) (Kd.R_lt (by (with_reducible repeat (first | apply Kd.R_alloc | apply Kd.R_drewN | apply Kd.R_drew)); exact HO160.out))) (below_size (by repeat (first | (with_reducible first | exact HB.out | apply below_alloc | apply pw_below_drewN | apply below_drew1) | exact HB.out)))); have n6_ := Aside0.mk (Kd.C_below (by repeat (first | (with_reducible exact HR164.out) | (with_reducible refine Kd.C_alloc ?_ _) | (with_reducible refine Kd.C_drewN ?_ _) | (with_reducible refine Kd.C_drew ?_) | exact HR164.out)) hb); have n7_ := Aside0.mk (below_step (by repeat (first | (with_reducible first | exact HB.out | apply below_alloc | apply pw_below_drewN | apply below_drew1) | exact HB.out)) hb); clear HO_7; clear HO_8; clear HO_9; clear HO_10; clear HO160; clear HR164; clear HB; have HO_7 := n0_; have HO_8 := n1_; have HO_9 := n2_; have HO_10 := n3_; have HO160 := n4_; have HO167 := n5_; have HR164 := n6_; have HB := n7_; clear n0_ n1_ n2_ n3_ n4_ n5_ n6_ n7_; (try clear hb); (try clear hb2); (try clear hk); (try clear hi); (try clear ho0)))
           go_roundg k1
           case measure => have := HK1.out; omega
           case rel => exact ⟨(t165), (x8_1), (x9_1), (x10_1), (wrap64 (x31_1 + 1)), (by first | rfl | (simp; done) | (simp [*]; done)), H', ⟨by have := HK1.out; omega⟩, ⟨by (with_reducible repeat (first | apply Kd.R_alloc | apply Kd.R_drewN | apply Kd.R_drew)); exact Kd.R_mono HO167.out (fun _ hk => ⟨hk.1.1.1.2, ⟨hk.1.1.2, hk.1.2⟩⟩)⟩, ⟨by (with_reducible repeat (first | apply Kd.R_alloc | apply Kd.R_drewN | apply Kd.R_drew)); exact Kd.R_mono HO_8.out (fun _ hk => ⟨hk.2, ⟨hk.1.1.2.1, hk.1.1.2.2⟩⟩)⟩, ⟨by (with_reducible repeat (first | apply Kd.R_alloc | apply Kd.R_drewN | apply Kd.R_drew)); exact Kd.R_mono HO_9.out (fun _ hk => ⟨hk.2, ⟨hk.1.1.2.1, hk.1.1.2.2⟩⟩)⟩, ⟨by (with_reducible repeat (first | apply Kd.R_alloc | apply Kd.R_drewN | apply Kd.R_drew)); exact Kd.R_mono HO_10.out (fun _ hk => ⟨hk.2, ⟨hk.1.1.2.1, hk.1.1.2.2⟩⟩)⟩, ⟨by repeat (first | (with_reducible first | exact HB.out | apply below_alloc | apply pw_below_drewN | apply below_drew1) | exact HB.out)⟩⟩
         ·rw [if_neg c53] at H
          exact absurd H (by simp)
        ·rw [if_neg c52] at H
         exact absurd H (by simp)
       ·rw [if_neg c51] at H
        exact absurd H (by simp)
     ·rw [if_neg c13] at H
      exact absurd H (by simp)
    ·rw [if_neg c12] at H
     exact absurd H (by simp)
   ·rw [if_neg c11] at H
    have c11b0 : decide (x31_1 < (l2.length : Int)) = false := decide_eq_false c11
    clear c11
    replace H := Option.bind_eq_some_iff.mp H
    obtain ⟨t140, A850, H⟩ := H
    replace H : (some t140) = some r := H
    have A85 := Aside0.mk A850
    clear A850
    obtain rfl := Option.some.inj H
    obtain ⟨Ao86, co86, eo86⟩ := Kd.R_slice HO_7.out
    subst eo86
    obtain ⟨Ao87, co87, eo87⟩ := Kd.R_slice HO_8.out
    subst eo87
    go_wp2_with (first | ((with_reducible refine gate_callee (f := 109) rfl ?_); refine goesL_ (some 85) rfl rfl Try.func109 (by kernel_rfl) rfl #[.slice Ao86 x7_1.length co86, .slice Ao87 x8_1.length co87, .int .i64 (a1.size : Int)] rfl (by (try simp only [List.map_toArray, List.map_cons, List.map_nil]); first | done | rfl | (simp only [List.length_drop, List.length_take]; rfl)) ?_; (with_reducible refine (spec_l7Join.calls _ _ x7_1 _ _ x8_1 (a1.size : Int) t140 _ ?side1 ?side2 ?side3 ?side4 A85.out).mono ?_); (case side1 => repeat (first | exact (Kd.R_reads' HO_7.out).2.2 | (with_reducible refine Kd.C_alloc ?_ _) | (with_reducible refine Kd.C_drewN ?_ _) | (with_reducible refine Kd.C_drew ?_))); (case side2 => exact (Kd.R_reads' HO_7.out).2.1); (case side3 => repeat (first | exact (Kd.R_reads' HO_8.out).2.2 | (with_reducible refine Kd.C_alloc ?_ _) | (with_reducible refine Kd.C_drewN ?_ _) | (with_reducible refine Kd.C_drew ?_))); (case side4 => exact (Kd.R_reads' HO_8.out).2.1); rintro e w88 ⟨rfl, hb⟩; refine ⟨_, rfl, ?_⟩; have n0_ := Aside0.mk (Kd.R_below (by (with_reducible repeat (first | apply Kd.R_alloc | apply Kd.R_drewN | apply Kd.R_drew)); exact HO_7.out) hb); have n1_ := Aside0.mk (Kd.R_below (by (with_reducible repeat (first | apply Kd.R_alloc | apply Kd.R_drewN | apply Kd.R_drew)); exact HO_8.out) hb); have n2_ := Aside0.mk (Kd.R_below (by (with_reducible repeat (first | apply Kd.R_alloc | apply Kd.R_drewN | apply Kd.R_drew)); exact HO_9.out) hb); have n3_ := Aside0.mk (Kd.R_below (by (with_reducible repeat (first | apply Kd.R_alloc | apply Kd.R_drewN | apply Kd.R_drew)); exact HO_10.out) hb); have n4_ := Aside0.mk (below_step (by repeat (first | (with_reducible first | exact HB.out | apply below_alloc | apply pw_below_drewN | apply below_drew1) | exact HB.out)) hb); clear HO_7; clear HO_8; clear HO_9; clear HO_10; clear HB; have HO_7 := n0_; have HO_8 := n1_; have HO_9 := n2_; have HO_10 := n3_; have HB := n4_; clear n0_ n1_ n2_ n3_ n4_; (try clear hb); (try clear hb2); (try clear hk); (try clear hi)))
    go_ret
    exact ⟨by first | rfl | (simp [errW_none, errW_some] <;> rfl) | (simp [*, errW_none, errW_some] <;> rfl), by repeat (first | (with_reducible first | exact HB.out | apply below_alloc | apply pw_below_drewN | apply below_drew1) | exact HB.out)⟩
theorem spec_l7Passes.calls (k : Nat) (a0 : ByteArray) (a1 : ByteArray) (A2 : Option Addr) (c2 : Nat) (l2 : List Int) (r : ByteArray) (w : World) (hr2 : Kd.C (Kd.int .i64) w A2 l2.length l2) (hc2 : l2.length ≤ c2) (h : spec_l7Passes.f k a0 a1 l2 = some r) :
  Calls Try.prog 72 #[.string a0, .string a1, .slice A2 l2.length c2] w fun e w' => e = .returned (.string r) ∧ Below w.heap.size w w' := by
 cases ho_ : (((a1.size : Int) % 2) == 1) with
 | true => exact spec_l7Passes.calls_true k a0 a1 A2 c2 l2 r w hr2 hc2 h ho_
 | false => exact spec_l7Passes.calls_false k a0 a1 A2 c2 l2 r w hr2 hc2 h ho_

end Go.Proofs.Ytimokakcdmcnnaa.PSpecC
