-- SHRUNK. LAID BY A PROGRAM OF THIS SESSION (wip/tools/myprint.py) over the kit's print.
import Derived.Test.YtimokakcdmcnnaaPSpecCx0
namespace Go.Proofs.Ytimokakcdmcnnaa.PSpecC
open Go.RowKit Go.Proofs.YtimokakcdmcnnaaV.PrintWords Go.Proofs.YtimokakcdmcnnaaV.PrintLast Go.Proofs.YtimokakcdmcnnaaV.PrintMore
attribute [local go_sem] max2_int min2_int max_two min_two max_three min_three max_four min_four   -- for this text's walks alone
set_option linter.unusedVariables false
set_option linter.unusedSimpArgs false

/-! ### spec_l3Keys: function 52 -/
abbrev spec_l3Keys.f (k : Nat) (a0 : ByteArray) : Option (List Int) := Go.Proofs.Ytimokakcdmcnnaa.PSpecA.spec_l3Keys.f k a0
theorem spec_l3Keys.calls (k : Nat) (a0 : ByteArray) (r : List Int) (w : World) (h : spec_l3Keys.f k a0 = some r) :
  Calls Try.prog 52 #[.string a0] w fun e w' => ∃ v0_ : Value, e = .returned (v0_) ∧ Kd.R (Kd.int .u8) 5 w' w.heap.size (fun _ => True) v0_ r ∧ Below w.heap.size w w' := Go.Proofs.Ytimokakcdmcnnaa.PSpecA.spec_l3Keys.calls k a0 r w h

/-! ### spec_l3Xor: function 89 -/
abbrev spec_l3Xor.f (k : Nat) (l0 : List Int) (l1 : List Int) : Option (List Int) := Go.Proofs.Ytimokakcdmcnnaa.PSpecA.spec_l3Xor.f k l0 l1
theorem spec_l3Xor.calls (k : Nat) (A0 : Option Addr) (c0 : Nat) (l0 : List Int) (A1 : Option Addr) (c1 : Nat) (l1 : List Int) (r : List Int) (w : World) (hr0 : Kd.C (Kd.int .u8) w A0 l0.length l0) (hc0 : l0.length ≤ c0) (hr1 : Kd.C (Kd.int .u8) w A1 l1.length l1) (hc1 : l1.length ≤ c1) (h : spec_l3Xor.f k l0 l1 = some r) :
  Calls Try.prog 89 #[.slice A0 l0.length c0, .slice A1 l1.length c1] w fun e w' => ∃ v0_ : Value, e = .returned (v0_) ∧ Kd.R (Kd.int .u8) 5 w' w.heap.size (fun _ => True) v0_ r ∧ Below w.heap.size w w' := Go.Proofs.Ytimokakcdmcnnaa.PSpecA.spec_l3Xor.calls k A0 c0 l0 A1 c1 l1 r w hr0 hc0 hr1 hc1 h

/-! ### spec_l3With: function 93 -/
abbrev spec_l3With.f (k : Nat) (l0 : List Int) (l1 : List Int) (a2 : ByteArray) : Option (ByteArray) := Go.Proofs.Ytimokakcdmcnnaa.PSpecA.spec_l3With.f k l0 l1 a2
theorem spec_l3With.calls (k : Nat) (A0 : Option Addr) (c0 : Nat) (l0 : List Int) (A1 : Option Addr) (c1 : Nat) (l1 : List Int) (a2 : ByteArray) (r : ByteArray) (w : World) (hr0 : Kd.C (Kd.int .u8) w A0 l0.length l0) (hc0 : l0.length ≤ c0) (hr1 : Kd.C (Kd.int .u8) w A1 l1.length l1) (hc1 : l1.length ≤ c1) (h : spec_l3With.f k l0 l1 a2 = some r) :
  Calls Try.prog 93 #[.slice A0 l0.length c0, .slice A1 l1.length c1, .string a2] w fun e w' => e = .returned (.string r) ∧ Below w.heap.size w w' := Go.Proofs.Ytimokakcdmcnnaa.PSpecA.spec_l3With.calls k A0 c0 l0 A1 c1 l1 a2 r w hr0 hc0 hr1 hc1 h

/-! ### spec_l3Table: function 94 -/
abbrev spec_l3Table.f (k : Nat)  : Option (List Int) := Go.Proofs.Ytimokakcdmcnnaa.PSpecA.spec_l3Table.f k
theorem spec_l3Table.calls (k : Nat)  (r : List Int) (w : World) (h : spec_l3Table.f k  = some r) :
  Calls Try.prog 94 #[] w fun e w' => ∃ v0_ : Value, e = .returned (v0_) ∧ Kd.R (Kd.int .u8) 5 w' w.heap.size (fun _ => True) v0_ r ∧ Below w.heap.size w w' := Go.Proofs.Ytimokakcdmcnnaa.PSpecA.spec_l3Table.calls k r w h

/-! ### spec_l7Cut: function 107 -/
def spec_l7Cut.f (a0 : ByteArray) : Option (List Int × List Int) := if 0 ≤ (wrap64 (Int.tdiv (wrap64 ((a0.size : Int) + 1)) 2)) then (if (wrap64 (Int.tdiv (wrap64 ((a0.size : Int) + 1)) 2)) ≤ (a0.size : Int) then (if (a0.extract 0 ((wrap64 (Int.tdiv (wrap64 ((a0.size : Int) + 1)) 2)) : Int).toNat).size ≤ 9223372036854775807 then ((some (bytesOf (a0.extract 0 ((wrap64 (Int.tdiv (wrap64 ((a0.size : Int) + 1)) 2)) : Int).toNat) : List Int)).bind fun y101 => (if 0 ≤ (wrap64 ((a0.size : Int) - (wrap64 (Int.tdiv (wrap64 ((a0.size : Int) + 1)) 2)))) then (if (wrap64 ((a0.size : Int) - (wrap64 (Int.tdiv (wrap64 ((a0.size : Int) + 1)) 2)))) ≤ (a0.size : Int) then (if (a0.extract ((wrap64 ((a0.size : Int) - (wrap64 (Int.tdiv (wrap64 ((a0.size : Int) + 1)) 2)))) : Int).toNat a0.size).size ≤ 9223372036854775807 then ((some (bytesOf (a0.extract ((wrap64 ((a0.size : Int) - (wrap64 (Int.tdiv (wrap64 ((a0.size : Int) + 1)) 2)))) : Int).toNat a0.size) : List Int)).bind fun y104 => (if ((a0.size : Int) % 2) = 1 then (if 0 ≤ (wrap64 ((wrap64 (Int.tdiv (wrap64 ((a0.size : Int) + 1)) 2)) - 1)) then (if (wrap64 ((wrap64 (Int.tdiv (wrap64 ((a0.size : Int) + 1)) 2)) - 1)) < (y101.length : Int) then (if 0 < (y104.length : Int) then (some ((y101.set ((wrap64 ((wrap64 (Int.tdiv (wrap64 ((a0.size : Int) + 1)) 2)) - 1)) : Int).toNat (Go.bits .and .u8 (rd y101 (wrap64 ((wrap64 (Int.tdiv (wrap64 ((a0.size : Int) + 1)) 2)) - 1))) 240)), (y104.set (0 : Int).toNat (Go.bits .and .u8 (rd y104 0) 15)))) else (none)) else (none)) else (none)) else (some (y101, y104)))) else (none)) else (none)) else (none))) else (none)) else (none)) else (none)
set_option maxHeartbeats 8000000 in
set_option maxRecDepth 100000 in
theorem spec_l7Cut.calls (a0 : ByteArray) (r1 : List Int) (r2 : List Int) (w : World) (h : spec_l7Cut.f a0 = some (r1, r2)) :
  Calls Try.prog 107 #[.string a0] w fun e w' => ∃ v0_ v1_ : Value, e = .returned (.tuple #[v0_, v1_]) ∧ Kd.R (Kd.int .u8) 5 w' w.heap.size (fun k_ => some k_ ≠ (v1_ : Value).ownBlock) v0_ r1 ∧ Kd.R (Kd.int .u8) 5 w' w.heap.size (fun k_ => some k_ ≠ (v0_ : Value).ownBlock) v1_ r2 ∧ Below w.heap.size w w' := by
 have HB := Aside0.mk (Below.refl w.heap.size w)
 have H : (if 0 ≤ (wrap64 (Int.tdiv (wrap64 ((a0.size : Int) + 1)) 2)) then (if (wrap64 (Int.tdiv (wrap64 ((a0.size : Int) + 1)) 2)) ≤ (a0.size : Int) then (if (a0.extract 0 ((wrap64 (Int.tdiv (wrap64 ((a0.size : Int) + 1)) 2)) : Int).toNat).size ≤ 9223372036854775807 then ((some (bytesOf (a0.extract 0 ((wrap64 (Int.tdiv (wrap64 ((a0.size : Int) + 1)) 2)) : Int).toNat) : List Int)).bind fun y101 => (if 0 ≤ (wrap64 ((a0.size : Int) - (wrap64 (Int.tdiv (wrap64 ((a0.size : Int) + 1)) 2)))) then (if (wrap64 ((a0.size : Int) - (wrap64 (Int.tdiv (wrap64 ((a0.size : Int) + 1)) 2)))) ≤ (a0.size : Int) then (if (a0.extract ((wrap64 ((a0.size : Int) - (wrap64 (Int.tdiv (wrap64 ((a0.size : Int) + 1)) 2)))) : Int).toNat a0.size).size ≤ 9223372036854775807 then ((some (bytesOf (a0.extract ((wrap64 ((a0.size : Int) - (wrap64 (Int.tdiv (wrap64 ((a0.size : Int) + 1)) 2)))) : Int).toNat a0.size) : List Int)).bind fun y104 => (if ((a0.size : Int) % 2) = 1 then (if 0 ≤ (wrap64 ((wrap64 (Int.tdiv (wrap64 ((a0.size : Int) + 1)) 2)) - 1)) then (if (wrap64 ((wrap64 (Int.tdiv (wrap64 ((a0.size : Int) + 1)) 2)) - 1)) < (y101.length : Int) then (if 0 < (y104.length : Int) then (some ((y101.set ((wrap64 ((wrap64 (Int.tdiv (wrap64 ((a0.size : Int) + 1)) 2)) - 1)) : Int).toNat (Go.bits .and .u8 (rd y101 (wrap64 ((wrap64 (Int.tdiv (wrap64 ((a0.size : Int) + 1)) 2)) - 1))) 240)), (y104.set (0 : Int).toNat (Go.bits .and .u8 (rd y104 0) 15)))) else (none)) else (none)) else (none)) else (some (y101, y104)))) else (none)) else (none)) else (none))) else (none)) else (none)) else (none)) = some (r1, r2) := h
 clear h
 obtain ⟨ji2, hji2⟩ : ∃ j_ : Int, (wrap64 (Int.tdiv (wrap64 ((a0.size : Int) + 1)) 2)) = j_ := ⟨_, rfl⟩
 replace H : (if 0 ≤ (ji2) then (if (ji2) ≤ (a0.size : Int) then (if (a0.extract 0 ((ji2) : Int).toNat).size ≤ 9223372036854775807 then ((some (bytesOf (a0.extract 0 ((ji2) : Int).toNat) : List Int)).bind fun y101 => (if 0 ≤ (wrap64 ((a0.size : Int) - (ji2))) then (if (wrap64 ((a0.size : Int) - (ji2))) ≤ (a0.size : Int) then (if (a0.extract ((wrap64 ((a0.size : Int) - (ji2))) : Int).toNat a0.size).size ≤ 9223372036854775807 then ((some (bytesOf (a0.extract ((wrap64 ((a0.size : Int) - (ji2))) : Int).toNat a0.size) : List Int)).bind fun y104 => (if ((a0.size : Int) % 2) = 1 then (if 0 ≤ (wrap64 ((ji2) - 1)) then (if (wrap64 ((ji2) - 1)) < (y101.length : Int) then (if 0 < (y104.length : Int) then (some ((y101.set ((wrap64 ((ji2) - 1)) : Int).toNat (Go.bits .and .u8 (rd y101 (wrap64 ((ji2) - 1))) 240)), (y104.set (0 : Int).toNat (Go.bits .and .u8 (rd y104 0) 15)))) else (none)) else (none)) else (none)) else (some (y101, y104)))) else (none)) else (none)) else (none))) else (none)) else (none)) else (none)) = some (r1, r2) := by first | (rw [hji2] at H; exact H) | (simp only [hji2] at H ⊢; exact H)
 have hji2w : (IntKind.i64.wrap (Int.tdiv (wrap64 ((a0.size : Int) + 1)) 2)) = ji2 := (i64_w _).trans hji2
 by_cases c3 : 0 ≤ (ji2)
 ·rw [if_pos c3] at H
  have c3b0 := eq_true c3
  have c3b1 : decide (0 ≤ (ji2)) = true := decide_eq_true c3
  clear c3
  by_cases c4 : (ji2) ≤ (a0.size : Int)
  ·rw [if_pos c4] at H
   have c4b0 := eq_true c4
   have c4b1 : decide ((ji2) ≤ (a0.size : Int)) = true := decide_eq_true c4
   clear c4
   by_cases c5 : (a0.extract 0 ((ji2) : Int).toNat).size ≤ 9223372036854775807
   ·rw [if_pos c5] at H
    have c5b0 := eq_true c5
    have c5b1 : decide ((a0.extract 0 ((ji2) : Int).toNat).size ≤ 9223372036854775807) = true := decide_eq_true c5
    try have c5b2 : (9223372036854775807 < (a0.extract 0 ((ji2) : Int).toNat).size) = False := eq_false (Nat.not_lt.2 c5)
    try (have c5b2z := c5b2; simp only [ByteArray.size_append, ByteArray.size_extract] at c5b2z; try simp only [Nat.sub_zero] at c5b2z)
    clear c5
    obtain ⟨y101, hy101⟩ : ∃ y_ : List Int, y_ = (bytesOf (a0.extract 0 ((ji2) : Int).toNat)) := ⟨_, rfl⟩
    replace H : (if 0 ≤ (wrap64 ((a0.size : Int) - (ji2))) then (if (wrap64 ((a0.size : Int) - (ji2))) ≤ (a0.size : Int) then (if (a0.extract ((wrap64 ((a0.size : Int) - (ji2))) : Int).toNat a0.size).size ≤ 9223372036854775807 then ((some (bytesOf (a0.extract ((wrap64 ((a0.size : Int) - (ji2))) : Int).toNat a0.size) : List Int)).bind fun y104 => (if ((a0.size : Int) % 2) = 1 then (if 0 ≤ (wrap64 ((ji2) - 1)) then (if (wrap64 ((ji2) - 1)) < (y101.length : Int) then (if 0 < (y104.length : Int) then (some ((y101.set ((wrap64 ((ji2) - 1)) : Int).toNat (Go.bits .and .u8 (rd y101 (wrap64 ((ji2) - 1))) 240)), (y104.set (0 : Int).toNat (Go.bits .and .u8 (rd y104 0) 15)))) else (none)) else (none)) else (none)) else (some (y101, y104)))) else (none)) else (none)) else (none)) = some (r1, r2) := by first | (rw [hy101]; with_reducible exact H) | (have H2_ := (Option.bind_some _ _).symm.trans H; rw [hy101]; with_reducible exact H2_) | (have H2_ := (Option.bind_some _ _).symm.trans H; with_reducible exact H2_) | with_reducible exact H | (rw [hy101]; exact H) | exact H
    have Ny101 := Aside0.mk hy101
    clear hy101
    obtain ⟨ji6, hji6⟩ : ∃ j_ : Int, (wrap64 ((a0.size : Int) - (ji2))) = j_ := ⟨_, rfl⟩
    replace H : (if 0 ≤ (ji6) then (if (ji6) ≤ (a0.size : Int) then (if (a0.extract ((ji6) : Int).toNat a0.size).size ≤ 9223372036854775807 then ((some (bytesOf (a0.extract ((ji6) : Int).toNat a0.size) : List Int)).bind fun y104 => (if ((a0.size : Int) % 2) = 1 then (if 0 ≤ (wrap64 ((ji2) - 1)) then (if (wrap64 ((ji2) - 1)) < (y101.length : Int) then (if 0 < (y104.length : Int) then (some ((y101.set ((wrap64 ((ji2) - 1)) : Int).toNat (Go.bits .and .u8 (rd y101 (wrap64 ((ji2) - 1))) 240)), (y104.set (0 : Int).toNat (Go.bits .and .u8 (rd y104 0) 15)))) else (none)) else (none)) else (none)) else (some (y101, y104)))) else (none)) else (none)) else (none)) = some (r1, r2) := by first | (rw [hji6] at H; exact H) | (simp only [hji6] at H ⊢; exact H)
    have hji6w : (IntKind.i64.wrap ((a0.size : Int) - (ji2))) = ji6 := (i64_w _).trans hji6
    by_cases c7 : 0 ≤ (ji6)
    ·rw [if_pos c7] at H
     have c7b0 := eq_true c7
     have c7b1 : decide (0 ≤ (ji6)) = true := decide_eq_true c7
     clear c7
     by_cases c8 : (ji6) ≤ (a0.size : Int)
     ·rw [if_pos c8] at H
      have c8b0 := eq_true c8
      have c8b1 : decide ((ji6) ≤ (a0.size : Int)) = true := decide_eq_true c8
      clear c8
      by_cases c9 : (a0.extract ((ji6) : Int).toNat a0.size).size ≤ 9223372036854775807
      ·rw [if_pos c9] at H
       have c9b0 := eq_true c9
       have c9b1 : decide ((a0.extract ((ji6) : Int).toNat a0.size).size ≤ 9223372036854775807) = true := decide_eq_true c9
       try have c9b2 : (9223372036854775807 < (a0.extract ((ji6) : Int).toNat a0.size).size) = False := eq_false (Nat.not_lt.2 c9)
       try (have c9b2z := c9b2; simp only [ByteArray.size_append, ByteArray.size_extract] at c9b2z; try simp only [Nat.sub_zero] at c9b2z)
       clear c9
       obtain ⟨y104, hy104⟩ : ∃ y_ : List Int, y_ = (bytesOf (a0.extract ((ji6) : Int).toNat a0.size)) := ⟨_, rfl⟩
       replace H : (if ((a0.size : Int) % 2) = 1 then (if 0 ≤ (wrap64 ((ji2) - 1)) then (if (wrap64 ((ji2) - 1)) < (y101.length : Int) then (if 0 < (y104.length : Int) then (some ((y101.set ((wrap64 ((ji2) - 1)) : Int).toNat (Go.bits .and .u8 (rd y101 (wrap64 ((ji2) - 1))) 240)), (y104.set (0 : Int).toNat (Go.bits .and .u8 (rd y104 0) 15)))) else (none)) else (none)) else (none)) else (some (y101, y104))) = some (r1, r2) := by first | (rw [hy104]; with_reducible exact H) | (have H2_ := (Option.bind_some _ _).symm.trans H; rw [hy104]; with_reducible exact H2_) | (have H2_ := (Option.bind_some _ _).symm.trans H; with_reducible exact H2_) | with_reducible exact H | (rw [hy104]; exact H) | exact H
       have Ny104 := Aside0.mk hy104
       clear hy104
       by_cases c10 : ((a0.size : Int) % 2) = 1
       ·rw [if_pos c10] at H
        have c10b0 : (((a0.size : Int) % 2) == 1) = true := beq_iff_eq.mpr c10
        have c10b1 : (((a0.size : Int) % 2) != 1) = false := bne_eq_false_iff_eq.mpr c10
        clear c10
        obtain ⟨ji11, hji11⟩ : ∃ j_ : Int, (wrap64 ((ji2) - 1)) = j_ := ⟨_, rfl⟩
        replace H : (if 0 ≤ (ji11) then (if (ji11) < (y101.length : Int) then (if 0 < (y104.length : Int) then (some ((y101.set ((ji11) : Int).toNat (Go.bits .and .u8 (rd y101 (ji11)) 240)), (y104.set (0 : Int).toNat (Go.bits .and .u8 (rd y104 0) 15)))) else (none)) else (none)) else (none)) = some (r1, r2) := by first | (rw [hji11] at H; exact H) | (simp only [hji11] at H ⊢; exact H)
        have hji11w : (IntKind.i64.wrap ((ji2) - 1)) = ji11 := (i64_w _).trans hji11
        by_cases c12 : 0 ≤ (ji11)
        ·rw [if_pos c12] at H
         have c12b0 : decide (0 ≤ (ji11)) = true := decide_eq_true c12
         clear c12
         by_cases c13 : (ji11) < (y101.length : Int)
         ·rw [if_pos c13] at H
          have c13b0 : decide ((ji11) < (y101.length : Int)) = true := decide_eq_true c13
          clear c13
          obtain ⟨y108, hy108⟩ : ∃ y_ : List Int, y_ = (y101.set ((ji11) : Int).toNat (Go.bits .and .u8 (rd y101 (ji11)) 240)) := ⟨_, rfl⟩
          replace H : (if 0 < (y104.length : Int) then (some (y108, (y104.set (0 : Int).toNat (Go.bits .and .u8 (rd y104 0) 15)))) else (none)) = some (r1, r2) := by first | (rw [hy108]; with_reducible exact H) | (have H2_ := (Option.bind_some _ _).symm.trans H; rw [hy108]; with_reducible exact H2_) | (have H2_ := (Option.bind_some _ _).symm.trans H; with_reducible exact H2_) | with_reducible exact H | (rw [hy108]; exact H) | exact H
          have Ny108 := Aside0.mk hy108
          clear hy108
          by_cases c15 : 0 < (y104.length : Int)
          ·rw [if_pos c15] at H
           have c15b0 : decide (0 < (y104.length : Int)) = true := decide_eq_true c15
           have c15b1 : decide (0 < y104.length) = true := decide_eq_true (by omega)
           clear c15
           obtain ⟨y110, hy110⟩ : ∃ y_ : List Int, y_ = (y104.set (0 : Int).toNat (Go.bits .and .u8 (rd y104 0) 15)) := ⟨_, rfl⟩
           replace H : (some (y108, y110)) = some (r1, r2) := by first | (rw [hy110]; with_reducible exact H) | (have H2_ := (Option.bind_some _ _).symm.trans H; rw [hy110]; with_reducible exact H2_) | (have H2_ := (Option.bind_some _ _).symm.trans H; with_reducible exact H2_) | with_reducible exact H | (rw [hy110]; exact H) | exact H
           have Ny110 := Aside0.mk hy110
           clear hy110
           simp only [Option.some.injEq, Prod.mk.injEq] at H
           obtain ⟨rfl, rfl⟩ := H
           go_enter Try.func107, Try.ntmps107
           go_wp2_with (first | ((with_reducible refine gate_dst (N := 14) rfl ?_); refine Kd.R_bytes _ 5 rfl (N := 14) rfl 9 43 _ rfl (a0.extract 0 ((ji2) : Int).toNat) rfl Try.underlying9 Try.underlying43 Try.underlying5 (ok := fun _ => True) trivial (of_decide_eq_true (by first | (with_reducible assumption) | assumption)) (Below.refl _ _) (Nat.le_refl _) ?_; intro v102 w17 ho18 hb hg_ hnew_; clear hg_ hnew_; (first | rw [← Ny101.out] at ho18 | (simp only [Int.reduceToNat] at ho18; rw [← Ny101.out] at ho18)); have n0_ := Aside0.mk (Kd.R_lower ho18 (below_size (by repeat (first | (with_reducible first | exact HB.out | apply below_alloc | apply pw_below_drewN | apply below_drew1) | exact HB.out)))); have n1_ := Aside0.mk (below_step (by repeat (first | (with_reducible first | exact HB.out | apply below_alloc | apply pw_below_drewN | apply below_drew1) | exact HB.out)) hb); clear HB; have HO103 := n0_; have HB := n1_; clear n0_ n1_; clear hb ho18) | ((with_reducible refine gate_dst (N := 21) rfl ?_); refine Kd.R_bytes _ 5 rfl (N := 21) rfl 9 43 _ rfl (a0.extract ((ji6) : Int).toNat a0.size) rfl Try.underlying9 Try.underlying43 Try.underlying5 (ok := fun _ => True) trivial (of_decide_eq_true (by first | (with_reducible assumption) | assumption)) (Below.refl _ _) (Nat.le_refl _) ?_; intro v105 w19 ho20 hb hg_ hnew_; clear hg_ hnew_; (first | rw [← Ny104.out] at ho20 | (simp only [Int.reduceToNat] at ho20; rw [← Ny104.out] at ho20)); have n0_ := Aside0.mk (Kd.R_elder' (by (with_reducible repeat (first | apply Kd.R_alloc | apply Kd.R_drewN | apply Kd.R_drew)); exact HO103.out) (Kd.R_base ho20) hb); have n1_ := Aside0.mk (Kd.R_lower (Kd.R_new' ho20 (Kd.R_lt (by (with_reducible repeat (first | apply Kd.R_alloc | apply Kd.R_drewN | apply Kd.R_drew)); exact HO103.out))) (below_size (by repeat (first | (with_reducible first | exact HB.out | apply below_alloc | apply pw_below_drewN | apply below_drew1) | exact HB.out)))); have n2_ := Aside0.mk (below_step (by repeat (first | (with_reducible first | exact HB.out | apply below_alloc | apply pw_below_drewN | apply below_drew1) | exact HB.out)) hb); clear HO103; clear HB; have HO103 := n0_; have HO106 := n1_; have HB := n2_; clear n0_ n1_ n2_; clear hb ho20; obtain ⟨Ao21, co21, eo21⟩ := Kd.R_slice HO103.out; subst eo21; have p107 : 0 ≤ ((ji11) : Int) := of_decide_eq_true (by first | (with_reducible assumption) | assumption); have q107 : (ji11) < (y101.length : Int) := of_decide_eq_true (by first | (with_reducible assumption) | assumption); obtain ⟨ad107, e107, hx107_0⟩ := Kd.at_int (Kd.R_reads' HO103.out).2.2 (ji11) p107 q107; cases e107; replace p107 := eq_true p107; replace q107 := eq_true q107; have p14 : 0 ≤ ((ji11) : Int) := of_decide_eq_true (by first | (with_reducible assumption) | assumption); have q14 : ((ji11) : Int) < ((y101.length : Int) : Int) := of_decide_eq_true (by first | (with_reducible assumption) | assumption); obtain ⟨go14, co14, eo14, gb14, gl14, cl14, HG14⟩ := Kd.R_form HO103.out (by omega); (first | cases eo14 | (injection eo14 with ea_ en_ ec_; (first | subst ea_ | (injection ea_ with ea_; subst ea_)); subst ec_; clear en_)); have GB14 := Aside0.mk gb14; have GG14 := Aside0.mk HG14; clear gb14 gl14 HG14; (first | simp only [add_plain] at hx107_0 | skip); obtain ⟨hx14_0, hf14_0⟩ := Kd.R_celln 0 HO103.out ((ji11) : Int) p14 q14; replace p14 := eq_true p14; replace q14 := eq_true q14; have n_ := Aside0.mk (Kd.R_mono (ok' := (fun k_ => some k_ ≠ (v105 : Value).ownBlock)) HO103.out (fun k_ hk => hk.2)); clear HO103; have HO103 := n_; clear n_; obtain ⟨hy22_, hz22_⟩ := Kd.R_celln 0 HO103.out ((ji11) : Int) (of_decide_eq_true (by first | (with_reducible assumption) | assumption)) (of_decide_eq_true (by first | (with_reducible assumption) | assumption)); have HP22 := Kd.R_putg HO103.out ((ji11) : Int) (Go.bits .and .u8 (rd y101 (ji11)) 240)) | ((with_reducible refine gate_store (t := 5) (p := 32) rfl ?_); refine store_event (t := 5) (p := 32) (v := ?vo_w23) (w1 := (w19.setCell ⟨go14, ((ji11) : Int).toNat, none⟩ (.int .u8 (Go.bits .and .u8 (rd y101 (ji11)) 240)))) ?hg ?ho ?hn ?hr ?_; (case ho => rfl); (case hg => rfl); (case hn => rfl); (case hr => first | (go_simp; done) | (go_simp; rfl)); intro w23 hw; have hg : w19.grownBy w23 (some go14) := (by rw [hw]; exact HP22.2); have hp_ : Kd.R (Kd.int .u8) 5 w23 w.heap.size (fun k_ => some k_ ≠ (v105 : Value).ownBlock) (.slice (some ⟨go14, 0, none⟩) y101.length co21) y108 := (by rw [hw, Ny108.out]; exact HP22.1); clear HP22; have n0_ := Aside0.mk (hp_); have n1_ := Aside0.mk (Kd.R_after (v := (.slice (some ⟨go14, 0, none⟩) y101.length co21)) (v1 := (.slice (some ⟨go14, 0, none⟩) y101.length co21)) (ok := (fun _ => True)) (by (with_reducible repeat (first | apply Kd.R_alloc | apply Kd.R_drewN | apply Kd.R_drew)); exact HO106.out) hg (.inl rfl)); have n2_ := Aside0.mk ((by rw [hw]; exact below_set (HB.out) GB14.out : Below w.heap.size w w23)); clear HO103; clear HO106; clear HB; have HO103 := n0_; have HO106 := n1_; have HB := n2_; clear n0_ n1_ n2_; clear hg hw hp_; obtain ⟨Ao24, co24, eo24⟩ := Kd.R_slice HO106.out; subst eo24; have p109 : 0 ≤ (0 : Int) := (by omega); have q109 : 0 < (y104.length : Int) := of_decide_eq_true (by first | (with_reducible assumption) | assumption); obtain ⟨ad109, e109, hx109_0⟩ := Kd.at_int (Kd.R_reads' HO106.out).2.2 0 p109 q109; cases e109; have qi109 : (0 < y104.length) = True := eq_true (by omega); (try rw [show ((0 : Int)).toNat = 0 from rfl] at hx109_0); (try rw [Addr.add_zero'] at hx109_0); replace p109 := eq_true p109; replace q109 := eq_true q109; have p16 : 0 ≤ (0 : Int) := (by omega); have q16 : (0 : Int) < ((y104.length : Int) : Int) := of_decide_eq_true (by first | (with_reducible assumption) | assumption); have qi16 : (0 < y104.length) = True := eq_true (by omega); obtain ⟨go16, co16, eo16, gb16, gl16, cl16, HG16⟩ := Kd.R_form HO106.out (by omega); (first | cases eo16 | (injection eo16 with ea_ en_ ec_; (first | subst ea_ | (injection ea_ with ea_; subst ea_)); subst ec_; clear en_)); have GB16 := Aside0.mk gb16; have GG16 := Aside0.mk HG16; clear gb16 gl16 HG16; (first | simp only [add_plain] at hx109_0 | skip); obtain ⟨hx16_0, hf16_0⟩ := Kd.R_celln 0 HO106.out (0 : Int) p16 q16; (try rw [show ((0 : Int)).toNat = 0 from rfl] at hx16_0); (try simp only [Nat.reduceMul, Nat.zero_mul, Nat.zero_add, Nat.reduceAdd] at hx16_0); (try rw [show ((0 : Int)).toNat = 0 from rfl] at hf16_0); (try simp only [Nat.reduceMul, Nat.zero_mul, Nat.zero_add, Nat.reduceAdd] at hf16_0); replace p16 := eq_true p16; replace q16 := eq_true q16; have n_ := Aside0.mk (Kd.R_mono (ok' := (fun k_ => some k_ ≠ (.slice (some ⟨go14, 0, none⟩) y101.length co21 : Value).ownBlock)) HO106.out (fun k_ hk => hk.2)); clear HO106; have HO106 := n_; clear n_; obtain ⟨hy25_, hz25_⟩ := Kd.R_celln 0 HO106.out (0 : Int) (by omega) (of_decide_eq_true (by first | (with_reducible assumption) | assumption)); (try simp only [Int.reduceToNat, Int.toNat_zero, Int.toNat_ofNat, Nat.reduceMul, Nat.zero_mul, Nat.zero_add] at hy25_ hz25_); (try rw [show ((0 : Int)).toNat = 0 from rfl] at hy25_); (try rw [show ((0 : Int)).toNat = 0 from rfl] at hz25_); have HP25 := Kd.R_putg HO106.out (0 : Int) (Go.bits .and .u8 (rd y104 0) 15)) | ((with_reducible refine gate_store (t := 5) (p := 37) rfl ?_); refine store_event (t := 5) (p := 37) (v := ?vo_w26) (w1 := (w23.setCell ⟨go16, (0 : Int).toNat, none⟩ (.int .u8 (Go.bits .and .u8 (rd y104 0) 15)))) ?hg ?ho ?hn ?hr ?_; (case ho => rfl); (case hg => rfl); (case hn => rfl); (case hr => first | (go_simp; done) | (go_simp; rfl)); intro w26 hw; have hg : w23.grownBy w26 (some go16) := (by rw [hw]; exact HP25.2); have hp_ : Kd.R (Kd.int .u8) 5 w26 w.heap.size (fun k_ => some k_ ≠ (.slice (some ⟨go14, 0, none⟩) y101.length co21 : Value).ownBlock) (.slice (some ⟨go16, 0, none⟩) y104.length co24) y110 := (by rw [hw, Ny110.out]; exact HP25.1); clear HP25; have n0_ := Aside0.mk (Kd.R_after (v := (.slice (some ⟨go16, 0, none⟩) y104.length co24)) (v1 := (.slice (some ⟨go16, 0, none⟩) y104.length co24)) (ok := (fun _ => True)) (by (with_reducible repeat (first | apply Kd.R_alloc | apply Kd.R_drewN | apply Kd.R_drew)); exact Kd.R_mono HO103.out (fun _ hk => ⟨trivial, hk⟩)) hg (.inl rfl)); have n1_ := Aside0.mk (hp_); have n2_ := Aside0.mk ((by rw [hw]; exact below_set (HB.out) GB16.out : Below w.heap.size w w26)); clear HO103; clear HO106; clear HB; have HO103 := n0_; have HO106 := n1_; have HB := n2_; clear n0_ n1_ n2_; clear hg hw hp_))
           go_ret2
           exact ⟨_, _, by first | rfl | (simp [errW_none, errW_some] <;> rfl) | (simp only [← hji2, ← hji6, ← hji11]; first | rfl | (simp [errW_none, errW_some] <;> rfl)) | (simp [*, errW_none, errW_some] <;> rfl), by (with_reducible repeat (first | apply Kd.R_alloc | apply Kd.R_drewN | apply Kd.R_drew)); exact Kd.R_mono HO103.out (fun _ hk => hk.2), by (with_reducible repeat (first | apply Kd.R_alloc | apply Kd.R_drewN | apply Kd.R_drew)); exact HO106.out, by repeat (first | (with_reducible first | exact HB.out | apply below_alloc | apply pw_below_drewN | apply below_drew1) | exact HB.out)⟩
          ·rw [if_neg c15] at H
           exact absurd H (by simp)
         ·rw [if_neg c13] at H
          exact absurd H (by simp)
        ·rw [if_neg c12] at H
         exact absurd H (by simp)
       ·rw [if_neg c10] at H
        have c10b0 : (((a0.size : Int) % 2) == 1) = false := beq_eq_false_iff_ne.mpr c10
        have c10b1 : (((a0.size : Int) % 2) != 1) = true := bne_iff_ne.mpr c10
        simp only [Option.some.injEq, Prod.mk.injEq] at H
        obtain ⟨rfl, rfl⟩ := H
        go_enter Try.func107, Try.ntmps107
        go_wp2_with (first | ((with_reducible refine gate_dst (N := 14) rfl ?_); refine Kd.R_bytes _ 5 rfl (N := 14) rfl 9 43 _ rfl (a0.extract 0 ((ji2) : Int).toNat) rfl Try.underlying9 Try.underlying43 Try.underlying5 (ok := fun _ => True) trivial (of_decide_eq_true (by first | (with_reducible assumption) | assumption)) (Below.refl _ _) (Nat.le_refl _) ?_; intro v102 w27 ho28 hb hg_ hnew_; clear hg_ hnew_; (first | rw [← Ny101.out] at ho28 | (simp only [Int.reduceToNat] at ho28; rw [← Ny101.out] at ho28)); have n0_ := Aside0.mk (Kd.R_lower ho28 (below_size (by repeat (first | (with_reducible first | exact HB.out | apply below_alloc | apply pw_below_drewN | apply below_drew1) | exact HB.out)))); have n1_ := Aside0.mk (below_step (by repeat (first | (with_reducible first | exact HB.out | apply below_alloc | apply pw_below_drewN | apply below_drew1) | exact HB.out)) hb); clear HB; have HO103 := n0_; have HB := n1_; clear n0_ n1_; clear hb ho28) | ((with_reducible refine gate_dst (N := 21) rfl ?_); refine Kd.R_bytes _ 5 rfl (N := 21) rfl 9 43 _ rfl (a0.extract ((ji6) : Int).toNat a0.size) rfl Try.underlying9 Try.underlying43 Try.underlying5 (ok := fun _ => True) trivial (of_decide_eq_true (by first | (with_reducible assumption) | assumption)) (Below.refl _ _) (Nat.le_refl _) ?_; intro v105 w29 ho30 hb hg_ hnew_; clear hg_ hnew_; (first | rw [← Ny104.out] at ho30 | (simp only [Int.reduceToNat] at ho30; rw [← Ny104.out] at ho30)); have n0_ := Aside0.mk (Kd.R_elder' (by (with_reducible repeat (first | apply Kd.R_alloc | apply Kd.R_drewN | apply Kd.R_drew)); exact HO103.out) (Kd.R_base ho30) hb); have n1_ := Aside0.mk (Kd.R_lower (Kd.R_new' ho30 (Kd.R_lt (by (with_reducible repeat (first | apply Kd.R_alloc | apply Kd.R_drewN | apply Kd.R_drew)); exact HO103.out))) (below_size (by repeat (first | (with_reducible first | exact HB.out | apply below_alloc | apply pw_below_drewN | apply below_drew1) | exact HB.out)))); have n2_ := Aside0.mk (below_step (by repeat (first | (with_reducible first | exact HB.out | apply below_alloc | apply pw_below_drewN | apply below_drew1) | exact HB.out)) hb); clear HO103; clear HB; have HO103 := n0_; have HO106 := n1_; have HB := n2_; clear n0_ n1_ n2_; clear hb ho30))
        go_ret2
        exact ⟨_, _, by first | rfl | (simp [errW_none, errW_some] <;> rfl) | (simp only [← hji2, ← hji6]; first | rfl | (simp [errW_none, errW_some] <;> rfl)) | (simp [*, errW_none, errW_some] <;> rfl), by (with_reducible repeat (first | apply Kd.R_alloc | apply Kd.R_drewN | apply Kd.R_drew)); exact Kd.R_mono HO103.out (fun _ hk => hk.2), by (with_reducible repeat (first | apply Kd.R_alloc | apply Kd.R_drewN | apply Kd.R_drew)); exact Kd.R_mono HO106.out (fun _ hk => hk.2), by repeat (first | (with_reducible first | exact HB.out | apply below_alloc | apply pw_below_drewN | apply below_drew1) | exact HB.out)⟩
      ·rw [if_neg c9] at H
       exact absurd H (by simp)
     ·rw [if_neg c8] at H
      exact absurd H (by simp)
    ·rw [if_neg c7] at H
     exact absurd H (by simp)
   ·rw [if_neg c5] at H
    exact absurd H (by simp)
  ·rw [if_neg c4] at H
   exact absurd H (by simp)
 ·rw [if_neg c3] at H
  exact absurd H (by simp)

/-! ### spec_l1Fixed: function 96 -/
abbrev spec_l1Fixed.f (k : Nat) (a0 : Int) (a1 : Int) : Option (ByteArray) := Go.Proofs.Ytimokakcdmcnnaa.PSpecF.spec_l1Fixed.f k a0 a1
theorem spec_l1Fixed.calls (k : Nat) (a0 : Int) (a1 : Int) (r : ByteArray) (w : World) (h : spec_l1Fixed.f k a0 a1 = some r) :
  Calls Try.prog 96 #[.int .i64 a0, .int .i64 a1] w fun e w' => e = .returned (.string r) ∧ Below w.heap.size w w' := Go.Proofs.Ytimokakcdmcnnaa.PSpecF.spec_l1Fixed.calls k a0 a1 r w h

end Go.Proofs.Ytimokakcdmcnnaa.PSpecC
