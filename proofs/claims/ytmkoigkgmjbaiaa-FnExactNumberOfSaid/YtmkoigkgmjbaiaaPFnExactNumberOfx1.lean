-- PRINTED BY print.sh 35421559b90ae4d0a3588c463048766b98c2df88dd9212a6774a882060cdf62d: not written by this session
import Derived.Test.YtmkoigkgmjbaiaaPFnExactNumberOfx0
namespace Go.Proofs.Ytmkoigkgmjbaiaa.PFnExactNumberOf
open Go.RowKit Go.Proofs.YtmkoigkgmjbaiaaW.PrintWords Go.Proofs.YtmkoigkgmjbaiaaW.PrintLast Go.Proofs.YtmkoigkgmjbaiaaW.PrintMore
attribute [local go_sem] max2_int min2_int max_two min_two max_three min_three max_four min_four   -- for this text's walks alone
set_option linter.unusedVariables false
set_option linter.unusedSimpArgs false

/-! ### spec_l1In: function 36 -/
def spec_l1In.f (a0 : Int) (a1 : Int) (a2 : Int) : Option (Bool) := if a0 ≥ a1 then (some (decide (a0 ≤ a2))) else (some false)
set_option maxHeartbeats 8000000 in
set_option maxRecDepth 100000 in
theorem spec_l1In.calls (a0 : Int) (a1 : Int) (a2 : Int) (r : Bool) (w : World) (h : spec_l1In.f a0 a1 a2 = some r) :
    Calls Try.prog 36 #[.int .i64 a0, .int .i64 a1, .int .i64 a2] w fun e w' => e = .returned (.bool r) ∧ Drawn0 w w' := by
  have H : (if a0 ≥ a1 then (some (decide (a0 ≤ a2))) else (some false)) = some r := h
  clear h
  by_cases c4 : a0 ≥ a1
  · rw [if_pos c4] at H
    have c4b0 : decide (a1 ≤ a0) = true := decide_eq_true c4
    clear c4
    obtain rfl := Option.some.inj H
    go_enter Try.func36, Try.ntmps36
    go_wp2
    go_ret
    exact ⟨by first | rfl | (simp; done) | (simp [*]; done), by repeat (first | exact Drawn0.refl _ | apply Drawn0.step)⟩
  · rw [if_neg c4] at H
    have c4b0 : decide (a1 ≤ a0) = false := decide_eq_false c4
    clear c4
    obtain rfl := Option.some.inj H
    go_enter Try.func36, Try.ntmps36
    go_wp2
    go_ret
    exact ⟨by first | rfl | (simp; done) | (simp [*]; done), by repeat (first | exact Drawn0.refl _ | apply Drawn0.step)⟩

/-! ### spec_l6Number: function 43 -/
def spec_l6Number.j0 : Nat → Int → Int → Int → Bool → Option (Int)
  | 0, _, _, _, _ => none
  | k + 1, x7, x8, x9, x33 => if x33 = true then (some (wrap64 (x9 + x8))) else (if x9 > (wrap64 (x7 + (wrap64 (Int.tdiv x8 2)))) then (if x9 ≥ x8 then (some (wrap64 (x9 - x8))) else (some x9)) else (some x9))
def spec_l6Number.f (k : Nat) (a0 : Int) (a1 : Int) (a2 : Int) : Option (Int) := if 0 ≤ (IntKind.u64.wrap (wrap64 (8 * a2))) then (if (Go.bits .or .i64 (Go.bits .andNot .i64 (wrap64 (a0 + 1)) (wrap64 ((shl .i64 1 (IntKind.u64.wrap (wrap64 (8 * a2)))) - 1))) a1) ≤ (wrap64 ((wrap64 (a0 + 1)) - (wrap64 (Int.tdiv (shl .i64 1 (IntKind.u64.wrap (wrap64 (8 * a2)))) 2)))) then (spec_l6Number.j0 k (wrap64 (a0 + 1)) (shl .i64 1 (IntKind.u64.wrap (wrap64 (8 * a2)))) (Go.bits .or .i64 (Go.bits .andNot .i64 (wrap64 (a0 + 1)) (wrap64 ((shl .i64 1 (IntKind.u64.wrap (wrap64 (8 * a2)))) - 1))) a1) (decide ((Go.bits .or .i64 (Go.bits .andNot .i64 (wrap64 (a0 + 1)) (wrap64 ((shl .i64 1 (IntKind.u64.wrap (wrap64 (8 * a2)))) - 1))) a1) < (wrap64 (4611686018427387904 - (shl .i64 1 (IntKind.u64.wrap (wrap64 (8 * a2))))))))) else (spec_l6Number.j0 k (wrap64 (a0 + 1)) (shl .i64 1 (IntKind.u64.wrap (wrap64 (8 * a2)))) (Go.bits .or .i64 (Go.bits .andNot .i64 (wrap64 (a0 + 1)) (wrap64 ((shl .i64 1 (IntKind.u64.wrap (wrap64 (8 * a2)))) - 1))) a1) false)) else (none)
theorem spec_l6Number.mono_l : ∀ k, (∀ y0 y1 y2 y3, LeO (spec_l6Number.j0 k y0 y1 y2 y3) (spec_l6Number.j0 (k + 1) y0 y1 y2 y3))
  | 0 => fun _ _ _ _ r h => by simp [spec_l6Number.j0] at h
  | k + 1 => by
    have ih0 := spec_l6Number.mono_l k
    · intro y0 y1 y2 y3
      unfold spec_l6Number.j0
      repeat' first
      | (with_reducible exact ih0 _ _ _ _)
      | (with_reducible exact LeO.refl _)
      | (with_reducible exact LeO.none _)
      | (with_reducible refine LeO.ite ?_ ?_)
      | (with_reducible refine LeO.bind ?_ (fun _ => ?_))
      | exact ih0 _ _ _ _
      | exact LeO.none _
      | refine LeO.ite ?_ ?_
      | refine LeO.bind ?_ (fun _ => ?_)
theorem spec_l6Number.mono : ∀ a0 a1 a2 k, LeO (spec_l6Number.f k a0 a1 a2) (spec_l6Number.f (k + 1) a0 a1 a2) := by
  intro a0 a1 a2 k
  have ih0 := spec_l6Number.mono_l k
  unfold spec_l6Number.f
  repeat' first
      | (with_reducible exact ih0 _ _ _ _)
      | (with_reducible exact LeO.refl _)
      | (with_reducible exact LeO.none _)
      | (with_reducible refine LeO.ite ?_ ?_)
      | (with_reducible refine LeO.bind ?_ (fun _ => ?_))
      | exact ih0 _ _ _ _
      | exact LeO.none _
      | refine LeO.ite ?_ ?_
      | refine LeO.bind ?_ (fun _ => ?_)
set_option maxHeartbeats 8000000 in
set_option maxRecDepth 100000 in
theorem spec_l6Number.calls (k : Nat) (a0 : Int) (a1 : Int) (a2 : Int) (r : Int) (w : World) (h : spec_l6Number.f k a0 a1 a2 = some r) :
    Calls Try.prog 43 #[.int .i64 a0, .int .i64 a1, .int .i64 a2] w fun e w' => e = .returned (.int .i64 r) ∧ Drawn0 w w' := by
  have H : (if 0 ≤ (IntKind.u64.wrap (wrap64 (8 * a2))) then (if (Go.bits .or .i64 (Go.bits .andNot .i64 (wrap64 (a0 + 1)) (wrap64 ((shl .i64 1 (IntKind.u64.wrap (wrap64 (8 * a2)))) - 1))) a1) ≤ (wrap64 ((wrap64 (a0 + 1)) - (wrap64 (Int.tdiv (shl .i64 1 (IntKind.u64.wrap (wrap64 (8 * a2)))) 2)))) then (spec_l6Number.j0 k (wrap64 (a0 + 1)) (shl .i64 1 (IntKind.u64.wrap (wrap64 (8 * a2)))) (Go.bits .or .i64 (Go.bits .andNot .i64 (wrap64 (a0 + 1)) (wrap64 ((shl .i64 1 (IntKind.u64.wrap (wrap64 (8 * a2)))) - 1))) a1) (decide ((Go.bits .or .i64 (Go.bits .andNot .i64 (wrap64 (a0 + 1)) (wrap64 ((shl .i64 1 (IntKind.u64.wrap (wrap64 (8 * a2)))) - 1))) a1) < (wrap64 (4611686018427387904 - (shl .i64 1 (IntKind.u64.wrap (wrap64 (8 * a2))))))))) else (spec_l6Number.j0 k (wrap64 (a0 + 1)) (shl .i64 1 (IntKind.u64.wrap (wrap64 (8 * a2)))) (Go.bits .or .i64 (Go.bits .andNot .i64 (wrap64 (a0 + 1)) (wrap64 ((shl .i64 1 (IntKind.u64.wrap (wrap64 (8 * a2)))) - 1))) a1) false)) else (none)) = some r := h
  clear h
  obtain ⟨ji4, hji4⟩ : ∃ j_ : Int, (IntKind.u64.wrap (wrap64 (8 * a2))) = j_ := ⟨_, rfl⟩
  replace H : (if 0 ≤ (ji4) then (if (Go.bits .or .i64 (Go.bits .andNot .i64 (wrap64 (a0 + 1)) (wrap64 ((shl .i64 1 (ji4)) - 1))) a1) ≤ (wrap64 ((wrap64 (a0 + 1)) - (wrap64 (Int.tdiv (shl .i64 1 (ji4)) 2)))) then (spec_l6Number.j0 k (wrap64 (a0 + 1)) (shl .i64 1 (ji4)) (Go.bits .or .i64 (Go.bits .andNot .i64 (wrap64 (a0 + 1)) (wrap64 ((shl .i64 1 (ji4)) - 1))) a1) (decide ((Go.bits .or .i64 (Go.bits .andNot .i64 (wrap64 (a0 + 1)) (wrap64 ((shl .i64 1 (ji4)) - 1))) a1) < (wrap64 (4611686018427387904 - (shl .i64 1 (ji4))))))) else (spec_l6Number.j0 k (wrap64 (a0 + 1)) (shl .i64 1 (ji4)) (Go.bits .or .i64 (Go.bits .andNot .i64 (wrap64 (a0 + 1)) (wrap64 ((shl .i64 1 (ji4)) - 1))) a1) false)) else (none)) = some r := by first | (rw [hji4] at H; exact H) | (simp only [hji4] at H ⊢; exact H)
  by_cases c5 : 0 ≤ (ji4)
  · rw [if_pos c5] at H
    have c5b0 := eq_true c5
    have c5b1 : decide (0 ≤ (ji4)) = true := decide_eq_true c5
    clear c5
    obtain ⟨ji6, hji6⟩ : ∃ j_ : Int, (shl .i64 1 (ji4)) = j_ := ⟨_, rfl⟩
    replace H : (if (Go.bits .or .i64 (Go.bits .andNot .i64 (wrap64 (a0 + 1)) (wrap64 ((ji6) - 1))) a1) ≤ (wrap64 ((wrap64 (a0 + 1)) - (wrap64 (Int.tdiv (ji6) 2)))) then (spec_l6Number.j0 k (wrap64 (a0 + 1)) ji6 (Go.bits .or .i64 (Go.bits .andNot .i64 (wrap64 (a0 + 1)) (wrap64 ((ji6) - 1))) a1) (decide ((Go.bits .or .i64 (Go.bits .andNot .i64 (wrap64 (a0 + 1)) (wrap64 ((ji6) - 1))) a1) < (wrap64 (4611686018427387904 - (ji6)))))) else (spec_l6Number.j0 k (wrap64 (a0 + 1)) ji6 (Go.bits .or .i64 (Go.bits .andNot .i64 (wrap64 (a0 + 1)) (wrap64 ((ji6) - 1))) a1) false)) = some r := by first | (rw [hji6] at H; exact H) | (simp only [hji6] at H ⊢; exact H)
    have hji6_ : (IntKind.i64.wrap (1 * 2 ^ min (ji4).toNat 64)) = ji6 := hji6
    have hji6z : (ji4) ≤ 64 → (IntKind.i64.wrap (1 * 2 ^ (ji4).toNat)) = ji6 := shl_small hji6
    have hji6u : (IntKind.i64.wrap (2 ^ min (ji4).toNat 64)) = ji6 := by have h_ := hji6_; rw [Int.one_mul] at h_; exact h_
    have hji6v : (ji4) ≤ 64 → (IntKind.i64.wrap (2 ^ (ji4).toNat)) = ji6 := fun hle_ => by have h_ := hji6z hle_; rw [Int.one_mul] at h_; exact h_
    have hji6y : (wrap64 (1 * 2 ^ min (ji4).toNat 64)) = ji6 := (i64_w _).symm.trans hji6_
    have hji6x : (ji4) ≤ 64 → (wrap64 (1 * 2 ^ (ji4).toNat)) = ji6 := fun h_ => (i64_w _).symm.trans (hji6z h_)
    have HC7 := Aside0.mk H
    clear H
    go_enter Try.func43, Try.ntmps43
    go_upto_region 4 with (fail)
    go_cut [33] (fun v33 wc => ∃ (kq : Nat) (x33_6 : Bool), v33 = .bool x33_6 ∧ Aside0 (spec_l6Number.j0 kq (wrap64 (a0 + 1)) ji6 (Go.bits .or .i64 (Go.bits .andNot .i64 (wrap64 (a0 + 1)) (wrap64 ((ji6) - 1))) a1) x33_6 = some r) ∧ Aside0 (kq ≤ k) ∧ Drawn0 w wc)
    case first =>
      have H := HC7.out
      clear HC7
      by_cases c8 : (Go.bits .or .i64 (Go.bits .andNot .i64 (wrap64 (a0 + 1)) (wrap64 ((ji6) - 1))) a1) ≤ (wrap64 ((wrap64 (a0 + 1)) - (wrap64 (Int.tdiv (ji6) 2))))
      · rw [if_pos c8] at H
        have c8b0 : decide ((Go.bits .or .i64 (Go.bits .andNot .i64 (wrap64 (a0 + 1)) (wrap64 ((ji6) - 1))) a1) ≤ (wrap64 ((wrap64 (a0 + 1)) - (wrap64 (Int.tdiv (ji6) 2))))) = true := decide_eq_true c8
        clear c8
        (first | rw [c8b0] | (simp only [i64_w, i32_w]; rw [c8b0]) | skip)
        have H' := Aside0.mk H
        clear H
        go_wp2
        go_meet
        case rel => exact ⟨_, (decide ((Go.bits .or .i64 (Go.bits .andNot .i64 (wrap64 (a0 + 1)) (wrap64 ((ji6) - 1))) a1) < (wrap64 (4611686018427387904 - (ji6))))), (by first | rfl | (simp; done) | (simp only [← hji6] <;> (first | rfl | simp)) | (simp [*]; done)), H', ⟨by first | omega | exact Nat.le_refl _⟩, by repeat (first | exact Drawn0.refl _ | apply Drawn0.step)⟩
      · rw [if_neg c8] at H
        have c8b0 : decide ((Go.bits .or .i64 (Go.bits .andNot .i64 (wrap64 (a0 + 1)) (wrap64 ((ji6) - 1))) a1) ≤ (wrap64 ((wrap64 (a0 + 1)) - (wrap64 (Int.tdiv (ji6) 2))))) = false := decide_eq_false c8
        clear c8
        (first | rw [c8b0] | (simp only [i64_w, i32_w]; rw [c8b0]) | skip)
        have H' := Aside0.mk H
        clear H
        go_wp2
        go_meet
        case rel => exact ⟨_, (false), (by first | rfl | (simp; done) | (simp [*]; done)), H', ⟨by first | omega | exact Nat.le_refl _⟩, by repeat (first | exact Drawn0.refl _ | apply Drawn0.step)⟩
    case rest =>
      clear HC7
      try clear p2
      try clear c4
      try clear c5
      try clear c5b0
      try clear c5b1
      try clear p6
      try clear c8
      try clear c8b0
      obtain ⟨kq, x33_6, rfl, HA, HJ6, ⟨mc6, rfl⟩⟩ := hcut
      cases kq with
      | zero => exact absurd HA.out (by simp [spec_l6Number.j0])
      | succ kj6 =>
        have H := HA.out
        clear HA
        simp only [spec_l6Number.j0] at H
        by_cases c9 : x33_6 = true
        · subst c9
          have H1 : (some (wrap64 ((Go.bits .or .i64 (Go.bits .andNot .i64 (wrap64 (a0 + 1)) (wrap64 ((ji6) - 1))) a1) + ji6))) = some r := by rw [if_pos rfl] at H; exact H
          clear H
          have H := H1
          clear H1
          obtain rfl := Option.some.inj H
          go_wp2
          go_ret
          exact ⟨by first | rfl | (simp; done) | (simp only [← hji4, ← hji6] <;> (first | rfl | simp)) | (simp [*]; done), by repeat (first | exact Drawn0.refl _ | apply Drawn0.step)⟩
        · replace c9 := Bool.eq_false_iff.mpr c9
          subst c9
          have H1 : (if (Go.bits .or .i64 (Go.bits .andNot .i64 (wrap64 (a0 + 1)) (wrap64 ((ji6) - 1))) a1) > (wrap64 ((wrap64 (a0 + 1)) + (wrap64 (Int.tdiv ji6 2)))) then (if (Go.bits .or .i64 (Go.bits .andNot .i64 (wrap64 (a0 + 1)) (wrap64 ((ji6) - 1))) a1) ≥ ji6 then (some (wrap64 ((Go.bits .or .i64 (Go.bits .andNot .i64 (wrap64 (a0 + 1)) (wrap64 ((ji6) - 1))) a1) - ji6))) else (some (Go.bits .or .i64 (Go.bits .andNot .i64 (wrap64 (a0 + 1)) (wrap64 ((ji6) - 1))) a1))) else (some (Go.bits .or .i64 (Go.bits .andNot .i64 (wrap64 (a0 + 1)) (wrap64 ((ji6) - 1))) a1))) = some r := by rw [if_neg (show ¬ (false = true) by decide)] at H; exact H
          clear H
          have H := H1
          clear H1
          by_cases c10 : (Go.bits .or .i64 (Go.bits .andNot .i64 (wrap64 (a0 + 1)) (wrap64 ((ji6) - 1))) a1) > (wrap64 ((wrap64 (a0 + 1)) + (wrap64 (Int.tdiv ji6 2))))
          · rw [if_pos c10] at H
            have c10b0 : decide ((wrap64 ((wrap64 (a0 + 1)) + (wrap64 (Int.tdiv ji6 2)))) < (Go.bits .or .i64 (Go.bits .andNot .i64 (wrap64 (a0 + 1)) (wrap64 ((ji6) - 1))) a1)) = true := decide_eq_true c10
            clear c10
            by_cases c11 : (Go.bits .or .i64 (Go.bits .andNot .i64 (wrap64 (a0 + 1)) (wrap64 ((ji6) - 1))) a1) ≥ ji6
            · rw [if_pos c11] at H
              have c11b0 : decide (ji6 ≤ (Go.bits .or .i64 (Go.bits .andNot .i64 (wrap64 (a0 + 1)) (wrap64 ((ji6) - 1))) a1)) = true := decide_eq_true c11
              clear c11
              obtain rfl := Option.some.inj H
              go_wp2
              go_ret
              exact ⟨by first | rfl | (simp; done) | (simp only [← hji4, ← hji6] <;> (first | rfl | simp)) | (simp [*]; done), by repeat (first | exact Drawn0.refl _ | apply Drawn0.step)⟩
            · rw [if_neg c11] at H
              have c11b0 : decide (ji6 ≤ (Go.bits .or .i64 (Go.bits .andNot .i64 (wrap64 (a0 + 1)) (wrap64 ((ji6) - 1))) a1)) = false := decide_eq_false c11
              clear c11
              obtain rfl := Option.some.inj H
              go_wp2
              go_ret
              exact ⟨by first | rfl | (simp; done) | (simp only [← hji4, ← hji6] <;> (first | rfl | simp)) | (simp [*]; done), by repeat (first | exact Drawn0.refl _ | apply Drawn0.step)⟩
          · rw [if_neg c10] at H
            have c10b0 : decide ((wrap64 ((wrap64 (a0 + 1)) + (wrap64 (Int.tdiv ji6 2)))) < (Go.bits .or .i64 (Go.bits .andNot .i64 (wrap64 (a0 + 1)) (wrap64 ((ji6) - 1))) a1)) = false := decide_eq_false c10
            clear c10
            obtain rfl := Option.some.inj H
            go_wp2
            go_ret
            exact ⟨by first | rfl | (simp; done) | (simp only [← hji4, ← hji6] <;> (first | rfl | simp)) | (simp [*]; done), by repeat (first | exact Drawn0.refl _ | apply Drawn0.step)⟩
  · rw [if_neg c5] at H
    exact absurd H (by simp)

/-! ### spec_NumberOf: function 24 -/
def spec_NumberOf.f (k : Nat) (a0 : Int) (a1 : Int) (a2 : Int) : Option (Int × Bool) := (spec_l1In.f a0 (-1) 4611686018427387902).bind fun t101 => (if t101 = true then ((spec_l1In.f a2 1 4).bind fun t102 => (if t102 = true then (if 0 ≤ (IntKind.u64.wrap (wrap64 (8 * a2))) then ((spec_l1In.f a1 0 (wrap64 ((shl .i64 1 (IntKind.u64.wrap (wrap64 (8 * a2)))) - 1))).bind fun t103 => (if t103 = true then ((spec_l6Number.f k a0 a1 a2).bind fun t104 => (some (t104, true))) else (some (0, false)))) else (none)) else (some (0, false)))) else (some (0, false)))
theorem spec_NumberOf.mono : ∀ a0 a1 a2 k, LeO (spec_NumberOf.f k a0 a1 a2) (spec_NumberOf.f (k + 1) a0 a1 a2) := by
  intro a0 a1 a2 k
  unfold spec_NumberOf.f
  repeat' first
      | (with_reducible exact spec_l6Number.mono _ _ _ _)
      | (with_reducible exact LeO.refl _)
      | (with_reducible exact LeO.none _)
      | (with_reducible refine LeO.ite ?_ ?_)
      | (with_reducible refine LeO.bind ?_ (fun _ => ?_))
      | exact spec_l6Number.mono _ _ _ _
      | exact LeO.none _
      | refine LeO.ite ?_ ?_
      | refine LeO.bind ?_ (fun _ => ?_)
set_option maxHeartbeats 8000000 in
set_option maxRecDepth 100000 in
theorem spec_NumberOf.calls (k : Nat) (a0 : Int) (a1 : Int) (a2 : Int) (r1 : Int) (r2 : Bool) (w : World) (h : spec_NumberOf.f k a0 a1 a2 = some (r1, r2)) :
    Calls Try.prog 24 #[.int .i64 a0, .int .i64 a1, .int .i64 a2] w fun e w' => e = .returned (.tuple #[.int .i64 r1, .bool r2]) ∧ Drawn0 w w' := by
  have H : ((spec_l1In.f a0 (-1) 4611686018427387902).bind fun t101 => (if t101 = true then ((spec_l1In.f a2 1 4).bind fun t102 => (if t102 = true then (if 0 ≤ (IntKind.u64.wrap (wrap64 (8 * a2))) then ((spec_l1In.f a1 0 (wrap64 ((shl .i64 1 (IntKind.u64.wrap (wrap64 (8 * a2)))) - 1))).bind fun t103 => (if t103 = true then ((spec_l6Number.f k a0 a1 a2).bind fun t104 => (some (t104, true))) else (some (0, false)))) else (none)) else (some (0, false)))) else (some (0, false)))) = some (r1, r2) := h
  clear h
  replace H := Option.bind_eq_some_iff.mp H
  obtain ⟨t101, A40, H⟩ := H
  replace H : (if t101 = true then ((spec_l1In.f a2 1 4).bind fun t102 => (if t102 = true then (if 0 ≤ (IntKind.u64.wrap (wrap64 (8 * a2))) then ((spec_l1In.f a1 0 (wrap64 ((shl .i64 1 (IntKind.u64.wrap (wrap64 (8 * a2)))) - 1))).bind fun t103 => (if t103 = true then ((spec_l6Number.f k a0 a1 a2).bind fun t104 => (some (t104, true))) else (some (0, false)))) else (none)) else (some (0, false)))) else (some (0, false))) = some (r1, r2) := H
  have A4 := Aside0.mk A40
  clear A40
  by_cases c5 : t101 = true
  · subst c5
    have H1 : ((spec_l1In.f a2 1 4).bind fun t102 => (if t102 = true then (if 0 ≤ (IntKind.u64.wrap (wrap64 (8 * a2))) then ((spec_l1In.f a1 0 (wrap64 ((shl .i64 1 (IntKind.u64.wrap (wrap64 (8 * a2)))) - 1))).bind fun t103 => (if t103 = true then ((spec_l6Number.f k a0 a1 a2).bind fun t104 => (some (t104, true))) else (some (0, false)))) else (none)) else (some (0, false)))) = some (r1, r2) := by rw [if_pos rfl] at H; exact H
    clear H
    have H := H1
    clear H1
    replace H := Option.bind_eq_some_iff.mp H
    obtain ⟨t102, A60, H⟩ := H
    replace H : (if t102 = true then (if 0 ≤ (IntKind.u64.wrap (wrap64 (8 * a2))) then ((spec_l1In.f a1 0 (wrap64 ((shl .i64 1 (IntKind.u64.wrap (wrap64 (8 * a2)))) - 1))).bind fun t103 => (if t103 = true then ((spec_l6Number.f k a0 a1 a2).bind fun t104 => (some (t104, true))) else (some (0, false)))) else (none)) else (some (0, false))) = some (r1, r2) := H
    have A6 := Aside0.mk A60
    clear A60
    by_cases c7 : t102 = true
    · subst c7
      have H1 : (if 0 ≤ (IntKind.u64.wrap (wrap64 (8 * a2))) then ((spec_l1In.f a1 0 (wrap64 ((shl .i64 1 (IntKind.u64.wrap (wrap64 (8 * a2)))) - 1))).bind fun t103 => (if t103 = true then ((spec_l6Number.f k a0 a1 a2).bind fun t104 => (some (t104, true))) else (some (0, false)))) else (none)) = some (r1, r2) := by rw [if_pos rfl] at H; exact H
      clear H
      have H := H1
      clear H1
      obtain ⟨ji8, hji8⟩ : ∃ j_ : Int, (IntKind.u64.wrap (wrap64 (8 * a2))) = j_ := ⟨_, rfl⟩
      replace H : (if 0 ≤ (ji8) then ((spec_l1In.f a1 0 (wrap64 ((shl .i64 1 (ji8)) - 1))).bind fun t103 => (if t103 = true then ((spec_l6Number.f k a0 a1 a2).bind fun t104 => (some (t104, true))) else (some (0, false)))) else (none)) = some (r1, r2) := by first | (rw [hji8] at H; exact H) | (simp only [hji8] at H ⊢; exact H)
      (try rw [hji8] at A4)
      (try rw [hji8] at A6)
      by_cases c9 : 0 ≤ (ji8)
      · rw [if_pos c9] at H
        have c9b0 := eq_true c9
        have c9b1 : decide (0 ≤ (ji8)) = true := decide_eq_true c9
        clear c9
        obtain ⟨ji10, hji10⟩ : ∃ j_ : Int, (shl .i64 1 (ji8)) = j_ := ⟨_, rfl⟩
        replace H : ((spec_l1In.f a1 0 (wrap64 ((ji10) - 1))).bind fun t103 => (if t103 = true then ((spec_l6Number.f k a0 a1 a2).bind fun t104 => (some (t104, true))) else (some (0, false)))) = some (r1, r2) := by first | (rw [hji10] at H; exact H) | (simp only [hji10] at H ⊢; exact H)
        (try rw [hji10] at A4)
        (try rw [hji10] at A6)
        have hji10_ : (IntKind.i64.wrap (1 * 2 ^ min (ji8).toNat 64)) = ji10 := hji10
        have hji10z : (ji8) ≤ 64 → (IntKind.i64.wrap (1 * 2 ^ (ji8).toNat)) = ji10 := shl_small hji10
        have hji10u : (IntKind.i64.wrap (2 ^ min (ji8).toNat 64)) = ji10 := by have h_ := hji10_; rw [Int.one_mul] at h_; exact h_
        have hji10v : (ji8) ≤ 64 → (IntKind.i64.wrap (2 ^ (ji8).toNat)) = ji10 := fun hle_ => by have h_ := hji10z hle_; rw [Int.one_mul] at h_; exact h_
        have hji10y : (wrap64 (1 * 2 ^ min (ji8).toNat 64)) = ji10 := (i64_w _).symm.trans hji10_
        have hji10x : (ji8) ≤ 64 → (wrap64 (1 * 2 ^ (ji8).toNat)) = ji10 := fun h_ => (i64_w _).symm.trans (hji10z h_)
        replace H := Option.bind_eq_some_iff.mp H
        obtain ⟨t103, A110, H⟩ := H
        replace H : (if t103 = true then ((spec_l6Number.f k a0 a1 a2).bind fun t104 => (some (t104, true))) else (some (0, false))) = some (r1, r2) := H
        have A11 := Aside0.mk A110
        clear A110
        by_cases c12 : t103 = true
        · subst c12
          have H1 : ((spec_l6Number.f k a0 a1 a2).bind fun t104 => (some (t104, true))) = some (r1, r2) := by rw [if_pos rfl] at H; exact H
          clear H
          have H := H1
          clear H1
          replace H := Option.bind_eq_some_iff.mp H
          obtain ⟨t104, A130, H⟩ := H
          replace H : (some (t104, true)) = some (r1, r2) := H
          have A13 := Aside0.mk A130
          clear A130
          simp only [Option.some.injEq, Prod.mk.injEq] at H
          obtain ⟨rfl, rfl⟩ := H
          go_enter Try.func24, Try.ntmps24
          go_wp2_with (first | ((with_reducible refine gate_callee (f := 36) rfl ?_); refine goesL_ (some 9) rfl rfl Try.func36 (by kernel_rfl) rfl #[.int .i64 a0, .int .i64 (-1), .int .i64 4611686018427387902] rfl (by (try simp only [List.map_toArray, List.map_cons, List.map_nil]); first | done | rfl | (simp only [List.length_drop, List.length_take]; rfl)) ?_; (with_reducible refine (spec_l1In.calls a0 (-1) 4611686018427387902 true _ A4.out).mono ?_); rintro e w' ⟨rfl, ⟨nd, rfl⟩⟩; refine ⟨_, rfl, ?_⟩) | (go_at_call 36; (with_reducible refine (spec_l1In.calls a2 1 4 true _ A6.out).mono ?_); rintro e w' ⟨rfl, ⟨nd, rfl⟩⟩) | (go_at_call 36; (with_reducible refine (spec_l1In.calls a1 0 (wrap64 ((ji10) - 1)) true _ A11.out).mono ?_); rintro e w' ⟨rfl, ⟨nd, rfl⟩⟩) | ((with_reducible refine gate_callee (f := 43) rfl ?_); refine goesL_ (some 29) rfl rfl Try.func43 (by kernel_rfl) rfl #[.int .i64 a0, .int .i64 a1, .int .i64 a2] rfl (by (try simp only [List.map_toArray, List.map_cons, List.map_nil]); first | done | rfl | (simp only [List.length_drop, List.length_take]; rfl)) ?_; (with_reducible refine (spec_l6Number.calls k a0 a1 a2 t104 _ A13.out).mono ?_); rintro e w' ⟨rfl, ⟨nd, rfl⟩⟩; refine ⟨_, rfl, ?_⟩))
          go_ret2
          exact ⟨by first | rfl | (simp; done) | (simp only [← hji8, ← hji10] <;> (first | rfl | simp)) | (simp [*]; done), by repeat (first | exact Drawn0.refl _ | apply Drawn0.step)⟩
        · replace c12 := Bool.eq_false_iff.mpr c12
          subst c12
          have H1 : (some (0, false)) = some (r1, r2) := by rw [if_neg (show ¬ (false = true) by decide)] at H; exact H
          clear H
          have H := H1
          clear H1
          simp only [Option.some.injEq, Prod.mk.injEq] at H
          obtain ⟨rfl, rfl⟩ := H
          go_enter Try.func24, Try.ntmps24
          go_wp2_with (first | ((with_reducible refine gate_callee (f := 36) rfl ?_); refine goesL_ (some 9) rfl rfl Try.func36 (by kernel_rfl) rfl #[.int .i64 a0, .int .i64 (-1), .int .i64 4611686018427387902] rfl (by (try simp only [List.map_toArray, List.map_cons, List.map_nil]); first | done | rfl | (simp only [List.length_drop, List.length_take]; rfl)) ?_; (with_reducible refine (spec_l1In.calls a0 (-1) 4611686018427387902 true _ A4.out).mono ?_); rintro e w' ⟨rfl, ⟨nd, rfl⟩⟩; refine ⟨_, rfl, ?_⟩) | (go_at_call 36; (with_reducible refine (spec_l1In.calls a2 1 4 true _ A6.out).mono ?_); rintro e w' ⟨rfl, ⟨nd, rfl⟩⟩) | (go_at_call 36; (with_reducible refine (spec_l1In.calls a1 0 (wrap64 ((ji10) - 1)) false _ A11.out).mono ?_); rintro e w' ⟨rfl, ⟨nd, rfl⟩⟩))
          go_ret2
          exact ⟨by first | rfl | (simp; done) | (simp only [← hji8, ← hji10] <;> (first | rfl | simp)) | (simp [*]; done), by repeat (first | exact Drawn0.refl _ | apply Drawn0.step)⟩
      · rw [if_neg c9] at H
        exact absurd H (by simp)
    · replace c7 := Bool.eq_false_iff.mpr c7
      subst c7
      have H1 : (some (0, false)) = some (r1, r2) := by rw [if_neg (show ¬ (false = true) by decide)] at H; exact H
      clear H
      have H := H1
      clear H1
      simp only [Option.some.injEq, Prod.mk.injEq] at H
      obtain ⟨rfl, rfl⟩ := H
      go_enter Try.func24, Try.ntmps24
      go_wp2_with (first | ((with_reducible refine gate_callee (f := 36) rfl ?_); refine goesL_ (some 9) rfl rfl Try.func36 (by kernel_rfl) rfl #[.int .i64 a0, .int .i64 (-1), .int .i64 4611686018427387902] rfl (by (try simp only [List.map_toArray, List.map_cons, List.map_nil]); first | done | rfl | (simp only [List.length_drop, List.length_take]; rfl)) ?_; (with_reducible refine (spec_l1In.calls a0 (-1) 4611686018427387902 true _ A4.out).mono ?_); rintro e w' ⟨rfl, ⟨nd, rfl⟩⟩; refine ⟨_, rfl, ?_⟩) | (go_at_call 36; (with_reducible refine (spec_l1In.calls a2 1 4 false _ A6.out).mono ?_); rintro e w' ⟨rfl, ⟨nd, rfl⟩⟩))
      go_ret2
      exact ⟨by first | rfl | (simp; done) | (simp [*]; done), by repeat (first | exact Drawn0.refl _ | apply Drawn0.step)⟩
  · replace c5 := Bool.eq_false_iff.mpr c5
    subst c5
    have H1 : (some (0, false)) = some (r1, r2) := by rw [if_neg (show ¬ (false = true) by decide)] at H; exact H
    clear H
    have H := H1
    clear H1
    simp only [Option.some.injEq, Prod.mk.injEq] at H
    obtain ⟨rfl, rfl⟩ := H
    go_enter Try.func24, Try.ntmps24
    go_wp2_with (first | ((with_reducible refine gate_callee (f := 36) rfl ?_); refine goesL_ (some 9) rfl rfl Try.func36 (by kernel_rfl) rfl #[.int .i64 a0, .int .i64 (-1), .int .i64 4611686018427387902] rfl (by (try simp only [List.map_toArray, List.map_cons, List.map_nil]); first | done | rfl | (simp only [List.length_drop, List.length_take]; rfl)) ?_; (with_reducible refine (spec_l1In.calls a0 (-1) 4611686018427387902 false _ A4.out).mono ?_); rintro e w' ⟨rfl, ⟨nd, rfl⟩⟩; refine ⟨_, rfl, ?_⟩))
    go_ret2
    exact ⟨by first | rfl | (simp; done) | (simp [*]; done), by repeat (first | exact Drawn0.refl _ | apply Drawn0.step)⟩

/-! ### impl_in: function 37 -/
def impl_in.f (a0 : Int) (a1 : Int) (a2 : Int) : Option (Bool) := if a0 ≥ a1 then (some (decide (a0 ≤ a2))) else (some false)
set_option maxHeartbeats 8000000 in
set_option maxRecDepth 100000 in
theorem impl_in.calls (a0 : Int) (a1 : Int) (a2 : Int) (r : Bool) (w : World) (h : impl_in.f a0 a1 a2 = some r) :
    Calls Try.prog 37 #[.int .i64 a0, .int .i64 a1, .int .i64 a2] w fun e w' => e = .returned (.bool r) ∧ Drawn0 w w' := by
  have H : (if a0 ≥ a1 then (some (decide (a0 ≤ a2))) else (some false)) = some r := h
  clear h
  by_cases c4 : a0 ≥ a1
  · rw [if_pos c4] at H
    have c4b0 : decide (a1 ≤ a0) = true := decide_eq_true c4
    clear c4
    obtain rfl := Option.some.inj H
    go_enter Try.func37, Try.ntmps37
    go_wp2
    go_ret
    exact ⟨by first | rfl | (simp; done) | (simp [*]; done), by repeat (first | exact Drawn0.refl _ | apply Drawn0.step)⟩
  · rw [if_neg c4] at H
    have c4b0 : decide (a1 ≤ a0) = false := decide_eq_false c4
    clear c4
    obtain rfl := Option.some.inj H
    go_enter Try.func37, Try.ntmps37
    go_wp2
    go_ret
    exact ⟨by first | rfl | (simp; done) | (simp [*]; done), by repeat (first | exact Drawn0.refl _ | apply Drawn0.step)⟩

/-! ### impl_NumberOf: function 25 -/
mutual
def impl_NumberOf.j0 : Nat → Int → Int → Int → Bool → Option (Int × Bool)
  | 0, _, _, _, _ => none
  | k + 1, x0, x1, x2, x27 => if x27 = true then (some (0, false)) else (if 0 ≤ (wrap64 (8 * x2)) then (if (shl .i64 1 (wrap64 (8 * x2))) = 0 then (none) else (if (wrap64 ((wrap64 ((wrap64 (x0 + 1)) - (Int.tmod (wrap64 (x0 + 1)) (shl .i64 1 (wrap64 (8 * x2)))))) + x1)) ≤ (wrap64 ((wrap64 (x0 + 1)) - (wrap64 (Int.tdiv (shl .i64 1 (wrap64 (8 * x2))) 2)))) then (impl_NumberOf.j1 k (wrap64 (x0 + 1)) (shl .i64 1 (wrap64 (8 * x2))) (wrap64 ((wrap64 ((wrap64 (x0 + 1)) - (Int.tmod (wrap64 (x0 + 1)) (shl .i64 1 (wrap64 (8 * x2)))))) + x1)) (decide ((wrap64 ((wrap64 ((wrap64 (x0 + 1)) - (Int.tmod (wrap64 (x0 + 1)) (shl .i64 1 (wrap64 (8 * x2)))))) + x1)) < (wrap64 (4611686018427387904 - (shl .i64 1 (wrap64 (8 * x2)))))))) else (impl_NumberOf.j1 k (wrap64 (x0 + 1)) (shl .i64 1 (wrap64 (8 * x2))) (wrap64 ((wrap64 ((wrap64 (x0 + 1)) - (Int.tmod (wrap64 (x0 + 1)) (shl .i64 1 (wrap64 (8 * x2)))))) + x1)) false))) else (none))
def impl_NumberOf.j1 : Nat → Int → Int → Int → Bool → Option (Int × Bool)
  | 0, _, _, _, _ => none
  | k + 1, x8, x9, x10, x40 => if x40 = true then (some (wrap64 (x10 + x9), true)) else (if x10 > (wrap64 (x8 + (wrap64 (Int.tdiv x9 2)))) then (if x10 ≥ x9 then (some (wrap64 (x10 - x9), true)) else (some (x10, true))) else (some (x10, true)))
end
def impl_NumberOf.f (k : Nat) (a0 : Int) (a1 : Int) (a2 : Int) : Option (Int × Bool) := (impl_in.f a0 (-1) 4611686018427387902).bind fun t105 => (if t105 = true then ((impl_in.f a2 1 4).bind fun t106 => (if t106 = true then (if 0 ≤ (wrap64 (8 * a2)) then ((impl_in.f a1 0 (wrap64 ((shl .i64 1 (wrap64 (8 * a2))) - 1))).bind fun t107 => (impl_NumberOf.j0 k a0 a1 a2 (!t107))) else (none)) else (impl_NumberOf.j0 k a0 a1 a2 true))) else (impl_NumberOf.j0 k a0 a1 a2 true))
theorem impl_NumberOf.mono_l : ∀ k, (∀ y0 y1 y2 y3, LeO (impl_NumberOf.j0 k y0 y1 y2 y3) (impl_NumberOf.j0 (k + 1) y0 y1 y2 y3)) ∧ (∀ y0 y1 y2 y3, LeO (impl_NumberOf.j1 k y0 y1 y2 y3) (impl_NumberOf.j1 (k + 1) y0 y1 y2 y3))
  | 0 => ⟨fun _ _ _ _ r h => by simp [impl_NumberOf.j0] at h, fun _ _ _ _ r h => by simp [impl_NumberOf.j1] at h⟩
  | k + 1 => by
    obtain ⟨ih0, ih1⟩ := impl_NumberOf.mono_l k
    refine ⟨?_, ?_⟩
    · intro y0 y1 y2 y3
      unfold impl_NumberOf.j0
      repeat' first
      | (with_reducible exact ih0 _ _ _ _)
      | (with_reducible exact ih1 _ _ _ _)
      | (with_reducible exact LeO.refl _)
      | (with_reducible exact LeO.none _)
      | (with_reducible refine LeO.ite ?_ ?_)
      | (with_reducible refine LeO.bind ?_ (fun _ => ?_))
      | exact ih0 _ _ _ _
      | exact ih1 _ _ _ _
      | exact LeO.none _
      | refine LeO.ite ?_ ?_
      | refine LeO.bind ?_ (fun _ => ?_)
    · intro y0 y1 y2 y3
      unfold impl_NumberOf.j1
      repeat' first
      | (with_reducible exact ih0 _ _ _ _)
      | (with_reducible exact ih1 _ _ _ _)
      | (with_reducible exact LeO.refl _)
      | (with_reducible exact LeO.none _)
      | (with_reducible refine LeO.ite ?_ ?_)
      | (with_reducible refine LeO.bind ?_ (fun _ => ?_))
      | exact ih0 _ _ _ _
      | exact ih1 _ _ _ _
      | exact LeO.none _
      | refine LeO.ite ?_ ?_
      | refine LeO.bind ?_ (fun _ => ?_)
theorem impl_NumberOf.mono : ∀ a0 a1 a2 k, LeO (impl_NumberOf.f k a0 a1 a2) (impl_NumberOf.f (k + 1) a0 a1 a2) := by
  intro a0 a1 a2 k
  obtain ⟨ih0, ih1⟩ := impl_NumberOf.mono_l k
  unfold impl_NumberOf.f
  repeat' first
      | (with_reducible exact ih0 _ _ _ _)
      | (with_reducible exact ih1 _ _ _ _)
      | (with_reducible exact LeO.refl _)
      | (with_reducible exact LeO.none _)
      | (with_reducible refine LeO.ite ?_ ?_)
      | (with_reducible refine LeO.bind ?_ (fun _ => ?_))
      | exact ih0 _ _ _ _
      | exact ih1 _ _ _ _
      | exact LeO.none _
      | refine LeO.ite ?_ ?_
      | refine LeO.bind ?_ (fun _ => ?_)
set_option maxHeartbeats 8000000 in
set_option maxRecDepth 100000 in
theorem impl_NumberOf.calls (k : Nat) (a0 : Int) (a1 : Int) (a2 : Int) (r1 : Int) (r2 : Bool) (w : World) (h : impl_NumberOf.f k a0 a1 a2 = some (r1, r2)) :
    Calls Try.prog 25 #[.int .i64 a0, .int .i64 a1, .int .i64 a2] w fun e w' => e = .returned (.tuple #[.int .i64 r1, .bool r2]) ∧ Drawn0 w w' := by
  have H : ((impl_in.f a0 (-1) 4611686018427387902).bind fun t105 => (if t105 = true then ((impl_in.f a2 1 4).bind fun t106 => (if t106 = true then (if 0 ≤ (wrap64 (8 * a2)) then ((impl_in.f a1 0 (wrap64 ((shl .i64 1 (wrap64 (8 * a2))) - 1))).bind fun t107 => (impl_NumberOf.j0 k a0 a1 a2 (!t107))) else (none)) else (impl_NumberOf.j0 k a0 a1 a2 true))) else (impl_NumberOf.j0 k a0 a1 a2 true))) = some (r1, r2) := h
  clear h
  have HC4 := Aside0.mk H
  clear H
  go_enter Try.func25, Try.ntmps25
  go_upto_region 1 with (fail)
  repeat (go_quiet (fail); go_upto_region 1 with (fail))
  go_cut [27] (fun v27 wc => ∃ (kq : Nat) (x27_3 : Bool), v27 = .bool x27_3 ∧ Aside0 (impl_NumberOf.j0 kq a0 a1 a2 x27_3 = some (r1, r2)) ∧ Aside0 (kq ≤ k) ∧ Drawn0 w wc)
  case first =>
    have H := HC4.out
    clear HC4
    replace H := Option.bind_eq_some_iff.mp H
    obtain ⟨t105, A50, H⟩ := H
    replace H : (if t105 = true then ((impl_in.f a2 1 4).bind fun t106 => (if t106 = true then (if 0 ≤ (wrap64 (8 * a2)) then ((impl_in.f a1 0 (wrap64 ((shl .i64 1 (wrap64 (8 * a2))) - 1))).bind fun t107 => (impl_NumberOf.j0 k a0 a1 a2 (!t107))) else (none)) else (impl_NumberOf.j0 k a0 a1 a2 true))) else (impl_NumberOf.j0 k a0 a1 a2 true)) = some (r1, r2) := H
    have A5 := Aside0.mk A50
    clear A50
    by_cases c6 : t105 = true
    · subst c6
      have H1 : ((impl_in.f a2 1 4).bind fun t106 => (if t106 = true then (if 0 ≤ (wrap64 (8 * a2)) then ((impl_in.f a1 0 (wrap64 ((shl .i64 1 (wrap64 (8 * a2))) - 1))).bind fun t107 => (impl_NumberOf.j0 k a0 a1 a2 (!t107))) else (none)) else (impl_NumberOf.j0 k a0 a1 a2 true))) = some (r1, r2) := by rw [if_pos rfl] at H; exact H
      clear H
      have H := H1
      clear H1
      replace H := Option.bind_eq_some_iff.mp H
      obtain ⟨t106, A70, H⟩ := H
      replace H : (if t106 = true then (if 0 ≤ (wrap64 (8 * a2)) then ((impl_in.f a1 0 (wrap64 ((shl .i64 1 (wrap64 (8 * a2))) - 1))).bind fun t107 => (impl_NumberOf.j0 k a0 a1 a2 (!t107))) else (none)) else (impl_NumberOf.j0 k a0 a1 a2 true)) = some (r1, r2) := H
      have A7 := Aside0.mk A70
      clear A70
      by_cases c8 : t106 = true
      · subst c8
        have H1 : (if 0 ≤ (wrap64 (8 * a2)) then ((impl_in.f a1 0 (wrap64 ((shl .i64 1 (wrap64 (8 * a2))) - 1))).bind fun t107 => (impl_NumberOf.j0 k a0 a1 a2 (!t107))) else (none)) = some (r1, r2) := by rw [if_pos rfl] at H; exact H
        clear H
        have H := H1
        clear H1
        obtain ⟨ji9, hji9⟩ : ∃ j_ : Int, (wrap64 (8 * a2)) = j_ := ⟨_, rfl⟩
        replace H : (if 0 ≤ (ji9) then ((impl_in.f a1 0 (wrap64 ((shl .i64 1 (ji9)) - 1))).bind fun t107 => (impl_NumberOf.j0 k a0 a1 a2 (!t107))) else (none)) = some (r1, r2) := by first | (rw [hji9] at H; exact H) | (simp only [hji9] at H ⊢; exact H)
        (try rw [hji9] at A5)
        (try rw [hji9] at A7)
        have hji9w : (IntKind.i64.wrap (8 * a2)) = ji9 := (i64_w _).trans hji9
        by_cases c10 : 0 ≤ (ji9)
        · rw [if_pos c10] at H
          have c10b0 := eq_true c10
          have c10b1 : decide (0 ≤ (ji9)) = true := decide_eq_true c10
          clear c10
          obtain ⟨ji11, hji11⟩ : ∃ j_ : Int, (shl .i64 1 (ji9)) = j_ := ⟨_, rfl⟩
          replace H : ((impl_in.f a1 0 (wrap64 ((ji11) - 1))).bind fun t107 => (impl_NumberOf.j0 k a0 a1 a2 (!t107))) = some (r1, r2) := by first | (rw [hji11] at H; exact H) | (simp only [hji11] at H ⊢; exact H)
          (try rw [hji11] at A5)
          (try rw [hji11] at A7)
          have hji11_ : (IntKind.i64.wrap (1 * 2 ^ min (ji9).toNat 64)) = ji11 := hji11
          have hji11z : (ji9) ≤ 64 → (IntKind.i64.wrap (1 * 2 ^ (ji9).toNat)) = ji11 := shl_small hji11
          have hji11u : (IntKind.i64.wrap (2 ^ min (ji9).toNat 64)) = ji11 := by have h_ := hji11_; rw [Int.one_mul] at h_; exact h_
          have hji11v : (ji9) ≤ 64 → (IntKind.i64.wrap (2 ^ (ji9).toNat)) = ji11 := fun hle_ => by have h_ := hji11z hle_; rw [Int.one_mul] at h_; exact h_
          have hji11y : (wrap64 (1 * 2 ^ min (ji9).toNat 64)) = ji11 := (i64_w _).symm.trans hji11_
          have hji11x : (ji9) ≤ 64 → (wrap64 (1 * 2 ^ (ji9).toNat)) = ji11 := fun h_ => (i64_w _).symm.trans (hji11z h_)
          replace H := Option.bind_eq_some_iff.mp H
          obtain ⟨t107, A120, H⟩ := H
          replace H : (impl_NumberOf.j0 k a0 a1 a2 (!t107)) = some (r1, r2) := H
          have A12 := Aside0.mk A120
          clear A120
          have H' := Aside0.mk H
          clear H
          go_wp2_with (first | (go_at_call 37; (with_reducible refine (impl_in.calls a0 (-1) 4611686018427387902 true _ A5.out).mono ?_); rintro e w' ⟨rfl, ⟨nd, rfl⟩⟩; (try first | exact ⟨rfl, _, World.drewN_drewN _ _ _⟩ | exact ⟨rfl, _, Eq.trans (World.drewN_drewN _ _ _) (congrArg (World.drewN _) (Nat.add_assoc _ _ _))⟩)) | (go_at_call 37; (with_reducible refine (impl_in.calls a2 1 4 true _ A7.out).mono ?_); rintro e w' ⟨rfl, ⟨nd, rfl⟩⟩; (try first | exact ⟨rfl, _, World.drewN_drewN _ _ _⟩ | exact ⟨rfl, _, Eq.trans (World.drewN_drewN _ _ _) (congrArg (World.drewN _) (Nat.add_assoc _ _ _))⟩)) | (go_at_call 37; (with_reducible refine (impl_in.calls a1 0 (wrap64 ((ji11) - 1)) t107 _ A12.out).mono ?_); rintro e w' ⟨rfl, ⟨nd, rfl⟩⟩; (try first | exact ⟨rfl, _, World.drewN_drewN _ _ _⟩ | exact ⟨rfl, _, Eq.trans (World.drewN_drewN _ _ _) (congrArg (World.drewN _) (Nat.add_assoc _ _ _))⟩)))
          repeat (go_quiet (first | (go_at_call 37; (with_reducible refine (impl_in.calls a0 (-1) 4611686018427387902 true _ A5.out).mono ?_); rintro e w' ⟨rfl, ⟨nd, rfl⟩⟩; (try first | exact ⟨rfl, _, World.drewN_drewN _ _ _⟩ | exact ⟨rfl, _, Eq.trans (World.drewN_drewN _ _ _) (congrArg (World.drewN _) (Nat.add_assoc _ _ _))⟩)) | (go_at_call 37; (with_reducible refine (impl_in.calls a2 1 4 true _ A7.out).mono ?_); rintro e w' ⟨rfl, ⟨nd, rfl⟩⟩; (try first | exact ⟨rfl, _, World.drewN_drewN _ _ _⟩ | exact ⟨rfl, _, Eq.trans (World.drewN_drewN _ _ _) (congrArg (World.drewN _) (Nat.add_assoc _ _ _))⟩)) | (go_at_call 37; (with_reducible refine (impl_in.calls a1 0 (wrap64 ((ji11) - 1)) t107 _ A12.out).mono ?_); rintro e w' ⟨rfl, ⟨nd, rfl⟩⟩; (try first | exact ⟨rfl, _, World.drewN_drewN _ _ _⟩ | exact ⟨rfl, _, Eq.trans (World.drewN_drewN _ _ _) (congrArg (World.drewN _) (Nat.add_assoc _ _ _))⟩))); try go_wp2_with (first | (go_at_call 37; (with_reducible refine (impl_in.calls a0 (-1) 4611686018427387902 true _ A5.out).mono ?_); rintro e w' ⟨rfl, ⟨nd, rfl⟩⟩; (try first | exact ⟨rfl, _, World.drewN_drewN _ _ _⟩ | exact ⟨rfl, _, Eq.trans (World.drewN_drewN _ _ _) (congrArg (World.drewN _) (Nat.add_assoc _ _ _))⟩)) | (go_at_call 37; (with_reducible refine (impl_in.calls a2 1 4 true _ A7.out).mono ?_); rintro e w' ⟨rfl, ⟨nd, rfl⟩⟩; (try first | exact ⟨rfl, _, World.drewN_drewN _ _ _⟩ | exact ⟨rfl, _, Eq.trans (World.drewN_drewN _ _ _) (congrArg (World.drewN _) (Nat.add_assoc _ _ _))⟩)) | (go_at_call 37; (with_reducible refine (impl_in.calls a1 0 (wrap64 ((ji11) - 1)) t107 _ A12.out).mono ?_); rintro e w' ⟨rfl, ⟨nd, rfl⟩⟩; (try first | exact ⟨rfl, _, World.drewN_drewN _ _ _⟩ | exact ⟨rfl, _, Eq.trans (World.drewN_drewN _ _ _) (congrArg (World.drewN _) (Nat.add_assoc _ _ _))⟩))))
          go_meet
          case rel => exact ⟨_, (!t107), (by first | rfl | (simp; done) | (simp [*]; done)), H', ⟨by first | omega | exact Nat.le_refl _⟩, by repeat (first | exact Drawn0.refl _ | apply Drawn0.step)⟩
        · rw [if_neg c10] at H
          exact absurd H (by simp)
      · replace c8 := Bool.eq_false_iff.mpr c8
        subst c8
        have H1 : (impl_NumberOf.j0 k a0 a1 a2 true) = some (r1, r2) := by rw [if_neg (show ¬ (false = true) by decide)] at H; exact H
        clear H
        have H := H1
        clear H1
        have H' := Aside0.mk H
        clear H
        go_wp2_with (first | (go_at_call 37; (with_reducible refine (impl_in.calls a0 (-1) 4611686018427387902 true _ A5.out).mono ?_); rintro e w' ⟨rfl, ⟨nd, rfl⟩⟩; (try first | exact ⟨rfl, _, World.drewN_drewN _ _ _⟩ | exact ⟨rfl, _, Eq.trans (World.drewN_drewN _ _ _) (congrArg (World.drewN _) (Nat.add_assoc _ _ _))⟩)) | (go_at_call 37; (with_reducible refine (impl_in.calls a2 1 4 false _ A7.out).mono ?_); rintro e w' ⟨rfl, ⟨nd, rfl⟩⟩; (try first | exact ⟨rfl, _, World.drewN_drewN _ _ _⟩ | exact ⟨rfl, _, Eq.trans (World.drewN_drewN _ _ _) (congrArg (World.drewN _) (Nat.add_assoc _ _ _))⟩)))
        repeat (go_quiet (first | (go_at_call 37; (with_reducible refine (impl_in.calls a0 (-1) 4611686018427387902 true _ A5.out).mono ?_); rintro e w' ⟨rfl, ⟨nd, rfl⟩⟩; (try first | exact ⟨rfl, _, World.drewN_drewN _ _ _⟩ | exact ⟨rfl, _, Eq.trans (World.drewN_drewN _ _ _) (congrArg (World.drewN _) (Nat.add_assoc _ _ _))⟩)) | (go_at_call 37; (with_reducible refine (impl_in.calls a2 1 4 false _ A7.out).mono ?_); rintro e w' ⟨rfl, ⟨nd, rfl⟩⟩; (try first | exact ⟨rfl, _, World.drewN_drewN _ _ _⟩ | exact ⟨rfl, _, Eq.trans (World.drewN_drewN _ _ _) (congrArg (World.drewN _) (Nat.add_assoc _ _ _))⟩))); try go_wp2_with (first | (go_at_call 37; (with_reducible refine (impl_in.calls a0 (-1) 4611686018427387902 true _ A5.out).mono ?_); rintro e w' ⟨rfl, ⟨nd, rfl⟩⟩; (try first | exact ⟨rfl, _, World.drewN_drewN _ _ _⟩ | exact ⟨rfl, _, Eq.trans (World.drewN_drewN _ _ _) (congrArg (World.drewN _) (Nat.add_assoc _ _ _))⟩)) | (go_at_call 37; (with_reducible refine (impl_in.calls a2 1 4 false _ A7.out).mono ?_); rintro e w' ⟨rfl, ⟨nd, rfl⟩⟩; (try first | exact ⟨rfl, _, World.drewN_drewN _ _ _⟩ | exact ⟨rfl, _, Eq.trans (World.drewN_drewN _ _ _) (congrArg (World.drewN _) (Nat.add_assoc _ _ _))⟩))))
        go_meet
        case rel => exact ⟨_, (true), (by first | rfl | (simp; done) | (simp [*]; done)), H', ⟨by first | omega | exact Nat.le_refl _⟩, by repeat (first | exact Drawn0.refl _ | apply Drawn0.step)⟩
    · replace c6 := Bool.eq_false_iff.mpr c6
      subst c6
      have H1 : (impl_NumberOf.j0 k a0 a1 a2 true) = some (r1, r2) := by rw [if_neg (show ¬ (false = true) by decide)] at H; exact H
      clear H
      have H := H1
      clear H1
      have H' := Aside0.mk H
      clear H
      go_wp2_with (first | (go_at_call 37; (with_reducible refine (impl_in.calls a0 (-1) 4611686018427387902 false _ A5.out).mono ?_); rintro e w' ⟨rfl, ⟨nd, rfl⟩⟩; (try first | exact ⟨rfl, _, World.drewN_drewN _ _ _⟩ | exact ⟨rfl, _, Eq.trans (World.drewN_drewN _ _ _) (congrArg (World.drewN _) (Nat.add_assoc _ _ _))⟩)))
      repeat (go_quiet (first | (go_at_call 37; (with_reducible refine (impl_in.calls a0 (-1) 4611686018427387902 false _ A5.out).mono ?_); rintro e w' ⟨rfl, ⟨nd, rfl⟩⟩; (try first | exact ⟨rfl, _, World.drewN_drewN _ _ _⟩ | exact ⟨rfl, _, Eq.trans (World.drewN_drewN _ _ _) (congrArg (World.drewN _) (Nat.add_assoc _ _ _))⟩))); try go_wp2_with (first | (go_at_call 37; (with_reducible refine (impl_in.calls a0 (-1) 4611686018427387902 false _ A5.out).mono ?_); rintro e w' ⟨rfl, ⟨nd, rfl⟩⟩; (try first | exact ⟨rfl, _, World.drewN_drewN _ _ _⟩ | exact ⟨rfl, _, Eq.trans (World.drewN_drewN _ _ _) (congrArg (World.drewN _) (Nat.add_assoc _ _ _))⟩))))
      go_meet
      case rel => exact ⟨_, (true), (by first | rfl | (simp; done) | (simp [*]; done)), H', ⟨by first | omega | exact Nat.le_refl _⟩, by repeat (first | exact Drawn0.refl _ | apply Drawn0.step)⟩
  case rest =>
    clear HC4
    try clear c1
    try clear c2
    try clear p2
    try clear c6
    try clear p6
    try clear c8
    try clear c10
    try clear c10b0
    try clear c10b1
    obtain ⟨kq, x27_3, rfl, HA, HJ3, ⟨mc3, rfl⟩⟩ := hcut
    cases kq with
    | zero => exact absurd HA.out (by simp [impl_NumberOf.j0])
    | succ kj3 =>
      have H := HA.out
      clear HA
      simp only [impl_NumberOf.j0] at H
      by_cases c13 : x27_3 = true
      · subst c13
        have H1 : (some (0, false)) = some (r1, r2) := by rw [if_pos rfl] at H; exact H
        clear H
        have H := H1
        clear H1
        simp only [Option.some.injEq, Prod.mk.injEq] at H
        obtain ⟨rfl, rfl⟩ := H
        go_wp2
        repeat (go_quiet (fail); try go_wp2)
        go_ret2
        exact ⟨by first | rfl | (simp; done) | (simp [*]; done), by repeat (first | exact Drawn0.refl _ | apply Drawn0.step)⟩
      · replace c13 := Bool.eq_false_iff.mpr c13
        subst c13
        have H1 : (if 0 ≤ (wrap64 (8 * a2)) then (if (shl .i64 1 (wrap64 (8 * a2))) = 0 then (none) else (if (wrap64 ((wrap64 ((wrap64 (a0 + 1)) - (Int.tmod (wrap64 (a0 + 1)) (shl .i64 1 (wrap64 (8 * a2)))))) + a1)) ≤ (wrap64 ((wrap64 (a0 + 1)) - (wrap64 (Int.tdiv (shl .i64 1 (wrap64 (8 * a2))) 2)))) then (impl_NumberOf.j1 kj3 (wrap64 (a0 + 1)) (shl .i64 1 (wrap64 (8 * a2))) (wrap64 ((wrap64 ((wrap64 (a0 + 1)) - (Int.tmod (wrap64 (a0 + 1)) (shl .i64 1 (wrap64 (8 * a2)))))) + a1)) (decide ((wrap64 ((wrap64 ((wrap64 (a0 + 1)) - (Int.tmod (wrap64 (a0 + 1)) (shl .i64 1 (wrap64 (8 * a2)))))) + a1)) < (wrap64 (4611686018427387904 - (shl .i64 1 (wrap64 (8 * a2)))))))) else (impl_NumberOf.j1 kj3 (wrap64 (a0 + 1)) (shl .i64 1 (wrap64 (8 * a2))) (wrap64 ((wrap64 ((wrap64 (a0 + 1)) - (Int.tmod (wrap64 (a0 + 1)) (shl .i64 1 (wrap64 (8 * a2)))))) + a1)) false))) else (none)) = some (r1, r2) := by rw [if_neg (show ¬ (false = true) by decide)] at H; exact H
        clear H
        have H := H1
        clear H1
        obtain ⟨ji14, hji14⟩ : ∃ j_ : Int, (wrap64 (8 * a2)) = j_ := ⟨_, rfl⟩
        replace H : (if 0 ≤ (ji14) then (if (shl .i64 1 (ji14)) = 0 then (none) else (if (wrap64 ((wrap64 ((wrap64 (a0 + 1)) - (Int.tmod (wrap64 (a0 + 1)) (shl .i64 1 (ji14))))) + a1)) ≤ (wrap64 ((wrap64 (a0 + 1)) - (wrap64 (Int.tdiv (shl .i64 1 (ji14)) 2)))) then (impl_NumberOf.j1 kj3 (wrap64 (a0 + 1)) (shl .i64 1 (ji14)) (wrap64 ((wrap64 ((wrap64 (a0 + 1)) - (Int.tmod (wrap64 (a0 + 1)) (shl .i64 1 (ji14))))) + a1)) (decide ((wrap64 ((wrap64 ((wrap64 (a0 + 1)) - (Int.tmod (wrap64 (a0 + 1)) (shl .i64 1 (ji14))))) + a1)) < (wrap64 (4611686018427387904 - (shl .i64 1 (ji14))))))) else (impl_NumberOf.j1 kj3 (wrap64 (a0 + 1)) (shl .i64 1 (ji14)) (wrap64 ((wrap64 ((wrap64 (a0 + 1)) - (Int.tmod (wrap64 (a0 + 1)) (shl .i64 1 (ji14))))) + a1)) false))) else (none)) = some (r1, r2) := by first | (rw [hji14] at H; exact H) | (simp only [hji14] at H ⊢; exact H)
        have hji14w : (IntKind.i64.wrap (8 * a2)) = ji14 := (i64_w _).trans hji14
        by_cases c15 : 0 ≤ (ji14)
        · rw [if_pos c15] at H
          have c15b0 := eq_true c15
          have c15b1 : decide (0 ≤ (ji14)) = true := decide_eq_true c15
          clear c15
          obtain ⟨ji16, hji16⟩ : ∃ j_ : Int, (shl .i64 1 (ji14)) = j_ := ⟨_, rfl⟩
          replace H : (if (ji16) = 0 then (none) else (if (wrap64 ((wrap64 ((wrap64 (a0 + 1)) - (Int.tmod (wrap64 (a0 + 1)) (ji16)))) + a1)) ≤ (wrap64 ((wrap64 (a0 + 1)) - (wrap64 (Int.tdiv (ji16) 2)))) then (impl_NumberOf.j1 kj3 (wrap64 (a0 + 1)) ji16 (wrap64 ((wrap64 ((wrap64 (a0 + 1)) - (Int.tmod (wrap64 (a0 + 1)) (ji16)))) + a1)) (decide ((wrap64 ((wrap64 ((wrap64 (a0 + 1)) - (Int.tmod (wrap64 (a0 + 1)) (ji16)))) + a1)) < (wrap64 (4611686018427387904 - (ji16)))))) else (impl_NumberOf.j1 kj3 (wrap64 (a0 + 1)) ji16 (wrap64 ((wrap64 ((wrap64 (a0 + 1)) - (Int.tmod (wrap64 (a0 + 1)) (ji16)))) + a1)) false))) = some (r1, r2) := by first | (rw [hji16] at H; exact H) | (simp only [hji16] at H ⊢; exact H)
          have hji16_ : (IntKind.i64.wrap (1 * 2 ^ min (ji14).toNat 64)) = ji16 := hji16
          have hji16z : (ji14) ≤ 64 → (IntKind.i64.wrap (1 * 2 ^ (ji14).toNat)) = ji16 := shl_small hji16
          have hji16u : (IntKind.i64.wrap (2 ^ min (ji14).toNat 64)) = ji16 := by have h_ := hji16_; rw [Int.one_mul] at h_; exact h_
          have hji16v : (ji14) ≤ 64 → (IntKind.i64.wrap (2 ^ (ji14).toNat)) = ji16 := fun hle_ => by have h_ := hji16z hle_; rw [Int.one_mul] at h_; exact h_
          have hji16y : (wrap64 (1 * 2 ^ min (ji14).toNat 64)) = ji16 := (i64_w _).symm.trans hji16_
          have hji16x : (ji14) ≤ 64 → (wrap64 (1 * 2 ^ (ji14).toNat)) = ji16 := fun h_ => (i64_w _).symm.trans (hji16z h_)
          by_cases c17 : (ji16) = 0
          · rw [if_pos c17] at H
            exact absurd H (by simp)
          · rw [if_neg c17] at H
            have c17b0 : ((ji16) == 0) = false := beq_eq_false_iff_ne.mpr c17
            have c17b1 : ((ji16) != 0) = true := bne_iff_ne.mpr c17
            have HC18 := Aside0.mk H
            clear H
            go_upto_region 5 with (fail)
            repeat (go_quiet (fail); go_upto_region 5 with (fail))
            go_cut [40] (fun v40 wc => ∃ (kq : Nat) (x40_17 : Bool), v40 = .bool x40_17 ∧ Aside0 (impl_NumberOf.j1 kq (wrap64 (a0 + 1)) ji16 (wrap64 ((wrap64 ((wrap64 (a0 + 1)) - (Int.tmod (wrap64 (a0 + 1)) (ji16)))) + a1)) x40_17 = some (r1, r2)) ∧ Aside0 (kq ≤ kj3) ∧ Drawn0 w wc)
            case first =>
              have H := HC18.out
              clear HC18
              by_cases c19 : (wrap64 ((wrap64 ((wrap64 (a0 + 1)) - (Int.tmod (wrap64 (a0 + 1)) (ji16)))) + a1)) ≤ (wrap64 ((wrap64 (a0 + 1)) - (wrap64 (Int.tdiv (ji16) 2))))
              · rw [if_pos c19] at H
                have c19b0 : decide ((wrap64 ((wrap64 ((wrap64 (a0 + 1)) - (Int.tmod (wrap64 (a0 + 1)) (ji16)))) + a1)) ≤ (wrap64 ((wrap64 (a0 + 1)) - (wrap64 (Int.tdiv (ji16) 2))))) = true := decide_eq_true c19
                clear c19
                (first | rw [c19b0] | (simp only [i64_w, i32_w]; rw [c19b0]) | skip)
                have H' := Aside0.mk H
                clear H
                go_wp2
                repeat (go_quiet (fail); try go_wp2)
                go_meet
                case rel => exact ⟨_, (decide ((wrap64 ((wrap64 ((wrap64 (a0 + 1)) - (Int.tmod (wrap64 (a0 + 1)) (ji16)))) + a1)) < (wrap64 (4611686018427387904 - (ji16))))), (by first | rfl | (simp; done) | (simp only [← hji16] <;> (first | rfl | simp)) | (simp [*]; done)), H', ⟨by have := HJ3.out; first | omega | exact Nat.le_refl _⟩, by repeat (first | exact Drawn0.refl _ | apply Drawn0.step)⟩
              · rw [if_neg c19] at H
                have c19b0 : decide ((wrap64 ((wrap64 ((wrap64 (a0 + 1)) - (Int.tmod (wrap64 (a0 + 1)) (ji16)))) + a1)) ≤ (wrap64 ((wrap64 (a0 + 1)) - (wrap64 (Int.tdiv (ji16) 2))))) = false := decide_eq_false c19
                clear c19
                (first | rw [c19b0] | (simp only [i64_w, i32_w]; rw [c19b0]) | skip)
                have H' := Aside0.mk H
                clear H
                go_wp2
                repeat (go_quiet (fail); try go_wp2)
                go_meet
                case rel => exact ⟨_, (false), (by first | rfl | (simp; done) | (simp [*]; done)), H', ⟨by have := HJ3.out; first | omega | exact Nat.le_refl _⟩, by repeat (first | exact Drawn0.refl _ | apply Drawn0.step)⟩
            case rest =>
              clear HC18
              try clear c1
              try clear c2
              try clear p2
              try clear c3
              try clear c6
              try clear p6
              try clear c8
              try clear c10
              try clear c10b0
              try clear c10b1
              try clear c13
              try clear c15
              try clear c15b0
              try clear c15b1
              try clear c17
              try clear c17b0
              try clear c17b1
              try clear c19
              try clear c19b0
              try clear p2
              try clear p6
              obtain ⟨kq, x40_17, rfl, HA, HJ17, ⟨mc17, rfl⟩⟩ := hcut
              cases kq with
              | zero => exact absurd HA.out (by simp [impl_NumberOf.j1])
              | succ kj17 =>
                have H := HA.out
                clear HA
                simp only [impl_NumberOf.j1] at H
                by_cases c20 : x40_17 = true
                · subst c20
                  have H1 : (some (wrap64 ((wrap64 ((wrap64 ((wrap64 (a0 + 1)) - (Int.tmod (wrap64 (a0 + 1)) (ji16)))) + a1)) + ji16), true)) = some (r1, r2) := by rw [if_pos rfl] at H; exact H
                  clear H
                  have H := H1
                  clear H1
                  simp only [Option.some.injEq, Prod.mk.injEq] at H
                  obtain ⟨rfl, rfl⟩ := H
                  go_wp2
                  repeat (go_quiet (fail); try go_wp2)
                  go_ret2
                  exact ⟨by first | rfl | (simp; done) | (simp only [← hji14, ← hji16] <;> (first | rfl | simp)) | (simp [*]; done), by repeat (first | exact Drawn0.refl _ | apply Drawn0.step)⟩
                · replace c20 := Bool.eq_false_iff.mpr c20
                  subst c20
                  have H1 : (if (wrap64 ((wrap64 ((wrap64 (a0 + 1)) - (Int.tmod (wrap64 (a0 + 1)) (ji16)))) + a1)) > (wrap64 ((wrap64 (a0 + 1)) + (wrap64 (Int.tdiv ji16 2)))) then (if (wrap64 ((wrap64 ((wrap64 (a0 + 1)) - (Int.tmod (wrap64 (a0 + 1)) (ji16)))) + a1)) ≥ ji16 then (some (wrap64 ((wrap64 ((wrap64 ((wrap64 (a0 + 1)) - (Int.tmod (wrap64 (a0 + 1)) (ji16)))) + a1)) - ji16), true)) else (some ((wrap64 ((wrap64 ((wrap64 (a0 + 1)) - (Int.tmod (wrap64 (a0 + 1)) (ji16)))) + a1)), true))) else (some ((wrap64 ((wrap64 ((wrap64 (a0 + 1)) - (Int.tmod (wrap64 (a0 + 1)) (ji16)))) + a1)), true))) = some (r1, r2) := by rw [if_neg (show ¬ (false = true) by decide)] at H; exact H
                  clear H
                  have H := H1
                  clear H1
                  by_cases c21 : (wrap64 ((wrap64 ((wrap64 (a0 + 1)) - (Int.tmod (wrap64 (a0 + 1)) (ji16)))) + a1)) > (wrap64 ((wrap64 (a0 + 1)) + (wrap64 (Int.tdiv ji16 2))))
                  · rw [if_pos c21] at H
                    have c21b0 : decide ((wrap64 ((wrap64 (a0 + 1)) + (wrap64 (Int.tdiv ji16 2)))) < (wrap64 ((wrap64 ((wrap64 (a0 + 1)) - (Int.tmod (wrap64 (a0 + 1)) (ji16)))) + a1))) = true := decide_eq_true c21
                    clear c21
                    by_cases c22 : (wrap64 ((wrap64 ((wrap64 (a0 + 1)) - (Int.tmod (wrap64 (a0 + 1)) (ji16)))) + a1)) ≥ ji16
                    · rw [if_pos c22] at H
                      have c22b0 : decide (ji16 ≤ (wrap64 ((wrap64 ((wrap64 (a0 + 1)) - (Int.tmod (wrap64 (a0 + 1)) (ji16)))) + a1))) = true := decide_eq_true c22
                      clear c22
                      simp only [Option.some.injEq, Prod.mk.injEq] at H
                      obtain ⟨rfl, rfl⟩ := H
                      go_wp2
                      repeat (go_quiet (fail); try go_wp2)
                      go_ret2
                      exact ⟨by first | rfl | (simp; done) | (simp only [← hji14, ← hji16] <;> (first | rfl | simp)) | (simp [*]; done), by repeat (first | exact Drawn0.refl _ | apply Drawn0.step)⟩
                    · rw [if_neg c22] at H
                      have c22b0 : decide (ji16 ≤ (wrap64 ((wrap64 ((wrap64 (a0 + 1)) - (Int.tmod (wrap64 (a0 + 1)) (ji16)))) + a1))) = false := decide_eq_false c22
                      clear c22
                      simp only [Option.some.injEq, Prod.mk.injEq] at H
                      obtain ⟨rfl, rfl⟩ := H
                      go_wp2
                      repeat (go_quiet (fail); try go_wp2)
                      go_ret2
                      exact ⟨by first | rfl | (simp; done) | (simp only [← hji14, ← hji16] <;> (first | rfl | simp)) | (simp [*]; done), by repeat (first | exact Drawn0.refl _ | apply Drawn0.step)⟩
                  · rw [if_neg c21] at H
                    have c21b0 : decide ((wrap64 ((wrap64 (a0 + 1)) + (wrap64 (Int.tdiv ji16 2)))) < (wrap64 ((wrap64 ((wrap64 (a0 + 1)) - (Int.tmod (wrap64 (a0 + 1)) (ji16)))) + a1))) = false := decide_eq_false c21
                    clear c21
                    simp only [Option.some.injEq, Prod.mk.injEq] at H
                    obtain ⟨rfl, rfl⟩ := H
                    go_wp2
                    repeat (go_quiet (fail); try go_wp2)
                    go_ret2
                    exact ⟨by first | rfl | (simp; done) | (simp only [← hji14, ← hji16] <;> (first | rfl | simp)) | (simp [*]; done), by repeat (first | exact Drawn0.refl _ | apply Drawn0.step)⟩
        · rw [if_neg c15] at H
          exact absurd H (by simp)

/-! ### laws_FnExactNumberOf: function 8 -/
def laws_FnExactNumberOf.f (k : Nat) (a0 : Int) (a1 : Int) (a2 : Int) : Option (Bool) := (spec_NumberOf.f k a0 a1 a2).bind fun bt108 => ((impl_NumberOf.f k a0 a1 a2).bind fun bt110 => (if bt110.1 = bt108.1 then (if (bt110.2 != bt108.2) = true then (some false) else (some true)) else (some false)))
theorem laws_FnExactNumberOf.mono : ∀ a0 a1 a2 k, LeO (laws_FnExactNumberOf.f k a0 a1 a2) (laws_FnExactNumberOf.f (k + 1) a0 a1 a2) := by
  intro a0 a1 a2 k
  unfold laws_FnExactNumberOf.f
  repeat' first
      | (with_reducible exact impl_NumberOf.mono _ _ _ _)
      | (with_reducible exact spec_NumberOf.mono _ _ _ _)
      | (with_reducible exact LeO.refl _)
      | (with_reducible exact LeO.none _)
      | (with_reducible refine LeO.ite ?_ ?_)
      | (with_reducible refine LeO.bind ?_ (fun _ => ?_))
      | exact impl_NumberOf.mono _ _ _ _
      | exact spec_NumberOf.mono _ _ _ _
      | exact LeO.none _
      | refine LeO.ite ?_ ?_
      | refine LeO.bind ?_ (fun _ => ?_)
set_option maxHeartbeats 8000000 in
set_option maxRecDepth 100000 in
theorem laws_FnExactNumberOf.calls (k : Nat) (a0 : Int) (a1 : Int) (a2 : Int) (r : Bool) (w : World) (h : laws_FnExactNumberOf.f k a0 a1 a2 = some r) :
    Calls Try.prog 8 #[.int .i64 a0, .int .i64 a1, .int .i64 a2] w fun e w' => e = .returned (.bool r) ∧ Drawn0 w w' := by
  have H : ((spec_NumberOf.f k a0 a1 a2).bind fun bt108 => ((impl_NumberOf.f k a0 a1 a2).bind fun bt110 => (if bt110.1 = bt108.1 then (if (bt110.2 != bt108.2) = true then (some false) else (some true)) else (some false)))) = some r := h
  clear h
  replace H := Option.bind_eq_some_iff.mp H
  obtain ⟨⟨t108, t109⟩, A40, H⟩ := H
  replace H : ((impl_NumberOf.f k a0 a1 a2).bind fun bt110 => (if bt110.1 = t108 then (if (bt110.2 != t109) = true then (some false) else (some true)) else (some false))) = some r := H
  have A4 := Aside0.mk A40
  clear A40
  replace H := Option.bind_eq_some_iff.mp H
  obtain ⟨⟨t110, t111⟩, A50, H⟩ := H
  replace H : (if t110 = t108 then (if (t111 != t109) = true then (some false) else (some true)) else (some false)) = some r := H
  have A5 := Aside0.mk A50
  clear A50
  by_cases c6 : t110 = t108
  · rw [if_pos c6] at H
    have c6b0 : (t110 == t108) = true := beq_iff_eq.mpr c6
    have c6b1 : (t110 != t108) = false := bne_eq_false_iff_eq.mpr c6
    clear c6
    by_cases c7 : (t111 != t109) = true
    · rw [if_pos c7] at H
      have c7b0 : (t111 != t109) = true := c7
      (try (have c7b1 : decide (t111 = t109) = false := by simpa using c7))
      (try (have c7b2 : (t111 == t109) = false := by simpa using c7))
      (try (have c7b3 : ¬ (t111 = t109) := by simpa using c7))
      clear c7
      obtain rfl := Option.some.inj H
      go_enter Try.func8, Try.ntmps8
      go_wp2_with (first | ((with_reducible refine gate_callee (f := 24) rfl ?_); refine goesL_ (some 15) rfl rfl Try.func24 (by kernel_rfl) rfl #[.int .i64 a0, .int .i64 a1, .int .i64 a2] rfl (by (try simp only [List.map_toArray, List.map_cons, List.map_nil]); first | done | rfl | (simp only [List.length_drop, List.length_take]; rfl)) ?_; (with_reducible refine (spec_NumberOf.calls k a0 a1 a2 t108 t109 _ A4.out).mono ?_); rintro e w' ⟨rfl, ⟨nd, rfl⟩⟩; refine ⟨_, rfl, ?_⟩) | ((with_reducible refine gate_callee (f := 25) rfl ?_); refine goesL_ (some 22) rfl rfl Try.func25 (by kernel_rfl) rfl #[.int .i64 a0, .int .i64 a1, .int .i64 a2] rfl (by (try simp only [List.map_toArray, List.map_cons, List.map_nil]); first | done | rfl | (simp only [List.length_drop, List.length_take]; rfl)) ?_; (with_reducible refine (impl_NumberOf.calls k a0 a1 a2 t110 t111 _ A5.out).mono ?_); rintro e w' ⟨rfl, ⟨nd, rfl⟩⟩; refine ⟨_, rfl, ?_⟩))
      go_ret
      exact ⟨by first | rfl | (simp; done) | (simp [*]; done), by repeat (first | exact Drawn0.refl _ | apply Drawn0.step)⟩
    · rw [if_neg c7] at H
      have c7b0 : (t111 != t109) = false := by simpa using c7
      (try (have c7b1 : decide (t111 = t109) = true := by simpa using c7))
      (try (have c7b2 : (t111 == t109) = true := by simpa using c7))
      clear c7
      obtain rfl := Option.some.inj H
      go_enter Try.func8, Try.ntmps8
      go_wp2_with (first | ((with_reducible refine gate_callee (f := 24) rfl ?_); refine goesL_ (some 15) rfl rfl Try.func24 (by kernel_rfl) rfl #[.int .i64 a0, .int .i64 a1, .int .i64 a2] rfl (by (try simp only [List.map_toArray, List.map_cons, List.map_nil]); first | done | rfl | (simp only [List.length_drop, List.length_take]; rfl)) ?_; (with_reducible refine (spec_NumberOf.calls k a0 a1 a2 t108 t109 _ A4.out).mono ?_); rintro e w' ⟨rfl, ⟨nd, rfl⟩⟩; refine ⟨_, rfl, ?_⟩) | ((with_reducible refine gate_callee (f := 25) rfl ?_); refine goesL_ (some 22) rfl rfl Try.func25 (by kernel_rfl) rfl #[.int .i64 a0, .int .i64 a1, .int .i64 a2] rfl (by (try simp only [List.map_toArray, List.map_cons, List.map_nil]); first | done | rfl | (simp only [List.length_drop, List.length_take]; rfl)) ?_; (with_reducible refine (impl_NumberOf.calls k a0 a1 a2 t110 t111 _ A5.out).mono ?_); rintro e w' ⟨rfl, ⟨nd, rfl⟩⟩; refine ⟨_, rfl, ?_⟩))
      go_ret
      exact ⟨by first | rfl | (simp; done) | (simp [*]; done), by repeat (first | exact Drawn0.refl _ | apply Drawn0.step)⟩
  · rw [if_neg c6] at H
    have c6b0 : (t110 == t108) = false := beq_eq_false_iff_ne.mpr c6
    have c6b1 : (t110 != t108) = true := bne_iff_ne.mpr c6
    obtain rfl := Option.some.inj H
    go_enter Try.func8, Try.ntmps8
    go_wp2_with (first | ((with_reducible refine gate_callee (f := 24) rfl ?_); refine goesL_ (some 15) rfl rfl Try.func24 (by kernel_rfl) rfl #[.int .i64 a0, .int .i64 a1, .int .i64 a2] rfl (by (try simp only [List.map_toArray, List.map_cons, List.map_nil]); first | done | rfl | (simp only [List.length_drop, List.length_take]; rfl)) ?_; (with_reducible refine (spec_NumberOf.calls k a0 a1 a2 t108 t109 _ A4.out).mono ?_); rintro e w' ⟨rfl, ⟨nd, rfl⟩⟩; refine ⟨_, rfl, ?_⟩) | ((with_reducible refine gate_callee (f := 25) rfl ?_); refine goesL_ (some 22) rfl rfl Try.func25 (by kernel_rfl) rfl #[.int .i64 a0, .int .i64 a1, .int .i64 a2] rfl (by (try simp only [List.map_toArray, List.map_cons, List.map_nil]); first | done | rfl | (simp only [List.length_drop, List.length_take]; rfl)) ?_; (with_reducible refine (impl_NumberOf.calls k a0 a1 a2 t110 t111 _ A5.out).mono ?_); rintro e w' ⟨rfl, ⟨nd, rfl⟩⟩; refine ⟨_, rfl, ?_⟩))
    go_ret
    exact ⟨by first | rfl | (simp; done) | (simp [*]; done), by repeat (first | exact Drawn0.refl _ | apply Drawn0.step)⟩

/-- THE ONE PURE STATEMENT of laws_FnExactNumberOf: yours. -/
def laws_FnExactNumberOf.Pure : Prop := ∀ (a0 : Int) (a1 : Int) (a2 : Int), (Lit.int .i64 a0).wf = true → (Lit.int .i64 a1).wf = true → (Lit.int .i64 a2).wf = true → ∃ k, laws_FnExactNumberOf.f k a0 a1 a2 = some true
theorem laws_FnExactNumberOf.walk (P : laws_FnExactNumberOf.Pure) (a0 : Int) (a1 : Int) (a2 : Int) (w : World) (w0 : (Lit.int .i64 a0).wf = true) (w1 : (Lit.int .i64 a1).wf = true) (w2 : (Lit.int .i64 a2).wf = true) :
    Calls Try.prog 8 #[.int .i64 a0, .int .i64 a1, .int .i64 a2] w fun e w' => e = .returned (.bool true) ∧ Below w.heap.size w w' := by
  obtain ⟨k, h⟩ := P a0 a1 a2 w0 w1 w2
  refine (laws_FnExactNumberOf.calls k a0 a1 a2 true w h).mono ?_
  rintro e w' ⟨rfl, hd⟩
  exact ⟨rfl, hd.below⟩

end Go.Proofs.Ytmkoigkgmjbaiaa.PFnExactNumberOf
