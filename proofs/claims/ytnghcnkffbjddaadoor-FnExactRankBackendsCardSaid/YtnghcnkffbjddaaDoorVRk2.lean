/- The program's ranked: the comparison of two backends by their scores; slices.SortStableFunc; the whole. -/
import Derived.Test.YtnghcnkffbjddaaDoorVRk
import Derived.Lib.QuietBelow
import Derived.BigRegion
import Derived.BigQuiet
import Derived.Deep.QuietTactic
namespace Go.Proofs.YtnghcnkffbjddaaDoorV.Aes
open Go.RowKit Go.Proofs.YtnghcnkffbjddaaDoorV.PrintWords Go.Proofs.YtnghcnkffbjddaaDoorV.PrintLast Go.Proofs.YtnghcnkffbjddaaDoorV.PrintMore Go.Proofs.YtnghcnkffbjddaaDoorV.Mem
set_option linter.unusedVariables false
set_option linter.unusedSimpArgs false

def cmpI (x y : Int) : Int := if x < y then -1 else if y < x then 1 else 0
theorem nanInt_walk (x : Int) (w : World) : Calls Tryd.prog 102 #[.int .i64 x] w fun e w' => e = .returned (.bool false) ∧ w' = w := by
  go_enter Tryd.func102, Tryd.ntmps102
  go_wp2
  go_ret
  exact ⟨by simp, rfl⟩
theorem cmpInt_lt (x y : Int) (h : x < y) (w : World) : Calls Tryd.prog 71 #[.int .i64 x, .int .i64 y] w fun e w' => e = .returned (.int .i64 (-1)) ∧ w' = w := by
  go_enter Tryd.func71, Tryd.ntmps71
  go_wp2_with (go_at_call 102; refine (nanInt_walk _ _).mono ?_; rintro e w1 ⟨rfl, rfl⟩)
  go_ret
  exact ⟨rfl, rfl⟩
theorem cmpInt_gt (x y : Int) (h1 : ¬ x < y) (h : y < x) (w : World) : Calls Tryd.prog 71 #[.int .i64 x, .int .i64 y] w fun e w' => e = .returned (.int .i64 1) ∧ w' = w := by
  go_enter Tryd.func71, Tryd.ntmps71
  go_wp2_with (go_at_call 102; refine (nanInt_walk _ _).mono ?_; rintro e w1 ⟨rfl, rfl⟩)
  go_ret
  exact ⟨rfl, rfl⟩
theorem cmpInt_eq (x y : Int) (h1 : ¬ x < y) (h : ¬ y < x) (w : World) : Calls Tryd.prog 71 #[.int .i64 x, .int .i64 y] w fun e w' => e = .returned (.int .i64 0) ∧ w' = w := by
  go_enter Tryd.func71, Tryd.ntmps71
  go_wp2_with (go_at_call 102; refine (nanInt_walk _ _).mono ?_; rintro e w1 ⟨rfl, rfl⟩)
  go_ret
  exact ⟨rfl, rfl⟩
theorem cmpInt_walk (x y : Int) (w : World) : Calls Tryd.prog 71 #[.int .i64 x, .int .i64 y] w fun e w' => e = .returned (.int .i64 (cmpI x y)) ∧ w' = w := by
  unfold cmpI
  by_cases h : x < y
  · rw [if_pos h]; exact cmpInt_lt x y h w
  · rw [if_neg h]
    by_cases h2 : y < x
    · rw [if_pos h2]; exact cmpInt_gt x y h h2 w
    · rw [if_neg h2]; exact cmpInt_eq x y h h2 w
def cfS (key : ByteArray) (a b : ByteArray) : Int := cmpI (scN b key) (scN a key)
set_option maxHeartbeats 4000000 in
set_option maxRecDepth 100000 in
/-- impl.ranked's comparison; its key stands in a box. -/
theorem cmp_walk (key : ByteArray) (hkey : key.size ≤ 1000) (kb : Addr) (w : World) (hk : w.cell? kb = some (.string key)) (a b : ByteArray) (ha : a.size ≤ 1000) (hb : b.size ≤ 1000) :
    Calls Tryd.prog 114 #[.string a, .string b, .pointer (some kb)] w fun e w' => e = .returned (.int .i64 (cfS key a b)) ∧ Below w.heap.size w w' := by
  have mixed : Tryd.prog.follows .mixedOrders = true := by kernel_rfl
  have lk := fun d os => cell_regrown hk d os
  have s1 := fun d os => Calls.regrown_of (score_walk b key hb hkey (Go.Sort.grow (redrawn w d) os))
  have s2 := fun d os => Calls.regrown_of (score_walk a key ha hkey (Go.Sort.grow (redrawn w d) os))
  have s3 := fun d os => Calls.regrown_of ((cmpInt_walk (scN b key) (scN a key) (Go.Sort.grow (redrawn w d) os)).mono fun e w' h => ⟨h.1, by rw [h.2]; exact Below.refl _ _⟩)
  have hcf : cmpI (scN b key) (scN a key) = cfS key a b := rfl
  rw [hcf] at s3
  generalize cfS key a b = V at s3 ⊢
  generalize scN b key = X at s1 s3
  generalize scN a key = Y at s2 s3
  clear hcf hk
  go_enter Tryd.func114, Tryd.ntmps114
  go_wp2_with fail
  refine wp_region_quiet_below (by assumption) (by kernel_rfl) ?_
  repeat (quiet_step (first | (go_at_call 85; first | (with_reducible exact s1 _ _) | (with_reducible exact s2 _ _)) | (go_at_call 71; with_reducible exact s3 _ _)))
  refine wpQuiet_nil ?_
  intro _ hw'
  obtain ⟨⟨dq, osq⟩, hw''⟩ := hw'
  subst hw''
  go_wp2
  go_ret
  exact ⟨rfl, below_regrown w dq osq⟩
end Go.Proofs.YtnghcnkffbjddaaDoorV.Aes
