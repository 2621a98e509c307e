/- Shared lemmas and walks of the AES laws of this seat. -/
import Derived.Test.YtimokakcdmcnnaaVFour5
namespace Go.Proofs.YtimokakcdmcnnaaV.Aes
open Go.RowKit Go.Proofs.YtimokakcdmcnnaaV.PrintWords Go.Proofs.YtimokakcdmcnnaaV.PrintLast Go.Proofs.YtimokakcdmcnnaaV.PrintMore Go.Proofs.YtimokakcdmcnnaaV.Mem
set_option linter.unusedVariables false
set_option linter.unusedSimpArgs false

def Ok4 (key s : ByteArray) : Prop := key.size = 16 ∧ 5 ≤ s.size ∧ s.size ≤ 19
instance (key s : ByteArray) : Decidable (Ok4 key s) := by unfold Ok4; infer_instance
theorem in4_yes (n l h : Int) (h1 : l ≤ n) (h2 : n ≤ h) (w : World) : Calls Try.prog 70 #[.int .i64 n, .int .i64 l, .int .i64 h] w fun e w' => e = .returned (.bool true) ∧ w = w' := by
  go_enter Try.func70, Try.ntmps70
  go_wp2
  go_ret
  exact ⟨by simp [h1, h2], rfl⟩
theorem in4_no (n l h : Int) (h1 : ¬ (l ≤ n ∧ n ≤ h)) (w : World) : Calls Try.prog 70 #[.int .i64 n, .int .i64 l, .int .i64 h] w fun e w' => e = .returned (.bool false) ∧ w = w' := by
  by_cases h2 : l ≤ n
  · have h3 : ¬ n ≤ h := fun e => h1 ⟨h2, e⟩
    have h2' : n ≥ l := h2
    have h2d : decide (n ≥ l) = true := decide_eq_true h2
    have h3d : decide (n ≤ h) = false := decide_eq_false h3
    clear h1
    go_enter Try.func70, Try.ntmps70
    go_wp2
    go_ret
    exact ⟨rfl, rfl⟩
  · have h2d : decide (n ≥ l) = false := decide_eq_false h2
    clear h1
    go_enter Try.func70, Try.ntmps70
    go_wp2
    go_ret
    exact ⟨rfl, rfl⟩
theorem fourOk_yes (key s : ByteArray) (g : Ok4 key s) (w : World) : Calls Try.prog 73 #[.string key, .string s] w fun e w' => e = .returned (.bool true) ∧ w = w' := by
  have hk := isKey_yes key g.1
  have hi := in4_yes (s.size : Int) 5 19 (by have := g.2.1; omega) (by have := g.2.2; omega)
  go_enter Try.func73, Try.ntmps73
  go_wp2_with (first
    | (go_at_call 53; refine (hk _).mono ?_; rintro e w1 ⟨rfl, rfl⟩)
    | (go_at_call 70; refine (hi _).mono ?_; rintro e w1 ⟨rfl, rfl⟩))
  go_ret
  exact ⟨rfl, rfl⟩
theorem fourOk_no (key s : ByteArray) (g : ¬ Ok4 key s) (w : World) : Calls Try.prog 73 #[.string key, .string s] w fun e w' => e = .returned (.bool false) ∧ w = w' := by
  by_cases hk : key.size = 16
  · have hk' := isKey_yes key hk
    have hi := in4_no (s.size : Int) 5 19 (fun e => g ⟨hk, by omega, by omega⟩)
    go_enter Try.func73, Try.ntmps73
    go_wp2_with (first
      | (go_at_call 53; refine (hk' _).mono ?_; rintro e w1 ⟨rfl, rfl⟩)
      | (go_at_call 70; refine (hi _).mono ?_; rintro e w1 ⟨rfl, rfl⟩))
    go_ret
    exact ⟨rfl, rfl⟩
  · have hk' := isKey_no key hk
    go_enter Try.func73, Try.ntmps73
    go_wp2_with (go_at_call 53; refine (hk' _).mono ?_; rintro e w1 ⟨rfl, rfl⟩)
    go_ret
    exact ⟨rfl, rfl⟩
def Told4 (t : ByteArray) (b : Bool) (w : World) (e : Ending) (w' : World) : Prop := e = .returned (.tuple #[.string t, .bool b]) ∧ Below w.heap.size w w'
theorem FourPasses_yes (key s : ByteArray) (g : Ok4 key s) (w : World) : Calls Try.prog 38 #[.string key, .string s] w (Told4 (fourS key s [1, 2, 3, 4]) true w) := by
  have hok := fourOk_yes key s g
  have hf := fourPasses_walk key s g.1 g.2.1 g.2.2
  go_enter Try.func38, Try.ntmps38
  go_wp2_with (first
    | (go_at_call 73; refine (hok _).mono ?_; rintro e w1 ⟨rfl, rfl⟩)
    | (go_at_call 74; refine (hf _).mono ?_; rintro e w2 ⟨rfl, hb⟩))
  go_ret2
  exact ⟨rfl, hb⟩
theorem FourPasses_no (key s : ByteArray) (g : ¬ Ok4 key s) (w : World) : Calls Try.prog 38 #[.string key, .string s] w (Told4 ⟨#[]⟩ false w) := by
  have hok := fourOk_no key s g
  go_enter Try.func38, Try.ntmps38
  go_wp2_with (go_at_call 73; refine (hok _).mono ?_; rintro e w1 ⟨rfl, rfl⟩)
  go_ret2
  exact ⟨rfl, Below.refl _ _⟩
theorem FourBack_yes (key s : ByteArray) (g : Ok4 key s) (w : World) : Calls Try.prog 40 #[.string key, .string s] w (Told4 (fourS key s [4, 3, 2, 1]) true w) := by
  have hok := fourOk_yes key s g
  have hf := fourBack_walk key s g.1 g.2.1 g.2.2
  go_enter Try.func40, Try.ntmps40
  go_wp2_with (first
    | (go_at_call 73; refine (hok _).mono ?_; rintro e w1 ⟨rfl, rfl⟩)
    | (go_at_call 75; refine (hf _).mono ?_; rintro e w2 ⟨rfl, hb⟩))
  go_ret2
  exact ⟨rfl, hb⟩
theorem FourBack_no (key s : ByteArray) (g : ¬ Ok4 key s) (w : World) : Calls Try.prog 40 #[.string key, .string s] w (Told4 ⟨#[]⟩ false w) := by
  have hok := fourOk_no key s g
  go_enter Try.func40, Try.ntmps40
  go_wp2_with (go_at_call 73; refine (hok _).mono ?_; rintro e w1 ⟨rfl, rfl⟩)
  go_ret2
  exact ⟨rfl, Below.refl _ _⟩
end Go.Proofs.YtimokakcdmcnnaaV.Aes
