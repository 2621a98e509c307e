/- slices.SortStableFunc at strings, at most nineteen of them, and the program's ranked. -/
import Derived.Test.YtnghcnkffbjddaaDoorVRk2
import Derived.Deep.LoopGhost
namespace Go.Proofs.YtnghcnkffbjddaaDoorV.Aes
open Go.RowKit Go.Proofs.YtnghcnkffbjddaaDoorV.PrintWords Go.Proofs.YtnghcnkffbjddaaDoorV.PrintLast Go.Proofs.YtnghcnkffbjddaaDoorV.PrintMore Go.Proofs.YtnghcnkffbjddaaDoorV.Mem
set_option linter.unusedVariables false
set_option linter.unusedSimpArgs false

set_option maxHeartbeats 2000000 in
set_option maxRecDepth 100000 in
theorem stable_walk (kb : Addr) (w : World) (g cap n : Nat) (hn : n ≤ 19) (Q : Ending → World → Prop)
    (hins : Calls Tryd.prog 185 #[.slice (some ⟨g, 0, none⟩) n cap, .int .i64 0, .int .i64 (n : Int), .func (.func 114) #[] #[.pointer (some kb)]] w fun e w' => e = .returned (.tuple #[]) ∧ Q e w') :
    Calls Tryd.prog 157 #[.slice (some ⟨g, 0, none⟩) n cap, .int .i64 (n : Int), .func (.func 114) #[] #[.pointer (some kb)]] w fun e w' => e = .returned (.tuple #[]) ∧ Q e w' := by
  have h1 : ¬ (20 : Int) ≤ (n : Int) := by omega
  have h2 : ¬ (20 : Int) < (n : Int) := by omega
  clear hn
  go_enter Tryd.func157, Tryd.ntmps157
  go_wp2
  go_loopg [7, 8] 0 (fun gg va vb wr => va = .int .i64 0 ∧ vb = .int .i64 20 ∧ wr = w)
  case atStart => exact ⟨rfl, rfl, rfl⟩
  case round =>
    obtain ⟨rfl, rfl, rfl⟩ := hrel
    go_wp2_with (go_at_call 185; refine hins.mono ?_; rintro e w1 ⟨rfl, hQ⟩)
    go_loopg [6] 0 (fun gg v6 wr => v6 = .int .i64 20 ∧ wr = w1)
    case atStart => exact ⟨rfl, rfl⟩
    case round =>
      obtain ⟨rfl, rfl⟩ := hrel
      go_wp2
      go_end0
      exact ⟨rfl, hQ⟩
theorem sortStable_walk (kb : Addr) (w : World) (g cap n : Nat) (Q : Ending → World → Prop)
    (hst : Calls Tryd.prog 157 #[.slice (some ⟨g, 0, none⟩) n cap, .int .i64 (n : Int), .func (.func 114) #[] #[.pointer (some kb)]] w fun e w' => e = .returned (.tuple #[]) ∧ Q e w') :
    Calls Tryd.prog 113 #[.slice (some ⟨g, 0, none⟩) n cap, .func (.func 114) #[] #[.pointer (some kb)]] w fun e w' => e = .returned (.tuple #[]) ∧ Q e w' := by
  go_enter Tryd.func113, Tryd.ntmps113
  go_wp2_with (go_at_call 157; refine hst.mono ?_; rintro e w1 ⟨rfl, hQ⟩)
  go_end0
  exact ⟨rfl, hQ⟩
end Go.Proofs.YtnghcnkffbjddaaDoorV.Aes
