/- Shared lemmas and walks of the AES laws of this seat. -/
import Derived.Test.YtimokakcdmcnnaaVAes2
import Derived.Test.YtimokakcdmcnnaaVAes6
namespace Go.Proofs.YtimokakcdmcnnaaV.Aes
open Go.RowKit Go.Proofs.YtimokakcdmcnnaaV.PrintWords Go.Proofs.YtimokakcdmcnnaaV.PrintLast Go.Proofs.YtimokakcdmcnnaaV.PrintMore Go.Proofs.YtimokakcdmcnnaaV.Mem
set_option linter.unusedVariables false
set_option linter.unusedSimpArgs false

/-- The box after i rounds: what bytes become, then what becomes them. -/
def boxAt (S : Nat → Nat) : Nat → List Int
  | 0 => List.replicate 512 0
  | i + 1 => ((boxAt S i).set i (S i : Int)).set (256 + S i) (i : Int)
theorem boxAt_length (S : Nat → Nat) : ∀ i, (boxAt S i).length = 512
  | 0 => List.length_replicate
  | i + 1 => by simp [boxAt, boxAt_length S i]
theorem zero51 : Try.zeroCells51 = u8s (List.replicate 512 0) := by kernel_rfl
set_option maxHeartbeats 4000000 in
set_option maxRecDepth 100000 in
theorem newBox_walk (S : Nat → Nat) (kk : Nat) (hS : ∀ i : Nat, i < 256 → impl_subByte.f kk (i : Int) = some (S i : Int) ∧ S i < 256) (w : World) :
    Calls Try.prog 51 #[] w fun e w' => e = .returned (.pointer (some ⟨w.heap.size, 0, none⟩)) ∧ At w' w.heap.size 51 (boxAt S 256) ∧ Below w.heap.size w w' := by
  go_enter Try.func51, Try.ntmps51
  go_wp2
  obtain ⟨z, hz⟩ : ∃ z, z = Try.zeroCells51 := ⟨_, rfl⟩
  rw [← hz]
  rw [zero51] at hz
  go_loopw [6] (fun v wr => ∃ i : Nat, i ≤ 256 ∧ v = .int .i64 i ∧ At wr w.heap.size 51 (boxAt S i) ∧ Below w.heap.size w wr)
    (fun v _ => 256 - (intOf v).toNat)
  case atStart => exact ⟨0, by omega, rfl, by rw [hz]; exact At.made w 51 _, (Below.refl _ _).alloc (Nat.le_refl _) _⟩
  case round =>
    clear hz
    obtain ⟨i, hi, rfl, hA, hB⟩ := hrel
    by_cases h : i < 256
    · obtain ⟨hs, hs2⟩ := hS i h
      have hm : (i : Int) % 256 = (i : Int) := by omega
      go_wp2_with (go_at_call 87; refine (impl_subByte.calls kk _ _ _ hs).mono ?_; rintro e w' ⟨rfl, ⟨nd, rfl⟩⟩)
      have hl := boxAt_length S i
      have c0 : wr.cell? ⟨w.heap.size, i, none⟩ = some (.int .u8 (rd (boxAt S i) (i : Int))) := hA.cell (by omega)
      have f0 : wr.frozen? ⟨w.heap.size, i, none⟩ = false := hA.frozen (by omega)
      have c1 : wr.cell? ⟨w.heap.size, 256 + S i, none⟩ = some (.int .u8 (rd (boxAt S i) ((256 + S i : Nat) : Int))) := hA.cell (by omega)
      have f1 : wr.frozen? ⟨w.heap.size, 256 + S i, none⟩ = false := hA.frozen (by omega)
      have hne : ¬ i = 256 + S i := by omega
      have fin : ∀ n : Nat, At (((wr.drewN n).setCell ⟨w.heap.size, i, none⟩ (.int .u8 (S i : Int))).setCell ⟨w.heap.size, 256 + S i, none⟩ (.int .u8 (i : Int))) w.heap.size 51 (boxAt S (i + 1)) ∧
          Below w.heap.size w (((wr.drewN n).setCell ⟨w.heap.size, i, none⟩ (.int .u8 (S i : Int))).setCell ⟨w.heap.size, 256 + S i, none⟩ (.int .u8 (i : Int))) := by
        intro n
        have hBd : Below w.heap.size w (wr.drewN n) := ⟨hB.os, hB.tape, hB.output, hB.size, hB.block⟩
        exact ⟨(hA.drew n).set.set, (hBd.setCell (Nat.le_refl _) _).setCell (Nat.le_refl _) _⟩
      clear hA hB
      go_region
      all_goals (
        have fin1 := fin (nd + 1)
        clear fin c0 c1 f0 f1
        go_wp2
        go_roundw
        case rel => exact ⟨i + 1, by omega, by go_num, fin1.1, fin1.2⟩
        case measure => simp [intOf]; omega)
    · have : i = 256 := by omega
      subst this
      go_wp2
      go_ret
      exact ⟨rfl, hA, hB⟩
end Go.Proofs.YtimokakcdmcnnaaV.Aes
