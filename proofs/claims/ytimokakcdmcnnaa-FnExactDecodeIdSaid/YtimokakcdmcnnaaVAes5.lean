/- Shared lemmas and walks of the AES laws of this seat. -/
import Derived.Test.YtimokakcdmcnnaaVAes4
import Derived.Laws.Cover3
import Derived.Deep.MidRow
import Derived.Deep.WholeRow
namespace Go.Proofs.YtimokakcdmcnnaaV.Aes
open Go.RowKit Go.Proofs.YtimokakcdmcnnaaV.PrintWords Go.Proofs.YtimokakcdmcnnaaV.PrintLast Go.Proofs.YtimokakcdmcnnaaV.PrintMore Go.Proofs.YtimokakcdmcnnaaV.Mem
set_option linter.unusedVariables false
set_option linter.unusedSimpArgs false

theorem list16 (b : List Int) (h : b.length = 16) : [rd b (0 : Int), rd b (1 : Int), rd b (2 : Int), rd b (3 : Int), rd b (4 : Int), rd b (5 : Int), rd b (6 : Int), rd b (7 : Int), rd b (8 : Int), rd b (9 : Int), rd b (10 : Int), rd b (11 : Int), rd b (12 : Int), rd b (13 : Int), rd b (14 : Int), rd b (15 : Int)] = b := by
  match b, h with
  | [x0, x1, x2, x3, x4, x5, x6, x7, x8, x9, x10, x11, x12, x13, x14, x15], _ => rfl
theorem shift_at (i m p : Nat) (h : i < 16) (hm : m ≤ 3) (hp : p = 4 * ((i / 4 + m * (i % 4)) % 4) + i % 4) :
    wrap64 (wrap64 (4 * (wrap64 ((i : Int) / 4 + wrap64 ((m : Int) * ((i : Int) % 4)))).tmod 4) + (i : Int) % 4) = (p : Int) := by
  subst hp
  have : ∀ q : Fin 4, ∀ j : Fin 16, wrap64 (wrap64 (4 * (wrap64 ((j.val : Int) / 4 + wrap64 ((q.val : Int) * ((j.val : Int) % 4)))).tmod 4) + (j.val : Int) % 4) = ((4 * ((j.val / 4 + q.val * (j.val % 4)) % 4) + j.val % 4 : Nat) : Int) := by decide +kernel
  exact this ⟨m, by omega⟩ ⟨i, h⟩
set_option maxHeartbeats 4000000 in
set_option maxRecDepth 100000 in
theorem shift_walk (b z : List Int) (m : Nat) (hm : m ≤ 3) (hb : b.length = 16) (gB capB : Nat) (w : World) (hB : At w gB 5 (b ++ z)) :
    Calls Try.prog 92 #[.slice (some ⟨gB, 0, none⟩) 16 capB, .int .i64 (m : Int)] w fun e w' => e = .returned (.tuple #[]) ∧ At w' gB 5 (shiftL m b ++ z) ∧ But w.heap.size gB w w' := by
  have hat : ∀ w, (Instr.arrayAt 103 (.slice (some ⟨gB, 0, none⟩) 16 capB)).run Try.prog w = .ok (.pointer (some ⟨gB, 0, none⟩)) w := fun w => run_arrayAt w 103 _ 16 _ 16 capB Try.underlying103 (by decide)
  have hg := hB.lt
  have hc : ∀ j, j < 16 → w.cell? ⟨gB, j, none⟩ = some (.int .u8 (rd b (j : Int))) := by
    intro j hj
    rw [hB.cell (by simp; omega)]
    have hj' : j < b.length := by omega
    simp [rd, List.getD_eq_getElem?_getD, List.getElem?_eq_getElem hj', List.getElem?_append_left hj']
  have c0 : w.cell? ⟨gB, 0, none⟩ = some (.int .u8 (rd b (0 : Int))) := hc 0 (by decide)
  have c1 : w.cell? ⟨gB, 1, none⟩ = some (.int .u8 (rd b (1 : Int))) := hc 1 (by decide)
  have c2 : w.cell? ⟨gB, 2, none⟩ = some (.int .u8 (rd b (2 : Int))) := hc 2 (by decide)
  have c3 : w.cell? ⟨gB, 3, none⟩ = some (.int .u8 (rd b (3 : Int))) := hc 3 (by decide)
  have c4 : w.cell? ⟨gB, 4, none⟩ = some (.int .u8 (rd b (4 : Int))) := hc 4 (by decide)
  have c5 : w.cell? ⟨gB, 5, none⟩ = some (.int .u8 (rd b (5 : Int))) := hc 5 (by decide)
  have c6 : w.cell? ⟨gB, 6, none⟩ = some (.int .u8 (rd b (6 : Int))) := hc 6 (by decide)
  have c7 : w.cell? ⟨gB, 7, none⟩ = some (.int .u8 (rd b (7 : Int))) := hc 7 (by decide)
  have c8 : w.cell? ⟨gB, 8, none⟩ = some (.int .u8 (rd b (8 : Int))) := hc 8 (by decide)
  have c9 : w.cell? ⟨gB, 9, none⟩ = some (.int .u8 (rd b (9 : Int))) := hc 9 (by decide)
  have c10 : w.cell? ⟨gB, 10, none⟩ = some (.int .u8 (rd b (10 : Int))) := hc 10 (by decide)
  have c11 : w.cell? ⟨gB, 11, none⟩ = some (.int .u8 (rd b (11 : Int))) := hc 11 (by decide)
  have c12 : w.cell? ⟨gB, 12, none⟩ = some (.int .u8 (rd b (12 : Int))) := hc 12 (by decide)
  have c13 : w.cell? ⟨gB, 13, none⟩ = some (.int .u8 (rd b (13 : Int))) := hc 13 (by decide)
  have c14 : w.cell? ⟨gB, 14, none⟩ = some (.int .u8 (rd b (14 : Int))) := hc 14 (by decide)
  have c15 : w.cell? ⟨gB, 15, none⟩ = some (.int .u8 (rd b (15 : Int))) := hc 15 (by decide)
  clear hc
  have hnew := At.made w 103 [rd b (0 : Int), rd b (1 : Int), rd b (2 : Int), rd b (3 : Int), rd b (4 : Int), rd b (5 : Int), rd b (6 : Int), rd b (7 : Int), rd b (8 : Int), rd b (9 : Int), rd b (10 : Int), rd b (11 : Int), rd b (12 : Int), rd b (13 : Int), rd b (14 : Int), rd b (15 : Int)]
  rw [list16 b hb] at hnew
  obtain ⟨W, hW⟩ : ∃ W, W = w.alloc (.cells (u8s [rd b (0 : Int), rd b (1 : Int), rd b (2 : Int), rd b (3 : Int), rd b (4 : Int), rd b (5 : Int), rd b (6 : Int), rd b (7 : Int), rd b (8 : Int), rd b (9 : Int), rd b (10 : Int), rd b (11 : Int), rd b (12 : Int), rd b (13 : Int), rd b (14 : Int), rd b (15 : Int)]) 103 (0, 0)) := ⟨_, rfl⟩
  have hWe : w.alloc (.cells #[.int .u8 (rd b (0 : Int)), .int .u8 (rd b (1 : Int)), .int .u8 (rd b (2 : Int)), .int .u8 (rd b (3 : Int)), .int .u8 (rd b (4 : Int)), .int .u8 (rd b (5 : Int)), .int .u8 (rd b (6 : Int)), .int .u8 (rd b (7 : Int)), .int .u8 (rd b (8 : Int)), .int .u8 (rd b (9 : Int)), .int .u8 (rd b (10 : Int)), .int .u8 (rd b (11 : Int)), .int .u8 (rd b (12 : Int)), .int .u8 (rd b (13 : Int)), .int .u8 (rd b (14 : Int)), .int .u8 (rd b (15 : Int))] 103 (0, 0)) = W := hW.symm
  have hO : At W w.heap.size 103 b := by rw [hW, list16 b hb]; exact hnew
  have hB2 : At W gB 5 (b ++ z) := by rw [hW]; exact hB.alloc _
  have hBt0 : But w.heap.size gB w W := by rw [hW]; exact (But.refl _ _ _).alloc (Nat.le_refl _) _
  clear hW hnew
  go_enter Try.func92, Try.ntmps92
  go_wp2_with (simp only [hat])
  clear c0 c1 c2 c3 c4 c5 c6 c7 c8 c9 c10 c11 c12 c13 c14 c15
  clear hWe
  go_loopw [11] (fun v wr => ∃ i : Nat, i ≤ 16 ∧ v = .int .i64 i ∧ At wr gB 5 ((shiftL m b).take i ++ b.drop i ++ z) ∧ At wr w.heap.size 103 b ∧ But w.heap.size gB w wr)
    (fun v _ => 16 - (intOf v).toNat)
  case atStart => exact ⟨0, by omega, rfl, by rw [show (shiftL m b).take 0 ++ b.drop 0 ++ z = b ++ z from tab_start _ _ _ _]; exact hB2, hO, hBt0⟩
  case round =>
    clear hB2 hO hBt0
    obtain ⟨i, hi, rfl, hA, hO, hBt⟩ := hrel
    by_cases h : i < 16
    · obtain ⟨p, hp⟩ : ∃ p, p = 4 * ((i / 4 + m * (i % 4)) % 4) + i % 4 := ⟨_, rfl⟩
      have hp16 : p < 16 := by omega
      have hP : wrap64 (wrap64 (4 * (wrap64 ((i : Int) / 4 + wrap64 ((m : Int) * ((i : Int) % 4)))).tmod 4) + (i : Int) % 4) = (p : Int) := shift_at i m p h hm hp
      have hp1 : (p : Int) < 16 := by omega
      have c0 : wr.cell? ⟨w.heap.size, p, none⟩ = some (.int .u8 (rd b (p : Int))) := hO.cell (by omega)
      have hl : ((shiftL m b).take i ++ b.drop i ++ z).length = 16 + z.length := tab_both _ _ _ _ hb i hi
      have c2 : wr.cell? ⟨gB, i, none⟩ = some (.int .u8 (rd b (i : Int))) := by
        rw [hA.cell (by omega)]
        rw [show rd ((shiftL m b).take i ++ b.drop i ++ z) (i : Int) = rd b (i : Int) from tab_rest _ _ _ _ hb i i (Nat.le_refl _) h]
      have f2 : wr.frozen? ⟨gB, i, none⟩ = false := hA.frozen (by omega)
      have fin : At (wr.setCell ⟨gB, i, none⟩ (.int .u8 (rd b (p : Int)))) gB 5 ((shiftL m b).take (i + 1) ++ b.drop (i + 1) ++ z) ∧ At (wr.setCell ⟨gB, i, none⟩ (.int .u8 (rd b (p : Int)))) w.heap.size 103 b ∧
          But w.heap.size gB w (wr.setCell ⟨gB, i, none⟩ (.int .u8 (rd b (p : Int)))) := by
        have hs := hA.set (i := i) (x := rd b (p : Int))
        have e : ((shiftL m b).take i ++ b.drop i ++ z).set i (rd b (p : Int)) = (shiftL m b).take (i + 1) ++ b.drop (i + 1) ++ z := by
          rw [hp]
          exact tab_step 16 (fun i => rd b ((4 * ((i / 4 + m * (i % 4)) % 4) + i % 4 : Nat) : Int)) b z hb i h
        rw [e] at hs
        exact ⟨hs, hO.other (by show w.heap.size ≠ gB; omega), hBt.setCell _ (.inl rfl) _⟩
      clear hA hO hBt hl hp
      go_wp2
      clear c0 c2 f2
      go_roundw
      case rel => exact ⟨i + 1, by omega, by go_num, fin.1, fin.2.1, fin.2.2⟩
      case measure => simp [intOf]; omega
    · have : i = 16 := by omega
      subst this
      rw [show (shiftL m b).take 16 ++ b.drop 16 ++ z = shiftL m b ++ z from tab_end _ _ _ _ hb] at hA
      go_wp2
      go_end0
      exact ⟨rfl, hA, hBt⟩
end Go.Proofs.YtimokakcdmcnnaaV.Aes
