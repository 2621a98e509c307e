/- Shared lemmas and walks of the AES laws of this seat. -/
import Derived.Test.YtimokakcdmcnnaaVAes3
namespace Go.Proofs.YtimokakcdmcnnaaV.Aes
open Go.RowKit Go.Proofs.YtimokakcdmcnnaaV.PrintWords Go.Proofs.YtimokakcdmcnnaaV.PrintLast Go.Proofs.YtimokakcdmcnnaaV.PrintMore Go.Proofs.YtimokakcdmcnnaaV.Mem
set_option linter.unusedVariables false
set_option linter.unusedSimpArgs false

/-- A cipher in memory: block g holds a box's pointer and a slice of keys; the box lies in block gb, the keys in block gk. -/
structure Ci (w : World) (g gb gk cap : Nat) (bx ks : List Int) : Prop where
  box : w.cell? ⟨g, 0, none⟩ = some (.pointer (some ⟨gb, 0, none⟩))
  keys : w.cell? ⟨g, 1, none⟩ = some (.slice (some ⟨gk, 0, none⟩) 176 cap)
  atBox : At w gb 51 bx
  cells : ∀ i : Nat, i < 176 → w.cell? ⟨gk, i, none⟩ = some (.int .u8 (rd ks (i : Int)))
  ltk : gk < w.heap.size
  lt : g < w.heap.size
theorem Ci.but {w w' : World} {g gb gk cap : Nat} {bx ks : List Int} (h : Ci w g gb gk cap bx ks) {B n : Nat} (hb : But B n w w') (h1 : g < B) (h2 : gb < B) (h3 : gk < B) (n1 : g ≠ n) (n2 : gb ≠ n) (n3 : gk ≠ n) : Ci w' g gb gk cap bx ks := by
  have hc : ∀ o, w'.cell? ⟨g, o, none⟩ = w.cell? ⟨g, o, none⟩ := fun o => by simp only [World.cell?, hb.block g h1 n1]
  exact ⟨by rw [hc]; exact h.box, by rw [hc]; exact h.keys, h.atBox.but hb h2 n2, fun i hi => (by simp only [World.cell?, hb.block gk h3 n3] : w'.cell? ⟨gk, i, none⟩ = w.cell? ⟨gk, i, none⟩).trans (h.cells i hi), Nat.lt_of_lt_of_le h.ltk hb.size, Nat.lt_of_lt_of_le h.lt hb.size⟩
theorem Ci.below {w w' : World} {g gb gk cap : Nat} {bx ks : List Int} (h : Ci w g gb gk cap bx ks) {B : Nat} (hb : Below B w w') (h1 : g < B) (h2 : gb < B) (h3 : gk < B) : Ci w' g gb gk cap bx ks :=
  h.but (But.of B hb) h1 h2 h3 (by omega) (by omega) (by omega)
theorem bcell {w w' : World} {B g : Nat} (hb : But B g w w') {p : Nat} (hp : p < B) (hn : p ≠ g) (o : Nat) : w'.cell? ⟨p, o, none⟩ = w.cell? ⟨p, o, none⟩ := by simp only [World.cell?, hb.block p hp hn]
set_option maxHeartbeats 4000000 in
set_option maxRecDepth 100000 in
theorem addKey_walk (bx ks b z : List Int) (r : Nat) (hr : r ≤ 10) (hb : b.length = 16) (hk : 176 ≤ ks.length) (g gb gk cap gB capB : Nat) (w : World) (hC : Ci w g gb gk cap bx ks) (hB : At w gB 5 (b ++ z)) (n1 : g ≠ gB) (n3 : gk ≠ gB) :
    Calls Try.prog 90 #[.pointer (some ⟨g, 0, none⟩), .slice (some ⟨gB, 0, none⟩) 16 capB, .int .i64 (r : Int)] w fun e w' => e = .returned (.tuple #[]) ∧ At w' gB 5 (addKL ks r b ++ z) ∧ But w.heap.size gB w w' := by
  have hg1 := hC.lt
  have hg3 := hC.ltk
  go_enter Try.func90, Try.ntmps90
  go_wp2
  go_loopw [9] (fun v wr => ∃ i : Nat, i ≤ 16 ∧ v = .int .i64 i ∧ At wr gB 5 ((addKL ks r b).take i ++ b.drop i ++ z) ∧ But w.heap.size gB w wr)
    (fun v _ => 16 - (intOf v).toNat)
  case atStart => exact ⟨0, by omega, rfl, by rw [show (addKL ks r b).take 0 ++ b.drop 0 ++ z = b ++ z from tab_start _ _ _ _]; exact hB, But.refl _ _ _⟩
  case round =>
    obtain ⟨i, hi, rfl, hA, hBt⟩ := hrel
    by_cases h : i < 16
    · have hw : IntKind.i64.wrap (16 * (r : Int)) = 16 * (r : Int) := by rw [IntKind.wrap_i64]; omega
      have hw2 : IntKind.i64.wrap (16 * (r : Int) + (i : Int)) = 16 * (r : Int) + (i : Int) := by rw [IntKind.wrap_i64]; omega
      have hn : (16 * (r : Int) + (i : Int)).toNat = 16 * r + i := by omega
      have h0 : 0 ≤ 16 * (r : Int) + (i : Int) := by omega
      have h1 : 16 * (r : Int) + (i : Int) < 176 := by omega
      have c0 : wr.cell? ⟨g, 1, none⟩ = some (.slice (some ⟨gk, 0, none⟩) 176 cap) := by rw [bcell hBt hg1 n1]; exact hC.keys
      have c1 : wr.cell? ⟨gk, 16 * r + i, none⟩ = some (.int .u8 (rd ks ((16 * r + i : Nat) : Int))) := by rw [bcell hBt hg3 n3]; exact hC.cells _ (by omega)
      have hl : ((addKL ks r b).take i ++ b.drop i ++ z).length = 16 + z.length := tab_both _ _ _ _ hb i hi
      have c2 : wr.cell? ⟨gB, i, none⟩ = some (.int .u8 (rd b (i : Int))) := by
        rw [hA.cell (by omega)]
        rw [show rd ((addKL ks r b).take i ++ b.drop i ++ z) (i : Int) = rd b (i : Int) from tab_rest _ _ _ _ hb i i (Nat.le_refl _) h]
      have f2 : wr.frozen? ⟨gB, i, none⟩ = false := hA.frozen (by omega)
      have fin : ∀ n : Nat, At ((wr.drewN n).setCell ⟨gB, i, none⟩ (.int .u8 (Go.bits .xor .u8 (rd b (i : Int)) (rd ks ((16 * r + i : Nat) : Int))))) gB 5 ((addKL ks r b).take (i + 1) ++ b.drop (i + 1) ++ z) ∧
          But w.heap.size gB w ((wr.drewN n).setCell ⟨gB, i, none⟩ (.int .u8 (Go.bits .xor .u8 (rd b (i : Int)) (rd ks ((16 * r + i : Nat) : Int))))) := by
        intro n
        have hs := (hA.drew n).set (i := i) (x := Go.bits .xor .u8 (rd b (i : Int)) (rd ks ((16 * r + i : Nat) : Int)))
        rw [show ((addKL ks r b).take i ++ b.drop i ++ z).set i (Go.bits .xor .u8 (rd b (i : Int)) (rd ks ((16 * r + i : Nat) : Int))) = (addKL ks r b).take (i + 1) ++ b.drop (i + 1) ++ z from tab_step 16 (fun i => Go.bits .xor .u8 (rd b (i : Int)) (rd ks ((16 * r + i : Nat) : Int))) b z hb i h] at hs
        exact ⟨hs, (hBt.drew n).setCell _ (.inl rfl) _⟩
      clear hA hBt hl
      go_wp2
      go_region
      all_goals (
        have fin1 := fin 1
        clear fin c0 c1 c2 f2
        go_wp2
        go_roundw
        case rel => exact ⟨i + 1, by omega, by go_num, fin1.1, fin1.2⟩
        case measure => simp [intOf]; omega)
    · have : i = 16 := by omega
      subst this
      rw [show (addKL ks r b).take 16 ++ b.drop 16 ++ z = addKL ks r b ++ z from tab_end _ _ _ _ hb] at hA
      go_wp2
      go_end0
      exact ⟨rfl, hA, hBt⟩
theorem backward_walk (w : World) : Calls Try.prog 91 #[] w fun e w' => e = .returned (.agg #[.int .u8 14, .int .u8 11, .int .u8 13, .int .u8 9]) ∧ Below w.heap.size w w' := by
  go_enter Try.func91, Try.ntmps91
  go_wp2
  refine bodyPost_ret (v := .agg #[.int .u8 14, .int .u8 11, .int .u8 13, .int .u8 9]) (by simp [results, Try.results91, go_sem]) rfl ⟨rfl, ?_⟩
  exact (Below.refl _ _).alloc (Nat.le_refl _) _
end Go.Proofs.YtimokakcdmcnnaaV.Aes
