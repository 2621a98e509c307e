/- The product of bytes, mixing of four bytes in place, over arrays in memory: the walks, shared by the seat's AES laws. -/
import Derived.Test.YtimokakcdmcnnaaProg
import Derived.Below
import Derived.Deep.Draws
import Derived.Deep.AppendLies
import Derived.Maps.AppendAt
import Derived.OwnWalk
import Derived.Laws.BytesArg
import Derived.Laws.MakeOwn
import Derived.Laws.OwnMore
import Derived.Deep.OwnRows
import Derived.Tactics
import Derived.Lib.ConvBytes
import Derived.Laws.Slices
import Derived.WalkKit
import Derived.KernelRfl
import Derived.RowKit3
import Derived.Deep.LoopGhost
import Derived.Deep.QuietTactic
import Derived.BigQuiet
import Derived.WideLaws
import Derived.Deep.DeepCutAuto
import Derived.Deep.CutBlock
import Derived.Deep.RegionHeld3
import Derived.Laws.Rows
import Derived.Lib.AppendStr
import Derived.ArgAppend
import Derived.Laws.IdiomCopy
import Derived.OrdersHeld
import Derived.Laws.BitsLemmas
import Derived.RowKit
import Derived.Test.YtimokakcdmcnnaaVWb
import Derived.Deep.RegionWith
namespace Go.Proofs.YtimokakcdmcnnaaV.Aes
open Go.RowKit Go.Proofs.YtimokakcdmcnnaaV.PrintWords Go.Proofs.YtimokakcdmcnnaaV.PrintLast Go.Proofs.YtimokakcdmcnnaaV.PrintMore Go.Proofs.YtimokakcdmcnnaaV.Mem
attribute [local go_sem] max2_int min2_int max_two min_two max_three min_three max_four min_four
set_option linter.unusedVariables false
set_option linter.unusedSimpArgs false

/-! ### impl_mulGf: function 84 -/
def impl_mulGf.l0 : Nat → Int → Int → Int → Option (Int)
  | 0, _, _, _ => none
  | k + 1, x0, x1, x5 => if x1 = 0 then (some x5) else (if (Go.bits .and .u8 x1 1) = 1 then (if (Go.bits .and .u8 x0 128) = 0 then (impl_mulGf.l0 k ((x0 * 2) % 256) (x1 / 2) (Go.bits .xor .u8 x5 x0)) else (impl_mulGf.l0 k (Go.bits .xor .u8 ((x0 * 2) % 256) 27) (x1 / 2) (Go.bits .xor .u8 x5 x0))) else (if (Go.bits .and .u8 x0 128) = 0 then (impl_mulGf.l0 k ((x0 * 2) % 256) (x1 / 2) x5) else (impl_mulGf.l0 k (Go.bits .xor .u8 ((x0 * 2) % 256) 27) (x1 / 2) x5)))
def impl_mulGf.f (k : Nat) (a0 : Int) (a1 : Int) : Option (Int) := impl_mulGf.l0 k a0 a1 0
set_option maxHeartbeats 8000000 in
set_option maxRecDepth 100000 in
theorem impl_mulGf.calls (k : Nat) (a0 : Int) (a1 : Int) (r : Int) (w : World) (h : impl_mulGf.f k a0 a1 = some r) :
    Calls Try.prog 84 #[.int .u8 a0, .int .u8 a1] w fun e w' => e = .returned (.int .u8 r) ∧ Drawn0 w w' := by
  have H : (impl_mulGf.l0 k a0 a1 0) = some r := h
  clear h
  have H' := Aside0.mk H
  clear H
  go_enter Try.func84, Try.ntmps84
  go_wp2
  go_loopg [0, 1, 5] k (fun kq v0 v1 v5 w' => ∃ (x0_1 : Int) (x1_1 : Int) (x5_1 : Int), v0 = .int .u8 x0_1 ∧ v1 = .int .u8 x1_1 ∧ v5 = .int .u8 x5_1 ∧ Aside0 (impl_mulGf.l0 kq x0_1 x1_1 x5_1 = some r) ∧ Aside0 (kq ≤ k) ∧ Drawn0 w w')
  case atStart => exact ⟨(a0), (a1), (0), (by first | rfl | (simp; done) | (simp [*]; done)), (by first | rfl | (simp; done) | (simp [*]; done)), (by first | rfl | (simp; done) | (simp [*]; done)), H', ⟨Nat.le_refl _⟩, by repeat (first | exact Drawn0.refl _ | apply Drawn0.step)⟩
  case round =>
    clear H'
    try clear p2
    obtain ⟨x0_1, x1_1, x5_1, rfl, rfl, rfl, HA, HK1, ⟨m1, rfl⟩⟩ := hrel
    cases gk with
    | zero => exact absurd HA.out (by simp [impl_mulGf.l0])
    | succ k1 =>
      have H := HA.out
      clear HA
      simp only [impl_mulGf.l0] at H
      by_cases c3 : x1_1 = 0
      · rw [if_pos c3] at H
        have c3b0 : (x1_1 == 0) = true := beq_iff_eq.mpr c3
        have c3b1 : (x1_1 != 0) = false := bne_eq_false_iff_eq.mpr c3
        clear c3
        obtain rfl := Option.some.inj H
        go_wp2
        go_ret
        exact ⟨by first | rfl | (simp; done) | (simp [*]; done), by repeat (first | exact Drawn0.refl _ | apply Drawn0.step)⟩
      · rw [if_neg c3] at H
        have c3b0 : (x1_1 == 0) = false := beq_eq_false_iff_ne.mpr c3
        have c3b1 : (x1_1 != 0) = true := bne_iff_ne.mpr c3
        by_cases c4 : (Go.bits .and .u8 x1_1 1) = 1
        · rw [if_pos c4] at H
          have c4b0 : ((Go.bits .and .u8 x1_1 1) == 1) = true := beq_iff_eq.mpr c4
          have c4b1 : ((Go.bits .and .u8 x1_1 1) != 1) = false := bne_eq_false_iff_eq.mpr c4
          clear c4
          by_cases c5 : (Go.bits .and .u8 x0_1 128) = 0
          · rw [if_pos c5] at H
            have c5b0 : ((Go.bits .and .u8 x0_1 128) == 0) = true := beq_iff_eq.mpr c5
            have c5b1 : ((Go.bits .and .u8 x0_1 128) != 0) = false := bne_eq_false_iff_eq.mpr c5
            clear c5
            have H' := Aside0.mk H
            clear H
            go_wp2
            go_roundg k1
            case measure => have := HK1.out; omega
            case rel => exact ⟨((x0_1 * 2) % 256), (x1_1 / 2), (Go.bits .xor .u8 x5_1 x0_1), (by first | rfl | (simp; done) | (simp [*]; done)), (by first | rfl | (simp; done) | (simp [*]; done)), (by first | rfl | (simp; done) | (simp [*]; done)), H', ⟨by have := HK1.out; omega⟩, by repeat (first | exact Drawn0.refl _ | apply Drawn0.step)⟩
          · rw [if_neg c5] at H
            have c5b0 : ((Go.bits .and .u8 x0_1 128) == 0) = false := beq_eq_false_iff_ne.mpr c5
            have c5b1 : ((Go.bits .and .u8 x0_1 128) != 0) = true := bne_iff_ne.mpr c5
            have H' := Aside0.mk H
            clear H
            go_wp2
            go_roundg k1
            case measure => have := HK1.out; omega
            case rel => exact ⟨(Go.bits .xor .u8 ((x0_1 * 2) % 256) 27), (x1_1 / 2), (Go.bits .xor .u8 x5_1 x0_1), (by first | rfl | (simp; done) | (simp [*]; done)), (by first | rfl | (simp; done) | (simp [*]; done)), (by first | rfl | (simp; done) | (simp [*]; done)), H', ⟨by have := HK1.out; omega⟩, by repeat (first | exact Drawn0.refl _ | apply Drawn0.step)⟩
        · rw [if_neg c4] at H
          have c4b0 : ((Go.bits .and .u8 x1_1 1) == 1) = false := beq_eq_false_iff_ne.mpr c4
          have c4b1 : ((Go.bits .and .u8 x1_1 1) != 1) = true := bne_iff_ne.mpr c4
          by_cases c6 : (Go.bits .and .u8 x0_1 128) = 0
          · rw [if_pos c6] at H
            have c6b0 : ((Go.bits .and .u8 x0_1 128) == 0) = true := beq_iff_eq.mpr c6
            have c6b1 : ((Go.bits .and .u8 x0_1 128) != 0) = false := bne_eq_false_iff_eq.mpr c6
            clear c6
            have H' := Aside0.mk H
            clear H
            go_wp2
            go_roundg k1
            case measure => have := HK1.out; omega
            case rel => exact ⟨((x0_1 * 2) % 256), (x1_1 / 2), (x5_1), (by first | rfl | (simp; done) | (simp [*]; done)), (by first | rfl | (simp; done) | (simp [*]; done)), (by first | rfl | (simp; done) | (simp [*]; done)), H', ⟨by have := HK1.out; omega⟩, by repeat (first | exact Drawn0.refl _ | apply Drawn0.step)⟩
          · rw [if_neg c6] at H
            have c6b0 : ((Go.bits .and .u8 x0_1 128) == 0) = false := beq_eq_false_iff_ne.mpr c6
            have c6b1 : ((Go.bits .and .u8 x0_1 128) != 0) = true := bne_iff_ne.mpr c6
            have H' := Aside0.mk H
            clear H
            go_wp2
            go_roundg k1
            case measure => have := HK1.out; omega
            case rel => exact ⟨(Go.bits .xor .u8 ((x0_1 * 2) % 256) 27), (x1_1 / 2), (x5_1), (by first | rfl | (simp; done) | (simp [*]; done)), (by first | rfl | (simp; done) | (simp [*]; done)), (by first | rfl | (simp; done) | (simp [*]; done)), H', ⟨by have := HK1.out; omega⟩, by repeat (first | exact Drawn0.refl _ | apply Drawn0.step)⟩

-- NOT PRINTED: function 48 (impl_mixed)

-- NOT PRINTED: function 49 (impl_forth)

-- NOT PRINTED: function 18 (impl_MixColumn)

-- NOT PRINTED: function 3 (laws_FnExactMixColumn)

theorem xor_u8_range (a b : Int) : 0 ≤ Go.bits .xor .u8 a b ∧ Go.bits .xor .u8 a b < 256 := by
  show 0 ≤ IntKind.u8.wrap _ ∧ IntKind.u8.wrap _ < 256
  simp only [IntKind.wrap, IntKind.bits, IntKind.signed]
  constructor <;> simp <;> omega
theorem mulGf_total : ∀ (j k : Nat) (a b o : Int), 0 ≤ b → b < 2 ^ j → j < k → 0 ≤ o → o < 256 → ∃ r, impl_mulGf.l0 k a b o = some r ∧ 0 ≤ r ∧ r < 256
  | 0, k, a, b, o, h0, h1, hk, o0, o1 => by
    obtain ⟨k, rfl⟩ : ∃ m, k = m + 1 := ⟨k - 1, by omega⟩
    refine ⟨o, ?_, o0, o1⟩
    simp only [impl_mulGf.l0]
    rw [if_pos (by omega)]
  | j + 1, k, a, b, o, h0, h1, hk, o0, o1 => by
    obtain ⟨k, rfl⟩ : ∃ m, k = m + 1 := ⟨k - 1, by omega⟩
    simp only [impl_mulGf.l0]
    have hb : b / 2 < 2 ^ j := by rw [Int.pow_succ] at h1; omega
    have hx := xor_u8_range o a
    by_cases hz : b = 0
    · exact ⟨o, by rw [if_pos hz], o0, o1⟩
    · rw [if_neg hz]
      split <;> split
      · exact mulGf_total j k _ _ _ (by omega) hb (by omega) hx.1 hx.2
      · exact mulGf_total j k _ _ _ (by omega) hb (by omega) hx.1 hx.2
      · exact mulGf_total j k _ _ _ (by omega) hb (by omega) o0 o1
      · exact mulGf_total j k _ _ _ (by omega) hb (by omega) o0 o1
/-- The product of two bytes, as the program's loop gives it. -/
def M (a b : Int) : Int := (impl_mulGf.f 16 a b).getD 0
theorem M_tells (a b : Int) (h0 : 0 ≤ b) (h1 : b < 256) : impl_mulGf.f 16 a b = some (M a b) := by
  obtain ⟨r, hr, _⟩ := mulGf_total 8 16 a b 0 h0 (by omega) (by decide) (by decide) (by decide)
  unfold M impl_mulGf.f
  rw [hr]; rfl
theorem M_range (a b : Int) (h0 : 0 ≤ b) (h1 : b < 256) : 0 ≤ M a b ∧ M a b < 256 := by
  obtain ⟨r, hr, h⟩ := mulGf_total 8 16 a b 0 h0 (by omega) (by decide) (by decide) (by decide)
  unfold M impl_mulGf.f
  rw [hr]; exact h
def mixI (M : Int → Int → Int) (f s : List Int) (i : Nat) : Nat → Int
  | 0 => 0
  | m + 1 => Go.bits .xor .u8 (mixI M f s i m) (M (rd f (m : Int)) (rd s (((i + m) % 4 : Nat) : Int)))
def mixL (M : Int → Int → Int) (f s : List Int) : List Int := [mixI M f s 0 4, mixI M f s 1 4, mixI M f s 2 4, mixI M f s 3 4]
theorem rd_set_same (o : List Int) (k : Nat) (x : Int) (h : k < o.length) : rd (o.set k x) (k : Int) = x := by
  simp [rd, List.getD_eq_getElem?_getD, h]
theorem rd_set_other (o : List Int) (k j : Nat) (x : Int) (h : k ≠ j) : rd (o.set k x) (j : Int) = rd o (j : Int) := by
  simp [rd, List.getD_eq_getElem?_getD, List.getElem?_set_ne h]
theorem list4 (o : List Int) (h : o.length = 4) : o = [rd o ((0 : Nat) : Int), rd o ((1 : Nat) : Int), rd o ((2 : Nat) : Int), rd o ((3 : Nat) : Int)] := by
  match o, h with
  | [a, b, c, d], _ => rfl
theorem hix_46 (f : List Int) (m : Nat) (hm : m < 4) (wx : World) : Sem.run Try.prog (Instr.index 46 (Value.agg #[Value.int IntKind.u8 (rd f 0), Value.int IntKind.u8 (rd f 1), Value.int IntKind.u8 (rd f 2), Value.int IntKind.u8 (rd f 3)]) (Value.int IntKind.i64 (m : Int))) wx = .ok (Value.int IntKind.u8 (rd f (m : Int))) wx := by
  obtain rfl | rfl | rfl | rfl : m = 0 ∨ m = 1 ∨ m = 2 ∨ m = 3 := by omega
  · show Sem.run Try.prog (Instr.index 46 (Value.agg #[Value.int IntKind.u8 (rd f 0), Value.int IntKind.u8 (rd f 1), Value.int IntKind.u8 (rd f 2), Value.int IntKind.u8 (rd f 3)]) (Value.int IntKind.i64 0)) wx = .ok (Value.int IntKind.u8 (rd f 0)) wx
    kernel_rfl
  · show Sem.run Try.prog (Instr.index 46 (Value.agg #[Value.int IntKind.u8 (rd f 0), Value.int IntKind.u8 (rd f 1), Value.int IntKind.u8 (rd f 2), Value.int IntKind.u8 (rd f 3)]) (Value.int IntKind.i64 1)) wx = .ok (Value.int IntKind.u8 (rd f 1)) wx
    kernel_rfl
  · show Sem.run Try.prog (Instr.index 46 (Value.agg #[Value.int IntKind.u8 (rd f 0), Value.int IntKind.u8 (rd f 1), Value.int IntKind.u8 (rd f 2), Value.int IntKind.u8 (rd f 3)]) (Value.int IntKind.i64 2)) wx = .ok (Value.int IntKind.u8 (rd f 2)) wx
    kernel_rfl
  · show Sem.run Try.prog (Instr.index 46 (Value.agg #[Value.int IntKind.u8 (rd f 0), Value.int IntKind.u8 (rd f 1), Value.int IntKind.u8 (rd f 2), Value.int IntKind.u8 (rd f 3)]) (Value.int IntKind.i64 3)) wx = .ok (Value.int IntKind.u8 (rd f 3)) wx
    kernel_rfl
set_option maxHeartbeats 4000000 in
set_option maxRecDepth 100000 in
theorem mixed_walk (f l : List Int) (M : Int → Int → Int) (kk : Nat) (hM : ∀ a b, 0 ≤ b → b < 256 → impl_mulGf.f kk a b = some (M a b)) (hr : ∀ x ∈ l, 0 ≤ x ∧ x < 256) (g off cap : Nat) (w : World)
    (hs : At w g 5 l) (hl : off + 4 ≤ l.length) :
    Calls Try.prog 48 #[.slice (some ⟨g, off, none⟩) 4 cap, .agg #[.int .u8 (rd f 0), .int .u8 (rd f 1), .int .u8 (rd f 2), .int .u8 (rd f 3)]] w fun e w' => e = .returned (.tuple #[]) ∧
      At w' g 5 (l.take off ++ mixL M f ((l.drop off).take 4) ++ l.drop (off + 4)) ∧ But w.heap.size g w w' := by
  obtain ⟨s, hsd⟩ : ∃ s, s = (l.drop off).take 4 := ⟨_, rfl⟩
  have hsr : ∀ j : Nat, j < 4 → rd l ((off + j : Nat) : Int) = rd s (j : Int) := by
    intro j hj
    subst hsd
    show l.getD ((off + j : Nat) : Int).toNat 0 = ((l.drop off).take 4).getD (j : Int).toNat 0
    rw [Int.toNat_natCast, Int.toNat_natCast]
    simp [List.getD_eq_getElem?_getD, hj]
  have hsb : ∀ j : Nat, 0 ≤ rd s (j : Int) ∧ rd s (j : Int) < 256 := by
    intro j
    by_cases hj : j < s.length
    · have e : rd s (j : Int) = s[j] := by simp [rd, List.getD_eq_getElem?_getD, List.getElem?_eq_getElem hj]
      rw [e]
      have hm : ∀ x ∈ s, 0 ≤ x ∧ x < 256 := by
        intro x hx
        rw [hsd] at hx
        exact hr _ (List.mem_of_mem_drop (List.mem_of_mem_take hx))
      exact hm _ (List.getElem_mem hj)
    · have e : rd s (j : Int) = 0 := by simp [rd, List.getD_eq_getElem?_getD, List.getElem?_eq_none (by omega : s.length ≤ j)]
      rw [e]; omega
  have hg := hs.lt
  rw [← hsd]
  clear hsd
  go_enter Try.func48, Try.ntmps48
  go_wp2
  go_loopw [9] (fun i wr => ∃ k : Nat, k ≤ 4 ∧ i = .int .i64 k ∧ (∃ o : List Int, o.length = 4 ∧ (∀ j : Nat, j < k → rd o (j : Int) = mixI M f s j 4) ∧ (∀ j : Nat, k ≤ j → j < 4 → rd o (j : Int) = 0) ∧ At wr w.heap.size 46 [rd f 0, rd f 1, rd f 2, rd f 3] ∧ At wr (w.heap.size + 1) 46 o) ∧ Below w.heap.size w wr)
    (fun i _ => 4 - (intOf i).toNat)
  case atStart =>
    refine ⟨0, by omega, rfl, ⟨[0, 0, 0, 0], rfl, fun j h => absurd h (by omega), fun j _ h => ?_, ?_, ?_⟩, ?_⟩
    · match j, h with
      | 0, _ => rfl
      | 1, _ => rfl
      | 2, _ => rfl
      | 3, _ => rfl
    · exact (At.made w 46 [rd f 0, rd f 1, rd f 2, rd f 3]).alloc _
    · have := At.made (w.alloc (.cells (u8s [rd f 0, rd f 1, rd f 2, rd f 3]) 46 (0, 0))) 46 [0, 0, 0, 0]
      rwa [show (w.alloc (.cells (u8s [rd f 0, rd f 1, rd f 2, rd f 3]) 46 (0, 0))).heap.size = w.heap.size + 1 by simp] at this
    · exact ((Below.refl _ _).alloc (Nat.le_refl _) _).alloc (by simp) _
  case round =>
    obtain ⟨k, hk, rfl, ⟨o, ho, o1, o2, hF, hO⟩, hB⟩ := hrel
    have c0 := hF.cell (i := 0) (show 0 < 4 by decide)
    have c1 := hF.cell (i := 1) (show 1 < 4 by decide)
    have c2 := hF.cell (i := 2) (show 2 < 4 by decide)
    have c3 := hF.cell (i := 3) (show 3 < 4 by decide)
    replace c0 : wr.cell? ⟨w.heap.size, 0, none⟩ = some (.int .u8 (rd f 0)) := c0
    replace c1 : wr.cell? ⟨w.heap.size, 1, none⟩ = some (.int .u8 (rd f 1)) := c1
    replace c2 : wr.cell? ⟨w.heap.size, 2, none⟩ = some (.int .u8 (rd f 2)) := c2
    replace c3 : wr.cell? ⟨w.heap.size, 3, none⟩ = some (.int .u8 (rd f 3)) := c3
    by_cases hk4 : k < 4
    · go_wp2
      clear c0 c1 c2 c3
      have hdk : decide ((k : Int) < 4) = true := decide_eq_true (by omega)
      rw [hdk]
      go_loopw [13] (fun i wx => ∃ m : Nat, m ≤ 4 ∧ i = .int .i64 m ∧ (∃ o : List Int, o.length = 4 ∧ (∀ j : Nat, j < k → rd o (j : Int) = mixI M f s j 4) ∧ rd o (k : Int) = mixI M f s k m ∧ (∀ j : Nat, k < j → j < 4 → rd o (j : Int) = 0) ∧ At wx w.heap.size 46 [rd f 0, rd f 1, rd f 2, rd f 3] ∧ At wx (w.heap.size + 1) 46 o) ∧ Below w.heap.size w wx)
        (fun i _ => 4 - (intOf i).toNat)
      case atStart => exact ⟨0, by omega, rfl, ⟨o, ho, o1, o2 k (Nat.le_refl _) hk4, fun j h => o2 j (by omega), hF, hO⟩, hB⟩
      case round =>
        clear hB hO hF o2 o1 ho o
        rename_i wx
        obtain ⟨m, hm, rfl, ⟨o, ho, o1, ok, o2, hF, hO⟩, hB⟩ := hrel
        by_cases hm4 : m < 4
        · have hix := hix_46 f m hm4
          have hw : IntKind.i64.wrap ((k : Int) + (m : Int)) = (k : Int) + (m : Int) := by rw [IntKind.wrap_i64]; omega
          have ht : ((k : Int) + (m : Int)).tmod 4 = ((k : Int) + (m : Int)) % 4 := Int.tmod_eq_emod_of_nonneg (by omega)
          have hrc : 0 ≤ ((k : Int) + (m : Int)) % 4 ∧ ((k : Int) + (m : Int)) % 4 < 4 := by omega
          have hrn : (((k : Int) + (m : Int)) % 4).toNat = (k + m) % 4 := by omega
          have fz : wr.frozen? ⟨w.heap.size + 1, k, none⟩ = false := hO.frozen (by omega)
          have d0 : wr.cell? ⟨w.heap.size + 1, k, none⟩ = some (.int .u8 (rd o k)) := hO.cell (by omega)
          have e0 : wr.cell? ⟨g, off + (k + m) % 4, none⟩ = some (.int .u8 (rd s (((k + m) % 4 : Nat) : Int))) := by
            rw [← hsr _ (Nat.mod_lt _ (by decide))]
            exact (hs.below hB hg).cell (by omega)
          have hMk : impl_mulGf.f kk (rd f (m : Int)) (rd s (((k : Int) + (m : Int)) % 4)) = some (M (rd f (m : Int)) (rd s (((k : Int) + (m : Int)) % 4))) := by
            have hc : (((k + m) % 4 : Nat) : Int) = ((k : Int) + (m : Int)) % 4 := by omega
            rw [← hc]
            exact hM _ _ (hsb _).1 (hsb _).2
          have fin : ∀ nd : Nat, (∃ o' : List Int, o'.length = 4 ∧ (∀ j : Nat, j < k → rd o' (j : Int) = mixI M f s j 4) ∧ rd o' (k : Int) = mixI M f s k (m + 1) ∧ (∀ j : Nat, k < j → j < 4 → rd o' (j : Int) = 0) ∧
              At ((wr.drewN nd).setCell ⟨w.heap.size + 1, k, none⟩ (.int .u8 (Go.bits .xor .u8 (mixI M f s k m) (M (rd f (m : Int)) (rd s (((k : Int) + (m : Int)) % 4)))))) w.heap.size 46 [rd f 0, rd f 1, rd f 2, rd f 3] ∧
              At ((wr.drewN nd).setCell ⟨w.heap.size + 1, k, none⟩ (.int .u8 (Go.bits .xor .u8 (mixI M f s k m) (M (rd f (m : Int)) (rd s (((k : Int) + (m : Int)) % 4)))))) (w.heap.size + 1) 46 o') ∧
              Below w.heap.size w ((wr.drewN nd).setCell ⟨w.heap.size + 1, k, none⟩ (.int .u8 (Go.bits .xor .u8 (mixI M f s k m) (M (rd f (m : Int)) (rd s (((k : Int) + (m : Int)) % 4)))))) := by
            intro nd
            have hv : mixI M f s k (m + 1) = Go.bits .xor .u8 (mixI M f s k m) (M (rd f (m : Int)) (rd s (((k : Int) + (m : Int)) % 4))) := by
              have hc : (((k + m) % 4 : Nat) : Int) = ((k : Int) + (m : Int)) % 4 := by omega
              rw [← hc]; rfl
            rw [← hv]
            refine ⟨⟨o.set k (mixI M f s k (m + 1)), by rw [List.length_set, ho], fun j h => ?_, ?_, fun j h h4 => ?_, ?_, ?_⟩, ?_⟩
            · rw [rd_set_other o k j _ (by omega)]; exact o1 j h
            · exact rd_set_same o k _ (by omega)
            · rw [rd_set_other o k j _ (by omega)]; exact o2 j h h4
            · exact (hF.drew nd).other (by simp)
            · exact (hO.drew nd).set
            · have hBd : Below w.heap.size w (wr.drewN nd) := ⟨hB.os, hB.tape, hB.output, hB.size, hB.block⟩
              exact hBd.setCell (Nat.le_succ _) _
          clear hF hO
          go_wp2
          go_region_with (go_at_call 84; refine (impl_mulGf.calls kk _ _ _ _ hMk).mono ?_; rintro e w' ⟨rfl, ⟨nd, rfl⟩⟩)
          all_goals (
            have fin1 := fin (1 + nd)
            clear fin e0 d0 fz hB
            go_wp2
            go_roundw
            case rel => exact ⟨m + 1, by omega, by go_num, fin1.1, fin1.2⟩
            case measure => simp [intOf]; omega)
        · have : m = 4 := by omega
          subst this
          go_wp2
          go_roundw
          case rel =>
            refine ⟨k + 1, by omega, by go_num, ⟨o, ho, fun j h => ?_, fun j h h4 => o2 j (by omega) h4, hF, hO⟩, hB⟩
            by_cases e : j = k
            · subst e; exact ok
            · exact o1 j (by omega)
          case measure => simp [intOf]; omega
    · have : k = 4 := by omega
      subst this
      have hoL : o = mixL M f s := by
        rw [list4 o ho, o1 0 (by decide), o1 1 (by decide), o1 2 (by decide), o1 3 (by decide)]
        rfl
      subst hoL
      have hS := hs.below hB hg
      have hcopy := run_copy_cells (P := Try.prog) wr 43 43 3 5 g off 4 cap ⟨w.heap.size + 1, 0, none⟩ 4 4 ((mixL M f s).map fun n => Value.int .u8 n) Try.underlying43 (by kernel_rfl) rfl
        (by
          intro j v hv
          have hj : j < (mixL M f s).length := by
            have := (List.getElem?_eq_some_iff.mp hv).1
            simpa using this
          have h := hO.cell (i := j) hj
          have e : (⟨w.heap.size + 1, 0, none⟩ : Addr).add j = ⟨w.heap.size + 1, j, none⟩ := by
            simp [Addr.add]
            exact fun h => h.symm
          rw [e, h, ← hv]
          simp [rd, List.getD_eq_getElem?_getD, List.getElem?_eq_getElem hj]) (by
          intro j hj
          rw [List.length_map] at hj
          have hj4 : j < 4 := hj
          rw [hS.cell (by omega)]
          rfl) (by
          intro j hj
          rw [List.length_map] at hj
          have hj4 : j < 4 := hj
          exact hS.frozen (by omega)) (by
          intro v hv
          simp only [List.mem_map] at hv
          obtain ⟨n, _, rfl⟩ := hv
          rfl)
      have fA := hS.setCells (mixL M f s) l off wr hl
      have fB := But.setCells ((mixL M f s).map fun n => Value.int .u8 n) off wr (But.of g hB)
      clear c0 c1 c2 c3 hO hF hS hB
      go_wp2
      go_end0
      exact ⟨rfl, fA, fB⟩
theorem forth_walk (w : World) : Calls Try.prog 49 #[] w fun e w' => e = .returned (.agg #[.int .u8 2, .int .u8 3, .int .u8 1, .int .u8 1]) ∧ Below w.heap.size w w' := by
  go_enter Try.func49, Try.ntmps49
  go_wp2
  refine bodyPost_ret (v := .agg #[.int .u8 2, .int .u8 3, .int .u8 1, .int .u8 1]) (by simp [results, Try.results49, go_sem]) rfl ⟨rfl, ?_⟩
  exact (Below.refl _ _).alloc (Nat.le_refl _) _
end Go.Proofs.YtimokakcdmcnnaaV.Aes
