/- The words of the hash's rounds and its first state, walked: impl's behindPoint over a function value, RoundWords, firstState. Conditions: none (closed calls). -/
import Derived.Test.YtnghcnkffbjddaaDoorVHp
import Derived.Deep.AppendLies
import Derived.Laws.OwnMore
namespace Go.Proofs.YtnghcnkffbjddaaDoorV.Aes
open Go.RowKit Go.Proofs.YtnghcnkffbjddaaDoorV.PrintWords Go.Proofs.YtnghcnkffbjddaaDoorV.PrintLast Go.Proofs.YtnghcnkffbjddaaDoorV.PrintMore Go.Proofs.YtnghcnkffbjddaaDoorV.Mem
set_option linter.unusedVariables false
set_option linter.unusedSimpArgs false

theorem row_mono {w : World} {base base' : Nat} {e : TypeId} {size : Nat} {v : Value} {n : Nat} {xs : List Value} (h : w.ownsRow base e size v n xs) (hb : base' ≤ base) : w.ownsRow base' e size v n xs := by
  refine ⟨h.1, ?_⟩
  rcases h.2 with h0 | ⟨g, cap, cur, hv, h1, r⟩
  · exact .inl h0
  · exact .inr ⟨g, cap, cur, hv, Nat.le_trans hb h1, r⟩
theorem own_apart {w : World} {b1 b2 : Nat} {e1 e2 : TypeId} {s1 s2 n1 n2 : Nat} {v1 v2 : Value} {x1 x2 : List Value} (h1 : w.ownsRow b1 e1 s1 v1 n1 x1) (h2 : w.ownsRow b2 e2 s2 v2 n2 x2) (he : e1 ≠ e2) : v1.ownBlock = none ∨ v1.ownBlock ≠ v2.ownBlock := by
  rcases h1.2 with ⟨a, _⟩ | ⟨g1, c1, k1, a, _, a3, _⟩
  · rw [a]; exact .inl rfl
  · refine .inr fun e => ?_
    rcases h2.2 with ⟨b, _⟩ | ⟨g2, c2, k2, b, _, b3, _⟩
    · rw [a, b] at e; simp [Value.ownBlock] at e
    · rw [a, b] at e
      simp only [Value.ownBlock, Option.some.injEq] at e
      subst e
      rw [a3] at b3
      injection b3 with b3
      injection b3 with _ b4 _
      exact he b4
theorem fls_cell {w : World} {b g n cap : Nat} {l : List Nat} (h : w.ownsRow b 211 1 (.slice (some ⟨g, 0, none⟩) n cap) n (fls l)) (i : Nat) (hi : i < l.length) : w.cell? ⟨g, i, none⟩ = some (.float .f64 (flt ((l.getD i 0 : Nat) : Int))) := by
  have hl : l.length = n := by have := h.1; simpa [fls] using this
  rw [h.cellAt i (by omega)]
  simp [fls, List.getD_eq_getElem?_getD, List.getElem?_eq_getElem hi]
theorem u32_mod (n : Int) : IntKind.u32.wrap n = n % 4294967296 := by simp [IntKind.wrap, IntKind.bits, IntKind.signed]
theorem nums_take (l : List Int) (k : Nat) (h : k < l.length) : nums .u32 (l.take k) ++ [Value.int .u32 (l.getD k 0)] = nums .u32 (l.take (k + 1)) := by
  rw [List.take_succ_eq_append_getElem h, List.getD_eq_getElem?_getD, List.getElem?_eq_getElem h]
  unfold nums
  rw [List.map_append]
  rfl
set_option maxHeartbeats 4000000 in
set_option maxRecDepth 100000 in
theorem behind_walkC (m lim : Nat) (G M : Nat → Nat) (U : Nat → Int) (ws : List Int) (hm : 0 < m ∧ m ≤ 64) (hlim : 2 ≤ lim ∧ lim ≤ 312) (hP : (pl lim).length = m) (hS : ∀ n, n < lim → (pl n).length < m) (hw : ws.length = m)
    (hG : ∀ i, i < m → ∀ w, Calls Tryd.prog 182 #[.float .f64 (flt (((pl lim).getD i 0 : Nat) : Int))] w fun e w' => e = .returned (.float .f64 (G i)) ∧ w = w')
    (hM : ∀ i, i < m → floatBits .mul .f64 (G i) 4751297606875873280 = some (M i)) (hN : ∀ i, i < m → floatToIntVal .f64 (M i) .u64 = some (U i)) (hU : ∀ i, i < m → ws.getD i 0 = U i % 4294967296) (w : World) :
    Calls Tryd.prog 180 #[.int .i64 (m : Int), .func (.func 182) #[] #[]] w fun e w' => ∃ A cap, e = .returned (.slice A m cap) ∧ w'.ownsRow w.heap.size 145 1 (.slice A m cap) m (nums .u32 ws) ∧ Below w.heap.size w w' := by
  obtain ⟨i0, hi, hz0, hz1, hz2⟩ := info_parts info46
  have hpr := primes_walk m lim hm hlim hP hS
  have Hm := Lib.hid hm
  have HP := Lib.hid hP
  have HG := Lib.hid hG
  have HM := Lib.hid hM
  have HN := Lib.hid hN
  have HU := Lib.hid hU
  have Hw := Lib.hid hw
  clear hm hP hG hM hN hU hS hlim hw
  go_enter Tryd.func180, Tryd.ntmps180
  go_wp2_with (go_at_call 197; refine (hpr _).mono ?_; rintro e w1 ⟨v, rfl, hown1, hB1⟩; obtain ⟨g1, c1, rfl, hg1, hg2⟩ := hown1.form Hm.out.1)
  have hout0 : w1.ownsRow w.heap.size 145 1 (.slice (some ⟨w.heap.size, 0, none⟩) 0 0) 0 (nums .u32 (ws.take 0)) := by
    have h0 := World.ownsRow_lit (e := 145) (size := 1) w #[] 0 (Nat.le_refl w.heap.size) (by decide) rfl
    rcases h0.2 with ⟨h, _⟩ | ⟨g, cap, cur, h, h2, h3, h4⟩
    · cases h
    · refine ⟨rfl, .inr ⟨g, cap, cur, h, h2, ?_, h4⟩⟩
      simp only [Value.slice.injEq, Option.some.injEq, Addr.mk.injEq, and_true, true_and] at h
      rw [hB1.block g (by simp; omega)]
      exact h3
  have hB2 : Below w.heap.size w w1 := ((Below.refl _ _).alloc (Nat.le_refl _) _).trans (hB1.mono (by simp))
  have hown2 := row_mono (base' := w.heap.size) hown1 (by simp)
  clear hown1 hB1 hpr
  go_loopw [5, 12] (fun u y wr => ∃ (k : Nat) (A : Option Addr) (cap : Nat), k ≤ m ∧ y = .int .i64 (k : Int) ∧ u = .slice A k cap ∧ wr.ownsRow w.heap.size 145 1 (.slice A k cap) k (nums .u32 (ws.take k)) ∧ wr.ownsRow w.heap.size 211 1 (.slice (some ⟨g1, 0, none⟩) m c1) m (fls (pl lim)) ∧ Below w.heap.size w wr)
    (fun _ y _ => m - (intOf y).toNat)
  case atStart => exact ⟨0, _, _, Nat.zero_le _, rfl, rfl, hout0, hown2, hB2⟩
  case round =>
    clear hout0 hown2 hB2
    obtain ⟨k, A, cap, hk, rfl, rfl, hout, hfl, hB⟩ := hrel
    by_cases hkm : k < m
    · have hkmi : (k : Int) < (m : Int) := by omega
      have hm64 : (m : Int) ≤ 64 := by have := Hm.out; omega
      have hc := fls_cell hfl k (by rw [HP.out]; exact hkm)
      have hroot := HG.out k hkm
      have hmul := f64_run _ (HM.out k hkm)
      have hconv := fun wx => run_convert_float_int (P := Tryd.prog) wx 211 122 .f64 .u64 (M k) (U k) (by rw [Tryd.underlying211]; rfl) Tryd.underlying122 (HN.out k hkm)
      have hc3 : k + 1 ≤ maxLen := by unfold maxLen; omega
      have hc4 : (k + 1) * 4 ≤ 140737488355328 := by omega
      have hap := own_apart hfl hout (by decide)
      go_wp2_with (first
        | (go_at_call 182; refine (hroot _).mono ?_; rintro e w' ⟨rfl, rfl⟩)
        | (at_builtin; refine wpList_append_own _ rfl _ _ 118 rfl w.heap.size 145 i0 (.int .u32 0) 1 4 Tryd.underlying118 hi hz0 hz1 hz2 rfl (by decide) _ _ _ rfl (hout.alloc _) ⟨wr.heap.size, 0, none⟩ 1 1 [.int .u32 (IntKind.u32.wrap (U k))] rfl rfl (cell_lit1 wr _ _) (one_lit rfl) hc3 hc4 (Nat.le_trans hB.size (le_alloc wr _)) ?_))
      intro v' w2 hown' hgrow _
      have hnx : nums .u32 (ws.take k) ++ [Value.int .u32 (IntKind.u32.wrap (U k))] = nums .u32 (ws.take (k + 1)) := by
        have h1 := HU.out k hkm
        rw [u32_mod, ← h1]
        exact nums_take ws k (by rw [Hw.out]; exact hkm)
      rw [hnx] at hown'
      obtain ⟨A', cap', rfl⟩ := own_slice hown'
      have hB1 := below_row hB hout hgrow
      have hfl1 := (hfl.alloc _).kept hgrow hap
      clear hout hfl hgrow hB hnx hap hroot hmul hconv hc
      go_wp2
      go_roundw
      case rel => exact ⟨k + 1, A', cap', by omega, by go_num, rfl, hown', hfl1, hB1⟩
      case measure => simp [intOf]; omega
    · have : k = m := by omega
      subst this
      have hkmi : ¬ (k : Int) < (k : Int) := by omega
      have ht : ws.take k = ws := List.take_of_length_le (by rw [Hw.out]; exact Nat.le_refl _)
      rw [ht] at hout
      go_wp2
      go_ret
      exact ⟨_, _, rfl, hout, hB⟩
set_option maxHeartbeats 4000000 in
set_option maxRecDepth 100000 in
theorem behind_walkS (m lim : Nat) (G M : Nat → Nat) (U : Nat → Int) (ws : List Int) (hm : 0 < m ∧ m ≤ 64) (hlim : 2 ≤ lim ∧ lim ≤ 312) (hP : (pl lim).length = m) (hS : ∀ n, n < lim → (pl n).length < m) (hw : ws.length = m)
    (hG : ∀ i, i < m → ∀ w, Calls Tryd.prog 181 #[.float .f64 (flt (((pl lim).getD i 0 : Nat) : Int))] w fun e w' => e = .returned (.float .f64 (G i)) ∧ w = w')
    (hM : ∀ i, i < m → floatBits .mul .f64 (G i) 4751297606875873280 = some (M i)) (hN : ∀ i, i < m → floatToIntVal .f64 (M i) .u64 = some (U i)) (hU : ∀ i, i < m → ws.getD i 0 = U i % 4294967296) (w : World) :
    Calls Tryd.prog 180 #[.int .i64 (m : Int), .func (.func 181) #[] #[]] w fun e w' => ∃ A cap, e = .returned (.slice A m cap) ∧ w'.ownsRow w.heap.size 145 1 (.slice A m cap) m (nums .u32 ws) ∧ Below w.heap.size w w' := by
  obtain ⟨i0, hi, hz0, hz1, hz2⟩ := info_parts info46
  have hpr := primes_walk m lim hm hlim hP hS
  have Hm := Lib.hid hm
  have HP := Lib.hid hP
  have HG := Lib.hid hG
  have HM := Lib.hid hM
  have HN := Lib.hid hN
  have HU := Lib.hid hU
  have Hw := Lib.hid hw
  clear hm hP hG hM hN hU hS hlim hw
  go_enter Tryd.func180, Tryd.ntmps180
  go_wp2_with (go_at_call 197; refine (hpr _).mono ?_; rintro e w1 ⟨v, rfl, hown1, hB1⟩; obtain ⟨g1, c1, rfl, hg1, hg2⟩ := hown1.form Hm.out.1)
  have hout0 : w1.ownsRow w.heap.size 145 1 (.slice (some ⟨w.heap.size, 0, none⟩) 0 0) 0 (nums .u32 (ws.take 0)) := by
    have h0 := World.ownsRow_lit (e := 145) (size := 1) w #[] 0 (Nat.le_refl w.heap.size) (by decide) rfl
    rcases h0.2 with ⟨h, _⟩ | ⟨g, cap, cur, h, h2, h3, h4⟩
    · cases h
    · refine ⟨rfl, .inr ⟨g, cap, cur, h, h2, ?_, h4⟩⟩
      simp only [Value.slice.injEq, Option.some.injEq, Addr.mk.injEq, and_true, true_and] at h
      rw [hB1.block g (by simp; omega)]
      exact h3
  have hB2 : Below w.heap.size w w1 := ((Below.refl _ _).alloc (Nat.le_refl _) _).trans (hB1.mono (by simp))
  have hown2 := row_mono (base' := w.heap.size) hown1 (by simp)
  clear hown1 hB1 hpr
  go_loopw [5, 12] (fun u y wr => ∃ (k : Nat) (A : Option Addr) (cap : Nat), k ≤ m ∧ y = .int .i64 (k : Int) ∧ u = .slice A k cap ∧ wr.ownsRow w.heap.size 145 1 (.slice A k cap) k (nums .u32 (ws.take k)) ∧ wr.ownsRow w.heap.size 211 1 (.slice (some ⟨g1, 0, none⟩) m c1) m (fls (pl lim)) ∧ Below w.heap.size w wr)
    (fun _ y _ => m - (intOf y).toNat)
  case atStart => exact ⟨0, _, _, Nat.zero_le _, rfl, rfl, hout0, hown2, hB2⟩
  case round =>
    clear hout0 hown2 hB2
    obtain ⟨k, A, cap, hk, rfl, rfl, hout, hfl, hB⟩ := hrel
    by_cases hkm : k < m
    · have hkmi : (k : Int) < (m : Int) := by omega
      have hm64 : (m : Int) ≤ 64 := by have := Hm.out; omega
      have hc := fls_cell hfl k (by rw [HP.out]; exact hkm)
      have hroot := HG.out k hkm
      have hmul := f64_run _ (HM.out k hkm)
      have hconv := fun wx => run_convert_float_int (P := Tryd.prog) wx 211 122 .f64 .u64 (M k) (U k) (by rw [Tryd.underlying211]; rfl) Tryd.underlying122 (HN.out k hkm)
      have hc3 : k + 1 ≤ maxLen := by unfold maxLen; omega
      have hc4 : (k + 1) * 4 ≤ 140737488355328 := by omega
      have hap := own_apart hfl hout (by decide)
      go_wp2_with (first
        | (go_at_call 181; refine (hroot _).mono ?_; rintro e w' ⟨rfl, rfl⟩)
        | (at_builtin; refine wpList_append_own _ rfl _ _ 118 rfl w.heap.size 145 i0 (.int .u32 0) 1 4 Tryd.underlying118 hi hz0 hz1 hz2 rfl (by decide) _ _ _ rfl (hout.alloc _) ⟨wr.heap.size, 0, none⟩ 1 1 [.int .u32 (IntKind.u32.wrap (U k))] rfl rfl (cell_lit1 wr _ _) (one_lit rfl) hc3 hc4 (Nat.le_trans hB.size (le_alloc wr _)) ?_))
      intro v' w2 hown' hgrow _
      have hnx : nums .u32 (ws.take k) ++ [Value.int .u32 (IntKind.u32.wrap (U k))] = nums .u32 (ws.take (k + 1)) := by
        have h1 := HU.out k hkm
        rw [u32_mod, ← h1]
        exact nums_take ws k (by rw [Hw.out]; exact hkm)
      rw [hnx] at hown'
      obtain ⟨A', cap', rfl⟩ := own_slice hown'
      have hB1 := below_row hB hout hgrow
      have hfl1 := (hfl.alloc _).kept hgrow hap
      clear hout hfl hgrow hB hnx hap hroot hmul hconv hc
      go_wp2
      go_roundw
      case rel => exact ⟨k + 1, A', cap', by omega, by go_num, rfl, hown', hfl1, hB1⟩
      case measure => simp [intOf]; omega
    · have : k = m := by omega
      subst this
      have hkmi : ¬ (k : Int) < (k : Int) := by omega
      have ht : ws.take k = ws := List.take_of_length_le (by rw [Hw.out]; exact Nat.le_refl _)
      rw [ht] at hout
      go_wp2
      go_ret
      exact ⟨_, _, rfl, hout, hB⟩
def Gc (i : Nat) : Nat := (cbrtF (flt ((PL.getD i 0 : Nat) : Int))).getD 0
def Gs (i : Nat) : Nat := (FloatKind.f64.format.sqrt (flt (((PL.take 8).getD i 0 : Nat) : Int))).getD 0
def Mf (g : Nat) : Nat := (floatBits .mul .f64 g 4751297606875873280).getD 0
def Uf (m : Nat) : Int := (floatToIntVal .f64 m .u64).getD 0
theorem C_all : ∀ i, i < 64 → cbrtF (flt ((PL.getD i 0 : Nat) : Int)) = some (Gc i) ∧ floatBits .mul .f64 (Gc i) 4751297606875873280 = some (Mf (Gc i)) ∧ floatToIntVal .f64 (Mf (Gc i)) .u64 = some (Uf (Mf (Gc i))) ∧ KW.getD i 0 = Uf (Mf (Gc i)) % 4294967296 := by decide +kernel
theorem S_all : ∀ i, i < 8 → FloatKind.f64.format.sqrt (flt (((PL.take 8).getD i 0 : Nat) : Int)) = some (Gs i) ∧ floatBits .mul .f64 (Gs i) 4751297606875873280 = some (Mf (Gs i)) ∧ floatToIntVal .f64 (Mf (Gs i)) .u64 = some (Uf (Mf (Gs i))) ∧ HW.getD i 0 = Uf (Mf (Gs i)) % 4294967296 := by decide +kernel
/-- A new row of words. -/
def Words (w : World) (ws : List Int) (e : Ending) (w' : World) : Prop := ∃ A cap, e = .returned (.slice A ws.length cap) ∧ w'.ownsRow w.heap.size 145 1 (.slice A ws.length cap) ws.length (nums .u32 ws) ∧ Below w.heap.size w w'
theorem RoundWords_walk (w : World) : Calls Tryd.prog 153 #[] w (Words w KW) := by
  have hb := fun w => behind_walkC 64 312 Gc (fun i => Mf (Gc i)) (fun i => Uf (Mf (Gc i))) KW (by decide) (by decide) (by rw [pl_312]; rfl) (fun n hn => of_decide_eq_true (List.all_eq_true.mp pl_short n (List.mem_range.mpr hn))) rfl (fun i hi w => by rw [pl_312]; exact cbrtF_walk _ _ (C_all i hi).1 w) (fun i hi => (C_all i hi).2.1) (fun i hi => (C_all i hi).2.2.1) (fun i hi => (C_all i hi).2.2.2) w
  go_enter Tryd.func153, Tryd.ntmps153
  go_wp2_with (go_at_call 180; refine (hb _).mono ?_; rintro e w1 ⟨A, cap, rfl, hown, hB⟩)
  go_ret
  exact ⟨A, cap, rfl, hown, hB⟩
theorem firstState_walk (w : World) : Calls Tryd.prog 152 #[] w (Words w HW) := by
  have hb := fun w => behind_walkS 8 20 Gs (fun i => Mf (Gs i)) (fun i => Uf (Mf (Gs i))) HW (by decide) (by decide) (by rw [pl_20]; rfl) (fun n hn => of_decide_eq_true (List.all_eq_true.mp pl_short8 n (List.mem_range.mpr hn))) rfl (fun i hi w => by rw [pl_20]; exact Sqrt_walk _ _ (S_all i hi).1 w) (fun i hi => (S_all i hi).2.1) (fun i hi => (S_all i hi).2.2.1) (fun i hi => (S_all i hi).2.2.2) w
  go_enter Tryd.func152, Tryd.ntmps152
  go_wp2_with (go_at_call 180; refine (hb _).mono ?_; rintro e w1 ⟨A, cap, rfl, hown, hB⟩)
  go_ret
  exact ⟨A, cap, rfl, hown, hB⟩
end Go.Proofs.YtnghcnkffbjddaaDoorV.Aes
