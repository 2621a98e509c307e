/- Shared lemmas and walks of the AES laws of this seat. -/
import Derived.Test.YtimokakcdmcnnaaVSpc1
import Derived.Test.YtimokakcdmcnnaaVAes12
namespace Go.Proofs.YtimokakcdmcnnaaV.Aes
open Go.RowKit Go.Proofs.YtimokakcdmcnnaaV.PrintWords Go.Proofs.YtimokakcdmcnnaaV.PrintLast Go.Proofs.YtimokakcdmcnnaaV.PrintMore Go.Proofs.YtimokakcdmcnnaaV.Mem
set_option linter.unusedVariables false
set_option linter.unusedSimpArgs false

open Go.Proofs.Ytimokakcdmcnnaa.PSpecA
theorem rd_append (a b : List Int) (i : Nat) (h : i < a.length) : rd (a ++ b) (i : Int) = rd a (i : Int) := by
  rw [rd_at _ _ (by rw [List.length_append]; omega), rd_at _ _ h, List.getElem_append_left h]
theorem seg4 (w : List Int) (p : Nat) (h : p + 4 ≤ w.length) : (w.take (p + 4)).drop p = [rd w (p : Int), rd w ((p + 1 : Nat) : Int), rd w ((p + 2 : Nat) : Int), rd w ((p + 3 : Nat) : Int)] := by
  rw [List.drop_take, show p + 4 - p = 4 by omega, rd_at w p (by omega), rd_at w (p + 1) (by omega), rd_at w (p + 2) (by omega), rd_at w (p + 3) (by omega)]
  rw [List.drop_eq_getElem_cons (by omega : p < w.length), List.drop_eq_getElem_cons (by omega : p + 1 < w.length), List.drop_eq_getElem_cons (by omega : p + 1 + 1 < w.length), List.drop_eq_getElem_cons (by omega : p + 1 + 1 + 1 < w.length)]
  rfl
theorem tab_succ (n : Nat) (F : Nat → Int) (r : Nat) (h : r < n) : (tab n F).take (r + 1) = (tab n F).take r ++ [F r] := by
  rw [List.take_succ_eq_append_getElem (by rw [tab_length]; exact h)]
  simp [tab]
theorem keys_l1 (w t : List Int) (y : Int) (n : Nat) (hn : n < 40) (hw : w.length = 16 + 4 * n) (ht : t.length = 4) (R : List Int)
    (hR : Ev (fun k => spec_l3Keys.l0 k (w ++ tab 4 (fun j => Go.bits .xor .u8 (rd w ((4 * n + j : Nat) : Int)) (rd t (j : Int)))) y ((n + 5 : Nat) : Int)) R) : ∀ d r : Nat, r + d = 4 →
    Ev (fun k => spec_l3Keys.l1 k (w ++ (tab 4 (fun j => Go.bits .xor .u8 (rd w ((4 * n + j : Nat) : Int)) (rd t (j : Int)))).take r) y ((n + 4 : Nat) : Int) t 4 (r : Int)) R
  | 0, r, h => by
    have e : r = 4 := by omega
    subst e
    refine Ev.step (fun k => ?_) hR
    simp only [spec_l3Keys.l1]
    rw [if_neg (by omega), List.take_of_length_le (by rw [tab_length]; exact Nat.le_refl _), wrapS (((n + 4 : Nat) : Int) + 1) ((n + 5 : Nat) : Int) (by omega) (by omega) (by omega)]
  | d + 1, r, h => by
    have e1 : wrap64 (4 * ((n + 4 : Nat) : Int)) = ((16 + 4 * n : Nat) : Int) := wrapS _ _ (by omega) (by omega) (by omega)
    have e2 : wrap64 (((16 + 4 * n : Nat) : Int) - 16) = ((4 * n : Nat) : Int) := wrapS _ _ (by omega) (by omega) (by omega)
    have e3 : wrap64 (((4 * n : Nat) : Int) + (r : Int)) = ((4 * n + r : Nat) : Int) := wrapS _ _ (by omega) (by omega) (by omega)
    have e4 : wrap64 ((r : Int) + 1) = ((r + 1 : Nat) : Int) := wrapS _ _ (by omega) (by omega) (by omega)
    have hl : (w ++ (tab 4 (fun j => Go.bits .xor .u8 (rd w ((4 * n + j : Nat) : Int)) (rd t (j : Int)))).take r).length = 16 + 4 * n + r := by
      rw [List.length_append, List.length_take, tab_length, hw]; omega
    refine Ev.step (fun k => ?_) (keys_l1 w t y n hn hw ht R hR d (r + 1) (by omega))
    simp only [spec_l3Keys.l1]
    rw [e1, e2, e3, e4, if_pos (by omega), if_pos (by omega), if_pos (by rw [hl]; omega), if_pos (by omega), if_pos (by omega), if_pos (by rw [hl]; omega)]
    rw [rd_append w _ _ (by omega), tab_succ 4 _ r (by omega), ← List.append_assoc]
theorem keys_l0 (key : List Int) (hk : key.length = 16) (hb : Bt key) : ∀ d n : Nat, n + d = 40 →
    Ev (fun k => spec_l3Keys.l0 k (keysAt BX key n).1 (keysAt BX key n).2 ((n + 4 : Nat) : Int)) (keysAt BX key n40).1
  | 0, n, h => by
    have e : n = n40 := by show n = 40; omega
    subst e
    refine Ev.step (f := fun _ => some (keysAt BX key n40).1) (fun k => ?_) (Ev.now _)
    simp only [spec_l3Keys.l0]
    rw [if_neg (by omega)]
  | d + 1, n, h => by
    have ih := keys_l0 key hk hb d (n + 1) (by omega)
    have hl := keysAt_length BX key hk n
    have hbt := keysAt_bt BX key hb n
    have hy := keysAt_by BX key n
    have e1 : wrap64 (4 * ((n + 4 : Nat) : Int)) = ((16 + 4 * n : Nat) : Int) := wrapS _ _ (by omega) (by omega) (by omega)
    have e2 : wrap64 (((16 + 4 * n : Nat) : Int) - 4) = ((12 + 4 * n : Nat) : Int) := wrapS _ _ (by omega) (by omega) (by omega)
    have e3 : Int.tmod ((n + 4 : Nat) : Int) 4 = (((n + 4) % 4 : Nat) : Int) := by rw [Int.tmod_eq_emod_of_nonneg (by omega)]; omega
    have hs := seg4 (keysAt BX key n).1 (12 + 4 * n) (by omega)
    rw [show 12 + 4 * n + 4 = 16 + 4 * n by omega] at hs
    have hnx : keysAt BX key (n + 1) = ((keysAt BX key n).1 ++ tab 4 (fun j => Go.bits .xor .u8 (rd (keysAt BX key n).1 ((4 * n + j : Nat) : Int)) (rd (if (n + 4) % 4 = 0 then [Go.bits .xor .u8 (rd BX (rd (keysAt BX key n).1 ((16 + 4 * n - 3 : Nat) : Int))) (keysAt BX key n).2, rd BX (rd (keysAt BX key n).1 ((16 + 4 * n - 2 : Nat) : Int)), rd BX (rd (keysAt BX key n).1 ((16 + 4 * n - 1 : Nat) : Int)), rd BX (rd (keysAt BX key n).1 ((16 + 4 * n - 4 : Nat) : Int))]
      else [rd (keysAt BX key n).1 ((16 + 4 * n - 4 : Nat) : Int), rd (keysAt BX key n).1 ((16 + 4 * n - 3 : Nat) : Int), rd (keysAt BX key n).1 ((16 + 4 * n - 2 : Nat) : Int), rd (keysAt BX key n).1 ((16 + 4 * n - 1 : Nat) : Int)]) (j : Int))), if (n + 4) % 4 = 0 then M (keysAt BX key n).2 2 else (keysAt BX key n).2) := rfl
    rw [hnx] at ih
    dsimp only at ih
    clear hnx
    generalize (keysAt BX key n).1 = w at *
    generalize (keysAt BX key n).2 = y at *
    rw [show 16 + 4 * n - 4 = 12 + 4 * n by omega, show 16 + 4 * n - 3 = 12 + 4 * n + 1 by omega, show 16 + 4 * n - 2 = 12 + 4 * n + 2 by omega, show 16 + 4 * n - 1 = 12 + 4 * n + 3 by omega] at ih
    obtain ⟨x0, hx0⟩ := Int.eq_ofNat_of_zero_le (hbt.rd (12 + 4 * n)).1
    obtain ⟨x1, hx1⟩ := Int.eq_ofNat_of_zero_le (hbt.rd (12 + 4 * n + 1)).1
    obtain ⟨x2, hx2⟩ := Int.eq_ofNat_of_zero_le (hbt.rd (12 + 4 * n + 2)).1
    obtain ⟨x3, hx3⟩ := Int.eq_ofNat_of_zero_le (hbt.rd (12 + 4 * n + 3)).1
    have r0 : x0 < 256 := by have := (hbt.rd (12 + 4 * n)).2; omega
    have r1 : x1 < 256 := by have := (hbt.rd (12 + 4 * n + 1)).2; omega
    have r2 : x2 < 256 := by have := (hbt.rd (12 + 4 * n + 2)).2; omega
    have r3 : x3 < 256 := by have := (hbt.rd (12 + 4 * n + 3)).2; omega
    rw [hx0, hx1, hx2, hx3] at ih hs
    by_cases h4 : (n + 4) % 4 = 0
    · rw [if_pos h4, if_pos h4] at ih
      have hj := keys_l1 w [Go.bits .xor .u8 (rd BX (x1 : Int)) y, rd BX (x2 : Int), rd BX (x3 : Int), rd BX (x0 : Int)] (M y 2) n (by omega) hl rfl _ ih 4 0 rfl
      rw [List.take_zero, List.append_nil] at hj
      refine Ev.step (f := fun k => (spec_l3Sub.f k (x1 : Int)).bind fun t128 => ((spec_l3Sub.f k (x2 : Int)).bind fun t130 => ((spec_l3Sub.f k (x3 : Int)).bind fun t132 => ((spec_l3Sub.f k (x0 : Int)).bind fun t134 => ((spec_l3Mul.f k y 2).bind fun t138 => (spec_l3Keys.j1 k w t138 ((n + 4 : Nat) : Int) (([Go.bits .xor .u8 t128 y, t130, t132, t134] : List Int)))))))) (fun k => ?_) ?_
      · simp only [spec_l3Keys.l0]
        rw [if_pos (by omega), Option.bind_some, e1, e2, if_pos (by omega), if_pos (by omega), if_pos (by omega), Int.toNat_natCast, Int.toNat_natCast, hs, Option.bind_some, if_pos (by simp : ([] : List Int).length + [(x0 : Int), (x1 : Int), (x2 : Int), (x3 : Int)].length < 140737488355328), Option.bind_some, e3, if_pos (by omega)]
        rfl
      · refine Ev.bind (ev_sub x1 r1) (Ev.bind (ev_sub x2 r2) (Ev.bind (ev_sub x3 r3) (Ev.bind (ev_sub x0 r0) (Ev.bind (ev_mul y 2 (by decide) (by decide)) ?_))))
        refine Ev.step (fun k => ?_) hj
        simp only [spec_l3Keys.j1]
        rw [BX_to x0 r0, BX_to x1 r1, BX_to x2 r2, BX_to x3 r3]
        rfl
    · rw [if_neg h4, if_neg h4] at ih
      have hj := keys_l1 w [(x0 : Int), (x1 : Int), (x2 : Int), (x3 : Int)] y n (by omega) hl rfl _ ih 4 0 rfl
      rw [List.take_zero, List.append_nil] at hj
      refine Ev.step (f := fun k => spec_l3Keys.j1 k w y ((n + 4 : Nat) : Int) [(x0 : Int), (x1 : Int), (x2 : Int), (x3 : Int)]) (fun k => ?_) ?_
      · simp only [spec_l3Keys.l0]
        rw [if_pos (by omega), Option.bind_some, e1, e2, if_pos (by omega), if_pos (by omega), if_pos (by omega), Int.toNat_natCast, Int.toNat_natCast, hs, Option.bind_some, if_pos (by simp : ([] : List Int).length + [(x0 : Int), (x1 : Int), (x2 : Int), (x3 : Int)].length < 140737488355328), Option.bind_some, e3, if_neg (by omega)]
        rfl
      · refine Ev.step (fun k => ?_) hj
        simp only [spec_l3Keys.j1]
        rfl
theorem ev_keys (key : ByteArray) (hk : key.size = 16) : Ev (fun k => spec_l3Keys.f k key) (KS key) := by
  have h := keys_l0 (bytesOf key) (by rw [bytesOf_length]; exact hk) (Bt.bytes key) 40 0 rfl
  refine Ev.congr (fun k => ?_) h
  unfold spec_l3Keys.f
  rw [if_pos (by omega)]
  rfl
theorem table_loop : ∀ d i : Nat, i + d = 256 →
    Ev (fun k => spec_l3Table.l0 k ((tab 256 fun i => (Sn i : Int)).take i ++ (List.replicate 256 0).drop i ++ []) 256 (i : Int)) (tab 256 fun i => (Sn i : Int))
  | 0, i, h => by
    have e : i = 256 := by omega
    subst e
    refine Ev.step (f := fun _ => some (tab 256 fun i => (Sn i : Int))) (fun k => ?_) (Ev.now _)
    simp only [spec_l3Table.l0]
    rw [if_neg (by omega), tab_end _ _ _ _ (by rw [List.length_replicate]), List.append_nil]
  | d + 1, i, h => by
    have hi : i < 256 := by omega
    have hl : ((tab 256 fun i => (Sn i : Int)).take i ++ (List.replicate 256 (0 : Int)).drop i ++ []).length = 256 := by
      rw [tab_both _ _ _ _ (by rw [List.length_replicate]) i (by omega)]; rfl
    have e1 : (i : Int) % 256 = (i : Int) := by omega
    refine Ev.step (f := fun k => (spec_l3Sub.f k (i : Int)).bind fun t198 => (spec_l3Table.l0 k (((tab 256 fun i => (Sn i : Int)).take i ++ (List.replicate 256 0).drop i ++ []).set i t198) 256 ((i + 1 : Nat) : Int))) (fun k => ?_) ?_
    · simp only [spec_l3Table.l0]
      rw [if_pos (by omega), e1]
      refine congrArg _ (funext fun t => ?_)
      rw [if_pos (by omega), if_pos (by rw [hl]; omega), Int.toNat_natCast, wrapS ((i : Int) + 1) ((i + 1 : Nat) : Int) (by omega) (by omega) (by omega)]
    · refine Ev.bind (ev_sub i hi) ?_
      rw [tab_step 256 (fun i => (Sn i : Int)) (List.replicate 256 0) [] (by rw [List.length_replicate]) i hi]
      exact table_loop d (i + 1) (by omega)
theorem ev_table : Ev (fun k => spec_l3Table.f k) (tab 256 fun i => (Sn i : Int)) := by
  have h := table_loop 256 0 rfl
  rw [List.take_zero, List.drop_zero, List.nil_append, List.append_nil] at h
  refine Ev.congr (fun k => ?_) h
  unfold spec_l3Table.f
  rw [if_pos (by decide), Option.bind_some, List.length_replicate]
  rfl
end Go.Proofs.YtimokakcdmcnnaaV.Aes
