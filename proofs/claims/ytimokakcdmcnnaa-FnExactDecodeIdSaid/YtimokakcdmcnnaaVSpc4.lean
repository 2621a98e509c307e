/- Shared lemmas and walks of the AES laws of this seat. -/
import Derived.Test.YtimokakcdmcnnaaVAes12
import Derived.Test.YtimokakcdmcnnaaPSpecAx4
namespace Go.Proofs.YtimokakcdmcnnaaV.Aes
open Go.RowKit Go.Proofs.YtimokakcdmcnnaaV.PrintWords Go.Proofs.YtimokakcdmcnnaaV.PrintLast Go.Proofs.YtimokakcdmcnnaaV.PrintMore Go.Proofs.YtimokakcdmcnnaaV.Mem
set_option linter.unusedVariables false
set_option linter.unusedSimpArgs false

open Go.Proofs.Ytimokakcdmcnnaa.PSpecA
theorem mul_same : ∀ (k : Nat) (x0 x1 x5 : Int), 0 ≤ x1 → spec_l3Mul.l0 k x0 x1 x5 = impl_mulGf.l0 k x0 x1 x5
  | 0, _, _, _, _ => rfl
  | k + 1, x0, x1, x5, h => by
    simp only [spec_l3Mul.l0, impl_mulGf.l0]
    have h2 : 0 ≤ x1 / 2 := by omega
    by_cases e : x1 = 0
    · rw [if_pos e, if_neg (by omega)]
    · rw [if_neg e, if_pos (by omega)]
      simp only [mul_same k _ _ _ h2]

theorem smul_tells (k a b : Nat) (ha : a < 256) (hb : b < 256) (hk : 8 < k) : spec_l3Mul.f k (a : Int) (b : Int) = some ((mulN 8 a b 0 : Nat) : Int) := by
  unfold spec_l3Mul.f
  rw [mul_same k _ _ _ (by omega)]
  exact mul_tells k a b ha hb hk
theorem sq_loop : ∀ (d k a n o : Nat), a < 256 → o < 256 → n < 2 ^ d → n < 256 → d + 9 < k → spec_l3Inverse.l0 k (a : Int) (o : Int) (n : Int) = some ((sqN d a n o : Nat) : Int)
  | 0, k, a, n, o, _, _, hn, _, hk => by
    obtain ⟨k, rfl⟩ : ∃ m, k = m + 1 := ⟨k - 1, by omega⟩
    simp only [spec_l3Inverse.l0]
    rw [if_neg (by simp at hn; omega)]; rfl
  | d + 1, k, a, n, o, ha, ho, hn, hn8, hk => by
    obtain ⟨k, rfl⟩ : ∃ m, k = m + 1 := ⟨k - 1, by omega⟩
    simp only [spec_l3Inverse.l0]
    have hn2 : n / 2 < 2 ^ d := by rw [Nat.pow_succ] at hn; omega
    have hd : ((n : Int) / 2) = ((n / 2 : Nat) : Int) := by omega
    have hand : Go.bits .and .i64 (n : Int) 1 = ((n % 2 : Nat) : Int) := by
      rw [show (1 : Int) = 2 ^ 1 - 1 from rfl, bits_mask .i64 62 (by decide) (fun n h₀ h₁ => by rw [IntKind.wrap_i64]; omega) 1 (by decide) n (by omega) (by omega)]; omega
    rw [hd, hand, smul_tells k a a ha ha (by omega), smul_tells k o a ho ha (by omega)]
    simp only [Option.bind_some]
    have hz : ∀ (d a o : Nat), sqN d a 0 o = o := by
      intro d
      induction d with
      | zero => intro a o; rfl
      | succ d ih => intro a o; show sqN d _ (0 / 2) (if 0 % 2 = 1 then _ else o) = o; rw [if_neg (by decide)]; exact ih _ _
    by_cases e : n = 0
    · subst e
      rw [if_neg (by decide), hz]
    · rw [if_pos (by omega)]
      show _ = some ((sqN d (mulN 8 a a 0) (n / 2) (if n % 2 = 1 then mulN 8 o a 0 else o) : Nat) : Int)
      by_cases h1 : n % 2 = 1
      · rw [if_pos (show ((n % 2 : Nat) : Int) = 1 by omega), if_pos h1]
        exact sq_loop d k _ _ _ (mulN_lt 8 a a 0 ha (by decide)) (mulN_lt 8 o a 0 ho (by decide)) hn2 (by omega) (by omega)
      · rw [if_neg (show ¬ ((n % 2 : Nat) : Int) = 1 by omega), if_neg h1]
        exact sq_loop d k _ _ _ (mulN_lt 8 a a 0 ha (by decide)) ho hn2 (by omega) (by omega)

theorem sinv_tells (k a : Nat) (ha : a < 256) (hk : 20 < k) : spec_l3Inverse.f k (a : Int) = some ((sqN 8 a 254 1 : Nat) : Int) := by
  unfold spec_l3Inverse.f
  exact sq_loop 8 k a 254 1 ha (by decide) (by decide) (by decide) (by omega)

theorem l3Mul_tells (d : Nat) (a b : Int) (h0 : 0 ≤ b) (h1 : b < 256) : spec_l3Mul.f (16 + d) a b = some (M a b) := by
  have h : spec_l3Mul.f 16 a b = some (M a b) := by
    rw [← M_tells a b h0 h1]
    exact mul_same 16 a b 0 h0
  induction d with
  | zero => exact h
  | succ d ih => exact spec_l3Mul.mono a b (16 + d) _ ih
theorem mix_inner (f s : List Int) (hf : f.length = 4) (hs : s.length = 4) (hr : ∀ x ∈ s, 0 ≤ x ∧ x < 256) (i : Nat) (hi : i < 4) : ∀ (d k m : Nat) (x5 : List Int), m + d = 4 → x5.length = 4 → rd x5 (i : Int) = mixI M f s i m →
    spec_l3Mix.l1 (16 + k + d + 1) s f x5 (i : Int) (m : Int) 4 (i : Int) = spec_l3Mix.l0 (16 + k) s f (x5.set i (mixI M f s i 4)) 4 ((i + 1 : Nat) : Int)
  | 0, k, m, x5, hm, hl => by
    have e : wrap64 ((i : Int) + 1) = ((i + 1 : Nat) : Int) := by unfold wrap64; omega
    have hm4 : m = 4 := by omega
    have hil : i < x5.length := by omega
    subst hm4
    have hng : ¬ (((4 : Nat) : Int) < 4) := by omega
    intro hv
    simp only [spec_l3Mix.l1]
    rw [if_neg hng, e]
    have hx : x5.set i (mixI M f s i 4) = x5 := by
      rw [← hv]
      have e2 : rd x5 (i : Int) = x5[i] := by simp [rd, List.getD_eq_getElem?_getD, List.getElem?_eq_getElem hil]
      rw [e2]
      exact List.set_getElem_self hil
    rw [hx]
  | d + 1, k, m, x5, hm, hl => by
    have hm3 : m < 4 := by omega
    have hil : i < x5.length := by omega
    have e1 : wrap64 ((i : Int) + (m : Int)) = ((i + m : Nat) : Int) := by unfold wrap64; omega
    have e2 : Int.tmod ((i + m : Nat) : Int) 4 = (((i + m) % 4 : Nat) : Int) := by rw [Int.tmod_eq_emod_of_nonneg (by omega)]; omega
    have e3 : wrap64 ((m : Int) + 1) = ((m + 1 : Nat) : Int) := by unfold wrap64; omega
    have c1 : (m : Int) < 4 := by omega
    have c2 : (0 : Int) ≤ (i : Int) := by omega
    have c3 : (i : Int) < (x5.length : Int) := by omega
    have c4 : (0 : Int) ≤ (m : Int) := by omega
    have c5 : (m : Int) < (f.length : Int) := by omega
    have c6 : (0 : Int) ≤ (((i + m) % 4 : Nat) : Int) := by omega
    have c7 : (((i + m) % 4 : Nat) : Int) < (s.length : Int) := by omega
    obtain ⟨n, hn⟩ : ∃ n, n = 16 + k + d + 1 := ⟨_, rfl⟩
    have g1 : n = 16 + (k + d + 1) := by omega
    have g2 : m + 1 + d = 4 := by omega
    intro hv
    have hb := Bt.rd (l := s) hr ((i + m) % 4)
    have hmul := l3Mul_tells (k + d + 1) (rd f (m : Int)) (rd s (((i + m) % 4 : Nat) : Int)) hb.1 hb.2
    have ih := mix_inner f s hf hs hr i hi d k (m + 1) (x5.set i (Go.bits .xor .u8 (mixI M f s i m) (M (rd f (m : Int)) (rd s (((i + m) % 4 : Nat) : Int))))) g2 (by rw [List.length_set]; exact hl) (rd_set_same _ _ _ hil)
    rw [← hn] at ih
    rw [← g1] at hmul
    show spec_l3Mix.l1 (16 + k + d + 1 + 1) s f x5 (i : Int) (m : Int) 4 (i : Int) = _
    rw [← hn]
    simp only [spec_l3Mix.l1]
    rw [e1, e2, e3, if_pos c1, if_pos c2, if_pos c3, if_pos c4, if_pos c5, if_pos c6, if_pos c7]
    rw [List.set_set] at ih
    rw [← ih, hmul, Option.bind_some, Int.toNat_natCast, hv]
theorem mix_step (f s : List Int) (hf : f.length = 4) (hs : s.length = 4) (hr : ∀ x ∈ s, 0 ≤ x ∧ x < 256) (n k i : Nat) (ii jj : Int) (x y : List Int) (hn : n = 16 + k + 4 + 1 + 1) (hi : i < 4) (hii : ii = (i : Int)) (hjj : jj = ((i + 1 : Nat) : Int)) (hx : x.length = 4) (hz : rd x (i : Int) = 0) (hy : y = x.set i (mixI M f s i 4)) :
    spec_l3Mix.l0 n s f x 4 ii = spec_l3Mix.l0 (16 + k) s f y 4 jj := by
  have h := mix_inner f s hf hs hr i hi 4 k 0 x (by omega) hx hz
  subst hii hjj hy hn
  rw [← h]
  simp only [spec_l3Mix.l0]
  rw [if_pos (by omega)]
  rfl
theorem mix_tells (f s : List Int) (hf : f.length = 4) (hs : s.length = 4) (hr : ∀ x ∈ s, 0 ≤ x ∧ x < 256) (n k : Nat) (hn : n = 16 + k + 25) : spec_l3Mix.f n s f = some (mixL M f s) := by
  unfold spec_l3Mix.f
  rw [if_pos (by decide), Option.bind_some]
  have e0 : (List.replicate 4 0 : List Int) = [0, 0, 0, 0] := rfl
  have e1 : (([0, 0, 0, 0] : List Int).length : Int) = 4 := rfl
  rw [e0, e1]
  rw [mix_step f s hf hs hr n (k + 19) 0 0 1 [0, 0, 0, 0] [mixI M f s 0 4, 0, 0, 0] (by omega) (by decide) rfl rfl rfl rfl rfl]
  rw [mix_step f s hf hs hr (16 + (k + 19)) (k + 13) 1 1 2 [mixI M f s 0 4, 0, 0, 0] [mixI M f s 0 4, mixI M f s 1 4, 0, 0] (by omega) (by decide) rfl rfl rfl rfl rfl]
  rw [mix_step f s hf hs hr (16 + (k + 13)) (k + 7) 2 2 3 [mixI M f s 0 4, mixI M f s 1 4, 0, 0] [mixI M f s 0 4, mixI M f s 1 4, mixI M f s 2 4, 0] (by omega) (by decide) rfl rfl rfl rfl rfl]
  rw [mix_step f s hf hs hr (16 + (k + 7)) (k + 1) 3 3 4 [mixI M f s 0 4, mixI M f s 1 4, mixI M f s 2 4, 0] [mixI M f s 0 4, mixI M f s 1 4, mixI M f s 2 4, mixI M f s 3 4] (by omega) (by decide) rfl rfl rfl rfl rfl]
  rw [show 16 + (k + 1) = (16 + k) + 1 by omega]
  simp only [spec_l3Mix.l0]
  rw [if_neg (by decide)]
  rfl

def turnAll (n : Nat) : Bool := (List.range 256).all (fun c => decide (spec_l3Turn.f (c : Int) (n : Int) = some (rotN c n : Int)))
set_option maxRecDepth 100000 in
theorem turn_all : turnAll 1 = true ∧ turnAll 2 = true ∧ turnAll 3 = true ∧ turnAll 4 = true ∧ turnAll 6 = true := by decide +kernel
theorem turn_one (n c : Nat) (h : turnAll n = true) (hc : c < 256) : spec_l3Turn.f (c : Int) (n : Int) = some (rotN c n : Int) := by
  have := List.all_eq_true.mp h c (List.mem_range.mpr hc)
  simpa using this
theorem rotN_lt (c n : Nat) (hc : c < 256) : rotN c n < 256 := Nat.or_lt_two_pow (n := 8) (Nat.mod_lt _ (by decide)) (Nat.lt_of_le_of_lt (Nat.div_le_self _ _) hc)
theorem x8 {a b : Nat} (ha : a < 256) (hb : b < 256) : a ^^^ b < 256 := Nat.xor_lt_two_pow (n := 8) ha hb
theorem l3Sub_tells (k n : Nat) (hn : n < 256) (hk : 20 < k) : spec_l3Sub.f k (n : Int) = some (Sn n : Int) := by
  obtain ⟨c, hc⟩ : ∃ c, c = sqN 8 n 254 1 := ⟨_, rfl⟩
  have hc8 : c < 256 := by rw [hc]; exact sqN_lt 8 n 254 1 hn (by decide)
  have r1 := rotN_lt c 1 hc8
  have r2 := rotN_lt c 2 hc8
  have r3 := rotN_lt c 3 hc8
  have r4 := rotN_lt c 4 hc8
  have e1 : spec_l3Turn.f (c : Int) 1 = some (rotN c 1 : Int) := turn_one 1 c turn_all.1 hc8
  have e2 : spec_l3Turn.f (c : Int) 2 = some (rotN c 2 : Int) := turn_one 2 c turn_all.2.1 hc8
  have e3 : spec_l3Turn.f (c : Int) 3 = some (rotN c 3 : Int) := turn_one 3 c turn_all.2.2.1 hc8
  have e4 : spec_l3Turn.f (c : Int) 4 = some (rotN c 4 : Int) := turn_one 4 c turn_all.2.2.2.1 hc8
  unfold spec_l3Sub.f
  rw [sinv_tells k n hn hk, Option.bind_some, ← hc, e1, Option.bind_some, e2, Option.bind_some, e3, Option.bind_some, e4, Option.bind_some,
    xor_u8 _ _ hc8 r1, xor_u8 _ _ (x8 hc8 r1) r2, xor_u8 _ _ (x8 (x8 hc8 r1) r2) r3, xor_u8 _ _ (x8 (x8 (x8 hc8 r1) r2) r3) r4]
  rw [show (99 : Int) = ((99 : Nat) : Int) from rfl, xor_u8 _ _ (x8 (x8 (x8 (x8 hc8 r1) r2) r3) r4) (by decide)]
  unfold Sn subC
  rw [hc]
theorem l3Unsub_tells (k n : Nat) (hn : n < 256) (hk : 20 < k) : spec_l3Unsub.f k (n : Int) = some (Un n : Int) := by
  obtain ⟨c, hc⟩ : ∃ c, c = n ^^^ 99 := ⟨_, rfl⟩
  have hc8 : c < 256 := by rw [hc]; exact x8 hn (by decide)
  have r1 := rotN_lt c 1 hc8
  have r3 := rotN_lt c 3 hc8
  have r6 := rotN_lt c 6 hc8
  have e1 : spec_l3Turn.f (c : Int) 1 = some (rotN c 1 : Int) := turn_one 1 c turn_all.1 hc8
  have e3 : spec_l3Turn.f (c : Int) 3 = some (rotN c 3 : Int) := turn_one 3 c turn_all.2.2.1 hc8
  have e6 : spec_l3Turn.f (c : Int) 6 = some (rotN c 6 : Int) := turn_one 6 c turn_all.2.2.2.2 hc8
  unfold spec_l3Unsub.f
  rw [show (99 : Int) = ((99 : Nat) : Int) from rfl, xor_u8 n 99 hn (by decide), ← hc, e1, Option.bind_some, e3, Option.bind_some, e6, Option.bind_some,
    xor_u8 _ _ r1 r3, xor_u8 _ _ (x8 r1 r3) r6, sinv_tells k _ (x8 (x8 r1 r3) r6) hk, Option.bind_some]
  unfold Un
  rw [hc]
theorem ev_sub (n : Nat) (hn : n < 256) : Ev (fun k => spec_l3Sub.f k (n : Int)) (Sn n : Int) := ⟨21, fun k hk => l3Sub_tells k n hn (by omega)⟩
theorem ev_unsub (n : Nat) (hn : n < 256) : Ev (fun k => spec_l3Unsub.f k (n : Int)) (Un n : Int) := ⟨21, fun k hk => l3Unsub_tells k n hn (by omega)⟩
theorem ev_mul (a b : Int) (h0 : 0 ≤ b) (h1 : b < 256) : Ev (fun k => spec_l3Mul.f k a b) (M a b) := ⟨16, fun k hk => by
  obtain ⟨d, rfl⟩ : ∃ d, k = 16 + d := ⟨k - 16, by omega⟩
  exact l3Mul_tells d a b h0 h1⟩
theorem ev_mix (f s : List Int) (hf : f.length = 4) (hs : s.length = 4) (hr : Bt s) : Ev (fun k => spec_l3Mix.f k s f) (mixL M f s) := ⟨41, fun k hk => mix_tells f s hf hs hr k (k - 41) (by omega)⟩
theorem wrapS (a b : Int) (h : a = b) (h0 : -9223372036854775808 ≤ b) (h1 : b ≤ 9223372036854775807) : wrap64 a = b := by
  subst h; unfold wrap64; omega
theorem xor_loop (a b : List Int) (n : Nat) (ha : a.length = n) (hb : n ≤ b.length) (hn : n ≤ 1000000000000) : ∀ d i : Nat, i + d = n →
    Ev (fun k => spec_l3Xor.l0 k a b ((tab n fun i => Go.bits .xor .u8 (rd a (i : Int)) (rd b (i : Int))).take i ++ (List.replicate n 0).drop i ++ []) (n : Int) (i : Int)) (tab n fun i => Go.bits .xor .u8 (rd a (i : Int)) (rd b (i : Int)))
  | 0, i, h => by
    have e : i = n := by omega
    subst e
    refine Ev.step (f := fun _ => some (tab i fun i => Go.bits .xor .u8 (rd a (i : Int)) (rd b (i : Int)))) (fun k => ?_) (Ev.now _)
    simp only [spec_l3Xor.l0]
    rw [if_neg (by omega), tab_end _ _ _ _ (by simp), List.append_nil]
  | d + 1, i, h => by
    have hl : ((tab n fun i => Go.bits .xor .u8 (rd a (i : Int)) (rd b (i : Int))).take i ++ (List.replicate n (0 : Int)).drop i ++ []).length = n := by
      rw [tab_both _ _ _ _ (by simp) i (by omega)]; rfl
    refine Ev.step (fun k => ?_) (xor_loop a b n ha hb hn d (i + 1) (by omega))
    simp only [spec_l3Xor.l0]
    rw [if_pos (by omega), if_pos (by omega), if_pos (by omega), if_pos (by omega), if_pos (by rw [hl]; omega), Int.toNat_natCast,
      tab_step n (fun i => Go.bits .xor .u8 (rd a (i : Int)) (rd b (i : Int))) _ [] (by simp) i (by omega), wrapS ((i : Int) + 1) ((i + 1 : Nat) : Int) (by omega) (by omega) (by omega)]
theorem ev_xor (a b : List Int) (n : Nat) (ha : a.length = n) (hb : n ≤ b.length) (hn : n ≤ 1000000000000) : Ev (fun k => spec_l3Xor.f k a b) (tab n fun i => Go.bits .xor .u8 (rd a (i : Int)) (rd b (i : Int))) := by
  have h := xor_loop a b n ha hb hn n 0 (by omega)
  simp only [List.take_zero, List.drop_zero, List.nil_append, List.append_nil] at h
  refine Ev.congr (fun k => ?_) h
  unfold spec_l3Xor.f
  rw [if_pos (by omega), if_pos (by rw [ha]; omega), ha, Int.toNat_natCast]
  rfl
theorem rd_append (a b : List Int) (i : Nat) (h : i < a.length) : rd (a ++ b) (i : Int) = rd a (i : Int) := by
  rw [rd_at _ _ (by rw [List.length_append]; omega), rd_at _ _ h, List.getElem_append_left h]
theorem seg4 (w : List Int) (p : Nat) (h : p + 4 ≤ w.length) : (w.take (p + 4)).drop p = [rd w (p : Int), rd w ((p + 1 : Nat) : Int), rd w ((p + 2 : Nat) : Int), rd w ((p + 3 : Nat) : Int)] := by
  rw [List.drop_take, show p + 4 - p = 4 by omega, rd_at w p (by omega), rd_at w (p + 1) (by omega), rd_at w (p + 2) (by omega), rd_at w (p + 3) (by omega)]
  rw [List.drop_eq_getElem_cons (by omega : p < w.length), List.drop_eq_getElem_cons (by omega : p + 1 < w.length), List.drop_eq_getElem_cons (by omega : p + 1 + 1 < w.length), List.drop_eq_getElem_cons (by omega : p + 1 + 1 + 1 < w.length)]
  rfl
theorem tab_succ (n : Nat) (F : Nat → Int) (r : Nat) (h : r < n) : (tab n F).take (r + 1) = (tab n F).take r ++ [F r] := by
  rw [List.take_succ_eq_append_getElem (by rw [tab_length]; exact h)]
  simp [tab]
theorem keys_l1 (w t : List Int) (y : Int) (n : Nat) (hn : n < 40) (hw : w.length = 16 + 4 * n) (ht : t.length = 4) (R : List Int)
    (hR : Ev (fun k => spec_l3Keys.l0 k (w ++ tab 4 (fun j => Go.bits .xor .u8 (rd w ((4 * n + j : Nat) : Int)) (rd t (j : Int)))) y ((n + 5 : Nat) : Int)) R) : ∀ d r : Nat, r + d = 4 →
    Ev (fun k => spec_l3Keys.l1 k (w ++ (tab 4 (fun j => Go.bits .xor .u8 (rd w ((4 * n + j : Nat) : Int)) (rd t (j : Int)))).take r) y ((n + 4 : Nat) : Int) t 4 (r : Int)) R
  | 0, r, h => by
    have e : r = 4 := by omega
    subst e
    refine Ev.step (fun k => ?_) hR
    simp only [spec_l3Keys.l1]
    rw [if_neg (by omega), List.take_of_length_le (by rw [tab_length]; exact Nat.le_refl _), wrapS (((n + 4 : Nat) : Int) + 1) ((n + 5 : Nat) : Int) (by omega) (by omega) (by omega)]
  | d + 1, r, h => by
    have e1 : wrap64 (4 * ((n + 4 : Nat) : Int)) = ((16 + 4 * n : Nat) : Int) := wrapS _ _ (by omega) (by omega) (by omega)
    have e2 : wrap64 (((16 + 4 * n : Nat) : Int) - 16) = ((4 * n : Nat) : Int) := wrapS _ _ (by omega) (by omega) (by omega)
    have e3 : wrap64 (((4 * n : Nat) : Int) + (r : Int)) = ((4 * n + r : Nat) : Int) := wrapS _ _ (by omega) (by omega) (by omega)
    have e4 : wrap64 ((r : Int) + 1) = ((r + 1 : Nat) : Int) := wrapS _ _ (by omega) (by omega) (by omega)
    have hl : (w ++ (tab 4 (fun j => Go.bits .xor .u8 (rd w ((4 * n + j : Nat) : Int)) (rd t (j : Int)))).take r).length = 16 + 4 * n + r := by
      rw [List.length_append, List.length_take, tab_length, hw]; omega
    refine Ev.step (fun k => ?_) (keys_l1 w t y n hn hw ht R hR d (r + 1) (by omega))
    simp only [spec_l3Keys.l1]
    rw [e1, e2, e3, e4, if_pos (by omega), if_pos (by omega), if_pos (by rw [hl]; omega), if_pos (by omega), if_pos (by omega), if_pos (by rw [hl]; omega)]
    rw [rd_append w _ _ (by omega), tab_succ 4 _ r (by omega), ← List.append_assoc]
theorem keys_l0 (key : List Int) (hk : key.length = 16) (hb : Bt key) : ∀ d n : Nat, n + d = 40 →
    Ev (fun k => spec_l3Keys.l0 k (keysAt BX key n).1 (keysAt BX key n).2 ((n + 4 : Nat) : Int)) (keysAt BX key n40).1
  | 0, n, h => by
    have e : n = n40 := by show n = 40; omega
    subst e
    refine Ev.step (f := fun _ => some (keysAt BX key n40).1) (fun k => ?_) (Ev.now _)
    simp only [spec_l3Keys.l0]
    rw [if_neg (by omega)]
  | d + 1, n, h => by
    have ih := keys_l0 key hk hb d (n + 1) (by omega)
    have hl := keysAt_length BX key hk n
    have hbt := keysAt_bt BX key hb n
    have hy := keysAt_by BX key n
    have e1 : wrap64 (4 * ((n + 4 : Nat) : Int)) = ((16 + 4 * n : Nat) : Int) := wrapS _ _ (by omega) (by omega) (by omega)
    have e2 : wrap64 (((16 + 4 * n : Nat) : Int) - 4) = ((12 + 4 * n : Nat) : Int) := wrapS _ _ (by omega) (by omega) (by omega)
    have e3 : Int.tmod ((n + 4 : Nat) : Int) 4 = (((n + 4) % 4 : Nat) : Int) := by rw [Int.tmod_eq_emod_of_nonneg (by omega)]; omega
    have hs := seg4 (keysAt BX key n).1 (12 + 4 * n) (by omega)
    rw [show 12 + 4 * n + 4 = 16 + 4 * n by omega] at hs
    have hnx : keysAt BX key (n + 1) = ((keysAt BX key n).1 ++ tab 4 (fun j => Go.bits .xor .u8 (rd (keysAt BX key n).1 ((4 * n + j : Nat) : Int)) (rd (if (n + 4) % 4 = 0 then [Go.bits .xor .u8 (rd BX (rd (keysAt BX key n).1 ((16 + 4 * n - 3 : Nat) : Int))) (keysAt BX key n).2, rd BX (rd (keysAt BX key n).1 ((16 + 4 * n - 2 : Nat) : Int)), rd BX (rd (keysAt BX key n).1 ((16 + 4 * n - 1 : Nat) : Int)), rd BX (rd (keysAt BX key n).1 ((16 + 4 * n - 4 : Nat) : Int))]
      else [rd (keysAt BX key n).1 ((16 + 4 * n - 4 : Nat) : Int), rd (keysAt BX key n).1 ((16 + 4 * n - 3 : Nat) : Int), rd (keysAt BX key n).1 ((16 + 4 * n - 2 : Nat) : Int), rd (keysAt BX key n).1 ((16 + 4 * n - 1 : Nat) : Int)]) (j : Int))), if (n + 4) % 4 = 0 then M (keysAt BX key n).2 2 else (keysAt BX key n).2) := rfl
    rw [hnx] at ih
    dsimp only at ih
    clear hnx
    generalize (keysAt BX key n).1 = w at *
    generalize (keysAt BX key n).2 = y at *
    rw [show 16 + 4 * n - 4 = 12 + 4 * n by omega, show 16 + 4 * n - 3 = 12 + 4 * n + 1 by omega, show 16 + 4 * n - 2 = 12 + 4 * n + 2 by omega, show 16 + 4 * n - 1 = 12 + 4 * n + 3 by omega] at ih
    obtain ⟨x0, hx0⟩ := Int.eq_ofNat_of_zero_le (hbt.rd (12 + 4 * n)).1
    obtain ⟨x1, hx1⟩ := Int.eq_ofNat_of_zero_le (hbt.rd (12 + 4 * n + 1)).1
    obtain ⟨x2, hx2⟩ := Int.eq_ofNat_of_zero_le (hbt.rd (12 + 4 * n + 2)).1
    obtain ⟨x3, hx3⟩ := Int.eq_ofNat_of_zero_le (hbt.rd (12 + 4 * n + 3)).1
    have r0 : x0 < 256 := by have := (hbt.rd (12 + 4 * n)).2; omega
    have r1 : x1 < 256 := by have := (hbt.rd (12 + 4 * n + 1)).2; omega
    have r2 : x2 < 256 := by have := (hbt.rd (12 + 4 * n + 2)).2; omega
    have r3 : x3 < 256 := by have := (hbt.rd (12 + 4 * n + 3)).2; omega
    rw [hx0, hx1, hx2, hx3] at ih hs
    by_cases h4 : (n + 4) % 4 = 0
    · rw [if_pos h4, if_pos h4] at ih
      have hj := keys_l1 w [Go.bits .xor .u8 (rd BX (x1 : Int)) y, rd BX (x2 : Int), rd BX (x3 : Int), rd BX (x0 : Int)] (M y 2) n (by omega) hl rfl _ ih 4 0 rfl
      rw [List.take_zero, List.append_nil] at hj
      refine Ev.step (f := fun k => (spec_l3Sub.f k (x1 : Int)).bind fun t128 => ((spec_l3Sub.f k (x2 : Int)).bind fun t130 => ((spec_l3Sub.f k (x3 : Int)).bind fun t132 => ((spec_l3Sub.f k (x0 : Int)).bind fun t134 => ((spec_l3Mul.f k y 2).bind fun t138 => (spec_l3Keys.j1 k w t138 ((n + 4 : Nat) : Int) (([Go.bits .xor .u8 t128 y, t130, t132, t134] : List Int)))))))) (fun k => ?_) ?_
      · simp only [spec_l3Keys.l0]
        rw [if_pos (by omega), Option.bind_some, e1, e2, if_pos (by omega), if_pos (by omega), if_pos (by omega), Int.toNat_natCast, Int.toNat_natCast, hs, Option.bind_some, if_pos (by simp : ([] : List Int).length + [(x0 : Int), (x1 : Int), (x2 : Int), (x3 : Int)].length < 140737488355328), Option.bind_some, e3, if_pos (by omega)]
        rfl
      · refine Ev.bind (ev_sub x1 r1) (Ev.bind (ev_sub x2 r2) (Ev.bind (ev_sub x3 r3) (Ev.bind (ev_sub x0 r0) (Ev.bind (ev_mul y 2 (by decide) (by decide)) ?_))))
        refine Ev.step (fun k => ?_) hj
        simp only [spec_l3Keys.j1]
        rw [BX_to x0 r0, BX_to x1 r1, BX_to x2 r2, BX_to x3 r3]
        rfl
    · rw [if_neg h4, if_neg h4] at ih
      have hj := keys_l1 w [(x0 : Int), (x1 : Int), (x2 : Int), (x3 : Int)] y n (by omega) hl rfl _ ih 4 0 rfl
      rw [List.take_zero, List.append_nil] at hj
      refine Ev.step (f := fun k => spec_l3Keys.j1 k w y ((n + 4 : Nat) : Int) [(x0 : Int), (x1 : Int), (x2 : Int), (x3 : Int)]) (fun k => ?_) ?_
      · simp only [spec_l3Keys.l0]
        rw [if_pos (by omega), Option.bind_some, e1, e2, if_pos (by omega), if_pos (by omega), if_pos (by omega), Int.toNat_natCast, Int.toNat_natCast, hs, Option.bind_some, if_pos (by simp : ([] : List Int).length + [(x0 : Int), (x1 : Int), (x2 : Int), (x3 : Int)].length < 140737488355328), Option.bind_some, e3, if_neg (by omega)]
        rfl
      · refine Ev.step (fun k => ?_) hj
        simp only [spec_l3Keys.j1]
        rfl
theorem ev_keys (key : ByteArray) (hk : key.size = 16) : Ev (fun k => spec_l3Keys.f k key) (KS key) := by
  have h := keys_l0 (bytesOf key) (by rw [bytesOf_length]; exact hk) (Bt.bytes key) 40 0 rfl
  refine Ev.congr (fun k => ?_) h
  unfold spec_l3Keys.f
  rw [if_pos (by omega)]
  rfl
theorem table_loop : ∀ d i : Nat, i + d = 256 →
    Ev (fun k => spec_l3Table.l0 k ((tab 256 fun i => (Sn i : Int)).take i ++ (List.replicate 256 0).drop i ++ []) 256 (i : Int)) (tab 256 fun i => (Sn i : Int))
  | 0, i, h => by
    have e : i = 256 := by omega
    subst e
    refine Ev.step (f := fun _ => some (tab 256 fun i => (Sn i : Int))) (fun k => ?_) (Ev.now _)
    simp only [spec_l3Table.l0]
    rw [if_neg (by omega), tab_end _ _ _ _ (by rw [List.length_replicate]), List.append_nil]
  | d + 1, i, h => by
    have hi : i < 256 := by omega
    have hl : ((tab 256 fun i => (Sn i : Int)).take i ++ (List.replicate 256 (0 : Int)).drop i ++ []).length = 256 := by
      rw [tab_both _ _ _ _ (by rw [List.length_replicate]) i (by omega)]; rfl
    have e1 : (i : Int) % 256 = (i : Int) := by omega
    refine Ev.step (f := fun k => (spec_l3Sub.f k (i : Int)).bind fun t198 => (spec_l3Table.l0 k (((tab 256 fun i => (Sn i : Int)).take i ++ (List.replicate 256 0).drop i ++ []).set i t198) 256 ((i + 1 : Nat) : Int))) (fun k => ?_) ?_
    · simp only [spec_l3Table.l0]
      rw [if_pos (by omega), e1]
      refine congrArg _ (funext fun t => ?_)
      rw [if_pos (by omega), if_pos (by rw [hl]; omega), Int.toNat_natCast, wrapS ((i : Int) + 1) ((i + 1 : Nat) : Int) (by omega) (by omega) (by omega)]
    · refine Ev.bind (ev_sub i hi) ?_
      rw [tab_step 256 (fun i => (Sn i : Int)) (List.replicate 256 0) [] (by rw [List.length_replicate]) i hi]
      exact table_loop d (i + 1) (by omega)
theorem ev_table : Ev (fun k => spec_l3Table.f k) (tab 256 fun i => (Sn i : Int)) := by
  have h := table_loop 256 0 rfl
  rw [List.take_zero, List.drop_zero, List.nil_append, List.append_nil] at h
  refine Ev.congr (fun k => ?_) h
  unfold spec_l3Table.f
  rw [if_pos (by decide), Option.bind_some, List.length_replicate]
  rfl
/-- The columns of a block, mixed, one behind the other. -/
def mixP (f t : List Int) : Nat → List Int
  | 0 => []
  | c + 1 => mixP f t c ++ mixL M f ((t.drop (4 * c)).take 4)
theorem mixP_length (f t : List Int) : ∀ c, (mixP f t c).length = 4 * c
  | 0 => rfl
  | c + 1 => by simp only [mixP, List.length_append, mixP_length f t c, mixL_length]; omega
theorem mixN_split (f t : List Int) (ht : t.length = 16) : ∀ c, c ≤ 4 → mixN f t c = mixP f t c ++ t.drop (4 * c)
  | 0, _ => by simp [mixN, mixP]
  | c + 1, h => by
    have ih := mixN_split f t ht c (by omega)
    have hl := mixP_length f t c
    show mixAt f (4 * c) (mixN f t c) = _
    rw [ih]
    unfold mixAt
    rw [List.take_left' hl, List.drop_left' hl, ← List.drop_drop, List.drop_left' hl, List.drop_drop]
    simp only [mixP]
    rw [show 4 * c + 4 = 4 * (c + 1) by omega]
theorem mixN_full (f t : List Int) (ht : t.length = 16) : mixN f t 4 = mixP f t 4 := by
  rw [mixN_split f t ht 4 (by decide), List.drop_eq_nil_of_le (by omega), List.append_nil]
/-- Sixteen entries from a place on, xored. -/
theorem tab_ext (n : Nat) (f g : Nat → Int) (h : ∀ i, i < n → f i = g i) : tab n f = tab n g := by
  unfold tab
  exact List.map_congr_left fun i hi => h i (List.mem_range.mp hi)
theorem rd_seg (ks : List Int) (p n i : Nat) (hi : i < n) (hp : p + n ≤ ks.length) : rd ((ks.take (p + n)).drop p) (i : Int) = rd ks ((p + i : Nat) : Int) := by
  rw [List.drop_take, rd_at _ _ (by simp; omega), rd_at _ _ (by omega), List.getElem_take, List.getElem_drop]
theorem ev_addKey (ks b : List Int) (r : Nat) (hr : r ≤ 10) (hb : b.length = 16) (hk : 176 ≤ ks.length) : Ev (fun k => spec_l3Xor.f k b ((ks.take (16 * r + 16)).drop (16 * r))) (addKL ks r b) := by
  have h := ev_xor b ((ks.take (16 * r + 16)).drop (16 * r)) 16 hb (by simp; omega) (by decide)
  rw [tab_ext 16 _ (fun i => Go.bits .xor .u8 (rd b (i : Int)) (rd ks ((16 * r + i : Nat) : Int))) (fun i hi => by rw [rd_seg ks (16 * r) 16 i hi (by omega)])] at h
  exact h
/-- What a block becomes by a table, moved. -/
theorem shift_map (T b : List Int) (m : Nat) : shiftL m (mapL T b) = tab 16 fun i => rd T (rd b ((4 * ((i / 4 + m * (i % 4)) % 4) + i % 4 : Nat) : Int)) :=
  tab_ext 16 _ _ fun i hi => by
    unfold mapL
    rw [rd_tab 16 _ _ (by omega)]
theorem map_shift (T b : List Int) (m : Nat) : mapL T (shiftL m b) = tab 16 fun i => rd T (rd b ((4 * ((i / 4 + m * (i % 4)) % 4) + i % 4 : Nat) : Int)) :=
  tab_ext 16 _ _ fun i hi => by
    unfold shiftL
    rw [rd_tab 16 _ _ hi]
theorem with_nums (c q p : Nat) (hc : c < 4) (hq : q < 4) (hp : p = 4 * ((c + q) % 4) + q) : wrap64 ((c : Int) + (q : Int)) = ((c + q : Nat) : Int) ∧ Int.tmod ((c + q : Nat) : Int) 4 = (((c + q) % 4 : Nat) : Int) ∧
    wrap64 (4 * (((c + q) % 4 : Nat) : Int)) = ((4 * ((c + q) % 4) : Nat) : Int) ∧ wrap64 (((4 * ((c + q) % 4) : Nat) : Int) + (q : Int)) = (p : Int) ∧ wrap64 (4 * (c : Int)) = ((4 * c : Nat) : Int) ∧
    wrap64 (((4 * c : Nat) : Int) + (q : Int)) = ((4 * c + q : Nat) : Int) ∧ wrap64 ((q : Int) + 1) = ((q + 1 : Nat) : Int) :=
  ⟨wrapS _ _ (by omega) (by omega) (by omega), by rw [Int.tmod_eq_emod_of_nonneg (by omega)]; omega, wrapS _ _ (by omega) (by omega) (by omega), wrapS _ _ (by omega) (by omega) (by omega), wrapS _ _ (by omega) (by omega) (by omega), wrapS _ _ (by omega) (by omega) (by omega), wrapS _ _ (by omega) (by omega) (by omega)⟩
theorem with_l2 (ks T s : List Int) (hT : T.length = 256) (hs : s.length = 16) (hb : Bt s) (r c : Nat) (hc : c < 4) (R : ByteArray) (z : List Int) (hz : z.length = 16)
    (hR : Ev (fun k => spec_l3With.l1 k ks T s (r : Int) ((tab 16 fun i => rd T (rd s ((4 * ((i / 4 + 1 * (i % 4)) % 4) + i % 4 : Nat) : Int))).take (4 * (c + 1)) ++ z.drop (4 * (c + 1)) ++ []) ((c + 1 : Nat) : Int)) R) : ∀ d q : Nat, q + d = 4 →
    Ev (fun k => spec_l3With.l2 k ks T s (r : Int) ((tab 16 fun i => rd T (rd s ((4 * ((i / 4 + 1 * (i % 4)) % 4) + i % 4 : Nat) : Int))).take (4 * c + q) ++ z.drop (4 * c + q) ++ []) (c : Int) (q : Int)) R
  | 0, q, h => by
    have e : q = 4 := by omega
    subst e
    refine Ev.step (fun k => ?_) hR
    simp only [spec_l3With.l2]
    rw [if_neg (by omega), wrapS ((c : Int) + 1) ((c + 1 : Nat) : Int) (by omega) (by omega) (by omega)]
    rfl
  | d + 1, q, h => by
    obtain ⟨p, hp⟩ : ∃ p, p = 4 * ((c + q) % 4) + q := ⟨_, rfl⟩
    have hp16 : p < 16 := by omega
    have hq4 : q < 4 := by omega
    have hl : ((tab 16 fun i => rd T (rd s ((4 * ((i / 4 + 1 * (i % 4)) % 4) + i % 4 : Nat) : Int))).take (4 * c + q) ++ z.drop (4 * c + q) ++ []).length = 16 := by
      rw [tab_both _ _ _ _ hz _ (by omega)]; rfl
    have c1 : (q : Int) < 4 := by omega
    have c2 : (0 : Int) ≤ (p : Int) := by omega
    have c3 : (p : Int) < (s.length : Int) := by omega
    have c6 : (0 : Int) ≤ ((4 * c + q : Nat) : Int) := by omega
    have c7 : ((4 * c + q : Nat) : Int) < (((tab 16 fun i => rd T (rd s ((4 * ((i / 4 + 1 * (i % 4)) % 4) + i % 4 : Nat) : Int))).take (4 * c + q) ++ z.drop (4 * c + q) ++ []).length : Int) := by rw [hl]; omega
    have c8 : 4 * c + q < 16 := by omega
    have c9 : q + 1 + d = 4 := by omega
    have c10 : 4 * (((4 * c + q) / 4 + 1 * ((4 * c + q) % 4)) % 4) + (4 * c + q) % 4 = p := by omega
    have hx := hb.rd p
    have c4 : 0 ≤ rd s (p : Int) := hx.1
    have c5 : rd s (p : Int) < (T.length : Int) := by rw [hT]; exact hx.2
    obtain ⟨e1, e2, e3, e4, e5, e6, e7⟩ := with_nums c q p hc hq4 hp
    have hv : rd T (rd s (p : Int)) = (fun i => rd T (rd s ((4 * ((i / 4 + 1 * (i % 4)) % 4) + i % 4 : Nat) : Int))) (4 * c + q) := by
      show _ = rd T (rd s ((4 * (((4 * c + q) / 4 + 1 * ((4 * c + q) % 4)) % 4) + (4 * c + q) % 4 : Nat) : Int))
      rw [c10]
    have ih := with_l2 ks T s hT hs hb r c hc R z hz hR d (q + 1) c9
    refine Ev.step (fun k => ?_) ih
    simp only [spec_l3With.l2]
    rw [e1, e2, e3, e4, e5, e6, e7, if_pos c1, if_pos c2, if_pos c3, if_pos c4, if_pos c5, if_pos c6, if_pos c7, Int.toNat_natCast, hv,
      tab_step 16 (fun i => rd T (rd s ((4 * ((i / 4 + 1 * (i % 4)) % 4) + i % 4 : Nat) : Int))) z [] hz (4 * c + q) c8]
    rfl
theorem with_l1 (ks T s : List Int) (hT : T.length = 256) (hs : s.length = 16) (hb : Bt s) (r : Nat) (R : ByteArray) (z : List Int) (hz : z.length = 16)
    (hR : Ev (fun k => spec_l3With.l1 k ks T s (r : Int) (shiftL 1 (mapL T s)) 4) R) : ∀ d c : Nat, c + d = 4 →
    Ev (fun k => spec_l3With.l1 k ks T s (r : Int) ((tab 16 fun i => rd T (rd s ((4 * ((i / 4 + 1 * (i % 4)) % 4) + i % 4 : Nat) : Int))).take (4 * c) ++ z.drop (4 * c) ++ []) (c : Int)) R
  | 0, c, h => by
    have e : c = 4 := by omega
    subst e
    rw [shift_map] at hR
    have e2 : (tab 16 fun i => rd T (rd s ((4 * ((i / 4 + 1 * (i % 4)) % 4) + i % 4 : Nat) : Int))).take (4 * 4) ++ z.drop (4 * 4) ++ [] = tab 16 fun i => rd T (rd s ((4 * ((i / 4 + 1 * (i % 4)) % 4) + i % 4 : Nat) : Int)) := by
      rw [show 4 * 4 = 16 from rfl, tab_end _ _ _ _ hz, List.append_nil]
    rw [e2]
    exact hR
  | d + 1, c, h => by
    have ih := with_l1 ks T s hT hs hb r R z hz hR d (c + 1) (by omega)
    have h2 := with_l2 ks T s hT hs hb r c (by omega) R z hz ih 4 0 rfl
    refine Ev.step (fun k => ?_) h2
    simp only [spec_l3With.l1]
    rw [if_pos (by omega)]
    rfl
theorem with_l3 (ks T t : List Int) (ht : t.length = 16) (hb : Bt t) (r : Nat) (hr : r < 10) (hk : 176 ≤ ks.length) (R : ByteArray)
    (hR : Ev (fun k => spec_l3With.l0 k ks T (addKL ks r (mixN [2, 3, 1, 1] t 4)) ((r + 1 : Nat) : Int)) R) : ∀ d c : Nat, c + d = 4 →
    Ev (fun k => spec_l3With.l3 k ks T (r : Int) t (mixP [2, 3, 1, 1] t c) (c : Int)) R
  | 0, c, h => by
    have e : c = 4 := by omega
    subst e
    have e1 : wrap64 (16 * (r : Int)) = ((16 * r : Nat) : Int) := wrapS _ _ (by omega) (by omega) (by omega)
    have e2 : wrap64 (((16 * r : Nat) : Int) + 16) = ((16 * r + 16 : Nat) : Int) := wrapS _ _ (by omega) (by omega) (by omega)
    have e3 : wrap64 ((r : Int) + 1) = ((r + 1 : Nat) : Int) := wrapS _ _ (by omega) (by omega) (by omega)
    refine Ev.step (f := fun k => (spec_l3Xor.f k (mixN [2, 3, 1, 1] t 4) ((ks.take (16 * r + 16)).drop (16 * r))).bind fun u => spec_l3With.l0 k ks T u ((r + 1 : Nat) : Int)) (fun k => ?_) (Ev.bind (ev_addKey ks _ r (by omega) (mixN_length _ _ ht 4 (by decide)) hk) hR)
    simp only [spec_l3With.l3]
    rw [e1, e2, e3, if_neg (by decide), if_pos (by omega), if_pos (by omega), if_pos (by omega), Int.toNat_natCast, Int.toNat_natCast, mixN_full _ _ ht]
  | d + 1, c, h => by
    have e1 : wrap64 (4 * (c : Int)) = ((4 * c : Nat) : Int) := wrapS _ _ (by omega) (by omega) (by omega)
    have e2 : wrap64 (((4 * c : Nat) : Int) + 4) = ((4 * c + 4 : Nat) : Int) := wrapS _ _ (by omega) (by omega) (by omega)
    have e3 : wrap64 ((c : Int) + 1) = ((c + 1 : Nat) : Int) := wrapS _ _ (by omega) (by omega) (by omega)
    have hseg : (t.take (4 * c + 4)).drop (4 * c) = (t.drop (4 * c)).take 4 := by rw [List.drop_take, show 4 * c + 4 - 4 * c = 4 by omega]
    have hsl : ((t.drop (4 * c)).take 4).length = 4 := by simp; omega
    have ih := with_l3 ks T t ht hb r hr hk R hR d (c + 1) (by omega)
    refine Ev.step (f := fun k => (spec_l3Mix.f k ((t.drop (4 * c)).take 4) [2, 3, 1, 1]).bind fun u => if (mixP [2, 3, 1, 1] t c).length + u.length < 140737488355328 then spec_l3With.l3 k ks T (r : Int) t (mixP [2, 3, 1, 1] t c ++ u) ((c + 1 : Nat) : Int) else none) (fun k => ?_) (Ev.bind (ev_mix [2, 3, 1, 1] _ rfl hsl ((hb.drop _).take _)) ?_)
    · simp only [spec_l3With.l3]
      rw [if_pos (by omega), e1, e2, e3, if_pos (by omega), if_pos (by omega), if_pos (by omega), Int.toNat_natCast, Int.toNat_natCast, hseg]
    · refine Ev.congr (fun k => ?_) ih
      rw [if_pos (by rw [mixP_length, mixL_length]; omega)]
      rfl
theorem with_l0 (ks T b : List Int) (hT : T.length = 256) (hTb : Bt T) (hk : 176 ≤ ks.length) : ∀ d n : Nat, n + d = 10 →
    Ev (fun k => spec_l3With.l0 k ks T (encN ks T b n) ((n + 1 : Nat) : Int)) (strOfNums (encN ks T b 10))
  | 0, n, h => by
    have e : n = 10 := by omega
    subst e
    refine Ev.step (f := fun _ => some (strOfNums (encN ks T b 10))) (fun k => ?_) (Ev.now _)
    simp only [spec_l3With.l0]
    rw [if_neg (by omega)]
  | d + 1, n, h => by
    have ih := with_l0 ks T b hT hTb hk d (n + 1) (by omega)
    obtain ⟨s, hs⟩ : ∃ s, s = encN ks T b n := ⟨_, rfl⟩
    have hsl : s.length = 16 := by rw [hs]; exact encN_length _ _ _ _
    have hsb : Bt s := by rw [hs]; exact encN_bt _ _ _ _
    rw [← hs]
    have hnx : encN ks T b (n + 1) = addKL ks (n + 1) (encMid T (n + 1) s) := by rw [hs]; rfl
    rw [hnx] at ih
    obtain ⟨t, ht⟩ : ∃ t, t = shiftL 1 (mapL T s) := ⟨_, rfl⟩
    have htl : t.length = 16 := by rw [ht]; exact shiftL_length _ _
    have htb : Bt t := by rw [ht]; exact shiftL_bt _ _ (mapL_bt _ _ hTb hsb)
    have hend : Ev (fun k => spec_l3With.l1 k ks T s ((n + 1 : Nat) : Int) (shiftL 1 (mapL T s)) 4) (strOfNums (encN ks T b 10)) := by
      rw [← ht]
      by_cases h10 : n + 1 < 10
      · have hm : encMid T (n + 1) s = mixN [2, 3, 1, 1] t 4 := by unfold encMid; rw [if_pos h10, ht]
        rw [hm] at ih
        refine Ev.step (fun k => ?_) (with_l3 ks T t htl htb (n + 1) h10 hk _ ih 4 0 rfl)
        simp only [spec_l3With.l1]
        rw [if_neg (by decide), if_pos (by omega)]
        rfl
      · have hm : encMid T (n + 1) s = t := by unfold encMid; rw [if_neg h10, ht]
        rw [hm] at ih
        have e1 : wrap64 (16 * ((n + 1 : Nat) : Int)) = ((16 * (n + 1) : Nat) : Int) := wrapS _ _ (by omega) (by omega) (by omega)
        have e2 : wrap64 (((16 * (n + 1) : Nat) : Int) + 16) = ((16 * (n + 1) + 16 : Nat) : Int) := wrapS _ _ (by omega) (by omega) (by omega)
        have e3 : wrap64 (((n + 1 : Nat) : Int) + 1) = ((n + 1 + 1 : Nat) : Int) := wrapS _ _ (by omega) (by omega) (by omega)
        refine Ev.step (f := fun k => (spec_l3Xor.f k t ((ks.take (16 * (n + 1) + 16)).drop (16 * (n + 1)))).bind fun u => spec_l3With.l0 k ks T u ((n + 1 + 1 : Nat) : Int)) (fun k => ?_) (Ev.bind (ev_addKey ks t (n + 1) (by omega) htl hk) ih)
        simp only [spec_l3With.l1]
        rw [e1, e2, e3, if_neg (by decide), if_neg (by omega), if_pos (by omega), if_pos (by omega), if_pos (by omega), Int.toNat_natCast, Int.toNat_natCast]
    have hz : (List.replicate 16 (0 : Int)).length = 16 := List.length_replicate
    have h1 := with_l1 ks T s hT hsl hsb (n + 1) _ (List.replicate 16 0) hz hend 4 0 rfl
    refine Ev.step (fun k => ?_) h1
    simp only [spec_l3With.l0]
    rw [if_pos (by omega), if_pos (by decide)]
    rfl
theorem ev_with (ks T : List Int) (s : ByteArray) (hT : T.length = 256) (hTb : Bt T) (hk : 176 ≤ ks.length) (hs : s.size = 16) : Ev (fun k => spec_l3With.f k ks T s) (strOfNums (encN ks T (bytesOf s) 10)) := by
  have h0 := ev_addKey ks (bytesOf s) 0 (by decide) (by rw [bytesOf_length]; exact hs) hk
  have hw : Ev (fun k => spec_l3With.l0 k ks T (addKL ks 0 (bytesOf s)) 1) (strOfNums (encN ks T (bytesOf s) 10)) := with_l0 ks T (bytesOf s) hT hTb hk 10 0 rfl
  refine Ev.congr (fun k => ?_) (Ev.bind (f := fun k u => spec_l3With.l0 k ks T u 1) h0 hw)
  unfold spec_l3With.f
  rw [if_pos (by omega), if_pos (by omega)]
  rfl
/-- The table of what bytes become, as the reference makes it. -/
def TB : List Int := tab 256 fun i => (Sn i : Int)
theorem TB_length : TB.length = 256 := tab_length _ _
theorem TB_bt : Bt TB := Bt.tab fun i h => by have := (Sn_tells i h).2; omega
theorem TB_rd (x : Nat) (h : x < 256) : rd TB (x : Int) = (Sn x : Int) := rd_tab 256 _ x h
theorem ev_TB : Ev (fun k => spec_l3Table.f k) TB := ev_table
theorem map_TB (b : List Int) (hb : Bt b) : mapL TB b = mapL BX b := by
  refine tab_ext 16 _ _ fun i hi => ?_
  obtain ⟨x, hx⟩ := Int.eq_ofNat_of_zero_le (hb.rd i).1
  have hx2 : x < 256 := by have := (hb.rd i).2; omega
  rw [hx, BX_to x hx2, TB_rd x hx2]
theorem encN_congr (ks b T T' : List Int) (h : ∀ c, Bt c → mapL T c = mapL T' c) : ∀ r, encN ks T b r = encN ks T' b r
  | 0 => rfl
  | r + 1 => by
    simp only [encN, encMid]
    rw [encN_congr ks b T T' h r, h _ (encN_bt _ _ _ _)]
theorem ev_withTB (key s : ByteArray) (hk : key.size = 16) (hs : s.size = 16) : Ev (fun k => spec_l3With.f k (KS key) TB s) (encS key s) := by
  have h := ev_with (KS key) TB s TB_length TB_bt (by rw [KS_length key hk]; exact Nat.le_refl _) hs
  rw [encN_congr (KS key) (bytesOf s) TB BX map_TB] at h
  exact h
end Go.Proofs.YtimokakcdmcnnaaV.Aes
