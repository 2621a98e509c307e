/- Shared lemmas and walks of the AES laws of this seat. -/
import Derived.Test.YtimokakcdmcnnaaVAes11
import Derived.Test.YtimokakcdmcnnaaPSpecAx4
namespace Go.Proofs.YtimokakcdmcnnaaV.Aes
open Go.RowKit Go.Proofs.YtimokakcdmcnnaaV.PrintWords Go.Proofs.YtimokakcdmcnnaaV.PrintLast Go.Proofs.YtimokakcdmcnnaaV.PrintMore Go.Proofs.YtimokakcdmcnnaaV.Mem
set_option linter.unusedVariables false
set_option linter.unusedSimpArgs false

open Go.Proofs.Ytimokakcdmcnnaa.PSpecA
theorem mul_same : ∀ (k : Nat) (x0 x1 x5 : Int), 0 ≤ x1 → spec_l3Mul.l0 k x0 x1 x5 = impl_mulGf.l0 k x0 x1 x5
  | 0, _, _, _, _ => rfl
  | k + 1, x0, x1, x5, h => by
    simp only [spec_l3Mul.l0, impl_mulGf.l0]
    have h2 : 0 ≤ x1 / 2 := by omega
    by_cases e : x1 = 0
    · rw [if_pos e, if_neg (by omega)]
    · rw [if_neg e, if_pos (by omega)]
      simp only [mul_same k _ _ _ h2]

theorem smul_tells (k a b : Nat) (ha : a < 256) (hb : b < 256) (hk : 8 < k) : spec_l3Mul.f k (a : Int) (b : Int) = some ((mulN 8 a b 0 : Nat) : Int) := by
  unfold spec_l3Mul.f
  rw [mul_same k _ _ _ (by omega)]
  exact mul_tells k a b ha hb hk
theorem sq_loop : ∀ (d k a n o : Nat), a < 256 → o < 256 → n < 2 ^ d → n < 256 → d + 9 < k → spec_l3Inverse.l0 k (a : Int) (o : Int) (n : Int) = some ((sqN d a n o : Nat) : Int)
  | 0, k, a, n, o, _, _, hn, _, hk => by
    obtain ⟨k, rfl⟩ : ∃ m, k = m + 1 := ⟨k - 1, by omega⟩
    simp only [spec_l3Inverse.l0]
    rw [if_neg (by simp at hn; omega)]; rfl
  | d + 1, k, a, n, o, ha, ho, hn, hn8, hk => by
    obtain ⟨k, rfl⟩ : ∃ m, k = m + 1 := ⟨k - 1, by omega⟩
    simp only [spec_l3Inverse.l0]
    have hn2 : n / 2 < 2 ^ d := by rw [Nat.pow_succ] at hn; omega
    have hd : ((n : Int) / 2) = ((n / 2 : Nat) : Int) := by omega
    have hand : Go.bits .and .i64 (n : Int) 1 = ((n % 2 : Nat) : Int) := by
      rw [show (1 : Int) = 2 ^ 1 - 1 from rfl, bits_mask .i64 62 (by decide) (fun n h₀ h₁ => by rw [IntKind.wrap_i64]; omega) 1 (by decide) n (by omega) (by omega)]; omega
    rw [hd, hand, smul_tells k a a ha ha (by omega), smul_tells k o a ho ha (by omega)]
    simp only [Option.bind_some]
    have hz : ∀ (d a o : Nat), sqN d a 0 o = o := by
      intro d
      induction d with
      | zero => intro a o; rfl
      | succ d ih => intro a o; show sqN d _ (0 / 2) (if 0 % 2 = 1 then _ else o) = o; rw [if_neg (by decide)]; exact ih _ _
    by_cases e : n = 0
    · subst e
      rw [if_neg (by decide), hz]
    · rw [if_pos (by omega)]
      show _ = some ((sqN d (mulN 8 a a 0) (n / 2) (if n % 2 = 1 then mulN 8 o a 0 else o) : Nat) : Int)
      by_cases h1 : n % 2 = 1
      · rw [if_pos (show ((n % 2 : Nat) : Int) = 1 by omega), if_pos h1]
        exact sq_loop d k _ _ _ (mulN_lt 8 a a 0 ha (by decide)) (mulN_lt 8 o a 0 ho (by decide)) hn2 (by omega) (by omega)
      · rw [if_neg (show ¬ ((n % 2 : Nat) : Int) = 1 by omega), if_neg h1]
        exact sq_loop d k _ _ _ (mulN_lt 8 a a 0 ha (by decide)) ho hn2 (by omega) (by omega)

theorem sinv_tells (k a : Nat) (ha : a < 256) (hk : 20 < k) : spec_l3Inverse.f k (a : Int) = some ((sqN 8 a 254 1 : Nat) : Int) := by
  unfold spec_l3Inverse.f
  exact sq_loop 8 k a 254 1 ha (by decide) (by decide) (by decide) (by omega)

theorem l3Mul_tells (d : Nat) (a b : Int) (h0 : 0 ≤ b) (h1 : b < 256) : spec_l3Mul.f (16 + d) a b = some (M a b) := by
  have h : spec_l3Mul.f 16 a b = some (M a b) := by
    rw [← M_tells a b h0 h1]
    exact mul_same 16 a b 0 h0
  induction d with
  | zero => exact h
  | succ d ih => exact spec_l3Mul.mono a b (16 + d) _ ih
theorem mix_inner (f s : List Int) (hf : f.length = 4) (hs : s.length = 4) (hr : ∀ x ∈ s, 0 ≤ x ∧ x < 256) (i : Nat) (hi : i < 4) : ∀ (d k m : Nat) (x5 : List Int), m + d = 4 → x5.length = 4 → rd x5 (i : Int) = mixI M f s i m →
    spec_l3Mix.l1 (16 + k + d + 1) s f x5 (i : Int) (m : Int) 4 (i : Int) = spec_l3Mix.l0 (16 + k) s f (x5.set i (mixI M f s i 4)) 4 ((i + 1 : Nat) : Int)
  | 0, k, m, x5, hm, hl => by
    have e : wrap64 ((i : Int) + 1) = ((i + 1 : Nat) : Int) := by unfold wrap64; omega
    have hm4 : m = 4 := by omega
    have hil : i < x5.length := by omega
    subst hm4
    have hng : ¬ (((4 : Nat) : Int) < 4) := by omega
    intro hv
    simp only [spec_l3Mix.l1]
    rw [if_neg hng, e]
    have hx : x5.set i (mixI M f s i 4) = x5 := by
      rw [← hv]
      have e2 : rd x5 (i : Int) = x5[i] := by simp [rd, List.getD_eq_getElem?_getD, List.getElem?_eq_getElem hil]
      rw [e2]
      exact List.set_getElem_self hil
    rw [hx]
  | d + 1, k, m, x5, hm, hl => by
    have hm3 : m < 4 := by omega
    have hil : i < x5.length := by omega
    have e1 : wrap64 ((i : Int) + (m : Int)) = ((i + m : Nat) : Int) := by unfold wrap64; omega
    have e2 : Int.tmod ((i + m : Nat) : Int) 4 = (((i + m) % 4 : Nat) : Int) := by rw [Int.tmod_eq_emod_of_nonneg (by omega)]; omega
    have e3 : wrap64 ((m : Int) + 1) = ((m + 1 : Nat) : Int) := by unfold wrap64; omega
    have c1 : (m : Int) < 4 := by omega
    have c2 : (0 : Int) ≤ (i : Int) := by omega
    have c3 : (i : Int) < (x5.length : Int) := by omega
    have c4 : (0 : Int) ≤ (m : Int) := by omega
    have c5 : (m : Int) < (f.length : Int) := by omega
    have c6 : (0 : Int) ≤ (((i + m) % 4 : Nat) : Int) := by omega
    have c7 : (((i + m) % 4 : Nat) : Int) < (s.length : Int) := by omega
    obtain ⟨n, hn⟩ : ∃ n, n = 16 + k + d + 1 := ⟨_, rfl⟩
    have g1 : n = 16 + (k + d + 1) := by omega
    have g2 : m + 1 + d = 4 := by omega
    intro hv
    have hb := Bt.rd (l := s) hr ((i + m) % 4)
    have hmul := l3Mul_tells (k + d + 1) (rd f (m : Int)) (rd s (((i + m) % 4 : Nat) : Int)) hb.1 hb.2
    have ih := mix_inner f s hf hs hr i hi d k (m + 1) (x5.set i (Go.bits .xor .u8 (mixI M f s i m) (M (rd f (m : Int)) (rd s (((i + m) % 4 : Nat) : Int))))) g2 (by rw [List.length_set]; exact hl) (rd_set_same _ _ _ hil)
    rw [← hn] at ih
    rw [← g1] at hmul
    show spec_l3Mix.l1 (16 + k + d + 1 + 1) s f x5 (i : Int) (m : Int) 4 (i : Int) = _
    rw [← hn]
    simp only [spec_l3Mix.l1]
    rw [e1, e2, e3, if_pos c1, if_pos c2, if_pos c3, if_pos c4, if_pos c5, if_pos c6, if_pos c7]
    rw [List.set_set] at ih
    rw [← ih, hmul, Option.bind_some, Int.toNat_natCast, hv]
theorem mix_step (f s : List Int) (hf : f.length = 4) (hs : s.length = 4) (hr : ∀ x ∈ s, 0 ≤ x ∧ x < 256) (n k i : Nat) (ii jj : Int) (x y : List Int) (hn : n = 16 + k + 4 + 1 + 1) (hi : i < 4) (hii : ii = (i : Int)) (hjj : jj = ((i + 1 : Nat) : Int)) (hx : x.length = 4) (hz : rd x (i : Int) = 0) (hy : y = x.set i (mixI M f s i 4)) :
    spec_l3Mix.l0 n s f x 4 ii = spec_l3Mix.l0 (16 + k) s f y 4 jj := by
  have h := mix_inner f s hf hs hr i hi 4 k 0 x (by omega) hx hz
  subst hii hjj hy hn
  rw [← h]
  simp only [spec_l3Mix.l0]
  rw [if_pos (by omega)]
  rfl
theorem mix_tells (f s : List Int) (hf : f.length = 4) (hs : s.length = 4) (hr : ∀ x ∈ s, 0 ≤ x ∧ x < 256) (n k : Nat) (hn : n = 16 + k + 25) : spec_l3Mix.f n s f = some (mixL M f s) := by
  unfold spec_l3Mix.f
  rw [if_pos (by decide), Option.bind_some]
  have e0 : (List.replicate 4 0 : List Int) = [0, 0, 0, 0] := rfl
  have e1 : (([0, 0, 0, 0] : List Int).length : Int) = 4 := rfl
  rw [e0, e1]
  rw [mix_step f s hf hs hr n (k + 19) 0 0 1 [0, 0, 0, 0] [mixI M f s 0 4, 0, 0, 0] (by omega) (by decide) rfl rfl rfl rfl rfl]
  rw [mix_step f s hf hs hr (16 + (k + 19)) (k + 13) 1 1 2 [mixI M f s 0 4, 0, 0, 0] [mixI M f s 0 4, mixI M f s 1 4, 0, 0] (by omega) (by decide) rfl rfl rfl rfl rfl]
  rw [mix_step f s hf hs hr (16 + (k + 13)) (k + 7) 2 2 3 [mixI M f s 0 4, mixI M f s 1 4, 0, 0] [mixI M f s 0 4, mixI M f s 1 4, mixI M f s 2 4, 0] (by omega) (by decide) rfl rfl rfl rfl rfl]
  rw [mix_step f s hf hs hr (16 + (k + 7)) (k + 1) 3 3 4 [mixI M f s 0 4, mixI M f s 1 4, mixI M f s 2 4, 0] [mixI M f s 0 4, mixI M f s 1 4, mixI M f s 2 4, mixI M f s 3 4] (by omega) (by decide) rfl rfl rfl rfl rfl]
  rw [show 16 + (k + 1) = (16 + k) + 1 by omega]
  simp only [spec_l3Mix.l0]
  rw [if_neg (by decide)]
  rfl

def turnAll (n : Nat) : Bool := (List.range 256).all (fun c => decide (spec_l3Turn.f (c : Int) (n : Int) = some (rotN c n : Int)))
set_option maxRecDepth 100000 in
theorem turn_all : turnAll 1 = true ∧ turnAll 2 = true ∧ turnAll 3 = true ∧ turnAll 4 = true ∧ turnAll 6 = true := by decide +kernel
theorem turn_one (n c : Nat) (h : turnAll n = true) (hc : c < 256) : spec_l3Turn.f (c : Int) (n : Int) = some (rotN c n : Int) := by
  have := List.all_eq_true.mp h c (List.mem_range.mpr hc)
  simpa using this
theorem rotN_lt (c n : Nat) (hc : c < 256) : rotN c n < 256 := Nat.or_lt_two_pow (n := 8) (Nat.mod_lt _ (by decide)) (Nat.lt_of_le_of_lt (Nat.div_le_self _ _) hc)
theorem x8 {a b : Nat} (ha : a < 256) (hb : b < 256) : a ^^^ b < 256 := Nat.xor_lt_two_pow (n := 8) ha hb
theorem l3Sub_tells (k n : Nat) (hn : n < 256) (hk : 20 < k) : spec_l3Sub.f k (n : Int) = some (Sn n : Int) := by
  obtain ⟨c, hc⟩ : ∃ c, c = sqN 8 n 254 1 := ⟨_, rfl⟩
  have hc8 : c < 256 := by rw [hc]; exact sqN_lt 8 n 254 1 hn (by decide)
  have r1 := rotN_lt c 1 hc8
  have r2 := rotN_lt c 2 hc8
  have r3 := rotN_lt c 3 hc8
  have r4 := rotN_lt c 4 hc8
  have e1 : spec_l3Turn.f (c : Int) 1 = some (rotN c 1 : Int) := turn_one 1 c turn_all.1 hc8
  have e2 : spec_l3Turn.f (c : Int) 2 = some (rotN c 2 : Int) := turn_one 2 c turn_all.2.1 hc8
  have e3 : spec_l3Turn.f (c : Int) 3 = some (rotN c 3 : Int) := turn_one 3 c turn_all.2.2.1 hc8
  have e4 : spec_l3Turn.f (c : Int) 4 = some (rotN c 4 : Int) := turn_one 4 c turn_all.2.2.2.1 hc8
  unfold spec_l3Sub.f
  rw [sinv_tells k n hn hk, Option.bind_some, ← hc, e1, Option.bind_some, e2, Option.bind_some, e3, Option.bind_some, e4, Option.bind_some,
    xor_u8 _ _ hc8 r1, xor_u8 _ _ (x8 hc8 r1) r2, xor_u8 _ _ (x8 (x8 hc8 r1) r2) r3, xor_u8 _ _ (x8 (x8 (x8 hc8 r1) r2) r3) r4]
  rw [show (99 : Int) = ((99 : Nat) : Int) from rfl, xor_u8 _ _ (x8 (x8 (x8 (x8 hc8 r1) r2) r3) r4) (by decide)]
  unfold Sn subC
  rw [hc]
theorem l3Unsub_tells (k n : Nat) (hn : n < 256) (hk : 20 < k) : spec_l3Unsub.f k (n : Int) = some (Un n : Int) := by
  obtain ⟨c, hc⟩ : ∃ c, c = n ^^^ 99 := ⟨_, rfl⟩
  have hc8 : c < 256 := by rw [hc]; exact x8 hn (by decide)
  have r1 := rotN_lt c 1 hc8
  have r3 := rotN_lt c 3 hc8
  have r6 := rotN_lt c 6 hc8
  have e1 : spec_l3Turn.f (c : Int) 1 = some (rotN c 1 : Int) := turn_one 1 c turn_all.1 hc8
  have e3 : spec_l3Turn.f (c : Int) 3 = some (rotN c 3 : Int) := turn_one 3 c turn_all.2.2.1 hc8
  have e6 : spec_l3Turn.f (c : Int) 6 = some (rotN c 6 : Int) := turn_one 6 c turn_all.2.2.2.2 hc8
  unfold spec_l3Unsub.f
  rw [show (99 : Int) = ((99 : Nat) : Int) from rfl, xor_u8 n 99 hn (by decide), ← hc, e1, Option.bind_some, e3, Option.bind_some, e6, Option.bind_some,
    xor_u8 _ _ r1 r3, xor_u8 _ _ (x8 r1 r3) r6, sinv_tells k _ (x8 (x8 r1 r3) r6) hk, Option.bind_some]
  unfold Un
  rw [hc]
theorem ev_sub (n : Nat) (hn : n < 256) : Ev (fun k => spec_l3Sub.f k (n : Int)) (Sn n : Int) := ⟨21, fun k hk => l3Sub_tells k n hn (by omega)⟩
theorem ev_unsub (n : Nat) (hn : n < 256) : Ev (fun k => spec_l3Unsub.f k (n : Int)) (Un n : Int) := ⟨21, fun k hk => l3Unsub_tells k n hn (by omega)⟩
theorem ev_mul (a b : Int) (h0 : 0 ≤ b) (h1 : b < 256) : Ev (fun k => spec_l3Mul.f k a b) (M a b) := ⟨16, fun k hk => by
  obtain ⟨d, rfl⟩ : ∃ d, k = 16 + d := ⟨k - 16, by omega⟩
  exact l3Mul_tells d a b h0 h1⟩
theorem ev_mix (f s : List Int) (hf : f.length = 4) (hs : s.length = 4) (hr : Bt s) : Ev (fun k => spec_l3Mix.f k s f) (mixL M f s) := ⟨41, fun k hk => mix_tells f s hf hs hr k (k - 41) (by omega)⟩
theorem wrapS (a b : Int) (h : a = b) (h0 : -9223372036854775808 ≤ b) (h1 : b ≤ 9223372036854775807) : wrap64 a = b := by
  subst h; unfold wrap64; omega
theorem xor_loop (a b : List Int) (n : Nat) (ha : a.length = n) (hb : n ≤ b.length) (hn : n ≤ 1000000000000) : ∀ d i : Nat, i + d = n →
    Ev (fun k => spec_l3Xor.l0 k a b ((tab n fun i => Go.bits .xor .u8 (rd a (i : Int)) (rd b (i : Int))).take i ++ (List.replicate n 0).drop i ++ []) (n : Int) (i : Int)) (tab n fun i => Go.bits .xor .u8 (rd a (i : Int)) (rd b (i : Int)))
  | 0, i, h => by
    have e : i = n := by omega
    subst e
    refine Ev.step (f := fun _ => some (tab i fun i => Go.bits .xor .u8 (rd a (i : Int)) (rd b (i : Int)))) (fun k => ?_) (Ev.now _)
    simp only [spec_l3Xor.l0]
    rw [if_neg (by omega), tab_end _ _ _ _ (by simp), List.append_nil]
  | d + 1, i, h => by
    have hl : ((tab n fun i => Go.bits .xor .u8 (rd a (i : Int)) (rd b (i : Int))).take i ++ (List.replicate n (0 : Int)).drop i ++ []).length = n := by
      rw [tab_both _ _ _ _ (by simp) i (by omega)]; rfl
    refine Ev.step (fun k => ?_) (xor_loop a b n ha hb hn d (i + 1) (by omega))
    simp only [spec_l3Xor.l0]
    rw [if_pos (by omega), if_pos (by omega), if_pos (by omega), if_pos (by omega), if_pos (by rw [hl]; omega), Int.toNat_natCast,
      tab_step n (fun i => Go.bits .xor .u8 (rd a (i : Int)) (rd b (i : Int))) _ [] (by simp) i (by omega), wrapS ((i : Int) + 1) ((i + 1 : Nat) : Int) (by omega) (by omega) (by omega)]
theorem ev_xor (a b : List Int) (n : Nat) (ha : a.length = n) (hb : n ≤ b.length) (hn : n ≤ 1000000000000) : Ev (fun k => spec_l3Xor.f k a b) (tab n fun i => Go.bits .xor .u8 (rd a (i : Int)) (rd b (i : Int))) := by
  have h := xor_loop a b n ha hb hn n 0 (by omega)
  simp only [List.take_zero, List.drop_zero, List.nil_append, List.append_nil] at h
  refine Ev.congr (fun k => ?_) h
  unfold spec_l3Xor.f
  rw [if_pos (by omega), if_pos (by rw [ha]; omega), ha, Int.toNat_natCast]
  rfl
end Go.Proofs.YtimokakcdmcnnaaV.Aes
