/- The statement over numbers and lists that is left of the law FnExactMixColumn: the program's function and the reference's tell the same for all arguments. Conditions: none beyond the kinds' own bounds. -/
import Derived.Test.YtimokakcdmcnnaaPFnExactMixColumnx1
set_option linter.unusedVariables false
set_option linter.unusedSimpArgs false
namespace Go.Proofs.Ytimokakcdmcnnaa.Pure
open Go.RowKit Go.Proofs.Ytimokakcdmcnnaa.PFnExactMixColumn Go.Proofs.YtimokakcdmcnnaaV.PrintWords Go.Proofs.YtimokakcdmcnnaaV.PrintLast

open Go.Proofs.YtimokakcdmcnnaaV.Aes (mixI mixL M M_tells rd_set_same rd_set_other list4 xor_u8_range)
theorem bytes_range (s : ByteArray) (x : Int) (h : x ∈ bytesOf s) : 0 ≤ x ∧ x < 256 := by
  unfold bytesOf at h
  simp only [List.mem_map] at h
  obtain ⟨b, _, rfl⟩ := h
  have := b.toNat_lt
  omega
theorem rd_range (s : List Int) (h : ∀ x ∈ s, 0 ≤ x ∧ x < 256) (j : Nat) : 0 ≤ rd s (j : Int) ∧ rd s (j : Int) < 256 := by
  by_cases hj : j < s.length
  · have e : rd s (j : Int) = s[j] := by simp [rd, List.getD_eq_getElem?_getD, List.getElem?_eq_getElem hj]
    rw [e]; exact h _ (List.getElem_mem hj)
  · have e : rd s (j : Int) = 0 := by simp [rd, List.getD_eq_getElem?_getD, List.getElem?_eq_none (by omega : s.length ≤ j)]
    rw [e]; omega
theorem l3Mul_same : ∀ (k : Nat) (a b o : Int), 0 ≤ b → spec_l3Mul.l0 k a b o = Go.Proofs.YtimokakcdmcnnaaV.Aes.impl_mulGf.l0 k a b o
  | 0, a, b, o, _ => rfl
  | k + 1, a, b, o, h => by
    simp only [spec_l3Mul.l0, Go.Proofs.YtimokakcdmcnnaaV.Aes.impl_mulGf.l0]
    by_cases hz : b = 0
    · rw [if_neg (by omega), if_pos hz]
    · rw [if_pos (by omega), if_neg hz]
      have hb : 0 ≤ b / 2 := by omega
      split
      · split
        · exact l3Mul_same k _ _ _ hb
        · exact l3Mul_same k _ _ _ hb
      · split
        · exact l3Mul_same k _ _ _ hb
        · exact l3Mul_same k _ _ _ hb
theorem l3Mul_tells (d : Nat) (a b : Int) (h0 : 0 ≤ b) (h1 : b < 256) : spec_l3Mul.f (16 + d) a b = some (M a b) := by
  have h : spec_l3Mul.f 16 a b = some (M a b) := by
    rw [← M_tells a b h0 h1]
    exact l3Mul_same 16 a b 0 h0
  induction d with
  | zero => exact h
  | succ d ih => exact spec_l3Mul.mono a b (16 + d) _ ih
theorem mix_inner (f s : List Int) (hf : f.length = 4) (hs : s.length = 4) (hr : ∀ x ∈ s, 0 ≤ x ∧ x < 256) (i : Nat) (hi : i < 4) : ∀ (d k m : Nat) (x5 : List Int), m + d = 4 → x5.length = 4 → rd x5 (i : Int) = mixI M f s i m →
    spec_l3Mix.l1 (16 + k + d + 1) s f x5 (i : Int) (m : Int) 4 (i : Int) = spec_l3Mix.l0 (16 + k) s f (x5.set i (mixI M f s i 4)) 4 ((i + 1 : Nat) : Int)
  | 0, k, m, x5, hm, hl => by
    have e : wrap64 ((i : Int) + 1) = ((i + 1 : Nat) : Int) := by unfold wrap64; omega
    have hm4 : m = 4 := by omega
    have hil : i < x5.length := by omega
    subst hm4
    have hng : ¬ (((4 : Nat) : Int) < 4) := by omega
    intro hv
    simp only [spec_l3Mix.l1]
    rw [if_neg hng, e]
    have hx : x5.set i (mixI M f s i 4) = x5 := by
      rw [← hv]
      have e2 : rd x5 (i : Int) = x5[i] := by simp [rd, List.getD_eq_getElem?_getD, List.getElem?_eq_getElem hil]
      rw [e2]
      exact List.set_getElem_self hil
    rw [hx]
  | d + 1, k, m, x5, hm, hl => by
    have hm3 : m < 4 := by omega
    have hil : i < x5.length := by omega
    have e1 : wrap64 ((i : Int) + (m : Int)) = ((i + m : Nat) : Int) := by unfold wrap64; omega
    have e2 : Int.tmod ((i + m : Nat) : Int) 4 = (((i + m) % 4 : Nat) : Int) := by rw [Int.tmod_eq_emod_of_nonneg (by omega)]; omega
    have e3 : wrap64 ((m : Int) + 1) = ((m + 1 : Nat) : Int) := by unfold wrap64; omega
    have c1 : (m : Int) < 4 := by omega
    have c2 : (0 : Int) ≤ (i : Int) := by omega
    have c3 : (i : Int) < (x5.length : Int) := by omega
    have c4 : (0 : Int) ≤ (m : Int) := by omega
    have c5 : (m : Int) < (f.length : Int) := by omega
    have c6 : (0 : Int) ≤ (((i + m) % 4 : Nat) : Int) := by omega
    have c7 : (((i + m) % 4 : Nat) : Int) < (s.length : Int) := by omega
    obtain ⟨n, hn⟩ : ∃ n, n = 16 + k + d + 1 := ⟨_, rfl⟩
    have g1 : n = 16 + (k + d + 1) := by omega
    have g2 : m + 1 + d = 4 := by omega
    intro hv
    have hb := rd_range s hr ((i + m) % 4)
    have hmul := l3Mul_tells (k + d + 1) (rd f (m : Int)) (rd s (((i + m) % 4 : Nat) : Int)) hb.1 hb.2
    have ih := mix_inner f s hf hs hr i hi d k (m + 1) (x5.set i (Go.bits .xor .u8 (mixI M f s i m) (M (rd f (m : Int)) (rd s (((i + m) % 4 : Nat) : Int))))) g2 (by rw [List.length_set]; exact hl) (rd_set_same _ _ _ hil)
    rw [← hn] at ih
    rw [← g1] at hmul
    show spec_l3Mix.l1 (16 + k + d + 1 + 1) s f x5 (i : Int) (m : Int) 4 (i : Int) = _
    rw [← hn]
    simp only [spec_l3Mix.l1]
    rw [e1, e2, e3, if_pos c1, if_pos c2, if_pos c3, if_pos c4, if_pos c5, if_pos c6, if_pos c7]
    rw [List.set_set] at ih
    rw [← ih, hmul, Option.bind_some, Int.toNat_natCast, hv]
theorem mix_step (f s : List Int) (hf : f.length = 4) (hs : s.length = 4) (hr : ∀ x ∈ s, 0 ≤ x ∧ x < 256) (n k i : Nat) (ii jj : Int) (x y : List Int) (hn : n = 16 + k + 4 + 1 + 1) (hi : i < 4) (hii : ii = (i : Int)) (hjj : jj = ((i + 1 : Nat) : Int)) (hx : x.length = 4) (hz : rd x (i : Int) = 0) (hy : y = x.set i (mixI M f s i 4)) :
    spec_l3Mix.l0 n s f x 4 ii = spec_l3Mix.l0 (16 + k) s f y 4 jj := by
  have h := mix_inner f s hf hs hr i hi 4 k 0 x (by omega) hx hz
  subst hii hjj hy hn
  rw [← h]
  simp only [spec_l3Mix.l0]
  rw [if_pos (by omega)]
  rfl
theorem mix_tells (f s : List Int) (hf : f.length = 4) (hs : s.length = 4) (hr : ∀ x ∈ s, 0 ≤ x ∧ x < 256) (n k : Nat) (hn : n = 16 + k + 25) : spec_l3Mix.f n s f = some (mixL M f s) := by
  unfold spec_l3Mix.f
  rw [if_pos (by decide), Option.bind_some]
  have e0 : (List.replicate 4 0 : List Int) = [0, 0, 0, 0] := rfl
  have e1 : (([0, 0, 0, 0] : List Int).length : Int) = 4 := rfl
  rw [e0, e1]
  rw [mix_step f s hf hs hr n (k + 19) 0 0 1 [0, 0, 0, 0] [mixI M f s 0 4, 0, 0, 0] (by omega) (by decide) rfl rfl rfl rfl rfl]
  rw [mix_step f s hf hs hr (16 + (k + 19)) (k + 13) 1 1 2 [mixI M f s 0 4, 0, 0, 0] [mixI M f s 0 4, mixI M f s 1 4, 0, 0] (by omega) (by decide) rfl rfl rfl rfl rfl]
  rw [mix_step f s hf hs hr (16 + (k + 13)) (k + 7) 2 2 3 [mixI M f s 0 4, mixI M f s 1 4, 0, 0] [mixI M f s 0 4, mixI M f s 1 4, mixI M f s 2 4, 0] (by omega) (by decide) rfl rfl rfl rfl rfl]
  rw [mix_step f s hf hs hr (16 + (k + 7)) (k + 1) 3 3 4 [mixI M f s 0 4, mixI M f s 1 4, mixI M f s 2 4, 0] [mixI M f s 0 4, mixI M f s 1 4, mixI M f s 2 4, mixI M f s 3 4] (by omega) (by decide) rfl rfl rfl rfl rfl]
  rw [show 16 + (k + 1) = (16 + k) + 1 by omega]
  simp only [spec_l3Mix.l0]
  rw [if_neg (by decide)]
  rfl
theorem FnExactMixColumn : laws_FnExactMixColumn.Pure := by
  intro a0 h0
  refine ⟨16 + 0 + 25, ?_⟩
  obtain ⟨K, hK⟩ : ∃ K, K = 16 + 0 + 25 := ⟨_, rfl⟩
  rw [← hK]
  have main : ∃ r, spec_MixColumn.f K a0 = some r ∧ impl_MixColumn.f a0 = some r := by
    unfold spec_MixColumn.f impl_MixColumn.f
    by_cases h : a0.size = 4
    · have hm := mix_tells [2, 3, 1, 1] (bytesOf a0) rfl (by rw [bytesOf_length]; exact h) (bytes_range a0) K 0 hK
      rw [if_pos (by omega), if_pos (by omega), hm, if_pos h]
      exact ⟨_, rfl, rfl⟩
    · rw [if_neg (by omega), if_neg h]
      exact ⟨_, rfl, rfl⟩
  obtain ⟨r, e1, e2⟩ := main
  unfold laws_FnExactMixColumn.f
  rw [e1, e2, Option.bind_some, Option.bind_some, if_pos rfl]
  have e : (r.2 != r.2) = false := by simp
  rw [e]
  split <;> rfl

end Go.Proofs.Ytimokakcdmcnnaa.Pure
