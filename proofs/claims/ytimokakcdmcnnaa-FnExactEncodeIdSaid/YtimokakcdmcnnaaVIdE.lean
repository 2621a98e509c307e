/- Shared lemmas and walks of the AES laws of this seat. -/
import Derived.Test.YtimokakcdmcnnaaVId2
import Derived.Test.YtimokakcdmcnnaaVFour2
import Derived.Test.YtimokakcdmcnnaaPSpecGx1
namespace Go.Proofs.YtimokakcdmcnnaaV.Aes
open Go.RowKit Go.Proofs.YtimokakcdmcnnaaV.PrintWords Go.Proofs.YtimokakcdmcnnaaV.PrintLast Go.Proofs.YtimokakcdmcnnaaV.PrintMore Go.Proofs.YtimokakcdmcnnaaV.Mem
set_option linter.unusedVariables false
set_option linter.unusedSimpArgs false

open Go.Proofs.Ytimokakcdmcnnaa.PSpecG
theorem sgood_told (a b c : Int) (k : ByteArray) (t : Bool) : spec_GoodConfig.f a b c k t = some (decide (GoodC a b c k)) := by
  have h := good_told a b c k t
  unfold Go.Proofs.Ytimokakcdmcnnaa.PImplE.impl_GoodConfig.f Go.Proofs.Ytimokakcdmcnnaa.PImplE.impl_in.f Go.Proofs.Ytimokakcdmcnnaa.PImplE.impl_isKey.f at h
  unfold spec_GoodConfig.f spec_l1In.f
  exact h
theorem skind_told (a b c : Int) (k : ByteArray) (t : Bool) (hb : 0 ≤ b ∧ b ≤ 100) (hc : 0 ≤ c ∧ c ≤ 100) : spec_l7Kind.f a b c k t = some (kindN b c k) := by
  have e : wrap64 (b + c) = b + c := by unfold wrap64; omega
  unfold spec_l7Kind.f kindN
  rw [e]
  by_cases h : k.size = 0
  · rw [if_pos ((no_bytes k).2 h), if_pos h]
  · rw [if_neg (fun e => h ((no_bytes k).1 e)), if_neg h]
    split <;> rfl
theorem or_low : ∀ a : Fin 7, ∀ x : Fin 32, Go.bits .or .i64 (wrap64 (((a.val : Nat) : Int) * 32)) ((x.val : Nat) : Int) = ((a.val : Nat) : Int) * 32 + ((x.val : Nat) : Int) := by decide +kernel
theorem or_slot (a x : Int) (h0 : 0 ≤ a) (h1 : a ≤ 6) (x0 : 0 ≤ x) (x1 : x ≤ 31) : Go.bits .or .i64 (wrap64 (a * 32)) x = a * 32 + x := by
  obtain ⟨m, rfl⟩ := Int.eq_ofNat_of_zero_le h0
  obtain ⟨y, rfl⟩ := Int.eq_ofNat_of_zero_le x0
  exact or_low ⟨m, by omega⟩ ⟨y, by omega⟩
theorem ev_j0 (a b c : Int) (k : ByteArray) (t : Bool) (s n : ByteArray) (X : Int) (ha : 0 ≤ a ∧ a ≤ 6) (hb : 1 ≤ b ∧ b ≤ 15) (hc : 4 ≤ c ∧ c ≤ 18) (hbc : b + c ≤ 19) (hk : k.size = 0 ∨ k.size = 16) (hs : (s.size : Int) = b) (hn : (n.size : Int) = c) (x0 : 0 ≤ X) (x1 : X ≤ 31) :
    Ev (fun kk => spec_l7Encode.j0 kk s n X a b c k t) (strOfNums (be 1 (a * 32 + X)) ++ encBody b c k (s ++ n)) := by
  have hsz : (s ++ n).size = s.size + n.size := ByteArray.size_append
  have ho := or_slot a X ha.1 ha.2 x0 x1
  have hf : Ev (fun kk => spec_l1Fixed.f kk (Go.bits .or .i64 (wrap64 (a * 32)) X) 1) (strOfNums (be 1 (a * 32 + X))) := by rw [ho]; exact ev_fixed 1 (a * 32 + X) (by decide)
  have hfs : (strOfNums (be 1 (a * 32 + X))).size = 1 := by rw [str_size, be_length]
  have hkd := skind_told a b c k t ⟨by omega, by omega⟩ ⟨by omega, by omega⟩
  have hz : s.size + n.size ≤ 9223372036854775807 := by omega
  have fin : ∀ B : ByteArray, B.size ≤ 100 → Ev (fun kk => (spec_l1Fixed.f kk (Go.bits .or .i64 (wrap64 (a * 32)) X) 1).bind fun t109 => if t109.size + B.size ≤ 9223372036854775807 then some (t109 ++ B) else none) (strOfNums (be 1 (a * 32 + X)) ++ B) := fun B hB =>
    Ev.bind (f := fun _ t109 => if t109.size + B.size ≤ 9223372036854775807 then some (t109 ++ B) else none) hf (Ev.congr (fun _ => if_pos (by omega)) (Ev.now _))
  unfold encBody
  by_cases hk0 : k.size = 0
  · have hkn : kindN b c k = 0 := if_pos hk0
    rw [hkn] at hkd
    rw [if_pos hk0]
    refine Ev.step (fun kk => ?_) (fin (s ++ n) (by omega))
    simp only [spec_l7Encode.j0]
    rw [if_pos hz, hkd, Option.bind_some, if_neg (by decide), if_neg (by decide)]
  · have h16 : k.size = 16 := hk.resolve_left hk0
    rw [if_neg hk0]
    by_cases hb16 : b + c = 16
    · have hkn : kindN b c k = 1 := by unfold kindN; rw [if_neg hk0, if_pos hb16]
      rw [hkn] at hkd
      rw [if_pos hb16]
      have h2 := Ev.bind (f := fun kk E => (spec_l1Fixed.f kk (Go.bits .or .i64 (wrap64 (a * 32)) X) 1).bind fun t109 => if t109.size + E.size ≤ 9223372036854775807 then some (t109 ++ E) else none) (ev_block k (s ++ n) h16 (by omega)) (fin _ (by rw [encS_size]; omega))
      refine Ev.step (fun kk => ?_) h2
      simp only [spec_l7Encode.j0]
      rw [if_pos hz, hkd, Option.bind_some, if_pos rfl]
    · have hkn : kindN b c k = 2 := by unfold kindN; rw [if_neg hk0, if_neg hb16]
      rw [hkn] at hkd
      rw [if_neg hb16]
      have h2 := Ev.bind (f := fun kk E => (spec_l1Fixed.f kk (Go.bits .or .i64 (wrap64 (a * 32)) X) 1).bind fun t109 => if t109.size + E.size ≤ 9223372036854775807 then some (t109 ++ E) else none) (ev_passes k (s ++ n) [1, 2, 3, 4] (by decide) (by decide) h16 (by omega) (by omega)) (fin _ (by rw [fourS_size k (s ++ n) _ (by omega) (by omega)]; omega))
      refine Ev.step (fun kk => ?_) h2
      simp only [spec_l7Encode.j0]
      rw [if_pos hz, hkd, Option.bind_some, if_neg (by decide), if_pos rfl]
      rfl
theorem sEncodeId_yes (a b c : Int) (k : ByteArray) (t : Bool) (s n : ByteArray) (sp : Int) (g : EncOk a b c k s n sp) (w : World) :
    Calls Try.prog 42 #[.agg #[.int .i64 a, .int .i64 b, .int .i64 c, .string k, .bool t], .string s, .string n, .int .i64 sp] w (Told4 (encOut a b c k t s n sp) true w) := by
  obtain ⟨hg, hsb, hnc, hs0, hs1⟩ := g
  obtain ⟨ha, hb, hc, hbc, hk⟩ := hg
  have hsz : ((s ++ n).size : Int) = b + c := by
    rw [ByteArray.size_append]
    omega
  have e : wrap64 (b + c) = b + c := by unfold wrap64; omega
  have h : Ev (fun kk => spec_l7Encode.f kk a b c k t s n sp) (encOut a b c k t s n sp) := by
    unfold encOut
    rw [hsz]
    cases t with
    | true =>
      rw [if_pos rfl]
      refine Ev.congr (fun kk => ?_) (ev_j0 a b c k true s n (b + c) ha hb hc hbc hk hsb hnc (by omega) (by omega))
      unfold spec_l7Encode.f
      rw [if_pos rfl, e]
    | false =>
      rw [if_neg (by decide)]
      refine Ev.congr (fun kk => ?_) (ev_j0 a b c k false s n sp ha hb hc hbc hk hsb hnc hs0 hs1)
      unfold spec_l7Encode.f
      rw [if_neg (by decide)]
  have hin : spec_l1In.f sp 0 31 = some true := by
    unfold spec_l1In.f
    rw [if_pos (by omega), decide_eq_true hs1]
  have h2 : Ev (fun kk => spec_EncodeId.f kk a b c k t s n sp) (encOut a b c k t s n sp, true) := by
    refine Ev.congr (fun kk => ?_) (Ev.bind (f := fun _ r => some (r, true)) h (Ev.now _))
    unfold spec_EncodeId.f
    rw [sgood_told, decide_eq_true (show GoodC a b c k from ⟨ha, hb, hc, hbc, hk⟩), Option.bind_some, if_pos rfl, if_pos hsb, if_pos hnc, hin, Option.bind_some, if_pos rfl]
  obtain ⟨kk, hk2⟩ := h2.rounds
  exact spec_EncodeId.calls kk a b c k t s n sp _ _ w hk2
theorem sEncodeId_no (a b c : Int) (k : ByteArray) (t : Bool) (s n : ByteArray) (sp : Int) (g : ¬ EncOk a b c k s n sp) (w : World) :
    Calls Try.prog 42 #[.agg #[.int .i64 a, .int .i64 b, .int .i64 c, .string k, .bool t], .string s, .string n, .int .i64 sp] w (Told4 ⟨#[]⟩ false w) := by
  have h : spec_EncodeId.f 0 a b c k t s n sp = some (⟨#[]⟩, false) := by
    unfold spec_EncodeId.f
    rw [sgood_told, Option.bind_some]
    by_cases hg : GoodC a b c k
    · rw [decide_eq_true hg, if_pos rfl]
      by_cases hsb : (s.size : Int) = b
      · rw [if_pos hsb]
        by_cases hnc : (n.size : Int) = c
        · rw [if_pos hnc]
          have hin : spec_l1In.f sp 0 31 = some false := by
            unfold spec_l1In.f
            by_cases h0 : sp ≥ 0
            · rw [if_pos h0, decide_eq_false (fun h1 => g ⟨hg, hsb, hnc, h0, h1⟩)]
            · rw [if_neg h0]
          rw [hin, Option.bind_some, if_neg (by decide)]
        · rw [if_neg hnc]
      · rw [if_neg hsb]
    · rw [decide_eq_false hg, if_neg (by decide)]
  exact spec_EncodeId.calls 0 a b c k t s n sp _ _ w h
end Go.Proofs.YtimokakcdmcnnaaV.Aes
