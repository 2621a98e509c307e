/- Shared lemmas and walks of the AES laws of this seat. -/
import Derived.Test.YtimokakcdmcnnaaVId1
namespace Go.Proofs.YtimokakcdmcnnaaV.Aes
open Go.RowKit Go.Proofs.YtimokakcdmcnnaaV.PrintWords Go.Proofs.YtimokakcdmcnnaaV.PrintLast Go.Proofs.YtimokakcdmcnnaaV.PrintMore Go.Proofs.YtimokakcdmcnnaaV.Mem
set_option linter.unusedVariables false
set_option linter.unusedSimpArgs false

open Go.Proofs.Ytimokakcdmcnnaa.PImplE
theorem EncodeId_yes (a b c : Int) (k : ByteArray) (t : Bool) (s n : ByteArray) (sp : Int) (g : EncOk a b c k s n sp) (w : World) :
    Calls Try.prog 44 #[.agg #[.int .i64 a, .int .i64 b, .int .i64 c, .string k, .bool t], .string s, .string n, .int .i64 sp] w (Told4 (encOut a b c k t s n sp) true w) := by
  have hsz : ((s ++ n).size : Int) = b + c := by
    rw [ByteArray.size_append]
    have h1 := g.2.1
    have h2 := g.2.2.1
    omega
  have hk := g.1.2.2.2.2
  unfold encOut encBody
  rw [hsz]
  by_cases hk0 : k.size = 0
  · rw [if_pos hk0]
    cases t
    · rw [if_neg (by decide)]; exact Enc_f0 a b c k s n sp g hk0 w
    · rw [if_pos rfl]; exact Enc_t0 a b c k s n sp g hk0 w
  · have h16 : k.size = 16 := hk.resolve_left hk0
    rw [if_neg hk0]
    by_cases hbc : b + c = 16
    · rw [if_pos hbc]
      cases t
      · rw [if_neg (by decide)]; exact Enc_f1 a b c k s n sp g h16 hbc w
      · rw [if_pos rfl]; exact Enc_t1 a b c k s n sp g h16 hbc w
    · rw [if_neg hbc]
      cases t
      · rw [if_neg (by decide)]; exact Enc_f2 a b c k s n sp g h16 hbc w
      · rw [if_pos rfl]; exact Enc_t2 a b c k s n sp g h16 hbc w
set_option maxHeartbeats 4000000 in
set_option maxRecDepth 100000 in
theorem EncodeId_no (a b c : Int) (k : ByteArray) (t : Bool) (s n : ByteArray) (sp : Int) (g : ¬ EncOk a b c k s n sp) (w : World) :
    Calls Try.prog 44 #[.agg #[.int .i64 a, .int .i64 b, .int .i64 c, .string k, .bool t], .string s, .string n, .int .i64 sp] w (Told4 ⟨#[]⟩ false w) := by
  have hm0 := made37 w a b c k t
  have hB0 := below_alloc (Below.refl w.heap.size w) (.cells #[.int .i64 a, .int .i64 b, .int .i64 c, .string k, .bool t] 37 (0, 0))
  have hHG := good_walk a b c k t
  by_cases hg : GoodC a b c k
  · rw [decide_eq_true hg] at hHG
    by_cases hsb : (s.size : Int) = b
    · have hne1 : ((s.size : Int) != b) = false := by simp [hsb]
      by_cases hnc : (n.size : Int) = c
      · have hne2 : ((n.size : Int) != c) = false := by simp [hnc]
        have hin := in4_no sp 0 31 (fun e => g ⟨hg, hsb, hnc, e.1, e.2⟩)
        have e1 : (s.size : Int) = b := hsb
        have e2 : (n.size : Int) = c := hnc
        clear g hg
        go_enter Try.func44, Try.ntmps44
        go_wp2_with (first
          | (go_at_call 79; refine (hHG _).mono ?_; rintro e w1 ⟨rfl, hb1⟩; have IS := hm0.below hb1; have HB := hB0.trans (hb1.mono hB0.size); obtain ⟨f0, f1, f2, f3, f4⟩ := cells37 IS; clear hm0 hB0 hb1)
          | (go_at_call 70; refine (hin _).mono ?_; rintro e w2 ⟨rfl, rfl⟩))
        go_ret2
        exact ⟨rfl, HB⟩
      · have hne2 : ((n.size : Int) != c) = true := by simp [hnc]
        have e1 : (s.size : Int) = b := hsb
        clear g hg
        go_enter Try.func44, Try.ntmps44
        go_wp2_with (go_at_call 79; refine (hHG _).mono ?_; rintro e w1 ⟨rfl, hb1⟩; have IS := hm0.below hb1; have HB := hB0.trans (hb1.mono hB0.size); obtain ⟨f0, f1, f2, f3, f4⟩ := cells37 IS; clear hm0 hB0 hb1)
        go_ret2
        exact ⟨rfl, HB⟩
    · have hne1 : ((s.size : Int) != b) = true := by simp [hsb]
      clear g hg
      go_enter Try.func44, Try.ntmps44
      go_wp2_with (go_at_call 79; refine (hHG _).mono ?_; rintro e w1 ⟨rfl, hb1⟩; have IS := hm0.below hb1; have HB := hB0.trans (hb1.mono hB0.size); obtain ⟨f0, f1, f2, f3, f4⟩ := cells37 IS; clear hm0 hB0 hb1)
      go_ret2
      exact ⟨rfl, HB⟩
  · rw [decide_eq_false hg] at hHG
    clear g hg
    go_enter Try.func44, Try.ntmps44
    go_wp2_with (go_at_call 79; refine (hHG _).mono ?_; rintro e w1 ⟨rfl, hb1⟩; have IS := hm0.below hb1; have HB := hB0.trans (hb1.mono hB0.size); obtain ⟨f0, f1, f2, f3, f4⟩ := cells37 IS; clear hm0 hB0 hb1)
    go_ret2
    exact ⟨rfl, HB⟩
end Go.Proofs.YtimokakcdmcnnaaV.Aes
