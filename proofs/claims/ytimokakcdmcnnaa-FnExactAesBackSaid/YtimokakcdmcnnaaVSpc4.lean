/- Shared lemmas and walks of the AES laws of this seat. -/
import Derived.Test.YtimokakcdmcnnaaVSpc3
import Derived.Test.YtimokakcdmcnnaaPSpecAx4
namespace Go.Proofs.YtimokakcdmcnnaaV.Aes
open Go.RowKit Go.Proofs.YtimokakcdmcnnaaV.PrintWords Go.Proofs.YtimokakcdmcnnaaV.PrintLast Go.Proofs.YtimokakcdmcnnaaV.PrintMore Go.Proofs.YtimokakcdmcnnaaV.Mem
set_option linter.unusedVariables false
set_option linter.unusedSimpArgs false

open Go.Proofs.Ytimokakcdmcnnaa.PSpecA
theorem specUnsub_walk (a : Int) (w : World) : Calls Try.prog 19 #[.int .i64 a] w fun e w' => e = .returned (.int .i64 (Un (a % 256).toNat : Int)) ∧ Below w.heap.size w w' := by
  have hn : (a % 256).toNat < 256 := by omega
  obtain ⟨n, hnd⟩ : ∃ n : Nat, a % 256 = (n : Int) := ⟨(a % 256).toNat, by omega⟩
  have hn2 : (a % 256).toNat = n := by omega
  rw [hn2] at hn ⊢
  have hu := Un_lt n hn
  have h : spec_UnsubByte.f 21 a = some (Un n : Int) := by
    unfold spec_UnsubByte.f
    rw [hnd, l3Unsub_tells 21 n hn (by decide), Option.bind_some, wrapS (Un n : Int) (Un n : Int) rfl (by omega) (by omega)]
  refine (spec_UnsubByte.calls 21 a _ w h).mono ?_
  rintro e w' ⟨he, hd⟩
  exact ⟨he, hd.below⟩
theorem specKeys_walk (s : ByteArray) (w : World) : Calls Try.prog 21 #[.string s] w fun e w' => e = .returned (if s.size = 16 then .tuple #[.string (strOfNums (KS s)), .bool true] else .tuple #[.string ⟨#[]⟩, .bool false]) ∧ Below w.heap.size w w' := by
  by_cases g : s.size = 16
  · rw [if_pos g]
    have h : Ev (fun k => spec_RoundKeys.f k s) (strOfNums (KS s), true) := by
      have h1 := Ev.bind (f := fun _ t => some (strOfNums t, true)) (ev_keys s g) (Ev.now _)
      refine Ev.congr (fun k => ?_) h1
      unfold spec_RoundKeys.f
      rw [if_pos (by omega)]
    obtain ⟨k, hk⟩ := h.rounds
    exact spec_RoundKeys.calls k s _ _ w hk
  · rw [if_neg g]
    have h : spec_RoundKeys.f 0 s = some (⟨#[]⟩, false) := by
      unfold spec_RoundKeys.f
      rw [if_neg (by omega)]
    exact spec_RoundKeys.calls 0 s _ _ w h
theorem specL3Block_walk (a b : ByteArray) (ha : a.size = 16) (hb : b.size = 16) (w : World) : Calls Try.prog 58 #[.string a, .string b] w fun e w' => e = .returned (.string (encS a b)) ∧ Below w.heap.size w w' := by
  obtain ⟨k, hk⟩ := (ev_block a b ha hb).rounds
  exact spec_l3Block.calls k a b _ w hk
theorem specBlock_walk (a b : ByteArray) (w : World) : Calls Try.prog 25 #[.string a, .string b] w fun e w' => e = .returned (if a.size = 16 ∧ b.size = 16 then .tuple #[.string (encS a b), .bool true] else .tuple #[.string ⟨#[]⟩, .bool false]) ∧ Below w.heap.size w w' := by
  by_cases g : a.size = 16 ∧ b.size = 16
  · rw [if_pos g]
    have h : Ev (fun k => spec_AesBlock.f k a b) (encS a b, true) := by
      have h1 := Ev.bind (f := fun _ t => some (t, true)) (ev_block a b g.1 g.2) (Ev.now _)
      refine Ev.congr (fun k => ?_) h1
      unfold spec_AesBlock.f
      rw [if_pos (by omega), if_pos (by omega)]
    obtain ⟨k, hk⟩ := h.rounds
    exact spec_AesBlock.calls k a b _ _ w hk
  · rw [if_neg g]
    have h : spec_AesBlock.f 0 a b = some (⟨#[]⟩, false) := by
      unfold spec_AesBlock.f
      by_cases g1 : a.size = 16
      · have g2 : ¬ b.size = 16 := fun e => g ⟨g1, e⟩
        rw [if_pos (by omega), if_neg (by omega)]
      · rw [if_neg (by omega)]
    exact spec_AesBlock.calls 0 a b _ _ w h
end Go.Proofs.YtimokakcdmcnnaaV.Aes
