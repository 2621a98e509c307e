/- The statement over numbers and lists that is left of the law FnExactCoverOf: the program's function and the reference's tell the same for all arguments. Conditions: none beyond the kinds' own bounds. -/
import Derived.Test.YtimokakcdmcnnaaPFnExactCoverOfx1
set_option linter.unusedVariables false
set_option linter.unusedSimpArgs false
namespace Go.Proofs.Ytimokakcdmcnnaa.Pure
open Go.RowKit Go.Proofs.Ytimokakcdmcnnaa.PFnExactCoverOf Go.Proofs.YtimokakcdmcnnaaV.PrintWords Go.Proofs.YtimokakcdmcnnaaV.PrintLast

theorem enc_size (a b : ByteArray) : (Go.Proofs.YtimokakcdmcnnaaV.Aes.encS a b).size = 16 := by
  unfold Go.Proofs.YtimokakcdmcnnaaV.Aes.encS
  rw [← Go.Proofs.YtimokakcdmcnnaaV.Aes.encN_length (Go.Proofs.YtimokakcdmcnnaaV.Aes.KS a) Go.Proofs.YtimokakcdmcnnaaV.Aes.BX (bytesOf b) 10]
  simp [strOfNums, ByteArray.size]
theorem FnExactCoverOf : laws_FnExactCoverOf.Pure := by
  intro a b _ _
  have main : ∃ r, spec_CoverOf.f a b = some r ∧ impl_CoverOf.f a b = some r := by
    unfold spec_CoverOf.f impl_CoverOf.f impl_AesBlock.f spec_l3Block.f
    by_cases g : a.size = 16 ∧ b.size = 16
    · have hs := enc_size a b
      have h0 : (0 : Nat) ≤ 5 := by decide
      have h5 : (5 : Int) ≤ ((Go.Proofs.YtimokakcdmcnnaaV.Aes.encS a b).size : Int) := by omega
      rw [if_pos g, if_pos g, if_pos (by omega), if_pos (by omega), Option.bind_some, Option.bind_some, if_pos rfl]
      refine ⟨((Go.Proofs.YtimokakcdmcnnaaV.Aes.encS a b).extract 0 5, true), ?_, ?_⟩
      · rw [if_pos h0, if_pos h5]
      · show (if (0 : Nat) ≤ 5 then (if (5 : Int) ≤ ((Go.Proofs.YtimokakcdmcnnaaV.Aes.encS a b).size : Int) then _ else _) else _) = _
        rw [if_pos h0, if_pos h5]
    · rw [if_neg g, if_neg g, Option.bind_some]
      by_cases g1 : a.size = 16
      · have g2 : ¬ b.size = 16 := fun e => g ⟨g1, e⟩
        rw [if_pos (by omega), if_neg (by omega)]
        exact ⟨_, rfl, rfl⟩
      · rw [if_neg (by omega)]
        exact ⟨_, rfl, rfl⟩
  obtain ⟨r, h1, h2⟩ := main
  unfold laws_FnExactCoverOf.f
  rw [h1, h2, Option.bind_some, Option.bind_some, if_pos rfl]
  have e : (r.2 != r.2) = false := by simp
  rw [e]
  split
  · rfl
  · split <;> rfl

end Go.Proofs.Ytimokakcdmcnnaa.Pure
