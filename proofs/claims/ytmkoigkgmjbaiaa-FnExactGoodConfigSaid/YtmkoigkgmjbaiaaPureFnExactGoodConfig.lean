/- The statement over numbers and lists that is left of the law FnExactGoodConfig: the program's function and the reference's tell the same for all arguments. Conditions: none beyond the kinds' own bounds. -/
import Derived.Test.YtmkoigkgmjbaiaaPFnExactGoodConfigx1
set_option linter.unusedVariables false
set_option linter.unusedSimpArgs false
namespace Go.Proofs.Ytmkoigkgmjbaiaa.Pure
open Go.RowKit Go.Proofs.Ytmkoigkgmjbaiaa.PFnExactGoodConfig Go.Proofs.YtmkoigkgmjbaiaaV.PrintWords Go.Proofs.YtmkoigkgmjbaiaaV.PrintLast

theorem in_some (a b c : Int) : impl_in.f a b c = some (decide (b ≤ a) && decide (a ≤ c)) := by
  unfold impl_in.f
  by_cases h : a ≥ b
  · rw [if_pos h]; simp [show b ≤ a from h]
  · rw [if_neg h]; simp [show ¬ b ≤ a from h]
theorem good_same : spec_GoodConfig.f = impl_GoodConfig.f := rfl
theorem good_some (a b c : Int) (s : ByteArray) (t : Bool) : ∃ g, impl_GoodConfig.f a b c s t = some g := by
  unfold impl_GoodConfig.f impl_isKey.f
  simp only [in_some, Option.bind_some]
  repeat' split
  all_goals exact ⟨_, rfl⟩

theorem FnExactGoodConfig : laws_FnExactGoodConfig.Pure := by
  intro a b c s t _ _ _ _
  obtain ⟨g, hg⟩ := good_some a b c s t
  obtain ⟨z, hz⟩ : ∃ z, laws_szIdConfig.f a b c s t 1048576 = some z := by unfold laws_szIdConfig.f; split <;> exact ⟨_, rfl⟩
  unfold laws_FnExactGoodConfig.f laws_toIdConfig.f
  simp only [good_same, hz, hg, Option.bind_some]
  split
  · rfl
  · simp

end Go.Proofs.Ytmkoigkgmjbaiaa.Pure
