/- The statement over numbers and lists that is left of the law FnExactKindOf: the program's function and the reference's tell the same for all arguments. Conditions: none beyond the kinds' own bounds. -/
import Derived.Test.YtlohefjigggjiaaPFnExactKindOfx1
set_option linter.unusedVariables false
set_option linter.unusedSimpArgs false
namespace Go.Proofs.Ytlohefjigggjiaa.Pure
open Go.RowKit Go.Proofs.Ytlohefjigggjiaa.PFnExactKindOf Go.Proofs.YtlohefjigggjiaaV.PrintWords Go.Proofs.YtlohefjigggjiaaV.PrintLast

theorem in_some (a b c : Int) : impl_in.f a b c = some (decide (b ≤ a) && decide (a ≤ c)) := by
  unfold impl_in.f
  by_cases h : a ≥ b
  · rw [if_pos h]; simp [show b ≤ a from h]
  · rw [if_neg h]; simp [show ¬ b ≤ a from h]
theorem good_same : spec_GoodConfig.f = impl_GoodConfig.f := rfl
theorem good_some (a b c : Int) (s : ByteArray) (t : Bool) : ∃ g, impl_GoodConfig.f a b c s t = some g := by
  unfold impl_GoodConfig.f impl_isKey.f
  simp only [in_some, Option.bind_some]
  repeat' split
  all_goals exact ⟨_, rfl⟩
theorem kind_both (a b c : Int) (s : ByteArray) (t : Bool) : ∃ r x, spec_l7Kind.f a b c s t = some r ∧ impl_IdConfig_kind.f a b c s t = some (r, x) := by
  unfold spec_l7Kind.f impl_IdConfig_kind.f
  by_cases h1 : s.toList = ([] : List UInt8)
  · rw [if_pos h1, if_pos h1]; exact ⟨_, _, rfl, rfl⟩
  rw [if_neg h1, if_neg h1]
  by_cases h2 : wrap64 (b + c) = 16
  · rw [if_pos h2, if_pos h2]; exact ⟨_, _, rfl, rfl⟩
  rw [if_neg h2, if_neg h2]; exact ⟨_, _, rfl, rfl⟩

theorem FnExactKindOf : laws_FnExactKindOf.Pure := by
  intro a b c s t _ _ _ _
  obtain ⟨g, hg⟩ := good_some a b c s t
  obtain ⟨r, x, h1, h2⟩ := kind_both a b c s t
  obtain ⟨z, hz⟩ : ∃ z, laws_szIdConfig.f a b c s t 1048576 = some z := by unfold laws_szIdConfig.f; split <;> exact ⟨_, rfl⟩
  unfold laws_FnExactKindOf.f laws_toIdConfig.f spec_KindOf.f impl_KindOf.f
  simp only [good_same, hz, hg, h1, h2, Option.bind_some]
  split
  · rfl
  · cases g <;> simp

end Go.Proofs.Ytlohefjigggjiaa.Pure
