/- The statement over numbers and lists that is left of the law FnExactVarintSize: the program's function and the reference's tell the same for all arguments. Conditions: none beyond the kinds' own bounds. -/
import Derived.Test.YtmkoigkgmjbaiaaPFnExactVarintSizex1
set_option linter.unusedVariables false
set_option linter.unusedSimpArgs false
namespace Go.Proofs.Ytmkoigkgmjbaiaa.Pure
open Go.RowKit Go.Proofs.Ytmkoigkgmjbaiaa.PFnExactVarintSize Go.Proofs.YtmkoigkgmjbaiaaW.PrintWords Go.Proofs.YtmkoigkgmjbaiaaW.PrintLast

theorem FnExactVarintSize : laws_FnExactVarintSize.Pure := by
  intro n _
  unfold laws_FnExactVarintSize.f spec_VarintSize.f impl_VarintSize.f impl_isVarint.f spec_l1Known.f
  have e : spec_l1In.f = impl_in.f := rfl
  have e2 : spec_l1Size.f = impl_varintSize.f := rfl
  rw [e, e2]
  obtain ⟨b, hb⟩ : ∃ b, impl_in.f n 0 4611686018427387903 = some b := by unfold impl_in.f; split <;> exact ⟨_, rfl⟩
  obtain ⟨z, hz⟩ : ∃ z, impl_varintSize.f n = some z := by
    unfold impl_varintSize.f
    repeat' split
    all_goals exact ⟨_, rfl⟩
  rw [hb, hz]
  cases b <;> simp

end Go.Proofs.Ytmkoigkgmjbaiaa.Pure
