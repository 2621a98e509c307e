/- The statement over numbers and lists that is left of the law FnExactUnsubByte: the program's function and the reference's tell the same for all arguments. Conditions: none beyond the kinds' own bounds. -/
import Derived.Test.YtimokakcdmcnnaaPFnExactUnsubBytex1
set_option linter.unusedVariables false
set_option linter.unusedSimpArgs false
namespace Go.Proofs.Ytimokakcdmcnnaa.Pure
open Go.RowKit Go.Proofs.Ytimokakcdmcnnaa.PFnExactUnsubByte Go.Proofs.YtimokakcdmcnnaaV.PrintWords Go.Proofs.YtimokakcdmcnnaaV.PrintLast

theorem FnExactUnsubByte : laws_FnExactUnsubByte.Pure := by
  intro a _
  unfold laws_FnExactUnsubByte.f spec_UnsubByte.f impl_UnsubByte.f
  rw [Option.bind_some, Option.bind_some, if_pos rfl]

end Go.Proofs.Ytimokakcdmcnnaa.Pure
