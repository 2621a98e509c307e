/- The statement over numbers and lists that is left of the law FnExactRoundWords: the program's function and the reference's tell the same for all arguments. Conditions: none beyond the kinds' own bounds. -/
import Derived.Test.YtnkakkfjfjeaeaaPFnExactRoundWordsx1
set_option linter.unusedVariables false
set_option linter.unusedSimpArgs false
namespace Go.Proofs.Ytnkakkfjfjeaeaa.Pure
open Go.RowKit Go.Proofs.Ytnkakkfjfjeaeaa.PFnExactRoundWords Go.Proofs.YtnkakkfjfjeaeaaV.PrintWords Go.Proofs.YtnkakkfjfjeaeaaV.PrintLast

set_option maxRecDepth 1000000 in
theorem FnExactRoundWords : laws_FnExactRoundWords.Pure := ⟨300, by decide +kernel⟩

end Go.Proofs.Ytnkakkfjfjeaeaa.Pure
