/- slices.Clone and slices.Delete at strings, on rows of the call's own. Conditions: at most 1048576 elements. -/
import Derived.Test.YtnghcnkffbjddaaDoorVDShelf
import Derived.Test.YtnghcnkffbjddaaDoorVWb
import Derived.WalkSpells
import Derived.Sort.OwnSorted
namespace Go.Proofs.YtnghcnkffbjddaaDoorV.Aes
open Go.RowKit Go.Proofs.YtnghcnkffbjddaaDoorV.PrintWords Go.Proofs.YtnghcnkffbjddaaDoorV.PrintLast Go.Proofs.YtnghcnkffbjddaaDoorV.PrintMore Go.Proofs.YtnghcnkffbjddaaDoorV.Mem
set_option linter.unusedVariables false
set_option linter.unusedSimpArgs false

open Go.Sort
end Go.Proofs.YtnghcnkffbjddaaDoorV.Aes
