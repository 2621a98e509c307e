/- The program's PickBackend. -/
import Derived.Test.YtnghcnkffbjddaaDoorVRk4
import Derived.Lib.Hide
namespace Go.Proofs.YtnghcnkffbjddaaDoorV.Aes
open Go.RowKit Go.Proofs.YtnghcnkffbjddaaDoorV.PrintWords Go.Proofs.YtnghcnkffbjddaaDoorV.PrintLast Go.Proofs.YtnghcnkffbjddaaDoorV.PrintMore Go.Proofs.YtnghcnkffbjddaaDoorV.Mem
set_option linter.unusedVariables false
set_option linter.unusedSimpArgs false

open Go.Proofs.YtnghcnkffbjddaaDoor.PImplD
end Go.Proofs.YtnghcnkffbjddaaDoorV.Aes
