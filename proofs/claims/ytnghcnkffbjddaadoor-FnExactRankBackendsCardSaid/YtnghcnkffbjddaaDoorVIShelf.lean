/- The shelf's contracts of slices.Insert at strings, laid at this program. No walk. -/
import Derived.Shelf.Spec.SlicesInsertGrow
import Derived.Ground.Names2Prog
import Derived.Test.YtnghcnkffbjddaaDoorProg
namespace Go.Proofs
open Go.Shelf
open Go.RowKit Go.Lib in
end Go.Proofs
