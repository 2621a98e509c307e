/- The shelf's contract that this claim's walks call, laid at this program: slices.Delete at strings. No walk: one application. -/
import Derived.Shelf.Slices.Delete
import Derived.Ground.Names2Prog
import Derived.Test.YtnghcnkffbjddaaDoorProg
namespace Go.Proofs
open Go.Shelf
open Go.RowKit Go.Lib Go.Sort in
end Go.Proofs
