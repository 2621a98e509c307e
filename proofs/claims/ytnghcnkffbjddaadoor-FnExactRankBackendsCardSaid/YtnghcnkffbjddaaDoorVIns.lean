/- slices.Insert of one string, on a row of the call's own. Conditions: at most 1048576 elements. -/
import Derived.Test.YtnghcnkffbjddaaDoorVIShelf
import Derived.Test.YtnghcnkffbjddaaDoorVDrop
import Derived.Test.YtnghcnkffbjddaaDoorVWb
namespace Go.Proofs.YtnghcnkffbjddaaDoorV.Aes
open Go.RowKit Go.Proofs.YtnghcnkffbjddaaDoorV.PrintWords Go.Proofs.YtnghcnkffbjddaaDoorV.PrintLast Go.Proofs.YtnghcnkffbjddaaDoorV.PrintMore Go.Proofs.YtnghcnkffbjddaaDoorV.Mem
set_option linter.unusedVariables false
set_option linter.unusedSimpArgs false

theorem rowR {w : World} {base g cap n : Nat} {cur : Array Value} {l : List ByteArray} (hn : n = l.length) (hr : RowAt w g cur 9) (hb : base ≤ g) (h1 : n ≤ cap) (h2 : cap ≤ maxLen) (h3 : cur.size = cap) (h4 : cur.toList.take n = encs Value.string l) :
    Kd.R Kd.string 9 w base (fun _ => True) (.slice (some ⟨g, 0, none⟩) n cap) l := by
  subst hn
  exact Kd.R_of_own ⟨by simp [encs], .inr ⟨g, cap, cur, rfl, hb, hr, h1, h2, by simpa using h3, by simpa using h4⟩⟩ (fun _ _ => trivial)
end Go.Proofs.YtnghcnkffbjddaaDoorV.Aes
