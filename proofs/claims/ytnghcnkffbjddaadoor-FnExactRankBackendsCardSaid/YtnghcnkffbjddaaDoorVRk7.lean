/- The reference's PickBackend. Conditions: texts of at most 1048576 bytes. -/
import Derived.Test.YtnghcnkffbjddaaDoorVRk6
import Derived.Test.YtnghcnkffbjddaaDoorPSpecOx1
import Derived.Lib.Hide
import Derived.Deep.LoopGhost
namespace Go.Proofs.YtnghcnkffbjddaaDoorV.Aes
open Go.RowKit Go.Proofs.YtnghcnkffbjddaaDoorV.PrintWords Go.Proofs.YtnghcnkffbjddaaDoorV.PrintLast Go.Proofs.YtnghcnkffbjddaaDoorV.PrintMore Go.Proofs.YtnghcnkffbjddaaDoorV.Mem
set_option linter.unusedVariables false
set_option linter.unusedSimpArgs false

open Go.Proofs.YtnghcnkffbjddaaDoor.PSpecO
theorem rdS_D (l : List ByteArray) (xi : Int) (h0 : 0 ≤ xi) (h1 : xi < l.length) : ∃ s, l.drop xi.toNat = s :: l.drop (xi + 1).toNat ∧ rdOf ByteArray.empty l xi = s ∧ s ∈ l := by
  obtain ⟨i, rfl⟩ := Int.eq_ofNat_of_zero_le h0
  have hi : i < l.length := by omega
  refine ⟨l[i]'hi, ?_, rdS l i hi, List.getElem_mem hi⟩
  rw [Int.toNat_natCast, show ((i : Int) + 1).toNat = i + 1 by omega]
  exact List.drop_eq_getElem_cons hi
end Go.Proofs.YtnghcnkffbjddaaDoorV.Aes
