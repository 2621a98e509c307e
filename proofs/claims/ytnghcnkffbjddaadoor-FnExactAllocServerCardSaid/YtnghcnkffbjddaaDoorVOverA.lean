/- The row of the law laws_FnExactAllocServer: whatever the arguments, it returns true. Conditions: none. -/
import Derived.Test.YtnghcnkffbjddaaDoorRows
import Derived.Test.YtnghcnkffbjddaaDoorCards
import Derived.Test.YtnghcnkffbjddaaDoorTie
import Derived.Test.YtnghcnkffbjddaaDoorVWorld
import Derived.SevenTiedAt
import Derived.Handed
import Derived.Test.YtnghcnkffbjddaaDoorVLiftA
import Derived.Test.YtnghcnkffbjddaaDoorVOpen
import Derived.WalkKit
import Derived.ProofKit
import Derived.OpenShut
import Derived.ShutString
import Derived.ChangeOld
import Derived.Below
import Derived.SizedLaws
import Derived.Deep.Slices
import Derived.Deep.Fields
import Derived.ChangeSame
namespace Go.Proofs.YtnghcnkffbjddaaDoor.fnExactAllocServer
open Go.ChangeShapes Go.WideShapes Go.ChangeAt Go.RowKit Go.Deep Go.Proofs.YtnghcnkffbjddaaDoorV.PrintWords Go.Proofs.YtnghcnkffbjddaaDoor.PImplM Go.Proofs.YtnghcnkffbjddaaDoorV.Aes
open Go.ChangeMaps (open_string shut_string)
set_option linter.unusedVariables false
set_option linter.unusedSimpArgs false
theorem j1 : (Rows.fnExactAllocServerRow.inPlace == Tryd.pinned.checked.prog.inPlace 10) = true := by kernel_rfl
theorem j2 : (Rows.fnExactAllocServerRow.unfollowed == Tryd.pinned.checked.prog.unfollowed 10) = true := by kernel_rfl
theorem j3 : (Rows.fnExactAllocServerRow.recurses == Tryd.pinned.checked.prog.recurses 10) = true := by kernel_rfl
theorem j4 : (Rows.fnExactAllocServerRow.named == Tryd.pinned.checked.prog.varsNamed 10) = true := by kernel_rfl
theorem closed : joinedFacts Tryd.pinned.checked.prog 10 Tryd.f10 Rows.fnExactAllocServerSpec Rows.fnExactAllocServerRow = true := by
  unfold joinedFacts
  rw [j1, j2, j3, j4]
  kernel_rfl
theorem over : Rows.fnExactAllocServerRow.holds Tryd.pinned (OpenSpec.ofChange Rows.fnExactAllocServerSpec) :=
  OpenClaim.holds_of_wide 10 Tryd.f10 rfl rfl rfl rfl rfl rfl rfl ⟨rfl, rfl, rfl, rfl, rfl⟩ rfl rfl rfl rfl rfl (by kernel_rfl) Tryd.func10 closed
    (of_decide_eq_true (by kernel_rfl)) (by unfold Func.isWrapper; first | (rw [if_pos (by decide +kernel)]; kernel_rfl) | (rw [if_neg (by decide +kernel)]; exact ⟨rfl, rfl⟩))
    (fun os started H enc _ => lifted os started H enc)
end Go.Proofs.YtnghcnkffbjddaaDoor.fnExactAllocServer
