/- The row of the law laws_FnExactInstallConfig: whatever the arguments, it returns true. Conditions: none. -/
import Derived.Test.YtnghcnkffbjddaaDoorRows
import Derived.Test.YtnghcnkffbjddaaDoorCards
import Derived.Test.YtnghcnkffbjddaaDoorTie
import Derived.Test.YtnghcnkffbjddaaDoorVWorld
import Derived.SevenTiedAt
import Derived.Handed
import Derived.Test.YtnghcnkffbjddaaDoorVLiftI
import Derived.Test.YtnghcnkffbjddaaDoorVOpen
import Derived.WalkKit
import Derived.ProofKit
import Derived.OpenShut
import Derived.ShutString
import Derived.ChangeOld
import Derived.Below
import Derived.SizedLaws
import Derived.Deep.Slices
import Derived.Deep.Fields
import Derived.ChangeSame
namespace Go.Proofs.YtnghcnkffbjddaaDoor.fnExactInstallConfig
open Go.ChangeShapes Go.WideShapes Go.ChangeAt Go.RowKit Go.Deep Go.Proofs.YtnghcnkffbjddaaDoorV.PrintWords Go.Proofs.YtnghcnkffbjddaaDoor.PImplM Go.Proofs.YtnghcnkffbjddaaDoorV.Aes
open Go.ChangeMaps (open_string shut_string)
set_option linter.unusedVariables false
set_option linter.unusedSimpArgs false
theorem j1 : (Rows.fnExactInstallConfigRow.inPlace == Tryd.pinned.checked.prog.inPlace 8) = true := by kernel_rfl
theorem j2 : (Rows.fnExactInstallConfigRow.unfollowed == Tryd.pinned.checked.prog.unfollowed 8) = true := by kernel_rfl
theorem j3 : (Rows.fnExactInstallConfigRow.recurses == Tryd.pinned.checked.prog.recurses 8) = true := by kernel_rfl
theorem j4 : (Rows.fnExactInstallConfigRow.named == Tryd.pinned.checked.prog.varsNamed 8) = true := by kernel_rfl
theorem closed : joinedFacts Tryd.pinned.checked.prog 8 Tryd.f8 Rows.fnExactInstallConfigSpec Rows.fnExactInstallConfigRow = true := by
  unfold joinedFacts
  rw [j1, j2, j3, j4]
  kernel_rfl
theorem over : Rows.fnExactInstallConfigRow.holds Tryd.pinned (OpenSpec.ofChange Rows.fnExactInstallConfigSpec) :=
  OpenClaim.holds_of_wide 8 Tryd.f8 rfl rfl rfl rfl rfl rfl rfl ⟨rfl, rfl, rfl, rfl, rfl⟩ rfl rfl rfl rfl rfl (by kernel_rfl) Tryd.func8 closed
    (of_decide_eq_true (by kernel_rfl)) (by unfold Func.isWrapper; first | (rw [if_pos (by decide +kernel)]; kernel_rfl) | (rw [if_neg (by decide +kernel)]; exact ⟨rfl, rfl⟩))
    (fun os started H enc _ => lifted os started H enc)
end Go.Proofs.YtnghcnkffbjddaaDoor.fnExactInstallConfig
