/- The row of the law laws_FnExactInstallConfig: the tied card. Conditions: none. -/
import Derived.Test.YtnghcnkffbjddaaDoorRows
import Derived.Test.YtnghcnkffbjddaaDoorCards
import Derived.Test.YtnghcnkffbjddaaDoorTie
import Derived.Test.YtnghcnkffbjddaaDoorVWorld
import Derived.SevenTiedAt
import Derived.Handed
import Derived.Test.YtnghcnkffbjddaaDoorVOverI
import Derived.Test.YtnghcnkffbjddaaDoorVOpen
import Derived.WalkKit
import Derived.ProofKit
import Derived.OpenShut
import Derived.ShutString
import Derived.ChangeOld
import Derived.Below
import Derived.SizedLaws
import Derived.Deep.Slices
import Derived.Deep.Fields
import Derived.ChangeSame
namespace Go.Proofs.YtnghcnkffbjddaaDoor.fnExactInstallConfig
open Go.ChangeShapes Go.WideShapes Go.ChangeAt Go.RowKit Go.Deep Go.Proofs.YtnghcnkffbjddaaDoorV.PrintWords Go.Proofs.YtnghcnkffbjddaaDoor.PImplM Go.Proofs.YtnghcnkffbjddaaDoorV.Aes
open Go.ChangeMaps (open_string shut_string)
set_option linter.unusedVariables false
set_option linter.unusedSimpArgs false
theorem proved : Rows.FnExactInstallConfigSaid := over
set_option maxRecDepth 100000 in
theorem ws33 : Tryd.prog.wantsStandIn 33 = false := by kernel_rfl
set_option maxRecDepth 100000 in
theorem ws43 : Tryd.prog.wantsStandIn 43 = false := by kernel_rfl
theorem looksOff : Tryd.prog.looks [] = false := by kernel_rfl
/-- No parameter wants a stand-in; the program's own looks are off: what the card asks. -/
theorem plain (f : FuncId) (fn : Func) (hf : Tryd.pinned.checked.prog.funcNamed "loop.example/g00206/laws.FnExactInstallConfig" = some f) (hfn : Tryd.pinned.checked.prog.funcs[f]? = some fn) :
    false = Tryd.pinned.checked.prog.looks [] ∧ ∀ (j : Nat) t, fn.params[j]? = some t → Tryd.pinned.checked.prog.wantsStandIn t = false := by
  obtain rfl : f = 8 := Option.some.inj ((show Tryd.prog.funcNamed "loop.example/g00206/laws.FnExactInstallConfig" = some 8 by kernel_rfl).symm.trans hf) |>.symm
  obtain rfl : fn = Tryd.f8 := (Option.some.inj (Tryd.func8.symm.trans hfn)).symm
  refine ⟨looksOff.symm, fun j t ht => ?_⟩
  rw [Tryd.params8] at ht
  have hm := Array.mem_of_getElem? ht
  simp only [List.mem_toArray, List.mem_cons, List.not_mem_nil, or_false] at hm
  have hall : ∀ x : TypeId, (x = 33 ∨ x = 43) → Tryd.prog.wantsStandIn x = false := by
    intro x hx
    rcases hx with rfl | rfl
    · exact ws33
    · exact ws43
  exact hall t hm
/-- The tied card. -/
theorem card : Rows.FnExactInstallConfigCardSaid :=
  Claim7.holds_tied_plain_at .later [] _ _ _ _ proved (fun _ h => by cases h) (by kernel_rfl) (fun _ h => by cases h) fnExactInstallConfig_row_tie rfl ⟨rfl, rfl⟩ (by kernel_rfl) rfl plain (by kernel_rfl)
#print axioms card
end Go.Proofs.YtnghcnkffbjddaaDoor.fnExactInstallConfig
namespace Go.Proofs.YtnghcnkffbjddaaDoor
/-- The card, under a short name, for the claim. -/
theorem fnExactInstallConfig_holds : Rows.FnExactInstallConfigCardSaid := fnExactInstallConfig.card
end Go.Proofs.YtnghcnkffbjddaaDoor
