/- The row of the law laws_FnExactAllocServer: the tied card. Conditions: none. -/
import Derived.Test.YtnghcnkffbjddaaDoorRows
import Derived.Test.YtnghcnkffbjddaaDoorCards
import Derived.Test.YtnghcnkffbjddaaDoorTie
import Derived.Test.YtnghcnkffbjddaaDoorVWorld
import Derived.SevenTiedAt
import Derived.Handed
import Derived.Test.YtnghcnkffbjddaaDoorVOverA
import Derived.Test.YtnghcnkffbjddaaDoorVOpen
import Derived.WalkKit
import Derived.ProofKit
import Derived.OpenShut
import Derived.ShutString
import Derived.ChangeOld
import Derived.Below
import Derived.SizedLaws
import Derived.Deep.Slices
import Derived.Deep.Fields
import Derived.ChangeSame
namespace Go.Proofs.YtnghcnkffbjddaaDoor.fnExactAllocServer
open Go.ChangeShapes Go.WideShapes Go.ChangeAt Go.RowKit Go.Deep Go.Proofs.YtnghcnkffbjddaaDoorV.PrintWords Go.Proofs.YtnghcnkffbjddaaDoor.PImplM Go.Proofs.YtnghcnkffbjddaaDoorV.Aes
open Go.ChangeMaps (open_string shut_string)
set_option linter.unusedVariables false
set_option linter.unusedSimpArgs false
theorem proved : Rows.FnExactAllocServerSaid := over
set_option maxRecDepth 100000 in
theorem ws33 : Tryd.prog.wantsStandIn 33 = false := by kernel_rfl
set_option maxRecDepth 100000 in
theorem ws3 : Tryd.prog.wantsStandIn 3 = false := by kernel_rfl
set_option maxRecDepth 100000 in
theorem ws9 : Tryd.prog.wantsStandIn 9 = false := by kernel_rfl
theorem looksOff : Tryd.prog.looks [] = false := by kernel_rfl
/-- No parameter wants a stand-in; the program's own looks are off: what the card asks. -/
theorem plain (f : FuncId) (fn : Func) (hf : Tryd.pinned.checked.prog.funcNamed "loop.example/g00206/laws.FnExactAllocServer" = some f) (hfn : Tryd.pinned.checked.prog.funcs[f]? = some fn) :
    false = Tryd.pinned.checked.prog.looks [] ∧ ∀ (j : Nat) t, fn.params[j]? = some t → Tryd.pinned.checked.prog.wantsStandIn t = false := by
  obtain rfl : f = 10 := Option.some.inj ((show Tryd.prog.funcNamed "loop.example/g00206/laws.FnExactAllocServer" = some 10 by kernel_rfl).symm.trans hf) |>.symm
  obtain rfl : fn = Tryd.f10 := (Option.some.inj (Tryd.func10.symm.trans hfn)).symm
  refine ⟨looksOff.symm, fun j t ht => ?_⟩
  rw [Tryd.params10] at ht
  have hm := Array.mem_of_getElem? ht
  simp only [List.mem_toArray, List.mem_cons, List.not_mem_nil, or_false] at hm
  have hall : ∀ x : TypeId, (x = 33 ∨ x = 3 ∨ x = 9 ∨ x = 9) → Tryd.prog.wantsStandIn x = false := by
    intro x hx
    rcases hx with rfl | rfl | rfl | rfl
    · exact ws33
    · exact ws3
    · exact ws9
    · exact ws9
  exact hall t hm
/-- The tied card. -/
theorem card : Rows.FnExactAllocServerCardSaid :=
  Claim7.holds_tied_plain_at .later [] _ _ _ _ proved (fun _ h => by cases h) (by kernel_rfl) (fun _ h => by cases h) fnExactAllocServer_row_tie rfl ⟨rfl, rfl⟩ (by kernel_rfl) rfl plain (by kernel_rfl)
#print axioms card
end Go.Proofs.YtnghcnkffbjddaaDoor.fnExactAllocServer
namespace Go.Proofs.YtnghcnkffbjddaaDoor
/-- The card, under a short name, for the claim. -/
theorem fnExactAllocServer_holds : Rows.FnExactAllocServerCardSaid := fnExactAllocServer.card
end Go.Proofs.YtnghcnkffbjddaaDoor
