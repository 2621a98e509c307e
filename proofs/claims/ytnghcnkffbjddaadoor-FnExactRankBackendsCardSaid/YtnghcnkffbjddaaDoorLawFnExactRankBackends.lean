-- LAID BY A PROGRAM OF THIS SESSION (wip/tools/myprint.py) over the kit's print.
/- The row of the law laws_FnExactRankBackends, out of its pure statement and the printed walk: whatever the arguments, it returns true. Conditions: none. -/
import Derived.Test.YtnghcnkffbjddaaDoorRows
import Derived.Test.YtnghcnkffbjddaaDoorCards
import Derived.Test.YtnghcnkffbjddaaDoorTie
import Derived.Test.YtnghcnkffbjddaaDoorVWorld
import Derived.SevenTiedAt
import Derived.Handed
import Derived.Test.YtnghcnkffbjddaaDoorPFnExactRankBackendsx2
import Derived.Test.YtnghcnkffbjddaaDoorPureFnExactRankBackends
import Derived.Test.YtnghcnkffbjddaaDoorVOpen
import Derived.Test.YtnghcnkffbjddaaDoorPFnExactRankBackendsx0
import Derived.WalkKit
import Derived.ProofKit
import Derived.OpenShut
import Derived.ShutString
import Derived.ChangeOld
import Derived.Below
import Derived.SizedLaws
import Derived.Deep.Slices
import Derived.Deep.Fields
import Derived.ChangeSame
namespace Go.Proofs.YtnghcnkffbjddaaDoor.fnExactRankBackends
open Go.ChangeShapes Go.WideShapes Go.ChangeAt Go.RowKit Go.Deep Go.Proofs.YtnghcnkffbjddaaDoorV.PrintWords Go.Proofs.YtnghcnkffbjddaaDoor.PFnExactRankBackends
open Go.ChangeMaps (open_string shut_string)
set_option linter.unusedVariables false
set_option linter.unusedSimpArgs false
theorem own : ownKnob Tryd.prog.godebug = none := by kernel_rfl
theorem laidOut : laidOutB Tryd.prog = true := by kernel_rfl
set_option maxRecDepth 100000 in
theorem lifted (os : Os) (started : os.Started) (H : Type) (enc : TypeId × Value → H) :
    ReturnsInHanded {} Tryd.checked os 13 .any (fun w args => (Rows.fnExactRankBackendsSpec.pre enc Tryd.prog Tryd.f13 [] false w args ∧ laidMetH Tryd.prog laidList w) ∧ sizedMet enc Tryd.prog Tryd.f13 (OpenSpec.ofChange Rows.fnExactRankBackendsSpec) false w args)
      (Rows.fnExactRankBackendsSpec.post enc Tryd.prog Tryd.f13 false true false false) := by
  refine returnsInHanded_of_change_and (C := Tryd.checked) (X := fun w _ => laidMetH Tryd.prog laidList w) (fun _ _ _ hh h => h.of_heap hh) own started (by kernel_rfl) Tryd.func13
    (ChangeSpec.witness_at (enc := enc) (C := Tryd.checked) (os := os) (X := fun w _ => laidMetH Tryd.prog laidList w) false (laidWorld os) #[.slice none 0 0, .string ByteArray.empty] 8 rfl (by kernel_rfl) (by kernel_rfl) (by kernel_rfl) (by kernel_rfl) (by kernel_rfl) (laidWorld_met os _)) ?_
  intro W base args ds gs before hval0 hW hcnd hsz0 _ _
  have hval : ∀ (j : Nat) t v, Tryd.f13.params[j]? = some t → args[j]? = some v → Value.okWide Tryd.prog W .any base t v := hval0
  have hW' := hW
  obtain ⟨p, q, hA0, hV, rfl, hfz, hnd⟩ := hW
  have hA : DataW.TrodAll enc Tryd.prog W 0 (fun _ => true) true Tryd.f13.params.toList args.toList ds p := hA0
  rw [Tryd.params13] at hA hval
  obtain ⟨v0, vs0, d0, ds0, p0, q0, hargs, rfl, rfl, h0, r0⟩ := trodAll_cons hA
  obtain ⟨v1, vs1, d1, ds1, p1, q1, rfl, rfl, rfl, h1, r1⟩ := trodAll_cons r0
  obtain ⟨rfl, rfl, rfl⟩ := trodAll_nil r1
  obtain rfl : args = #[v0, v1] := by cases args; simp_all
  obtain ⟨rfl, rfl⟩ := trodVars_none hV
  have k0 := h0
  have lt0 : ∀ x ∈ p0, x.block < W.heap.size := by obtain ⟨m, hm⟩ := k0; exact DataW.trod_lt m _ _ _ hm
  have hv0 := (hval 0 23 v0 rfl rfl)
  obtain ⟨x0, K0, W0⟩ : ∃ v, (Kd.slice 9 Kd.string).K W v v0.cells.toList ∧ (∀ y0_, y0_ ∈ v → y0_.size ≤ 9223372036854775807) := by obtain ⟨fuel, hf⟩ := h0; exact (rdk_slice Tryd.underlying23 (by kernel_rfl) (rdk_string Tryd.underlying9)) hf
  obtain ⟨a0, len0, cap0, rfl⟩ := okWide_slice Tryd.underlying23 hv0
  obtain ⟨A0, c0, e0, l0, g0⟩ := K0
  simp [Value.cells] at e0
  obtain ⟨rfl, rfl, rfl⟩ := e0
  obtain ⟨a1, rfl, rfl, rfl, y1⟩ := open_string Tryd.underlying9 (hval 1 9 v1 rfl rfl) h1
  clear hA0 hval0 hsz0
  refine (PFnExactRankBackends.laws_FnExactRankBackends.walk Pure.FnExactRankBackends _ _ x0 a1 W W0 g0 l0 (by simpa [maxLen] using y1)).mono fun e W' ⟨he, bel⟩ => ?_
  subst he
  exact ⟨_, rfl, _, _, _, [], _, [], hW', trodAll_mk1 (shut_bool Tryd.underlying4 _), (trodAll_cons_mk (Below.trod laidOut (by kernel_rfl) (of_decide_eq_true (by kernel_rfl)) k0 bel lt0) (trodAll_cons_mk (shut_string Tryd.underlying9 y1) trodAll_mk0)), rfl, bel.frame _, fun h => by cases h⟩
theorem over : Rows.fnExactRankBackendsRow.holds Tryd.pinned (OpenSpec.ofChange Rows.fnExactRankBackendsSpec) :=
  OpenClaim.holds_of_wide 13 Tryd.f13 rfl rfl rfl rfl rfl rfl rfl ⟨rfl, rfl, rfl, rfl, rfl⟩ rfl rfl rfl rfl rfl (by kernel_rfl) Tryd.func13 (by kernel_rfl)
    (of_decide_eq_true (by kernel_rfl)) (by unfold Func.isWrapper; first | (rw [if_pos (by decide +kernel)]; kernel_rfl) | (rw [if_neg (by decide +kernel)]; exact ⟨rfl, rfl⟩))
    (fun os started H enc _ => lifted os started H enc)
theorem proved : Rows.FnExactRankBackendsSaid := over
set_option maxRecDepth 100000 in
theorem ws23 : Tryd.prog.wantsStandIn 23 = false := by kernel_rfl
set_option maxRecDepth 100000 in
theorem ws9 : Tryd.prog.wantsStandIn 9 = false := by kernel_rfl
theorem looksOff : Tryd.prog.looks [] = false := by kernel_rfl
/-- No parameter wants a stand-in; the program's own looks are off: what the card asks. -/
theorem plain (f : FuncId) (fn : Func) (hf : Tryd.pinned.checked.prog.funcNamed "loop.example/g00206/laws.FnExactRankBackends" = some f) (hfn : Tryd.pinned.checked.prog.funcs[f]? = some fn) :
    false = Tryd.pinned.checked.prog.looks [] ∧ ∀ (j : Nat) t, fn.params[j]? = some t → Tryd.pinned.checked.prog.wantsStandIn t = false := by
  obtain rfl : f = 13 := Option.some.inj ((show Tryd.prog.funcNamed "loop.example/g00206/laws.FnExactRankBackends" = some 13 by kernel_rfl).symm.trans hf) |>.symm
  obtain rfl : fn = Tryd.f13 := (Option.some.inj (Tryd.func13.symm.trans hfn)).symm
  refine ⟨looksOff.symm, fun j t ht => ?_⟩
  rw [Tryd.params13] at ht
  have hm := Array.mem_of_getElem? ht
  simp only [List.mem_toArray, List.mem_cons, List.not_mem_nil, or_false] at hm
  have hall : ∀ x : TypeId, (x = 23 ∨ x = 9) → Tryd.prog.wantsStandIn x = false := by
    intro x hx
    rcases hx with rfl | rfl
    · exact ws23
    · exact ws9
  exact hall t hm
/-- The tied card. -/
theorem card : Rows.FnExactRankBackendsCardSaid :=
  Claim7.holds_tied_plain_at .later [] _ _ _ _ proved (fun _ h => by cases h) (by kernel_rfl) (fun _ h => by cases h) fnExactRankBackends_row_tie rfl ⟨rfl, rfl⟩ (by kernel_rfl) rfl plain (by kernel_rfl)
#print axioms card
end Go.Proofs.YtnghcnkffbjddaaDoor.fnExactRankBackends
namespace Go.Proofs.YtnghcnkffbjddaaDoor
/-- The card, under a short name, for the claim. -/
theorem fnExactRankBackends_holds : Rows.FnExactRankBackendsCardSaid := fnExactRankBackends.card
end Go.Proofs.YtnghcnkffbjddaaDoor
