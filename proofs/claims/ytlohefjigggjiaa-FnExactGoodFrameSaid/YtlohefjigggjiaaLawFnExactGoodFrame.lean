-- LAID BY A PROGRAM OF THIS SESSION (wip/tools/myprint.py) over the kit's print.
/- The row of the law laws_FnExactGoodFrame, out of its pure statement and the printed walk: whatever the arguments, it returns true. Conditions: none. -/
import Derived.Test.YtlohefjigggjiaaRows
import Derived.Test.YtlohefjigggjiaaPFnExactGoodFramex5
import Derived.Test.YtlohefjigggjiaaPureFnExactGoodFrame
import Derived.Test.YtlohefjigggjiaaVOpen
import Derived.Test.YtlohefjigggjiaaPFnExactGoodFramex0
import Derived.WalkKit
import Derived.ProofKit
import Derived.OpenShut
import Derived.ShutString
import Derived.ChangeOld
import Derived.Below
import Derived.SizedLaws
import Derived.Deep.Slices
import Derived.Deep.Fields
import Derived.ChangeSame
namespace Go.Proofs.Ytlohefjigggjiaa.fnExactGoodFrame
open Go.ChangeShapes Go.WideShapes Go.ChangeAt Go.RowKit Go.Deep Go.Proofs.YtlohefjigggjiaaV.PrintWords Go.Proofs.Ytlohefjigggjiaa.PFnExactGoodFrame
open Go.ChangeMaps (open_string shut_string)
set_option linter.unusedVariables false
set_option linter.unusedSimpArgs false
theorem own : ownKnob Try.prog.godebug = none := by kernel_rfl
theorem laidOut : laidOutB Try.prog = true := by kernel_rfl
theorem rdk_T118 : RdK k118 (fun x => ((Lit.int .i64 x.f0).wf = true ∧ (Lit.int .i64 x.f1).wf = true)) Try.prog 118 := by
  intro H enc w base spare held fuel cs x h
  obtain ⟨xs, n, _, _, hlen, hxl, hf⟩ := DataW.trod_struct Try.underlying118 h
  rw [show Try.prog.cellsOf 118 = 2 by kernel_rfl] at hlen
  obtain ⟨v0, K0, w0⟩ := rd_field (d := (Kd.int .i64)) hf hxl 0 _ rfl 0 1 rfl (by kernel_rfl) (rdk_int Try.underlying3)
  obtain ⟨v1, K1, w1⟩ := rd_field (d := (Kd.int .i64)) hf hxl 1 _ rfl 1 1 rfl (by kernel_rfl) (rdk_int Try.underlying3)
  rw [seg_last cs 1 1 (by omega)] at K1
  have hK : k118.K w (⟨v0, v1⟩ : S118) (cs.drop 0) := ⟨(cs.drop 0).take 1, cs.drop 1, seg_split cs 0 1 1 rfl, K0, K1⟩
  rw [List.drop_zero] at hK
  exact ⟨_, hK, ⟨w0, w1⟩⟩
theorem rdk_T50 : RdK k50 (fun x => ((Lit.int .i64 x.f0).wf = true ∧ (Lit.int .i64 x.f1).wf = true ∧ (Lit.int .i64 x.f2).wf = true ∧ (Lit.int .i64 x.f3).wf = true ∧ True ∧ x.f5.size ≤ 9223372036854775807 ∧ (∀ y0_, y0_ ∈ x.f6 → ((Lit.int .i64 y0_.f0).wf = true ∧ (Lit.int .i64 y0_.f1).wf = true)))) Try.prog 50 := by
  intro H enc w base spare held fuel cs x h
  obtain ⟨xs, n, _, _, hlen, hxl, hf⟩ := DataW.trod_struct Try.underlying50 h
  rw [show Try.prog.cellsOf 50 = 7 by kernel_rfl] at hlen
  obtain ⟨v0, K0, w0⟩ := rd_field (d := (Kd.int .i64)) hf hxl 0 _ rfl 0 1 rfl (by kernel_rfl) (rdk_int Try.underlying3)
  obtain ⟨v1, K1, w1⟩ := rd_field (d := (Kd.int .i64)) hf hxl 1 _ rfl 1 1 rfl (by kernel_rfl) (rdk_int Try.underlying3)
  obtain ⟨v2, K2, w2⟩ := rd_field (d := (Kd.int .i64)) hf hxl 2 _ rfl 2 1 rfl (by kernel_rfl) (rdk_int Try.underlying3)
  obtain ⟨v3, K3, w3⟩ := rd_field (d := (Kd.int .i64)) hf hxl 3 _ rfl 3 1 rfl (by kernel_rfl) (rdk_int Try.underlying3)
  obtain ⟨v4, K4, w4⟩ := rd_field (d := Kd.bool) hf hxl 4 _ rfl 4 1 rfl (by kernel_rfl) (rdk_bool Try.underlying4)
  obtain ⟨v5, K5, w5⟩ := rd_field (d := Kd.string) hf hxl 5 _ rfl 5 1 rfl (by kernel_rfl) (rdk_string Try.underlying9)
  obtain ⟨v6, K6, w6⟩ := rd_field (d := (Kd.slice 118 k118)) hf hxl 6 _ rfl 6 1 rfl (by kernel_rfl) (rdk_slice Try.underlying48 (by kernel_rfl) rdk_T118)
  rw [seg_last cs 6 1 (by omega)] at K6
  have hK : k50.K w (⟨v0, v1, v2, v3, v4, v5, v6⟩ : S50) (cs.drop 0) := ⟨(cs.drop 0).take 1, cs.drop 1, seg_split cs 0 1 1 rfl, K0, ⟨(cs.drop 1).take 1, cs.drop 2, seg_split cs 1 1 2 rfl, K1, ⟨(cs.drop 2).take 1, cs.drop 3, seg_split cs 2 1 3 rfl, K2, ⟨(cs.drop 3).take 1, cs.drop 4, seg_split cs 3 1 4 rfl, K3, ⟨(cs.drop 4).take 1, cs.drop 5, seg_split cs 4 1 5 rfl, K4, ⟨(cs.drop 5).take 1, cs.drop 6, seg_split cs 5 1 6 rfl, K5, K6⟩⟩⟩⟩⟩⟩
  rw [List.drop_zero] at hK
  exact ⟨_, hK, ⟨w0, w1, w2, w3, w4, w5, w6⟩⟩
set_option maxRecDepth 100000 in
theorem lifted (os : Os) (started : os.Started) (H : Type) (enc : TypeId × Value → H) :
    ReturnsInHanded {} Try.checked os 10 .any (Rows.fnExactGoodFrameSpec.pre6 enc Try.prog Try.f10 Rows.fnExactGoodFrameRow.domain false) (Rows.fnExactGoodFrameSpec.post enc Try.prog Try.f10 false true false false) := by
  refine returnsInHanded_of_change_sized (C := Try.checked) own started (by kernel_rfl) Try.func10
    (ChangeSpec.witness6 (enc := enc) (C := Try.checked) false ⟨#[], #[.agg #[.int .i64 0, .int .i64 0, .int .i64 0, .int .i64 0, .bool false, .string ByteArray.empty, .slice none 0 0]], []⟩ 8 (by kernel_rfl) (by kernel_rfl) (by kernel_rfl) (by kernel_rfl)) ?_
  intro W base args ds gs before hval0 hW hcnd hsz0 _
  have hval : ∀ (j : Nat) t v, Try.f10.params[j]? = some t → args[j]? = some v → Value.okWide Try.prog W .any base t v := hval0
  have hW' := hW
  obtain ⟨p, q, hA0, hV, rfl, hfz, hnd⟩ := hW
  have hA : DataW.TrodAll enc Try.prog W 0 (fun _ => true) true Try.f10.params.toList args.toList ds p := hA0
  rw [Try.params10] at hA hval
  obtain ⟨v0, vs0, d0, ds0, p0, q0, hargs, rfl, rfl, h0, r0⟩ := trodAll_cons hA
  obtain ⟨rfl, rfl, rfl⟩ := trodAll_nil r0
  obtain rfl : args = #[v0] := by cases args; simp_all
  obtain ⟨rfl, rfl⟩ := trodVars_none hV
  have k0 := h0
  have lt0 : ∀ x ∈ p0, x.block < W.heap.size := by obtain ⟨m, hm⟩ := k0; exact DataW.trod_lt m _ _ _ hm
  have hv0 := (hval 0 50 v0 rfl rfl)
  obtain ⟨x0, K0, W0⟩ : ∃ v, k50.K W v v0.cells.toList ∧ ((Lit.int .i64 v.f0).wf = true ∧ (Lit.int .i64 v.f1).wf = true ∧ (Lit.int .i64 v.f2).wf = true ∧ (Lit.int .i64 v.f3).wf = true ∧ True ∧ v.f5.size ≤ 9223372036854775807 ∧ (∀ y0_, y0_ ∈ v.f6 → ((Lit.int .i64 y0_.f0).wf = true ∧ (Lit.int .i64 y0_.f1).wf = true))) := by obtain ⟨fuel, hf⟩ := h0; exact rdk_T50 hf
  obtain ⟨⟨cs0⟩, rfl, _⟩ := okWide_struct Try.underlying50 hv0
  obtain ⟨A0_6, c0_6, rfl, l0_6, g0_6⟩ := k50_open (x := x0) (cs := cs0) K0
  clear hA0 hval0 hsz0
  refine (PFnExactGoodFrame.laws_FnExactGoodFrame.walk Pure.FnExactGoodFrame x0.f0 x0.f1 x0.f2 x0.f3 x0.f4 x0.f5 _ _ x0.f6 W W0.1 W0.2.1 W0.2.2.1 W0.2.2.2.1 W0.2.2.2.2.2.1 W0.2.2.2.2.2.2 g0_6 l0_6).mono fun e W' ⟨he, bel⟩ => ?_
  subst he
  exact ⟨_, rfl, _, _, _, [], _, [], hW', trodAll_mk1 (shut_bool Try.underlying4 _), (trodAll_cons_mk (Below.trod laidOut (by kernel_rfl) (of_decide_eq_true (by kernel_rfl)) k0 bel lt0) trodAll_mk0), rfl, bel.frame _, fun h => by cases h⟩
theorem over : Rows.fnExactGoodFrameRow.holds Try.pinned (OpenSpec.ofChange Rows.fnExactGoodFrameSpec) :=
  OpenClaim.holds_of_wide 10 Try.f10 rfl rfl rfl rfl rfl rfl rfl ⟨rfl, rfl, rfl, rfl, rfl⟩ rfl rfl rfl rfl rfl (by kernel_rfl) Try.func10 (by kernel_rfl)
    (of_decide_eq_true (by kernel_rfl)) (by unfold Func.isWrapper; first | (rw [if_pos (by decide +kernel)]; kernel_rfl) | (rw [if_neg (by decide +kernel)]; exact ⟨rfl, rfl⟩))
    (fun os started H enc _ => lifted os started H enc)
theorem proved : Rows.FnExactGoodFrameSaid := over
#print axioms proved
end Go.Proofs.Ytlohefjigggjiaa.fnExactGoodFrame
namespace Go.Proofs.Ytlohefjigggjiaa
/-- The row, under a short name, for the claim. -/
theorem fnExactGoodFrame_holds : Rows.FnExactGoodFrameSaid := fnExactGoodFrame.proved
end Go.Proofs.Ytlohefjigggjiaa
