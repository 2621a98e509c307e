-- LAID BY A PROGRAM OF THIS SESSION (wip/tools/myprint.py) over the kit's print.
/- The row of the law laws_FnExactDecodeId, out of its pure statement and the printed walk: whatever the arguments, it returns true. Conditions: none. -/
import Derived.Test.YtimokakcdmcnnaaRows
import Derived.Test.YtimokakcdmcnnaaPFnExactDecodeIdx1
import Derived.Test.YtimokakcdmcnnaaPureFnExactDecodeId
import Derived.Test.YtimokakcdmcnnaaVOpen
import Derived.Test.YtimokakcdmcnnaaPFnExactDecodeIdx0
import Derived.WalkKit
import Derived.ProofKit
import Derived.OpenShut
import Derived.ShutString
import Derived.ChangeOld
import Derived.Below
import Derived.SizedLaws
import Derived.Deep.Slices
import Derived.Deep.Fields
import Derived.ChangeSame
namespace Go.Proofs.Ytimokakcdmcnnaa.fnExactDecodeId
open Go.ChangeShapes Go.WideShapes Go.ChangeAt Go.RowKit Go.Deep Go.Proofs.YtimokakcdmcnnaaV.PrintWords Go.Proofs.Ytimokakcdmcnnaa.PFnExactDecodeId
open Go.ChangeMaps (open_string shut_string)
set_option linter.unusedVariables false
set_option linter.unusedSimpArgs false
theorem own : ownKnob Try.prog.godebug = none := by kernel_rfl
theorem laidOut : laidOutB Try.prog = true := by kernel_rfl
theorem rdk_T34 : RdK k34 (fun x => ((Lit.int .i64 x.f0).wf = true ∧ (Lit.int .i64 x.f1).wf = true ∧ (Lit.int .i64 x.f2).wf = true ∧ x.f3.size ≤ 9223372036854775807 ∧ True)) Try.prog 34 := by
  intro H enc w base spare held fuel cs x h
  obtain ⟨xs, n, _, _, hlen, hxl, hf⟩ := DataW.trod_struct Try.underlying34 h
  rw [show Try.prog.cellsOf 34 = 5 by kernel_rfl] at hlen
  obtain ⟨v0, K0, w0⟩ := rd_field (d := (Kd.int .i64)) hf hxl 0 _ rfl 0 1 rfl (by kernel_rfl) (rdk_int Try.underlying3)
  obtain ⟨v1, K1, w1⟩ := rd_field (d := (Kd.int .i64)) hf hxl 1 _ rfl 1 1 rfl (by kernel_rfl) (rdk_int Try.underlying3)
  obtain ⟨v2, K2, w2⟩ := rd_field (d := (Kd.int .i64)) hf hxl 2 _ rfl 2 1 rfl (by kernel_rfl) (rdk_int Try.underlying3)
  obtain ⟨v3, K3, w3⟩ := rd_field (d := Kd.string) hf hxl 3 _ rfl 3 1 rfl (by kernel_rfl) (rdk_string Try.underlying9)
  obtain ⟨v4, K4, w4⟩ := rd_field (d := Kd.bool) hf hxl 4 _ rfl 4 1 rfl (by kernel_rfl) (rdk_bool Try.underlying4)
  rw [seg_last cs 4 1 (by omega)] at K4
  have hK : k34.K w (⟨v0, v1, v2, v3, v4⟩ : S34) (cs.drop 0) := ⟨(cs.drop 0).take 1, cs.drop 1, seg_split cs 0 1 1 rfl, K0, ⟨(cs.drop 1).take 1, cs.drop 2, seg_split cs 1 1 2 rfl, K1, ⟨(cs.drop 2).take 1, cs.drop 3, seg_split cs 2 1 3 rfl, K2, ⟨(cs.drop 3).take 1, cs.drop 4, seg_split cs 3 1 4 rfl, K3, K4⟩⟩⟩⟩
  rw [List.drop_zero] at hK
  exact ⟨_, hK, ⟨w0, w1, w2, w3, w4⟩⟩
set_option maxRecDepth 100000 in
theorem lifted (os : Os) (started : os.Started) (H : Type) (enc : TypeId × Value → H) :
    ReturnsInHanded {} Try.checked os 16 .any (Rows.fnExactDecodeIdSpec.pre6 enc Try.prog Try.f16 Rows.fnExactDecodeIdRow.domain false) (Rows.fnExactDecodeIdSpec.post enc Try.prog Try.f16 false true false false) := by
  refine returnsInHanded_of_change_sized (C := Try.checked) own started (by kernel_rfl) Try.func16
    (ChangeSpec.witness6 (enc := enc) (C := Try.checked) false ⟨#[], #[.agg #[.int .i64 0, .int .i64 0, .int .i64 0, .string ByteArray.empty, .bool false], .string ByteArray.empty], []⟩ 8 (by kernel_rfl) (by kernel_rfl) (by kernel_rfl) (by kernel_rfl)) ?_
  intro W base args ds gs before hval0 hW hcnd hsz0 _
  have hval : ∀ (j : Nat) t v, Try.f16.params[j]? = some t → args[j]? = some v → Value.okWide Try.prog W .any base t v := hval0
  have hW' := hW
  obtain ⟨p, q, hA0, hV, rfl, hfz, hnd⟩ := hW
  have hA : DataW.TrodAll enc Try.prog W 0 (fun _ => true) true Try.f16.params.toList args.toList ds p := hA0
  rw [Try.params16] at hA hval
  obtain ⟨v0, vs0, d0, ds0, p0, q0, hargs, rfl, rfl, h0, r0⟩ := trodAll_cons hA
  obtain ⟨v1, vs1, d1, ds1, p1, q1, rfl, rfl, rfl, h1, r1⟩ := trodAll_cons r0
  obtain ⟨rfl, rfl, rfl⟩ := trodAll_nil r1
  obtain rfl : args = #[v0, v1] := by cases args; simp_all
  obtain ⟨rfl, rfl⟩ := trodVars_none hV
  have k0 := h0
  have lt0 : ∀ x ∈ p0, x.block < W.heap.size := by obtain ⟨m, hm⟩ := k0; exact DataW.trod_lt m _ _ _ hm
  have hv0 := (hval 0 34 v0 rfl rfl)
  obtain ⟨x0, K0, W0⟩ : ∃ v, k34.K W v v0.cells.toList ∧ ((Lit.int .i64 v.f0).wf = true ∧ (Lit.int .i64 v.f1).wf = true ∧ (Lit.int .i64 v.f2).wf = true ∧ v.f3.size ≤ 9223372036854775807 ∧ True) := by obtain ⟨fuel, hf⟩ := h0; exact rdk_T34 hf
  obtain ⟨⟨cs0⟩, rfl, _⟩ := okWide_struct Try.underlying34 hv0
  obtain rfl : cs0 = _ := k34_open (x := x0) (cs := cs0) K0
  obtain ⟨a1, rfl, rfl, rfl, y1⟩ := open_string Try.underlying9 (hval 1 9 v1 rfl rfl) h1
  clear hA0 hval0 hsz0
  refine (PFnExactDecodeId.laws_FnExactDecodeId.walk Pure.FnExactDecodeId x0.f0 x0.f1 x0.f2 x0.f3 x0.f4 a1 W W0.1 W0.2.1 W0.2.2.1 W0.2.2.2.1 (by simpa [maxLen] using y1)).mono fun e W' ⟨he, bel⟩ => ?_
  subst he
  exact ⟨_, rfl, _, _, _, [], _, [], hW', trodAll_mk1 (shut_bool Try.underlying4 _), (trodAll_cons_mk (Below.trod laidOut (by kernel_rfl) (of_decide_eq_true (by kernel_rfl)) k0 bel lt0) (trodAll_cons_mk (shut_string Try.underlying9 y1) trodAll_mk0)), rfl, bel.frame _, fun h => by cases h⟩
theorem over : Rows.fnExactDecodeIdRow.holds Try.pinned (OpenSpec.ofChange Rows.fnExactDecodeIdSpec) :=
  OpenClaim.holds_of_wide 16 Try.f16 rfl rfl rfl rfl rfl rfl rfl ⟨rfl, rfl, rfl, rfl, rfl⟩ rfl rfl rfl rfl rfl (by kernel_rfl) Try.func16 (by kernel_rfl)
    (of_decide_eq_true (by kernel_rfl)) (by unfold Func.isWrapper; first | (rw [if_pos (by decide +kernel)]; kernel_rfl) | (rw [if_neg (by decide +kernel)]; exact ⟨rfl, rfl⟩))
    (fun os started H enc _ => lifted os started H enc)
theorem proved : Rows.FnExactDecodeIdSaid := over
#print axioms proved
end Go.Proofs.Ytimokakcdmcnnaa.fnExactDecodeId
namespace Go.Proofs.Ytimokakcdmcnnaa
/-- The row, under a short name, for the claim. -/
theorem fnExactDecodeId_holds : Rows.FnExactDecodeIdSaid := fnExactDecodeId.proved
end Go.Proofs.Ytimokakcdmcnnaa
