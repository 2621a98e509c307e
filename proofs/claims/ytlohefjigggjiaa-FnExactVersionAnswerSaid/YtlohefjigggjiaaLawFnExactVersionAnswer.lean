-- LAID BY A PROGRAM OF THIS SESSION (wip/tools/myprint.py) over the kit's print.
/- The row of the law laws_FnExactVersionAnswer, out of its pure statement and the printed walk: whatever the arguments, it returns true. Conditions: none. -/
import Derived.Test.YtlohefjigggjiaaRows
import Derived.Test.YtlohefjigggjiaaPFnExactVersionAnswerx7
import Derived.Test.YtlohefjigggjiaaPureFnExactVersionAnswer
import Derived.Test.YtlohefjigggjiaaVOpen
import Derived.Test.YtlohefjigggjiaaPFnExactVersionAnswerx0
import Derived.WalkKit
import Derived.ProofKit
import Derived.OpenShut
import Derived.ShutString
import Derived.ChangeOld
import Derived.Below
import Derived.SizedLaws
import Derived.Deep.Slices
import Derived.Deep.Fields
import Derived.ChangeSame
namespace Go.Proofs.Ytlohefjigggjiaa.fnExactVersionAnswer
open Go.ChangeShapes Go.WideShapes Go.ChangeAt Go.RowKit Go.Deep Go.Proofs.YtlohefjigggjiaaV.PrintWords Go.Proofs.Ytlohefjigggjiaa.PFnExactVersionAnswer
open Go.ChangeMaps (open_string shut_string)
set_option linter.unusedVariables false
set_option linter.unusedSimpArgs false
theorem own : ownKnob Try.prog.godebug = none := by kernel_rfl
theorem laidOut : laidOutB Try.prog = true := by kernel_rfl
theorem rdk_T41 : RdK k41 (fun x => ((Lit.int .i64 x.f0).wf = true ∧ (Lit.int .i64 x.f1).wf = true ∧ (Lit.int .i64 x.f2).wf = true ∧ x.f3.size ≤ 9223372036854775807 ∧ x.f4.size ≤ 9223372036854775807 ∧ x.f5.size ≤ 9223372036854775807 ∧ x.f6.size ≤ 9223372036854775807 ∧ (∀ y0_, y0_ ∈ x.f7 → (Lit.int .i64 y0_).wf = true))) Try.prog 41 := by
  intro H enc w base spare held fuel cs x h
  obtain ⟨xs, n, _, _, hlen, hxl, hf⟩ := DataW.trod_struct Try.underlying41 h
  rw [show Try.prog.cellsOf 41 = 8 by kernel_rfl] at hlen
  obtain ⟨v0, K0, w0⟩ := rd_field (d := (Kd.int .i64)) hf hxl 0 _ rfl 0 1 rfl (by kernel_rfl) (rdk_int Try.underlying3)
  obtain ⟨v1, K1, w1⟩ := rd_field (d := (Kd.int .i64)) hf hxl 1 _ rfl 1 1 rfl (by kernel_rfl) (rdk_int Try.underlying3)
  obtain ⟨v2, K2, w2⟩ := rd_field (d := (Kd.int .i64)) hf hxl 2 _ rfl 2 1 rfl (by kernel_rfl) (rdk_int Try.underlying3)
  obtain ⟨v3, K3, w3⟩ := rd_field (d := Kd.string) hf hxl 3 _ rfl 3 1 rfl (by kernel_rfl) (rdk_string Try.underlying9)
  obtain ⟨v4, K4, w4⟩ := rd_field (d := Kd.string) hf hxl 4 _ rfl 4 1 rfl (by kernel_rfl) (rdk_string Try.underlying9)
  obtain ⟨v5, K5, w5⟩ := rd_field (d := Kd.string) hf hxl 5 _ rfl 5 1 rfl (by kernel_rfl) (rdk_string Try.underlying9)
  obtain ⟨v6, K6, w6⟩ := rd_field (d := Kd.string) hf hxl 6 _ rfl 6 1 rfl (by kernel_rfl) (rdk_string Try.underlying9)
  obtain ⟨v7, K7, w7⟩ := rd_field (d := (Kd.slice 3 (Kd.int .i64))) hf hxl 7 _ rfl 7 1 rfl (by kernel_rfl) (rdk_slice Try.underlying39 (by kernel_rfl) (rdk_int Try.underlying3))
  rw [seg_last cs 7 1 (by omega)] at K7
  have hK : k41.K w (⟨v0, v1, v2, v3, v4, v5, v6, v7⟩ : S41) (cs.drop 0) := ⟨(cs.drop 0).take 1, cs.drop 1, seg_split cs 0 1 1 rfl, K0, ⟨(cs.drop 1).take 1, cs.drop 2, seg_split cs 1 1 2 rfl, K1, ⟨(cs.drop 2).take 1, cs.drop 3, seg_split cs 2 1 3 rfl, K2, ⟨(cs.drop 3).take 1, cs.drop 4, seg_split cs 3 1 4 rfl, K3, ⟨(cs.drop 4).take 1, cs.drop 5, seg_split cs 4 1 5 rfl, K4, ⟨(cs.drop 5).take 1, cs.drop 6, seg_split cs 5 1 6 rfl, K5, ⟨(cs.drop 6).take 1, cs.drop 7, seg_split cs 6 1 7 rfl, K6, K7⟩⟩⟩⟩⟩⟩⟩
  rw [List.drop_zero] at hK
  exact ⟨_, hK, ⟨w0, w1, w2, w3, w4, w5, w6, w7⟩⟩
set_option maxRecDepth 100000 in
theorem lifted (os : Os) (started : os.Started) (H : Type) (enc : TypeId × Value → H) :
    ReturnsInHanded {} Try.checked os 11 .any (Rows.fnExactVersionAnswerSpec.pre6 enc Try.prog Try.f11 Rows.fnExactVersionAnswerRow.domain false) (Rows.fnExactVersionAnswerSpec.post enc Try.prog Try.f11 false true false false) := by
  refine returnsInHanded_of_change_sized (C := Try.checked) own started (by kernel_rfl) Try.func11
    (ChangeSpec.witness6 (enc := enc) (C := Try.checked) false ⟨#[], #[.agg #[.int .i64 0, .int .i64 0, .int .i64 0, .string ByteArray.empty, .string ByteArray.empty, .string ByteArray.empty, .string ByteArray.empty, .slice none 0 0], .slice none 0 0], []⟩ 8 (by kernel_rfl) (by kernel_rfl) (by kernel_rfl) (by kernel_rfl)) ?_
  intro W base args ds gs before hval0 hW hcnd hsz0 _
  have hval : ∀ (j : Nat) t v, Try.f11.params[j]? = some t → args[j]? = some v → Value.okWide Try.prog W .any base t v := hval0
  have hW' := hW
  obtain ⟨p, q, hA0, hV, rfl, hfz, hnd⟩ := hW
  have hA : DataW.TrodAll enc Try.prog W 0 (fun _ => true) true Try.f11.params.toList args.toList ds p := hA0
  rw [Try.params11] at hA hval
  obtain ⟨v0, vs0, d0, ds0, p0, q0, hargs, rfl, rfl, h0, r0⟩ := trodAll_cons hA
  obtain ⟨v1, vs1, d1, ds1, p1, q1, rfl, rfl, rfl, h1, r1⟩ := trodAll_cons r0
  obtain ⟨rfl, rfl, rfl⟩ := trodAll_nil r1
  obtain rfl : args = #[v0, v1] := by cases args; simp_all
  obtain ⟨rfl, rfl⟩ := trodVars_none hV
  have k0 := h0
  have lt0 : ∀ x ∈ p0, x.block < W.heap.size := by obtain ⟨m, hm⟩ := k0; exact DataW.trod_lt m _ _ _ hm
  have hv0 := (hval 0 41 v0 rfl rfl)
  obtain ⟨x0, K0, W0⟩ : ∃ v, k41.K W v v0.cells.toList ∧ ((Lit.int .i64 v.f0).wf = true ∧ (Lit.int .i64 v.f1).wf = true ∧ (Lit.int .i64 v.f2).wf = true ∧ v.f3.size ≤ 9223372036854775807 ∧ v.f4.size ≤ 9223372036854775807 ∧ v.f5.size ≤ 9223372036854775807 ∧ v.f6.size ≤ 9223372036854775807 ∧ (∀ y0_, y0_ ∈ v.f7 → (Lit.int .i64 y0_).wf = true)) := by obtain ⟨fuel, hf⟩ := h0; exact rdk_T41 hf
  obtain ⟨⟨cs0⟩, rfl, _⟩ := okWide_struct Try.underlying41 hv0
  obtain ⟨A0_7, c0_7, rfl, l0_7, g0_7⟩ := k41_open (x := x0) (cs := cs0) K0
  have k1 := h1
  have lt1 : ∀ x ∈ p1, x.block < W.heap.size := by obtain ⟨m, hm⟩ := k1; exact DataW.trod_lt m _ _ _ hm
  have hv1 := (hval 1 39 v1 rfl rfl)
  obtain ⟨x1, K1, W1⟩ : ∃ v, (Kd.slice 3 (Kd.int .i64)).K W v v1.cells.toList ∧ (∀ y0_, y0_ ∈ v → (Lit.int .i64 y0_).wf = true) := by obtain ⟨fuel, hf⟩ := h1; exact (rdk_slice Try.underlying39 (by kernel_rfl) (rdk_int Try.underlying3)) hf
  obtain ⟨a1, len1, cap1, rfl⟩ := okWide_slice Try.underlying39 hv1
  obtain ⟨A1, c1, e1, l1, g1⟩ := K1
  simp [Value.cells] at e1
  obtain ⟨rfl, rfl, rfl⟩ := e1
  clear hA0 hval0 hsz0
  refine (PFnExactVersionAnswer.laws_FnExactVersionAnswer.walk Pure.FnExactVersionAnswer x0.f0 x0.f1 x0.f2 x0.f3 x0.f4 x0.f5 x0.f6 _ _ x0.f7 _ _ x1 W W0.1 W0.2.1 W0.2.2.1 W0.2.2.2.1 W0.2.2.2.2.1 W0.2.2.2.2.2.1 W0.2.2.2.2.2.2.1 W0.2.2.2.2.2.2.2 g0_7 l0_7 W1 g1 l1).mono fun e W' ⟨he, bel⟩ => ?_
  subst he
  exact ⟨_, rfl, _, _, _, [], _, [], hW', trodAll_mk1 (shut_bool Try.underlying4 _), (trodAll_cons_mk (Below.trod laidOut (by kernel_rfl) (of_decide_eq_true (by kernel_rfl)) k0 bel lt0) (trodAll_cons_mk (Below.trod laidOut (by kernel_rfl) (of_decide_eq_true (by kernel_rfl)) k1 bel lt1) trodAll_mk0)), rfl, bel.frame _, fun h => by cases h⟩
theorem over : Rows.fnExactVersionAnswerRow.holds Try.pinned (OpenSpec.ofChange Rows.fnExactVersionAnswerSpec) :=
  OpenClaim.holds_of_wide 11 Try.f11 rfl rfl rfl rfl rfl rfl rfl ⟨rfl, rfl, rfl, rfl, rfl⟩ rfl rfl rfl rfl rfl (by kernel_rfl) Try.func11 (by kernel_rfl)
    (of_decide_eq_true (by kernel_rfl)) (by unfold Func.isWrapper; first | (rw [if_pos (by decide +kernel)]; kernel_rfl) | (rw [if_neg (by decide +kernel)]; exact ⟨rfl, rfl⟩))
    (fun os started H enc _ => lifted os started H enc)
theorem proved : Rows.FnExactVersionAnswerSaid := over
#print axioms proved
end Go.Proofs.Ytlohefjigggjiaa.fnExactVersionAnswer
namespace Go.Proofs.Ytlohefjigggjiaa
/-- The row, under a short name, for the claim. -/
theorem fnExactVersionAnswer_holds : Rows.FnExactVersionAnswerSaid := fnExactVersionAnswer.proved
end Go.Proofs.Ytlohefjigggjiaa
