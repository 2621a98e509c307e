/- The row of the law laws_FnExactAllocServer: the walk lifted to the row's words. Conditions: none. -/
import Derived.Test.YtnghcnkffbjddaaDoorRows
import Derived.Test.YtnghcnkffbjddaaDoorCards
import Derived.Test.YtnghcnkffbjddaaDoorTie
import Derived.Test.YtnghcnkffbjddaaDoorVWorld
import Derived.SevenTiedAt
import Derived.Handed
import Derived.Test.YtnghcnkffbjddaaDoorVTabJA
import Derived.Test.YtnghcnkffbjddaaDoorVOpen
import Derived.WalkKit
import Derived.ProofKit
import Derived.OpenShut
import Derived.ShutString
import Derived.ChangeOld
import Derived.Below
import Derived.SizedLaws
import Derived.Deep.Slices
import Derived.Deep.Fields
import Derived.ChangeSame
namespace Go.Proofs.YtnghcnkffbjddaaDoor.fnExactAllocServer
open Go.ChangeShapes Go.WideShapes Go.ChangeAt Go.RowKit Go.Deep Go.Proofs.YtnghcnkffbjddaaDoorV.PrintWords Go.Proofs.YtnghcnkffbjddaaDoor.PImplM Go.Proofs.YtnghcnkffbjddaaDoorV.Aes
open Go.ChangeMaps (open_string shut_string)
set_option linter.unusedVariables false
set_option linter.unusedSimpArgs false
structure S33 where
  f0 : (List S104)
def k33 : Kd S33 := Kd.iso (Kd.slice 104 k104) (fun x : S33 => x.f0)
theorem k33_open {w : World} {x : S33} {cs : List Value} (h : k33.K w x cs) : ∃ A0 c0, cs = [.slice A0 x.f0.length c0] ∧ x.f0.length ≤ c0 ∧ k104.C w A0 x.f0.length x.f0 := by
  obtain ⟨A0, c0, rfl, l0, g0⟩ := h
  exact ⟨A0, c0, rfl, l0, g0⟩
theorem own : ownKnob Tryd.prog.godebug = none := by kernel_rfl
theorem laidOut : laidOutB Tryd.prog = true := by kernel_rfl
theorem rdk_T43 : RdK k43 (fun x => ((Lit.int .i64 x.f0).wf = true ∧ (Lit.int .i64 x.f1).wf = true ∧ (Lit.int .i64 x.f2).wf = true ∧ x.f3.size ≤ 9223372036854775807 ∧ True)) Tryd.prog 43 := by
  intro H enc w base spare held fuel cs x h
  obtain ⟨xs, n, _, _, hlen, hxl, hf⟩ := DataW.trod_struct Tryd.underlying43 h
  rw [show Tryd.prog.cellsOf 43 = 5 by kernel_rfl] at hlen
  obtain ⟨v0, K0, w0⟩ := rd_field (d := (Kd.int .i64)) hf hxl 0 _ rfl 0 1 rfl (by kernel_rfl) (rdk_int Tryd.underlying3)
  obtain ⟨v1, K1, w1⟩ := rd_field (d := (Kd.int .i64)) hf hxl 1 _ rfl 1 1 rfl (by kernel_rfl) (rdk_int Tryd.underlying3)
  obtain ⟨v2, K2, w2⟩ := rd_field (d := (Kd.int .i64)) hf hxl 2 _ rfl 2 1 rfl (by kernel_rfl) (rdk_int Tryd.underlying3)
  obtain ⟨v3, K3, w3⟩ := rd_field (d := Kd.string) hf hxl 3 _ rfl 3 1 rfl (by kernel_rfl) (rdk_string Tryd.underlying9)
  obtain ⟨v4, K4, w4⟩ := rd_field (d := Kd.bool) hf hxl 4 _ rfl 4 1 rfl (by kernel_rfl) (rdk_bool Tryd.underlying4)
  rw [seg_last cs 4 1 (by omega)] at K4
  have hK : k43.K w (⟨v0, v1, v2, v3, v4⟩ : S43) (cs.drop 0) := ⟨(cs.drop 0).take 1, cs.drop 1, seg_split cs 0 1 1 rfl, K0, ⟨(cs.drop 1).take 1, cs.drop 2, seg_split cs 1 1 2 rfl, K1, ⟨(cs.drop 2).take 1, cs.drop 3, seg_split cs 2 1 3 rfl, K2, ⟨(cs.drop 3).take 1, cs.drop 4, seg_split cs 3 1 4 rfl, K3, K4⟩⟩⟩⟩
  rw [List.drop_zero] at hK
  exact ⟨_, hK, ⟨w0, w1, w2, w3, w4⟩⟩
theorem rdk_T175 : RdK k175 (fun x => (x.f0.size ≤ 9223372036854775807 ∧ x.f1.size ≤ 9223372036854775807)) Tryd.prog 175 := by
  intro H enc w base spare held fuel cs x h
  obtain ⟨xs, n, _, _, hlen, hxl, hf⟩ := DataW.trod_struct Tryd.underlying175 h
  rw [show Tryd.prog.cellsOf 175 = 2 by kernel_rfl] at hlen
  obtain ⟨v0, K0, w0⟩ := rd_field (d := Kd.string) hf hxl 0 _ rfl 0 1 rfl (by kernel_rfl) (rdk_string Tryd.underlying9)
  obtain ⟨v1, K1, w1⟩ := rd_field (d := Kd.string) hf hxl 1 _ rfl 1 1 rfl (by kernel_rfl) (rdk_string Tryd.underlying9)
  rw [seg_last cs 1 1 (by omega)] at K1
  have hK : k175.K w (⟨v0, v1⟩ : S175) (cs.drop 0) := ⟨(cs.drop 0).take 1, cs.drop 1, seg_split cs 0 1 1 rfl, K0, K1⟩
  rw [List.drop_zero] at hK
  exact ⟨_, hK, ⟨w0, w1⟩⟩
theorem rdk_T104 : RdK k104 (fun x => (((Lit.int .i64 x.f0.f0).wf = true ∧ (Lit.int .i64 x.f0.f1).wf = true ∧ (Lit.int .i64 x.f0.f2).wf = true ∧ x.f0.f3.size ≤ 9223372036854775807 ∧ True) ∧ (∀ y0_, y0_ ∈ x.f1 → (y0_.f0.size ≤ 9223372036854775807 ∧ y0_.f1.size ≤ 9223372036854775807)) ∧ (Lit.int .i64 x.f2).wf = true)) Tryd.prog 104 := by
  intro H enc w base spare held fuel cs x h
  obtain ⟨xs, n, _, _, hlen, hxl, hf⟩ := DataW.trod_struct Tryd.underlying104 h
  rw [show Tryd.prog.cellsOf 104 = 7 by kernel_rfl] at hlen
  obtain ⟨v0, K0, w0⟩ := rd_field (d := k43) hf hxl 0 _ rfl 0 5 rfl (by kernel_rfl) rdk_T43
  obtain ⟨v1, K1, w1⟩ := rd_field (d := (Kd.slice 175 k175)) hf hxl 1 _ rfl 5 1 rfl (by kernel_rfl) (rdk_slice Tryd.underlying102 (by kernel_rfl) rdk_T175)
  obtain ⟨v2, K2, w2⟩ := rd_field (d := (Kd.int .i64)) hf hxl 2 _ rfl 6 1 rfl (by kernel_rfl) (rdk_int Tryd.underlying3)
  rw [seg_last cs 6 1 (by omega)] at K2
  have hK : k104.K w (⟨v0, v1, v2⟩ : S104) (cs.drop 0) := ⟨(cs.drop 0).take 5, cs.drop 5, seg_split cs 0 5 5 rfl, K0, ⟨(cs.drop 5).take 1, cs.drop 6, seg_split cs 5 1 6 rfl, K1, K2⟩⟩
  rw [List.drop_zero] at hK
  exact ⟨_, hK, ⟨w0, w1, w2⟩⟩
theorem rdk_T33 : RdK k33 (fun x => ((∀ y0_, y0_ ∈ x.f0 → (((Lit.int .i64 y0_.f0.f0).wf = true ∧ (Lit.int .i64 y0_.f0.f1).wf = true ∧ (Lit.int .i64 y0_.f0.f2).wf = true ∧ y0_.f0.f3.size ≤ 9223372036854775807 ∧ True) ∧ (∀ y1_, y1_ ∈ y0_.f1 → (y1_.f0.size ≤ 9223372036854775807 ∧ y1_.f1.size ≤ 9223372036854775807)) ∧ (Lit.int .i64 y0_.f2).wf = true)))) Tryd.prog 33 := by
  intro H enc w base spare held fuel cs x h
  obtain ⟨xs, n, _, _, hlen, hxl, hf⟩ := DataW.trod_struct Tryd.underlying33 h
  rw [show Tryd.prog.cellsOf 33 = 1 by kernel_rfl] at hlen
  obtain ⟨v0, K0, w0⟩ := rd_field (d := (Kd.slice 104 k104)) hf hxl 0 _ rfl 0 1 rfl (by kernel_rfl) (rdk_slice Tryd.underlying31 (by kernel_rfl) rdk_T104)
  rw [seg_last cs 0 1 (by omega)] at K0
  have hK : k33.K w (⟨v0⟩ : S33) (cs.drop 0) := K0
  rw [List.drop_zero] at hK
  exact ⟨_, hK, w0⟩
set_option maxRecDepth 100000 in
theorem lifted (os : Os) (started : os.Started) (H : Type) (enc : TypeId × Value → H) :
    ReturnsInHanded {} Tryd.checked os 10 .any (fun w args => (Rows.fnExactAllocServerSpec.pre enc Tryd.prog Tryd.f10 [] false w args ∧ laidMetH Tryd.prog laidList w) ∧ sizedMet enc Tryd.prog Tryd.f10 (OpenSpec.ofChange Rows.fnExactAllocServerSpec) false w args)
      (Rows.fnExactAllocServerSpec.post enc Tryd.prog Tryd.f10 false true false false) := by
  refine returnsInHanded_of_change_and (C := Tryd.checked) (X := fun w _ => laidMetH Tryd.prog laidList w) (fun _ _ _ hh h => h.of_heap hh) own started (by kernel_rfl) Tryd.func10
    (ChangeSpec.witness_at (enc := enc) (C := Tryd.checked) (os := os) (X := fun w _ => laidMetH Tryd.prog laidList w) false (laidWorld os) #[.agg #[.slice none 0 0], .int .i64 0, .string ByteArray.empty, .string ByteArray.empty] 8 rfl (by kernel_rfl) (by kernel_rfl) (by kernel_rfl) (by kernel_rfl) (by kernel_rfl) (laidWorld_met os _)) ?_
  intro W base args ds gs before hval0 hW hcnd hsz0 _ _
  have hval : ∀ (j : Nat) t v, Tryd.f10.params[j]? = some t → args[j]? = some v → Value.okWide Tryd.prog W .any base t v := hval0
  have hW' := hW
  obtain ⟨p, q, hA0, hV, rfl, hfz, hnd⟩ := hW
  have hA : DataW.TrodAll enc Tryd.prog W 0 (fun _ => true) true Tryd.f10.params.toList args.toList ds p := hA0
  rw [Tryd.params10] at hA hval
  obtain ⟨v0, vs0, d0, ds0, p0, q0, hargs, rfl, rfl, h0, r0⟩ := trodAll_cons hA
  obtain ⟨v1, vs1, d1, ds1, p1, q1, rfl, rfl, rfl, h1, r1⟩ := trodAll_cons r0
  obtain ⟨v2, vs2, d2, ds2, p2, q2, rfl, rfl, rfl, h2, r2⟩ := trodAll_cons r1
  obtain ⟨v3, vs3, d3, ds3, p3, q3, rfl, rfl, rfl, h3, r3⟩ := trodAll_cons r2
  obtain ⟨rfl, rfl, rfl⟩ := trodAll_nil r3
  obtain rfl : args = #[v0, v1, v2, v3] := by cases args; simp_all
  obtain ⟨rfl, rfl⟩ := trodVars_none hV
  have k0 := h0
  have lt0 : ∀ x ∈ p0, x.block < W.heap.size := by obtain ⟨m, hm⟩ := k0; exact DataW.trod_lt m _ _ _ hm
  have hv0 := (hval 0 33 v0 rfl rfl)
  obtain ⟨x0, K0, W0⟩ : ∃ v, k33.K W v v0.cells.toList ∧ ((∀ y0_, y0_ ∈ v.f0 → (((Lit.int .i64 y0_.f0.f0).wf = true ∧ (Lit.int .i64 y0_.f0.f1).wf = true ∧ (Lit.int .i64 y0_.f0.f2).wf = true ∧ y0_.f0.f3.size ≤ 9223372036854775807 ∧ True) ∧ (∀ y1_, y1_ ∈ y0_.f1 → (y1_.f0.size ≤ 9223372036854775807 ∧ y1_.f1.size ≤ 9223372036854775807)) ∧ (Lit.int .i64 y0_.f2).wf = true))) := by obtain ⟨fuel, hf⟩ := h0; exact rdk_T33 hf
  obtain ⟨⟨cs0⟩, rfl, _⟩ := okWide_struct Tryd.underlying33 hv0
  obtain ⟨A0_0, c0_0, rfl, l0_0, g0_0⟩ := k33_open (x := x0) (cs := cs0) K0
  obtain ⟨a1, rfl, rfl, rfl, w1⟩ := open_int Tryd.underlying3 (hval 1 3 v1 rfl rfl) h1
  obtain ⟨a2, rfl, rfl, rfl, y2⟩ := open_string Tryd.underlying9 (hval 2 9 v2 rfl rfl) h2
  obtain ⟨a3, rfl, rfl, rfl, y3⟩ := open_string Tryd.underlying9 (hval 3 9 v3 rfl rfl) h3
  clear hA0 hval0 hsz0
  refine (law_holds A0_0 c0_0 x0.f0 a1 a2 a3 W g0_0 l0_0 (fun y hy => ⟨(W0 y hy).1.2.2.2.1, (W0 y hy).2.1⟩) (by simpa [maxLen] using y2) (by simpa [maxLen] using y3)).mono fun e W' ⟨he, bel⟩ => ?_
  subst he
  exact ⟨_, rfl, _, _, _, [], _, [], hW', trodAll_mk1 (shut_bool Tryd.underlying4 _), (trodAll_cons_mk (Below.trod laidOut (by kernel_rfl) (of_decide_eq_true (by kernel_rfl)) k0 bel lt0) (trodAll_cons_mk (shut_int Tryd.underlying3 w1) (trodAll_cons_mk (shut_string Tryd.underlying9 y2) (trodAll_cons_mk (shut_string Tryd.underlying9 y3) trodAll_mk0)))), rfl, bel.frame _, fun h => by cases h⟩
end Go.Proofs.YtnghcnkffbjddaaDoor.fnExactAllocServer
