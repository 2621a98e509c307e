-- LAID BY A PROGRAM OF THIS SESSION (wip/tools/myprint.py) over the kit's print.
import Derived.Test.YtimokakcdmcnnaaPFnExactSealTextx0
namespace Go.Proofs.Ytimokakcdmcnnaa.PFnExactSealText
open Go.RowKit Go.Proofs.YtimokakcdmcnnaaV.PrintWords Go.Proofs.YtimokakcdmcnnaaV.PrintLast Go.Proofs.YtimokakcdmcnnaaV.PrintMore
attribute [local go_sem] max2_int min2_int max_two min_two max_three min_three max_four min_four   -- for this text's walks alone
set_option linter.unusedVariables false
set_option linter.unusedSimpArgs false

/-! ### spec_SealText: function 33 -/
def spec_SealText.f (a0 : ByteArray) (a1 : ByteArray) (a2 : ByteArray) (a3 : ByteArray) : Option (ByteArray × Bool) := some (if Go.Proofs.YtimokakcdmcnnaaV.Aes.Ok5 a0 a1 a2 ∧ a3.size ≤ 1500 then (Go.Proofs.YtimokakcdmcnnaaV.Aes.cntS a0 a1 a3 ++ Go.Proofs.YtimokakcdmcnnaaV.Aes.tagS a0 a1 a2 (Go.Proofs.YtimokakcdmcnnaaV.Aes.cntS a0 a1 a3), true) else ((⟨#[]⟩ : ByteArray), false))
theorem spec_SealText.calls (a0 : ByteArray) (a1 : ByteArray) (a2 : ByteArray) (a3 : ByteArray) (r1 : ByteArray) (r2 : Bool) (w : World) (h : spec_SealText.f a0 a1 a2 a3 = some (r1, r2)) :
    Calls Try.prog 33 #[.string a0, .string a1, .string a2, .string a3] w fun e w' => e = .returned (.tuple #[.string r1, .bool r2]) ∧ Below w.heap.size w w' := by
  have h2 := Option.some.inj h
  by_cases g : Go.Proofs.YtimokakcdmcnnaaV.Aes.Ok5 a0 a1 a2 ∧ a3.size ≤ 1500
  · rw [if_pos g, Prod.mk.injEq] at h2
    rw [← h2.1, ← h2.2]
    exact Go.Proofs.YtimokakcdmcnnaaV.Aes.sSealText_yes a0 a1 a2 a3 g.1 g.2 w
  · rw [if_neg g, Prod.mk.injEq] at h2
    rw [← h2.1, ← h2.2]
    exact Go.Proofs.YtimokakcdmcnnaaV.Aes.sSealText_no a0 a1 a2 a3 g w

/-! ### impl_SealText: function 34 -/
def impl_SealText.f (a0 : ByteArray) (a1 : ByteArray) (a2 : ByteArray) (a3 : ByteArray) : Option (ByteArray × Bool) := some (if Go.Proofs.YtimokakcdmcnnaaV.Aes.Ok5 a0 a1 a2 ∧ a3.size ≤ 1500 then (Go.Proofs.YtimokakcdmcnnaaV.Aes.cntS a0 a1 a3 ++ Go.Proofs.YtimokakcdmcnnaaV.Aes.tagS a0 a1 a2 (Go.Proofs.YtimokakcdmcnnaaV.Aes.cntS a0 a1 a3), true) else ((⟨#[]⟩ : ByteArray), false))
theorem impl_SealText.calls (a0 : ByteArray) (a1 : ByteArray) (a2 : ByteArray) (a3 : ByteArray) (r1 : ByteArray) (r2 : Bool) (w : World) (h : impl_SealText.f a0 a1 a2 a3 = some (r1, r2)) :
    Calls Try.prog 34 #[.string a0, .string a1, .string a2, .string a3] w fun e w' => e = .returned (.tuple #[.string r1, .bool r2]) ∧ Below w.heap.size w w' := by
  have h2 := Option.some.inj h
  by_cases g : Go.Proofs.YtimokakcdmcnnaaV.Aes.Ok5 a0 a1 a2 ∧ a3.size ≤ 1500
  · rw [if_pos g, Prod.mk.injEq] at h2
    rw [← h2.1, ← h2.2]
    exact Go.Proofs.YtimokakcdmcnnaaV.Aes.SealText_yes a0 a1 a2 a3 g.1 g.2 w
  · rw [if_neg g, Prod.mk.injEq] at h2
    rw [← h2.1, ← h2.2]
    exact Go.Proofs.YtimokakcdmcnnaaV.Aes.SealText_no a0 a1 a2 a3 g w

/-! ### laws_FnExactSealText: function 11 -/
def laws_FnExactSealText.f (a0 : ByteArray) (a1 : ByteArray) (a2 : ByteArray) (a3 : ByteArray) : Option (Bool) := if (a0.size : Int) > 1048576 then (some true) else (if (a1.size : Int) > 1048576 then (some true) else (if (a2.size : Int) > 1048576 then (some true) else (if (a3.size : Int) > 1048576 then (some true) else ((spec_SealText.f a0 a1 a2 a3).bind fun bt101 => ((impl_SealText.f a0 a1 a2 a3).bind fun bt103 => (if bt103.1.toList = bt101.1.toList then (if (bt103.2 != bt101.2) = true then (some false) else (some true)) else (some false)))))))
set_option maxHeartbeats 8000000 in
set_option maxRecDepth 100000 in
theorem laws_FnExactSealText.calls (a0 : ByteArray) (a1 : ByteArray) (a2 : ByteArray) (a3 : ByteArray) (r : Bool) (w : World) (h : laws_FnExactSealText.f a0 a1 a2 a3 = some r) :
    Calls Try.prog 11 #[.string a0, .string a1, .string a2, .string a3] w fun e w' => e = .returned (.bool r) ∧ Below w.heap.size w w' := by
  have HB := Aside0.mk (Below.refl w.heap.size w)
  have H : (if (a0.size : Int) > 1048576 then (some true) else (if (a1.size : Int) > 1048576 then (some true) else (if (a2.size : Int) > 1048576 then (some true) else (if (a3.size : Int) > 1048576 then (some true) else ((spec_SealText.f a0 a1 a2 a3).bind fun bt101 => ((impl_SealText.f a0 a1 a2 a3).bind fun bt103 => (if bt103.1.toList = bt101.1.toList then (if (bt103.2 != bt101.2) = true then (some false) else (some true)) else (some false)))))))) = some r := h
  clear h
  by_cases c5 : (a0.size : Int) > 1048576
  · rw [if_pos c5] at H
    have c5b0 : decide (1048576 < (a0.size : Int)) = true := decide_eq_true c5
    have c5b1 : decide (1048576 < a0.size) = true := decide_eq_true (by omega)
    clear c5
    obtain rfl := Option.some.inj H
    go_enter Try.func11, Try.ntmps11
    go_wp2
    go_ret
    exact ⟨by first | rfl | (simp [errW_none, errW_some] <;> rfl) | (simp [*, errW_none, errW_some] <;> rfl), by repeat (first | (with_reducible first | exact HB.out | apply below_alloc | apply pw_below_drewN | apply below_drew1) | exact HB.out)⟩
  · rw [if_neg c5] at H
    have c5b0 : decide (1048576 < (a0.size : Int)) = false := decide_eq_false c5
    have c5b1 : decide (1048576 < a0.size) = false := decide_eq_false (by omega)
    clear c5
    by_cases c6 : (a1.size : Int) > 1048576
    · rw [if_pos c6] at H
      have c6b0 : decide (1048576 < (a1.size : Int)) = true := decide_eq_true c6
      have c6b1 : decide (1048576 < a1.size) = true := decide_eq_true (by omega)
      clear c6
      obtain rfl := Option.some.inj H
      go_enter Try.func11, Try.ntmps11
      go_wp2
      go_ret
      exact ⟨by first | rfl | (simp [errW_none, errW_some] <;> rfl) | (simp [*, errW_none, errW_some] <;> rfl), by repeat (first | (with_reducible first | exact HB.out | apply below_alloc | apply pw_below_drewN | apply below_drew1) | exact HB.out)⟩
    · rw [if_neg c6] at H
      have c6b0 : decide (1048576 < (a1.size : Int)) = false := decide_eq_false c6
      have c6b1 : decide (1048576 < a1.size) = false := decide_eq_false (by omega)
      clear c6
      by_cases c7 : (a2.size : Int) > 1048576
      · rw [if_pos c7] at H
        have c7b0 : decide (1048576 < (a2.size : Int)) = true := decide_eq_true c7
        have c7b1 : decide (1048576 < a2.size) = true := decide_eq_true (by omega)
        clear c7
        obtain rfl := Option.some.inj H
        go_enter Try.func11, Try.ntmps11
        go_wp2
        go_ret
        exact ⟨by first | rfl | (simp [errW_none, errW_some] <;> rfl) | (simp [*, errW_none, errW_some] <;> rfl), by repeat (first | (with_reducible first | exact HB.out | apply below_alloc | apply pw_below_drewN | apply below_drew1) | exact HB.out)⟩
      · rw [if_neg c7] at H
        have c7b0 : decide (1048576 < (a2.size : Int)) = false := decide_eq_false c7
        have c7b1 : decide (1048576 < a2.size) = false := decide_eq_false (by omega)
        clear c7
        by_cases c8 : (a3.size : Int) > 1048576
        · rw [if_pos c8] at H
          have c8b0 : decide (1048576 < (a3.size : Int)) = true := decide_eq_true c8
          have c8b1 : decide (1048576 < a3.size) = true := decide_eq_true (by omega)
          clear c8
          obtain rfl := Option.some.inj H
          go_enter Try.func11, Try.ntmps11
          go_wp2
          go_ret
          exact ⟨by first | rfl | (simp [errW_none, errW_some] <;> rfl) | (simp [*, errW_none, errW_some] <;> rfl), by repeat (first | (with_reducible first | exact HB.out | apply below_alloc | apply pw_below_drewN | apply below_drew1) | exact HB.out)⟩
        · rw [if_neg c8] at H
          have c8b0 : decide (1048576 < (a3.size : Int)) = false := decide_eq_false c8
          have c8b1 : decide (1048576 < a3.size) = false := decide_eq_false (by omega)
          clear c8
          replace H := Option.bind_eq_some_iff.mp H
          obtain ⟨⟨t101, t102⟩, A90, H⟩ := H
          replace H : ((impl_SealText.f a0 a1 a2 a3).bind fun bt103 => (if bt103.1.toList = t101.toList then (if (bt103.2 != t102) = true then (some false) else (some true)) else (some false))) = some r := H
          have A9 := Aside0.mk A90
          clear A90
          replace H := Option.bind_eq_some_iff.mp H
          obtain ⟨⟨t103, t104⟩, A100, H⟩ := H
          replace H : (if t103.toList = t101.toList then (if (t104 != t102) = true then (some false) else (some true)) else (some false)) = some r := H
          have A10 := Aside0.mk A100
          clear A100
          by_cases c11 : t103.toList = t101.toList
          · rw [if_pos c11] at H
            have c11b0 : (t103.toList == t101.toList) = true := beq_iff_eq.mpr c11
            have c11b1 : (t103.toList != t101.toList) = false := bne_eq_false_iff_eq.mpr c11
            clear c11
            by_cases c12 : (t104 != t102) = true
            · rw [if_pos c12] at H
              have c12b0 : (t104 != t102) = true := c12
              (try (have c12b1 : decide (t104 = t102) = false := by simpa using c12))
              (try (have c12b2 : (t104 == t102) = false := by simpa using c12))
              (try (have c12b3 : ¬ (t104 = t102) := by simpa using c12))
              clear c12
              obtain rfl := Option.some.inj H
              go_enter Try.func11, Try.ntmps11
              go_wp2_with (first | ((with_reducible refine gate_callee (f := 33) rfl ?_); refine goesL_ (some 30) rfl rfl Try.func33 (by kernel_rfl) rfl #[.string a0, .string a1, .string a2, .string a3] rfl (by (try simp only [List.map_toArray, List.map_cons, List.map_nil]); first | done | rfl | (simp only [List.length_drop, List.length_take]; rfl)) ?_; (with_reducible refine (spec_SealText.calls a0 a1 a2 a3 t101 t102 _ A9.out).mono ?_); rintro e w13 ⟨rfl, hb⟩; refine ⟨_, rfl, ?_⟩; have n0_ := Aside0.mk (below_step (by repeat (first | (with_reducible first | exact HB.out | apply below_alloc | apply pw_below_drewN | apply below_drew1) | exact HB.out)) hb); clear HB; have HB := n0_; clear n0_; (try clear hb); (try clear hb2); (try clear hk); (try clear hi)) | ((with_reducible refine gate_callee (f := 34) rfl ?_); refine goesL_ (some 38) rfl rfl Try.func34 (by kernel_rfl) rfl #[.string a0, .string a1, .string a2, .string a3] rfl (by (try simp only [List.map_toArray, List.map_cons, List.map_nil]); first | done | rfl | (simp only [List.length_drop, List.length_take]; rfl)) ?_; (with_reducible refine (impl_SealText.calls a0 a1 a2 a3 t103 t104 _ A10.out).mono ?_); rintro e w14 ⟨rfl, hb⟩; refine ⟨_, rfl, ?_⟩; have n0_ := Aside0.mk (below_step (by repeat (first | (with_reducible first | exact HB.out | apply below_alloc | apply pw_below_drewN | apply below_drew1) | exact HB.out)) hb); clear HB; have HB := n0_; clear n0_; (try clear hb); (try clear hb2); (try clear hk); (try clear hi)))
              go_ret
              exact ⟨by first | rfl | (simp [errW_none, errW_some] <;> rfl) | (simp [*, errW_none, errW_some] <;> rfl), by repeat (first | (with_reducible first | exact HB.out | apply below_alloc | apply pw_below_drewN | apply below_drew1) | exact HB.out)⟩
            · rw [if_neg c12] at H
              have c12b0 : (t104 != t102) = false := by simpa using c12
              (try (have c12b1 : decide (t104 = t102) = true := by simpa using c12))
              (try (have c12b2 : (t104 == t102) = true := by simpa using c12))
              clear c12
              obtain rfl := Option.some.inj H
              go_enter Try.func11, Try.ntmps11
              go_wp2_with (first | ((with_reducible refine gate_callee (f := 33) rfl ?_); refine goesL_ (some 30) rfl rfl Try.func33 (by kernel_rfl) rfl #[.string a0, .string a1, .string a2, .string a3] rfl (by (try simp only [List.map_toArray, List.map_cons, List.map_nil]); first | done | rfl | (simp only [List.length_drop, List.length_take]; rfl)) ?_; (with_reducible refine (spec_SealText.calls a0 a1 a2 a3 t101 t102 _ A9.out).mono ?_); rintro e w15 ⟨rfl, hb⟩; refine ⟨_, rfl, ?_⟩; have n0_ := Aside0.mk (below_step (by repeat (first | (with_reducible first | exact HB.out | apply below_alloc | apply pw_below_drewN | apply below_drew1) | exact HB.out)) hb); clear HB; have HB := n0_; clear n0_; (try clear hb); (try clear hb2); (try clear hk); (try clear hi)) | ((with_reducible refine gate_callee (f := 34) rfl ?_); refine goesL_ (some 38) rfl rfl Try.func34 (by kernel_rfl) rfl #[.string a0, .string a1, .string a2, .string a3] rfl (by (try simp only [List.map_toArray, List.map_cons, List.map_nil]); first | done | rfl | (simp only [List.length_drop, List.length_take]; rfl)) ?_; (with_reducible refine (impl_SealText.calls a0 a1 a2 a3 t103 t104 _ A10.out).mono ?_); rintro e w16 ⟨rfl, hb⟩; refine ⟨_, rfl, ?_⟩; have n0_ := Aside0.mk (below_step (by repeat (first | (with_reducible first | exact HB.out | apply below_alloc | apply pw_below_drewN | apply below_drew1) | exact HB.out)) hb); clear HB; have HB := n0_; clear n0_; (try clear hb); (try clear hb2); (try clear hk); (try clear hi)))
              go_ret
              exact ⟨by first | rfl | (simp [errW_none, errW_some] <;> rfl) | (simp [*, errW_none, errW_some] <;> rfl), by repeat (first | (with_reducible first | exact HB.out | apply below_alloc | apply pw_below_drewN | apply below_drew1) | exact HB.out)⟩
          · rw [if_neg c11] at H
            have c11b0 : (t103.toList == t101.toList) = false := beq_eq_false_iff_ne.mpr c11
            have c11b1 : (t103.toList != t101.toList) = true := bne_iff_ne.mpr c11
            obtain rfl := Option.some.inj H
            go_enter Try.func11, Try.ntmps11
            go_wp2_with (first | ((with_reducible refine gate_callee (f := 33) rfl ?_); refine goesL_ (some 30) rfl rfl Try.func33 (by kernel_rfl) rfl #[.string a0, .string a1, .string a2, .string a3] rfl (by (try simp only [List.map_toArray, List.map_cons, List.map_nil]); first | done | rfl | (simp only [List.length_drop, List.length_take]; rfl)) ?_; (with_reducible refine (spec_SealText.calls a0 a1 a2 a3 t101 t102 _ A9.out).mono ?_); rintro e w17 ⟨rfl, hb⟩; refine ⟨_, rfl, ?_⟩; have n0_ := Aside0.mk (below_step (by repeat (first | (with_reducible first | exact HB.out | apply below_alloc | apply pw_below_drewN | apply below_drew1) | exact HB.out)) hb); clear HB; have HB := n0_; clear n0_; (try clear hb); (try clear hb2); (try clear hk); (try clear hi)) | ((with_reducible refine gate_callee (f := 34) rfl ?_); refine goesL_ (some 38) rfl rfl Try.func34 (by kernel_rfl) rfl #[.string a0, .string a1, .string a2, .string a3] rfl (by (try simp only [List.map_toArray, List.map_cons, List.map_nil]); first | done | rfl | (simp only [List.length_drop, List.length_take]; rfl)) ?_; (with_reducible refine (impl_SealText.calls a0 a1 a2 a3 t103 t104 _ A10.out).mono ?_); rintro e w18 ⟨rfl, hb⟩; refine ⟨_, rfl, ?_⟩; have n0_ := Aside0.mk (below_step (by repeat (first | (with_reducible first | exact HB.out | apply below_alloc | apply pw_below_drewN | apply below_drew1) | exact HB.out)) hb); clear HB; have HB := n0_; clear n0_; (try clear hb); (try clear hb2); (try clear hk); (try clear hi)))
            go_ret
            exact ⟨by first | rfl | (simp [errW_none, errW_some] <;> rfl) | (simp [*, errW_none, errW_some] <;> rfl), by repeat (first | (with_reducible first | exact HB.out | apply below_alloc | apply pw_below_drewN | apply below_drew1) | exact HB.out)⟩

/-- THE ONE PURE STATEMENT of laws_FnExactSealText: yours. -/
def laws_FnExactSealText.Pure : Prop := ∀ (a0 : ByteArray) (a1 : ByteArray) (a2 : ByteArray) (a3 : ByteArray), a0.size ≤ 140737488351232 → a1.size ≤ 140737488351232 → a2.size ≤ 140737488351232 → a3.size ≤ 140737488351232 → laws_FnExactSealText.f a0 a1 a2 a3 = some true
theorem laws_FnExactSealText.walk (P : laws_FnExactSealText.Pure) (a0 : ByteArray) (a1 : ByteArray) (a2 : ByteArray) (a3 : ByteArray) (w : World) (w0 : a0.size ≤ 140737488351232) (w1 : a1.size ≤ 140737488351232) (w2 : a2.size ≤ 140737488351232) (w3 : a3.size ≤ 140737488351232) :
    Calls Try.prog 11 #[.string a0, .string a1, .string a2, .string a3] w fun e w' => e = .returned (.bool true) ∧ Below w.heap.size w w' := by
  have h := P a0 a1 a2 a3 w0 w1 w2 w3
  refine (laws_FnExactSealText.calls a0 a1 a2 a3 true w h).mono ?_
  rintro e w' ⟨rfl, hd⟩
  exact ⟨rfl, hd⟩

end Go.Proofs.Ytimokakcdmcnnaa.PFnExactSealText
