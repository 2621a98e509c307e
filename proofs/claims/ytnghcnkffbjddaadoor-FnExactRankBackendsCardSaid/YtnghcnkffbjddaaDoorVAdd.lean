/- The program's AddBackend. Conditions: at most 1048576 elements. -/
import Derived.Test.YtnghcnkffbjddaaDoorVIns
import Derived.Test.YtnghcnkffbjddaaDoorPImplDx1
import Derived.Lib.Hide
namespace Go.Proofs.YtnghcnkffbjddaaDoorV.Aes
open Go.RowKit Go.Proofs.YtnghcnkffbjddaaDoorV.PrintWords Go.Proofs.YtnghcnkffbjddaaDoorV.PrintLast Go.Proofs.YtnghcnkffbjddaaDoorV.PrintMore Go.Proofs.YtnghcnkffbjddaaDoorV.Mem
set_option linter.unusedVariables false
set_option linter.unusedSimpArgs false

open Go.Proofs.YtnghcnkffbjddaaDoor.PImplD
set_option maxHeartbeats 2000000 in
set_option maxRecDepth 100000 in
theorem cloneS_some (ad : Addr) (c : Nat) (l : List ByteArray) (w : World) (hr : Kd.C Kd.string w (some ad) l.length l) (hl : l.length ≤ 1048576) :
    Calls Tryd.prog 54 #[.slice (some ad) l.length c] w fun e w' => ∃ v : Value, e = .returned v ∧ Kd.R Kd.string 9 w' w.heap.size (fun _ => True) v l ∧ Below w.heap.size w w' := by
  have q39 := fun (w : World) (a : Option Addr) (n c n' c' : Nat) => Lib.run_eql_slice_nil (P := Tryd.prog) w _ _ a n c n' c' Tryd.underlying23
  have HR := Aside0.mk hr
  have HL := Aside0.mk hl
  clear hr hl
  go_enter Tryd.func54, Tryd.ntmps54
  go_wp2_with (at_builtin; refine Kd.R_append_rows Kd.string (w0 := w) w.heap.size rfl _ _ 23 9 (.string ⟨#[]⟩) 16 rfl Tryd.underlying23 (by kernel_rfl) rfl (by decide) (by decide) _ [] l _ _ _ (fun _ => True) (fun _ => False) rfl rfl (Kd.R_of_own (ownsRowM.of (World.ownsRow_made w #[] 0 (Nat.le_refl _) (Nat.zero_le _) (by simp))) (fun _ _ => trivial)) (Kd.C_alloc HR.out _) (fun _ _ h => h) (fun _ h => h.elim) (fun _ _ => trivial) ((Below.refl _ _).alloc (Nat.le_refl _) _) (by simp) (by have := HL.out; simp only [List.length_nil]; omega) ?_; intro v1 w1 hR hB _ _; clear q39)
  go_ret
  exact ⟨v1, rfl, hR, hB⟩
set_option maxHeartbeats 2000000 in
set_option maxRecDepth 100000 in
theorem cloneS_nil (c : Nat) (w : World) :
    Calls Tryd.prog 54 #[.slice none 0 c] w fun e w' => ∃ v : Value, e = .returned v ∧ Kd.R Kd.string 9 w' w.heap.size (fun _ => True) v [] ∧ Below w.heap.size w w' := by
  have q39 := fun (w : World) (a : Option Addr) (n c n' c' : Nat) => Lib.run_eql_slice_nil (P := Tryd.prog) w _ _ a n c n' c' Tryd.underlying23
  go_enter Tryd.func54, Tryd.ntmps54
  go_wp2
  go_ret
  exact ⟨_, rfl, Kd.R_nil _ _ _ _ _, Below.refl _ _⟩
theorem cloneS_any (A : Option Addr) (c : Nat) (l : List ByteArray) (w : World) (hr : Kd.C Kd.string w A l.length l) (hl : l.length ≤ 1048576) :
    Calls Tryd.prog 54 #[.slice A l.length c] w fun e w' => ∃ v : Value, e = .returned v ∧ Kd.R Kd.string 9 w' w.heap.size (fun _ => True) v l ∧ Below w.heap.size w w' := by
  cases A with
  | some ad => exact cloneS_some ad c l w hr hl
  | none =>
    have h0 : l = [] := by
      by_cases h : 0 < l.length
      · obtain ⟨ad, h, _⟩ := Kd.at_string hr 0 (by omega) (by omega)
        cases h
      · exact List.length_eq_zero_iff.mp (by omega)
    subst h0
    exact cloneS_nil c w
def AddPost (w : World) (r1 : List ByteArray) (r2 : Bool) (e : Ending) (w' : World) : Prop :=
  ∃ v : Value, e = .returned (.tuple #[v, .bool r2]) ∧ Kd.R Kd.string 9 w' w.heap.size (fun _ => True) v r1 ∧ Below w.heap.size w w'
theorem add_no {w w' : World} (hB : Below w.heap.size w w') : AddPost w [] false (.returned (.tuple #[.slice none 0 0, .bool false])) w' := ⟨_, rfl, Kd.R_nil _ _ _ _ _, hB⟩
def KK : Nat := 3145731
end Go.Proofs.YtnghcnkffbjddaaDoorV.Aes
