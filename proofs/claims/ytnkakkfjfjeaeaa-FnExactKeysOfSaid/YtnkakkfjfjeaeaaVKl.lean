/- The law KeysOf, walked. Conditions: none. -/
import Derived.Test.YtnkakkfjfjeaeaaPFnExactKeysOfx1
set_option linter.unusedVariables false
set_option linter.unusedSimpArgs false
namespace Go.Proofs.Ytnkakkfjfjeaeaa.PFnExactKeysOf
open Go.RowKit Go.Proofs.YtnkakkfjfjeaeaaV.PrintWords Go.Proofs.YtnkakkfjfjeaeaaV.PrintLast Go.Proofs.YtnkakkfjfjeaeaaV.PrintMore
def laws_FnExactKeysOf.f (a0 : ByteArray) : Option (Bool) := some true
theorem laws_FnExactKeysOf.block {w2 w3 : World} {a b c : ByteArray} (hB : Below (w2.alloc (.cells #[.string a, .string b, .string c] 39)).heap.size (w2.alloc (.cells #[.string a, .string b, .string c] 39)) w3) (o : Obj) :
    (w3.alloc o).cell? ⟨w2.heap.size, 0, none⟩ = some (.string a) ∧ (w3.alloc o).cell? ⟨w2.heap.size, 1, none⟩ = some (.string b) ∧ (w3.alloc o).cell? ⟨w2.heap.size, 2, none⟩ = some (.string c) := by
  have s0 : w2.heap.size < (w2.alloc (.cells #[.string a, .string b, .string c] 39)).heap.size := by simp
  have s1 := hB.size
  have hbk : w3.heap[w2.heap.size]? = some (.cells #[.string a, .string b, .string c] 39 (0, 0)) := by
    rw [hB.block _ s0]
    exact heap_alloc_new w2 _
  have hbk2 : (w3.alloc o).heap[w2.heap.size]? = some (.cells #[.string a, .string b, .string c] 39 (0, 0)) := by
    rw [World.alloc, Array.getElem?_push_lt (by omega), ← Array.getElem?_eq_getElem, hbk]
  refine ⟨?_, ?_, ?_⟩ <;> simp [World.cell?, hbk2]
set_option maxHeartbeats 8000000 in
set_option maxRecDepth 100000 in
theorem laws_FnExactKeysOf.calls (a0 : ByteArray) (r : Bool) (w : World) (h : laws_FnExactKeysOf.f a0 = some r) :
    Calls Try.prog 11 #[.string a0] w fun e w' => e = .returned (.bool r) ∧ Below w.heap.size w w' := by
  obtain rfl := Option.some.inj h
  obtain ⟨⟨k1, k2, k3, k4⟩, hk⟩ : ∃ r, r = Go.Proofs.YtnkakkfjfjeaeaaV.Aes.keysA a0 := ⟨_, rfl⟩
  have hs := fun w => spec_KeysOf.calls a0 k1 k2 k3 k4 w (congrArg some hk.symm)
  have hi := fun w => impl_KeysOf.calls a0 k1 k2 k3 k4 w (congrArg some hk.symm)
  have he := fun w => laws_eqKeys.calls k1 k2 k3 k1 k2 k3 true w (by unfold laws_eqKeys.f; rw [if_pos rfl, if_pos rfl, if_pos rfl])
  clear hk h
  have hne : (k4 != k4) = false := by simp
  have hu39 := Try.underlying39
  by_cases hl : (a0.size : Int) > 1048576
  · have := decide_eq_true hl
    go_enter Try.func11, Try.ntmps11
    go_wp2
    go_ret
    exact ⟨rfl, Below.refl _ _⟩
  · have := decide_eq_false hl
    go_enter Try.func11, Try.ntmps11
    go_wp2_with (first
      | (go_at_call 32; refine (hs _).mono ?_; rintro e w2 ⟨rfl, hB2⟩)
      | (go_at_call 33; refine (hi _).mono ?_; rintro e w3 ⟨rfl, hB3⟩; obtain ⟨c0, c1, c2⟩ := laws_FnExactKeysOf.block hB3 (.cells #[.string k1, .string k2, .string k3] 39))
      | (go_at_call 34; refine (he _).mono ?_; rintro e w4 ⟨rfl, hB4⟩))
    go_ret
    refine ⟨rfl, ?_⟩
    have hA := (hB2.alloc hB2.size (.cells #[.string k1, .string k2, .string k3] 39)).trans (hB3.mono (by have := hB2.size; simp; omega))
    exact (hA.alloc hA.size _).trans (hB4.mono (by have := hA.size; simp; omega))

theorem laws_FnExactKeysOf.walk (a0 : ByteArray) (w : World) :
    Calls Try.prog 11 #[.string a0] w fun e w' => e = .returned (.bool true) ∧ Below w.heap.size w w' := laws_FnExactKeysOf.calls a0 true w rfl

end Go.Proofs.Ytnkakkfjfjeaeaa.PFnExactKeysOf
