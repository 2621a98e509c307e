/- Rows of pairs of texts and of entries, of a call's own; slices.Clone at servers. Conditions: at most 1048576 elements. -/
import Derived.Test.YtnghcnkffbjddaaDoorVTab4
import Derived.Lib.SliceRun
namespace Go.Proofs.YtnghcnkffbjddaaDoorV.Aes
open Go.RowKit Go.Proofs.YtnghcnkffbjddaaDoorV.PrintWords Go.Proofs.YtnghcnkffbjddaaDoorV.PrintLast Go.Proofs.YtnghcnkffbjddaaDoorV.PrintMore Go.Proofs.YtnghcnkffbjddaaDoorV.Mem
set_option linter.unusedVariables false
set_option linter.unusedSimpArgs false

open Go.Maps Go.WideShapes
/-- A server (two texts), a config, an entry: how they lie in memory. -/
def kP : Kd (ByteArray × ByteArray) := Kd.pair Kd.string Kd.string
theorem kP_mk (w : World) (x : ByteArray × ByteArray) : kP.K w x [.string x.1, .string x.2] := ⟨[.string x.1], [.string x.2], rfl, rfl, rfl⟩
theorem info71 : (Tryd.prog.info? 71).map (fun i => (i.zero, i.size, i.bytes)) = some (some (.agg #[.string ⟨#[]⟩, .string ⟨#[]⟩]), 2, 32) := by kernel_rfl
theorem emptyA {α : Type} (d : Kd α) (e : Nat) (w : World) : d.R e (w.alloc (.cells #[] e)) w.heap.size (fun _ => True) (.slice (some ⟨w.heap.size, 0, none⟩) 0 0) ([] : List α) :=
  ⟨fun _ _ => trivial, [], ⟨by simp, .inr ⟨w.heap.size, 0, #[], rfl, Nat.le_refl _, ⟨(0, 0), heap_alloc_new w _, .inl rfl⟩, Nat.le_refl _, Nat.zero_le _, by simp, by simp⟩⟩, Reps.none _ _⟩
set_option maxHeartbeats 2000000 in
set_option maxRecDepth 100000 in
theorem cloneA_some (ad : Addr) (c : Nat) (l : List (ByteArray × ByteArray)) (w : World) (hr : kP.C w (some ad) l.length l) (hl : l.length ≤ 1048576) :
    Calls Tryd.prog 127 #[.slice (some ad) l.length c] w fun e w' => ∃ v : Value, e = .returned v ∧ kP.R 71 w' w.heap.size (fun _ => True) v l ∧ Below w.heap.size w w' := by
  have q39 := fun (w : World) (a : Option Addr) (n c n' c' : Nat) => Lib.run_eql_slice_nil (P := Tryd.prog) w _ _ a n c n' c' Tryd.underlying66
  have HR := Aside0.mk hr
  have HL := Aside0.mk hl
  clear hr hl
  go_enter Tryd.func127, Tryd.ntmps127
  go_wp2_with (at_builtin; refine Kd.R_append_rows kP (w0 := w) w.heap.size rfl _ _ 66 71 (.agg #[.string ⟨#[]⟩, .string ⟨#[]⟩]) 32 rfl Tryd.underlying66 info71 rfl (by decide) (by decide) _ [] l _ _ _ (fun _ => True) (fun _ => False) rfl rfl (emptyA kP _ w) (Kd.C_alloc HR.out _) (fun _ _ h => h) (fun _ h => h.elim) (fun _ _ => trivial) ((Below.refl _ _).alloc (Nat.le_refl _) _) (by simp) (by have := HL.out; simp only [List.length_nil]; omega) ?_; intro v1 w1 hR hB _ _; clear q39)
  go_ret
  exact ⟨v1, rfl, hR, hB⟩
set_option maxHeartbeats 2000000 in
set_option maxRecDepth 100000 in
theorem cloneA_nil (c : Nat) (w : World) :
    Calls Tryd.prog 127 #[.slice none 0 c] w fun e w' => ∃ v : Value, e = .returned v ∧ kP.R 71 w' w.heap.size (fun _ => True) v [] ∧ Below w.heap.size w w' := by
  have q39 := fun (w : World) (a : Option Addr) (n c n' c' : Nat) => Lib.run_eql_slice_nil (P := Tryd.prog) w _ _ a n c n' c' Tryd.underlying66
  go_enter Tryd.func127, Tryd.ntmps127
  go_wp2
  go_ret
  exact ⟨_, rfl, Kd.R_nil _ _ _ _ _, Below.refl _ _⟩
theorem cloneA_any (A : Option Addr) (c : Nat) (l : List (ByteArray × ByteArray)) (w : World) (hr : kP.C w A l.length l) (hl : l.length ≤ 1048576) :
    Calls Tryd.prog 127 #[.slice A l.length c] w fun e w' => ∃ v : Value, e = .returned v ∧ kP.R 71 w' w.heap.size (fun _ => True) v l ∧ Below w.heap.size w w' := by
  cases A with
  | some ad => exact cloneA_some ad c l w hr hl
  | none =>
    have h0 : l = [] := by
      by_cases h : 0 < l.length
      · obtain ⟨ad, h, _⟩ := hr.2.2 h
        cases h
      · exact List.length_eq_zero_iff.mp (by omega)
    subst h0
    exact cloneA_nil c w
theorem kP_openM {w : World} {base : Nat} {ok : Nat → Prop} {x : ByteArray × ByteArray} {cs : List Value} (h : kP.M w base ok x cs) : cs = [.string x.1, .string x.2] := by
  obtain ⟨_, _, rfl, rfl, rfl⟩ := h
  exact rfl
/-- A row of the call's own, its elements told in other words. -/
theorem R_map {α β : Type} {d : Kd α} {d' : Kd β} {e : Nat} {w : World} {base : Nat} {ok : Nat → Prop} {v : Value} {xs : List α} (f : α → β) (hsz : d.sz = d'.sz)
    (hM : ∀ ok x cs, d.M w base ok x cs → d'.M w base ok (f x) cs) (h : d.R e w base ok v xs) : d'.R e w base ok v (xs.map f) := by
  obtain ⟨h0, inner, ho, hr⟩ := h
  refine ⟨h0, inner, ?_, ?_, fun j p hp => ?_⟩
  · rw [List.length_map, ← hsz]; exact ho
  · rw [List.length_map, ← hsz]; exact hr.1
  · rw [List.getElem?_map] at hp
    obtain ⟨x, hx, rfl⟩ := Option.map_eq_some_iff.mp hp
    rw [← hsz]
    exact hM _ _ _ (hr.2 j x hx)
end Go.Proofs.YtnghcnkffbjddaaDoorV.Aes
