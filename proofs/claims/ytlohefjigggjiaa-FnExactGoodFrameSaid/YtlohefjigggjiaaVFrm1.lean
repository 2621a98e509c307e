/- impl.shapes: a map made on the spot from a frame's kind to its shape (a struct of a number and a bool). Conditions: none. -/
import Derived.Test.YtlohefjigggjiaaProg
import Derived.Test.YtlohefjigggjiaaVWb
import Derived.Maps.OwnOps
import Derived.Maps.OwnSet
import Derived.Deep.RegionHeld3
namespace Go.Proofs.YtlohefjigggjiaaV.Aes
open Go.RowKit Go.Proofs.YtlohefjigggjiaaV.PrintWords Go.Proofs.YtlohefjigggjiaaV.PrintLast Go.Proofs.YtlohefjigggjiaaV.PrintMore Go.Proofs.YtlohefjigggjiaaV.Mem
set_option linter.unusedVariables false
set_option linter.unusedSimpArgs false

open Go.Maps
/-- 'm[k] = v' of a map literal, at the operation. -/
theorem insert_step {H : Type} {P : Program} (w : World) {ops : Array Oper} {rest : List Oper} {o : Oper} {a : Act} {Q : Exit → Act → World → Prop}
    (hg : o.guard = none) (m x v : Operand) (t : TypeId) (hop : o.op = Op.insert t m x v)
    (k e : TypeId) (K : Keyed P k) (ht : P.underlying t = some (.map k e)) (R : Value → Option (DataW H × List MemPlace)) (b n : Nat) (D : DataW H)
    (hm : a.eval m = .map (some b)) (hown : w.ownsMap P k R b n D) (hn : n < maxLen) (key val : Value) (kl : Lit) (hx : a.eval x = key) (hv : a.eval v = val) (hkey : keyOf P k key = some kl)
    (d : DataW H) (ps : List MemPlace) (hval : R val = some (d, ps))
    (hK : ∀ w', w'.ownsMap P k R b (n + 1) (D.put kl d) → w.grownBy w' (some b) → wpList P ops Q rest (a.put o.dst undef) w') :
    wpList P ops Q (o :: rest) a w := by
  refine wpList_plain hg fun K' hK' => ?_
  obtain ⟨w', hrun, r1, r2⟩ := hown.update K ht hn hkey hval
  unfold Oper.wp
  simp [execOp, hop, hm, hx, hv, hrun, Result.andThen]
  exact hK' _ _ (hK w' r1 r2)
theorem lt_maxLen (n : Nat) (h : n ≤ 100) : n < maxLen := by unfold maxLen; omega
theorem wf_i (n : Int) (h0 : 0 ≤ n) (h1 : n ≤ 100) : (Lit.int .i64 n).wf = true := WalkArith.wf_i64 (by omega)
theorem keyI : Keyed Try.prog 3 := int_keyed Try.underlying3
def shapeD (n : Int) (b : Bool) : DataW Unit := .agg [.lit (.int .i64 n), .lit (.bool b)]
def shapeElem (v : Value) : Option (DataW Unit × List MemPlace) :=
  match v with
  | .agg cs => match cs.toList with
    | [.int .i64 n, .bool b] => some (shapeD n b, [])
    | _ => none
  | _ => none
theorem shapeElem_mk (n : Int) (b : Bool) : shapeElem (.agg #[.int .i64 n, .bool b]) = some (shapeD n b, []) := rfl
theorem shapeElem_inv {v : Value} {z : DataW Unit × List MemPlace} (h : shapeElem v = some z) : ∃ n b, v = .agg #[.int .i64 n, .bool b] ∧ z = (shapeD n b, []) := by
  unfold shapeElem at h
  split at h
  · split at h
    · rename_i n b he
      exact ⟨n, b, congrArg Value.agg (Array.ext' he), (Option.some.inj h).symm⟩
    · cases h
  · cases h
theorem zeroShape (w : World) : (zeroValue 121).run Try.prog w = .ok (.agg #[.int .i64 0, .bool false]) w := by kernel_rfl
set_option maxRecDepth 100000 in
theorem key0 : keyOf Try.prog 3 (.int .i64 0) = some (.int .i64 0) := keyOf_int_mk Try.underlying3 (wf_i 0 (by decide) (by decide))
set_option maxRecDepth 100000 in
theorem key1 : keyOf Try.prog 3 (.int .i64 1) = some (.int .i64 1) := keyOf_int_mk Try.underlying3 (wf_i 1 (by decide) (by decide))
set_option maxRecDepth 100000 in
theorem key2 : keyOf Try.prog 3 (.int .i64 2) = some (.int .i64 2) := keyOf_int_mk Try.underlying3 (wf_i 2 (by decide) (by decide))
set_option maxRecDepth 100000 in
theorem key4 : keyOf Try.prog 3 (.int .i64 4) = some (.int .i64 4) := keyOf_int_mk Try.underlying3 (wf_i 4 (by decide) (by decide))
set_option maxRecDepth 100000 in
theorem key5 : keyOf Try.prog 3 (.int .i64 5) = some (.int .i64 5) := keyOf_int_mk Try.underlying3 (wf_i 5 (by decide) (by decide))
set_option maxRecDepth 100000 in
theorem key6 : keyOf Try.prog 3 (.int .i64 6) = some (.int .i64 6) := keyOf_int_mk Try.underlying3 (wf_i 6 (by decide) (by decide))
set_option maxRecDepth 100000 in
theorem key7 : keyOf Try.prog 3 (.int .i64 7) = some (.int .i64 7) := keyOf_int_mk Try.underlying3 (wf_i 7 (by decide) (by decide))
set_option maxRecDepth 100000 in
theorem key8 : keyOf Try.prog 3 (.int .i64 8) = some (.int .i64 8) := keyOf_int_mk Try.underlying3 (wf_i 8 (by decide) (by decide))
set_option maxRecDepth 100000 in
theorem key16 : keyOf Try.prog 3 (.int .i64 16) = some (.int .i64 16) := keyOf_int_mk Try.underlying3 (wf_i 16 (by decide) (by decide))
set_option maxRecDepth 100000 in
theorem key17 : keyOf Try.prog 3 (.int .i64 17) = some (.int .i64 17) := keyOf_int_mk Try.underlying3 (wf_i 17 (by decide) (by decide))
set_option maxRecDepth 100000 in
theorem key24 : keyOf Try.prog 3 (.int .i64 24) = some (.int .i64 24) := keyOf_int_mk Try.underlying3 (wf_i 24 (by decide) (by decide))
set_option maxRecDepth 100000 in
theorem key26 : keyOf Try.prog 3 (.int .i64 26) = some (.int .i64 26) := keyOf_int_mk Try.underlying3 (wf_i 26 (by decide) (by decide))
set_option maxRecDepth 100000 in
theorem key27 : keyOf Try.prog 3 (.int .i64 27) = some (.int .i64 27) := keyOf_int_mk Try.underlying3 (wf_i 27 (by decide) (by decide))
set_option maxRecDepth 100000 in
theorem key28 : keyOf Try.prog 3 (.int .i64 28) = some (.int .i64 28) := keyOf_int_mk Try.underlying3 (wf_i 28 (by decide) (by decide))
set_option maxRecDepth 100000 in
theorem key48 : keyOf Try.prog 3 (.int .i64 48) = some (.int .i64 48) := keyOf_int_mk Try.underlying3 (wf_i 48 (by decide) (by decide))
def shapesD : DataW Unit := (((((((((((((((DataW.map []).put (.int .i64 0) (shapeD 0 false)).put (.int .i64 1) (shapeD 0 false)).put (.int .i64 2) (shapeD 1 false)).put (.int .i64 4) (shapeD 3 false)).put (.int .i64 5) (shapeD 2 false)).put (.int .i64 6) (shapeD 1 true)).put (.int .i64 7) (shapeD 0 true)).put (.int .i64 8) (shapeD 2 true)).put (.int .i64 16) (shapeD 1 false)).put (.int .i64 17) (shapeD 2 false)).put (.int .i64 24) (shapeD 3 true)).put (.int .i64 26) (shapeD 0 true)).put (.int .i64 27) (shapeD 0 true)).put (.int .i64 28) (shapeD 2 true)).put (.int .i64 48) (shapeD 0 true)
set_option maxHeartbeats 8000000 in
set_option maxRecDepth 100000 in
theorem shapes_walk (w : World) : Calls Try.prog 107 #[] w fun e w' => ∃ b, e = .returned (.map (some b)) ∧ w'.ownsMap Try.prog 3 shapeElem b 15 shapesD ∧ Below w.heap.size w w' := by
  have hmm := @run_makeMap Try.prog
  go_enter Try.func107, Try.ntmps107
  go_wp2_with (first
    | (refine insert_step (H := Unit) _ rfl _ _ _ 123 rfl 3 121 keyI Try.underlying123 shapeElem _ 14 _ rfl ho13 (lt_maxLen 14 (by decide)) _ _ (.int .i64 48) rfl rfl key48 (shapeD 0 true) [] (shapeElem_mk _ _) ?_; intro w14 ho14 hg14; clear ho13)
    | (refine insert_step (H := Unit) _ rfl _ _ _ 123 rfl 3 121 keyI Try.underlying123 shapeElem _ 13 _ rfl ho12 (lt_maxLen 13 (by decide)) _ _ (.int .i64 28) rfl rfl key28 (shapeD 2 true) [] (shapeElem_mk _ _) ?_; intro w13 ho13 hg13; clear ho12)
    | (refine insert_step (H := Unit) _ rfl _ _ _ 123 rfl 3 121 keyI Try.underlying123 shapeElem _ 12 _ rfl ho11 (lt_maxLen 12 (by decide)) _ _ (.int .i64 27) rfl rfl key27 (shapeD 0 true) [] (shapeElem_mk _ _) ?_; intro w12 ho12 hg12; clear ho11)
    | (refine insert_step (H := Unit) _ rfl _ _ _ 123 rfl 3 121 keyI Try.underlying123 shapeElem _ 11 _ rfl ho10 (lt_maxLen 11 (by decide)) _ _ (.int .i64 26) rfl rfl key26 (shapeD 0 true) [] (shapeElem_mk _ _) ?_; intro w11 ho11 hg11; clear ho10)
    | (refine insert_step (H := Unit) _ rfl _ _ _ 123 rfl 3 121 keyI Try.underlying123 shapeElem _ 10 _ rfl ho9 (lt_maxLen 10 (by decide)) _ _ (.int .i64 24) rfl rfl key24 (shapeD 3 true) [] (shapeElem_mk _ _) ?_; intro w10 ho10 hg10; clear ho9)
    | (refine insert_step (H := Unit) _ rfl _ _ _ 123 rfl 3 121 keyI Try.underlying123 shapeElem _ 9 _ rfl ho8 (lt_maxLen 9 (by decide)) _ _ (.int .i64 17) rfl rfl key17 (shapeD 2 false) [] (shapeElem_mk _ _) ?_; intro w9 ho9 hg9; clear ho8)
    | (refine insert_step (H := Unit) _ rfl _ _ _ 123 rfl 3 121 keyI Try.underlying123 shapeElem _ 8 _ rfl ho7 (lt_maxLen 8 (by decide)) _ _ (.int .i64 16) rfl rfl key16 (shapeD 1 false) [] (shapeElem_mk _ _) ?_; intro w8 ho8 hg8; clear ho7)
    | (refine insert_step (H := Unit) _ rfl _ _ _ 123 rfl 3 121 keyI Try.underlying123 shapeElem _ 7 _ rfl ho6 (lt_maxLen 7 (by decide)) _ _ (.int .i64 8) rfl rfl key8 (shapeD 2 true) [] (shapeElem_mk _ _) ?_; intro w7 ho7 hg7; clear ho6)
    | (refine insert_step (H := Unit) _ rfl _ _ _ 123 rfl 3 121 keyI Try.underlying123 shapeElem _ 6 _ rfl ho5 (lt_maxLen 6 (by decide)) _ _ (.int .i64 7) rfl rfl key7 (shapeD 0 true) [] (shapeElem_mk _ _) ?_; intro w6 ho6 hg6; clear ho5)
    | (refine insert_step (H := Unit) _ rfl _ _ _ 123 rfl 3 121 keyI Try.underlying123 shapeElem _ 5 _ rfl ho4 (lt_maxLen 5 (by decide)) _ _ (.int .i64 6) rfl rfl key6 (shapeD 1 true) [] (shapeElem_mk _ _) ?_; intro w5 ho5 hg5; clear ho4)
    | (refine insert_step (H := Unit) _ rfl _ _ _ 123 rfl 3 121 keyI Try.underlying123 shapeElem _ 4 _ rfl ho3 (lt_maxLen 4 (by decide)) _ _ (.int .i64 5) rfl rfl key5 (shapeD 2 false) [] (shapeElem_mk _ _) ?_; intro w4 ho4 hg4; clear ho3)
    | (refine insert_step (H := Unit) _ rfl _ _ _ 123 rfl 3 121 keyI Try.underlying123 shapeElem _ 3 _ rfl ho2 (lt_maxLen 3 (by decide)) _ _ (.int .i64 4) rfl rfl key4 (shapeD 3 false) [] (shapeElem_mk _ _) ?_; intro w3 ho3 hg3; clear ho2)
    | (refine insert_step (H := Unit) _ rfl _ _ _ 123 rfl 3 121 keyI Try.underlying123 shapeElem _ 2 _ rfl ho1 (lt_maxLen 2 (by decide)) _ _ (.int .i64 2) rfl rfl key2 (shapeD 1 false) [] (shapeElem_mk _ _) ?_; intro w2 ho2 hg2; clear ho1)
    | (refine insert_step (H := Unit) _ rfl _ _ _ 123 rfl 3 121 keyI Try.underlying123 shapeElem _ 1 _ rfl ho0 (lt_maxLen 1 (by decide)) _ _ (.int .i64 1) rfl rfl key1 (shapeD 0 false) [] (shapeElem_mk _ _) ?_; intro w1 ho1 hg1; clear ho0)
    | (refine insert_step (H := Unit) _ rfl _ _ _ 123 rfl 3 121 keyI Try.underlying123 shapeElem _ 0 _ rfl (World.ownsMap_made _ _ _ _) (lt_maxLen 0 (by decide)) _ _ (.int .i64 0) rfl rfl key0 (shapeD 0 false) [] (shapeElem_mk _ _) ?_; intro w0 ho0 hg0))
  have h0 : Below w.heap.size w (w.alloc (Obj.map #[] 0)) := (Below.refl _ _).alloc (Nat.le_refl _) _
  have h1 := h0.grown hg0 h0.size (fun j hj => by cases hj; exact Nat.le_refl _)
  have h2 := h1.grown hg1 h1.size (fun j hj => by cases hj; exact Nat.le_refl _)
  have h3 := h2.grown hg2 h2.size (fun j hj => by cases hj; exact Nat.le_refl _)
  have h4 := h3.grown hg3 h3.size (fun j hj => by cases hj; exact Nat.le_refl _)
  have h5 := h4.grown hg4 h4.size (fun j hj => by cases hj; exact Nat.le_refl _)
  have h6 := h5.grown hg5 h5.size (fun j hj => by cases hj; exact Nat.le_refl _)
  have h7 := h6.grown hg6 h6.size (fun j hj => by cases hj; exact Nat.le_refl _)
  have h8 := h7.grown hg7 h7.size (fun j hj => by cases hj; exact Nat.le_refl _)
  have h9 := h8.grown hg8 h8.size (fun j hj => by cases hj; exact Nat.le_refl _)
  have h10 := h9.grown hg9 h9.size (fun j hj => by cases hj; exact Nat.le_refl _)
  have h11 := h10.grown hg10 h10.size (fun j hj => by cases hj; exact Nat.le_refl _)
  have h12 := h11.grown hg11 h11.size (fun j hj => by cases hj; exact Nat.le_refl _)
  have h13 := h12.grown hg12 h12.size (fun j hj => by cases hj; exact Nat.le_refl _)
  have h14 := h13.grown hg13 h13.size (fun j hj => by cases hj; exact Nat.le_refl _)
  have h15 := h14.grown hg14 h14.size (fun j hj => by cases hj; exact Nat.le_refl _)
  go_ret
  exact ⟨_, rfl, ho14, h15⟩
end Go.Proofs.YtlohefjigggjiaaV.Aes
