/- The conversion of a string to bytes as an event of the walk: what it makes is a row of the call's own. Conditions: the string is no longer than Go's greatest int. -/
import Derived.Test.YtimokakcdmcnnaaVWords
import Derived.Test.YtimokakcdmcnnaaVFour
import Derived.Test.YtimokakcdmcnnaaVQPut
namespace Go.Proofs.YtimokakcdmcnnaaV.PrintWords
open Go.RowKit
namespace Kd
section
variable {P : Program} {ops : Array Oper} {rest : List Oper} {o : Oper} {a : Act} {Q : Exit → Act → World → Prop} {Kc : Act → World → Prop}
theorem bytes_row (W : World) (base e : Nat) (s : ByteArray) {ok : Nat → Prop} (hfresh : ok W.heap.size) (hl : s.size ≤ 9223372036854775807) (hbase : base ≤ W.heap.size) :
    (Kd.int .u8).R e (Lib.bytesWorld W e s) base ok (.slice (some ⟨W.heap.size, 0, none⟩) s.size (grownCap W s.size 0 e)) (bytesOf s) := by
  have h := ownsRowM.bytes W base e s hbase (by simpa [maxLen] using hl)
  have hx : (s.data.toList.map fun b => Value.int .u8 (b.toNat : Int)) = encs (fun x => Value.int .u8 x) (bytesOf s) := by simp [encs, bytesOf]
  rw [hx] at h
  refine R_of_own (by rw [bytesOf_length]; exact h) (fun k hk => ?_)
  simp only [Value.ownBlock, Option.some.injEq] at hk
  rw [← hk]
  exact hfresh
theorem R_bytes {w0 W : World} (base e : Nat) (hgd : o.guard = none) {N : Tmp} (_hd : o.dst = some N) (src dst : TypeId) (x : Operand) (ho : o.op = .convert src dst x) (s : ByteArray) (hx : a.eval x = .string s) {u : TypeDesc}
    (hs : P.underlying src = some u) (hdst : P.underlying dst = some (.slice e)) (he : P.underlying e = some (.int .u8)) {ok : Nat → Prop} (hfresh : ok W.heap.size) (hl : s.size ≤ 9223372036854775807) (HB : Below base w0 W) (hbase : base ≤ W.heap.size)
    (h : ∀ v1 w1, (Kd.int .u8).R e w1 base ok v1 (bytesOf s) → Below base w0 w1 → W.grownBy w1 none → (∃ b, v1.ownBlock = some b ∧ W.heap.size ≤ b) → wpList P ops Q rest (a.put o.dst v1) w1) : wpList P ops Q (o :: rest) a W := by
  refine wpList_plain hgd fun K hK => ?_
  have hr := Lib.run_convert_string_bytes W src dst e s hs hdst he
  have hb := bytes_below (Below.refl W.heap.size W) (Nat.le_refl _) e s
  unfold Oper.wp execOp
  simp only [ho, Sem.run_bind, Sem.run_pure, Result.andThen_ok, hx, hr]
  exact hK _ _ (h _ _ (bytes_row W base e s hfresh hl hbase) (bytes_below HB hbase e s) (grown_of_below hb none) ⟨_, rfl, Nat.le_refl _⟩)
theorem R_bytes_step {w0 W : World} (base e : Nat) (hw : Region.wanted o (yielded ops a.tmps) = true) {N : Tmp} (_hd : o.dst = some N) (src dst : TypeId) (x : Operand) (ho : o.op = .convert src dst x) (s : ByteArray) (hx : a.eval x = .string s) {u : TypeDesc}
    (hs : P.underlying src = some u) (hdst : P.underlying dst = some (.slice e)) (he : P.underlying e = some (.int .u8)) {ok : Nat → Prop} (hfresh : ok W.heap.size) (hl : s.size ≤ 9223372036854775807) (HB : Below base w0 W) (hbase : base ≤ W.heap.size)
    (h : ∀ v1 w1, (Kd.int .u8).R e w1 base ok v1 (bytesOf s) → Below base w0 w1 → W.grownBy w1 none → (∃ b, v1.ownBlock = some b ∧ W.heap.size ≤ b) → Kc (a.put o.dst v1) w1) : if Region.wanted o (yielded ops a.tmps) = true then Oper.wp P o a W Kc Q else Kc (a.put o.dst undef) W := by
  rw [if_pos hw]
  have hr := Lib.run_convert_string_bytes W src dst e s hs hdst he
  have hb := bytes_below (Below.refl W.heap.size W) (Nat.le_refl _) e s
  unfold Oper.wp execOp
  simp only [ho, Sem.run_bind, Sem.run_pure, Result.andThen_ok, hx, hr]
  exact h _ _ (bytes_row W base e s hfresh hl hbase) (bytes_below HB hbase e s) (grown_of_below hb none) ⟨_, rfl, Nat.le_refl _⟩
end
end Kd
end Go.Proofs.YtimokakcdmcnnaaV.PrintWords
