/- Arrays of words in memory; turning a word right, as the program does it. Conditions: none. -/
import Derived.Test.YtnghcnkffbjddaaDoorVHq
import Derived.Test.YtnghcnkffbjddaaDoorPImplRx1
import Derived.Test.YtnghcnkffbjddaaDoorPImplTx1
namespace Go.Proofs.YtnghcnkffbjddaaDoorV.Aes
open Go.RowKit Go.Proofs.YtnghcnkffbjddaaDoorV.PrintWords Go.Proofs.YtnghcnkffbjddaaDoorV.PrintLast Go.Proofs.YtnghcnkffbjddaaDoorV.PrintMore Go.Proofs.YtnghcnkffbjddaaDoorV.Mem
set_option linter.unusedVariables false
set_option linter.unusedSimpArgs false

def u32s (l : List Int) : Array Value := (l.map fun n => Value.int .u32 n).toArray
/-- Block g is one of words, told as numbers; none of it is frozen. -/
def Aw (w : World) (g : Nat) (t : TypeId) (l : List Int) : Prop := w.heap[g]? = some (.cells (u32s l) t (0, 0))
section
variable {w w' : World} {g i B : Nat} {t : TypeId} {l : List Int} {x : Int}
theorem Aw.lt (h : Aw w g t l) : g < w.heap.size := (Array.getElem?_eq_some_iff.mp h).1
theorem Aw.cell (h : Aw w g t l) (hi : i < l.length) : w.cell? ⟨g, i, none⟩ = some (.int .u32 (rd l (i : Int))) := by
  unfold Aw at h
  simp only [World.cell?, h, u32s]
  simp [rd, List.getElem?_eq_getElem hi]
theorem Aw.frozen (h : Aw w g t l) : w.frozen? ⟨g, i, none⟩ = false := by
  unfold Aw at h
  simp [World.frozen?, h]
theorem Aw.set (h : Aw w g t l) : Aw (w.setCell ⟨g, i, none⟩ (.int .u32 x)) g t (l.set i x) := by
  unfold Aw at h ⊢
  unfold World.setCell
  rw [Array.getElem?_modify, if_pos rfl, h]
  simp [u32s, List.map_set]
theorem Aw.other {a : Addr} {v : Value} (h : Aw w g t l) (hg : g ≠ a.block) : Aw (w.setCell a v) g t l := by
  unfold Aw at h ⊢
  rw [Below.heap_setCell w a v g hg, h]
theorem Aw.alloc (h : Aw w g t l) (o : Obj) : Aw (w.alloc o) g t l := by
  have hl := h.lt
  unfold Aw at h ⊢
  rw [Below.heap_alloc w o g hl, h]
theorem Aw.made (w : World) (t : TypeId) (l : List Int) : Aw (w.alloc (.cells (u32s l) t (0, 0))) w.heap.size t l := heap_alloc_new w _
theorem Aw.below (h : Aw w g t l) (hb : Below B w w') (hg : g < B) : Aw w' g t l := by
  unfold Aw at h ⊢
  rw [hb.block g hg, h]
theorem Aw.grown {row : Option Nat} (h : Aw w g t l) (hb : w.grownBy w' row) (hg : some g ≠ row) : Aw w' g t l := by
  have := h.lt
  unfold Aw at h ⊢
  rw [hb.block g this hg, h]
end
theorem index64 (l : List Int) (hl : l.length = 64) (m : Nat) (hm : m < 64) (wx : World) : (Instr.index 193 (.agg (u32s l)) (.int .i64 (m : Int))).run Tryd.prog wx = .ok (.int .u32 (rd l (m : Int))) wx := by
  have h1 : (Go.sizeOf 145).run Tryd.prog wx = .ok 1 wx := by kernel_rfl
  have h2 : (isAgg 145).run Tryd.prog wx = .ok false wx := by kernel_rfl
  have h3 : (u32s l)[m]? = some (.int .u32 (rd l (m : Int))) := by
    have hm' : m < l.length := by omega
    simp [u32s, rd, List.getElem?_eq_getElem hm']
  have hc : 0 ≤ (m : Int) ∧ (m : Int) < ((64 : Nat) : Int) := by omega
  simp only [Instr.index, asIntOf, Sem.run_bind, Sem.run_pure, Result.andThen, run_underlying Tryd.underlying193]
  rw [if_pos hc]
  simp only [part, Sem.run_bind, Result.andThen, h1, h2, Int.toNat_natCast, Nat.mul_one]
  simp only [h3]
  rfl
theorem index8 (l : List Int) (hl : l.length = 8) (m : Nat) (hm : m < 8) (wx : World) : (Instr.index 195 (.agg (u32s l)) (.int .i64 (m : Int))).run Tryd.prog wx = .ok (.int .u32 (rd l (m : Int))) wx := by
  have h1 : (Go.sizeOf 145).run Tryd.prog wx = .ok 1 wx := by kernel_rfl
  have h2 : (isAgg 145).run Tryd.prog wx = .ok false wx := by kernel_rfl
  have h3 : (u32s l)[m]? = some (.int .u32 (rd l (m : Int))) := by
    have hm' : m < l.length := by omega
    simp [u32s, rd, List.getElem?_eq_getElem hm']
  have hc : 0 ≤ (m : Int) ∧ (m : Int) < ((8 : Nat) : Int) := by omega
  simp only [Instr.index, asIntOf, Sem.run_bind, Sem.run_pure, Result.andThen, run_underlying Tryd.underlying195]
  rw [if_pos hc]
  simp only [part, Sem.run_bind, Result.andThen, h1, h2, Int.toNat_natCast, Nat.mul_one]
  simp only [h3]
  rfl
open Go.Proofs.YtnghcnkffbjddaaDoor.PImplR Go.Proofs.YtnghcnkffbjddaaDoor.PImplT
theorem bits_or_comm (k : IntKind) (x y : Int) : Go.bits .or k x y = Go.bits .or k y x := by
  show k.wrap _ = k.wrap _
  congr 2
  exact congrArg BitVec.toNat (BitVec.or_comm _ _)
theorem right_tells (x : Int) (n : Nat) (hn : 0 < n ∧ n < 32) (hb : Go.bits .and .u64 (IntKind.u64.wrap (wrap64 (-(n : Int)))) 31 = ((32 - n : Nat) : Int)) : impl_right.f x (n : Int) = some (ror x n) := by
  unfold impl_right.f bits_RotateLeft32.f
  have e : IntKind.u64.wrap (32 - ((32 - n : Nat) : Int)) = (n : Int) := by rw [wrap_u64_in _ (by omega) (by omega)]; omega
  rw [hb, e, if_pos (by omega), if_pos (by omega), Option.bind_some]
  unfold shr shl ror
  rw [Int.toNat_natCast, Int.toNat_natCast, show IntKind.u32.bits = 32 from rfl, Nat.min_eq_left (by omega), Nat.min_eq_left (by omega), u32_mod, bits_or_comm]
theorem right_walk (x : Int) (n : Nat) (hn : 0 < n ∧ n < 32) (hb : Go.bits .and .u64 (IntKind.u64.wrap (wrap64 (-(n : Int)))) 31 = ((32 - n : Nat) : Int)) (w : World) :
    Calls Tryd.prog 183 #[.int .u32 x, .int .i64 (n : Int)] w fun e w' => e = .returned (.int .u32 (ror x n)) ∧ Drawn0 w w' := impl_right.calls _ _ _ w (right_tells x n hn hb)
theorem right2 (x : Int) (w : World) : Calls Tryd.prog 183 #[.int .u32 x, .int .i64 2] w fun e w' => e = .returned (.int .u32 (ror x 2)) ∧ Drawn0 w w' := right_walk x 2 (by decide) (by decide +kernel) w
theorem right6 (x : Int) (w : World) : Calls Tryd.prog 183 #[.int .u32 x, .int .i64 6] w fun e w' => e = .returned (.int .u32 (ror x 6)) ∧ Drawn0 w w' := right_walk x 6 (by decide) (by decide +kernel) w
theorem right7 (x : Int) (w : World) : Calls Tryd.prog 183 #[.int .u32 x, .int .i64 7] w fun e w' => e = .returned (.int .u32 (ror x 7)) ∧ Drawn0 w w' := right_walk x 7 (by decide) (by decide +kernel) w
theorem right11 (x : Int) (w : World) : Calls Tryd.prog 183 #[.int .u32 x, .int .i64 11] w fun e w' => e = .returned (.int .u32 (ror x 11)) ∧ Drawn0 w w' := right_walk x 11 (by decide) (by decide +kernel) w
theorem right13 (x : Int) (w : World) : Calls Tryd.prog 183 #[.int .u32 x, .int .i64 13] w fun e w' => e = .returned (.int .u32 (ror x 13)) ∧ Drawn0 w w' := right_walk x 13 (by decide) (by decide +kernel) w
theorem right17 (x : Int) (w : World) : Calls Tryd.prog 183 #[.int .u32 x, .int .i64 17] w fun e w' => e = .returned (.int .u32 (ror x 17)) ∧ Drawn0 w w' := right_walk x 17 (by decide) (by decide +kernel) w
theorem right18 (x : Int) (w : World) : Calls Tryd.prog 183 #[.int .u32 x, .int .i64 18] w fun e w' => e = .returned (.int .u32 (ror x 18)) ∧ Drawn0 w w' := right_walk x 18 (by decide) (by decide +kernel) w
theorem right19 (x : Int) (w : World) : Calls Tryd.prog 183 #[.int .u32 x, .int .i64 19] w fun e w' => e = .returned (.int .u32 (ror x 19)) ∧ Drawn0 w w' := right_walk x 19 (by decide) (by decide +kernel) w
theorem right22 (x : Int) (w : World) : Calls Tryd.prog 183 #[.int .u32 x, .int .i64 22] w fun e w' => e = .returned (.int .u32 (ror x 22)) ∧ Drawn0 w w' := right_walk x 22 (by decide) (by decide +kernel) w
theorem right25 (x : Int) (w : World) : Calls Tryd.prog 183 #[.int .u32 x, .int .i64 25] w fun e w' => e = .returned (.int .u32 (ror x 25)) ∧ Drawn0 w w' := right_walk x 25 (by decide) (by decide +kernel) w
end Go.Proofs.YtnghcnkffbjddaaDoorV.Aes
