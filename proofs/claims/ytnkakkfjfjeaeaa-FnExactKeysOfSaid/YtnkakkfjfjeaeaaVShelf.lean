/- The shelf's contracts that these claims' walks call, laid at this program: strings.Repeat, (*strings.Builder).WriteString, String. No walk: one application each. -/
import Derived.Shelf.Lay
import Derived.Shelf.Strings.Repeat
import Derived.Shelf.Strings.Builder1
import Derived.Test.YtnkakkfjfjeaeaaProg
namespace Go.Proofs
open Go.Shelf
shelf_lay Lays.n105 Nm 105 at Try as Try.lays105
theorem Try.lays166 : Lays.n166 Try.prog Try.lays105_ren := { Try.lays105 with }
theorem Try.lays169 : Lays.n169 Try.prog Try.lays105_ren := { Try.lays105 with }
theorem Try.Builder_Extra_105 : Builder.Extra Try.prog Try.lays105_ren where
  sizeBuilder := by kernel_rfl
  liesBuilder := by kernel_rfl
  t5 := Try.lays105.t5
  a5 := Try.lays105.a5
  z5 := Try.lays105.z5
  v5 := Try.lays105.v5
  infoByte := by kernel_rfl
  cellsByte := by kernel_rfl
  sizeByte := by kernel_rfl
  neB5 := by decide
open Go.RowKit Go.Lib in
/-- strings.Repeat: count ≥ 0, the result within one allocation: count copies of s. -/
theorem Try.strings_Repeat_calls (s : ByteArray) (c : Nat) (w : World) (hc : c ≤ 9223372036854775807) (hlen : s.size * c ≤ 140737488355328) :
    Calls Try.prog (Try.lays105_ren.f 105) #[.string s, .int .i64 c] w fun e w' => e = .returned (.string ⟨(Lib.repeatL s.data.toList c).toArray⟩) ∧ Below w.heap.size w w' := Any.strings_Repeat Try.lays105 Try.Builder_Extra_105 s c w hc hlen
open Go.RowKit Go.Lib in
/-- (*strings.Builder).WriteString. -/
theorem Try.Builder_WriteString_calls (B b : Nat) (bs : List Value) (s : ByteArray) (w : World) (h : Lib.IsBuilder (Try.lays105_ren.t 72) (Try.lays105_ren.t 5) B b bs w) (hlen : bs.length + s.size ≤ 140737488355328) (hBw : B ≤ w.heap.size) :
    Calls Try.prog (Try.lays105_ren.f 166) #[.pointer (some ⟨b, 0, none⟩), .string s] w fun e w' => e = .returned (.tuple #[.int .i64 s.size, .nilIface]) ∧ (Lib.BuilderAt (Try.lays105_ren.t 72) (Try.lays105_ren.t 5) B b (.pointer (some ⟨b, 0, none⟩)) (bs ++ Lib.strCells s) w' ∧ Below B w w') := Any.Builder_WriteString Try.lays166 Try.Builder_Extra_105 B b bs s w h hlen hBw
open Go.RowKit Go.Lib in
/-- (*strings.Builder).String. -/
theorem Try.Builder_String_calls (B b : Nat) (l : List UInt8) (w : World) (h : Lib.IsBuilder (Try.lays105_ren.t 72) (Try.lays105_ren.t 5) B b (Lib.byteCells l) w) (hBw : B ≤ w.heap.size) :
    Calls Try.prog (Try.lays105_ren.f 169) #[.pointer (some ⟨b, 0, none⟩)] w fun e w' => e = .returned (.string ⟨l.toArray⟩) ∧ Below B w w' := Any.Builder_String_any Try.lays169 Try.Builder_Extra_105 B b l w h hBw
end Go.Proofs
