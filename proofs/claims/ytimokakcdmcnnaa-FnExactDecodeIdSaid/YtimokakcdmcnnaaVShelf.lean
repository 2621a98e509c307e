/- The shelf's contracts that this claim's walks call, laid at this program: strings.Repeat. No walk: one application each. -/
import Derived.Shelf.Lay
import Derived.Shelf.Strings.Repeat
import Derived.Test.YtimokakcdmcnnaaProg
namespace Go.Proofs
open Go.Shelf
shelf_lay Lays.n105 Nm 105 at Try as Try.lays105
theorem Try.Builder_Extra_105 : Builder.Extra Try.prog Try.lays105_ren where
  sizeBuilder := by kernel_rfl
  liesBuilder := by kernel_rfl
  t5 := Try.lays105.t5
  a5 := Try.lays105.a5
  z5 := Try.lays105.z5
  v5 := Try.lays105.v5
  infoByte := by kernel_rfl
  cellsByte := by kernel_rfl
  sizeByte := by kernel_rfl
  neB5 := by decide
open Go.RowKit Go.Lib in
/-- strings.Repeat: count ≥ 0, the result within one allocation: count copies of s. -/
theorem Try.strings_Repeat_calls (s : ByteArray) (c : Nat) (w : World) (hc : c ≤ 9223372036854775807) (hlen : s.size * c ≤ 140737488355328) :
    Calls Try.prog (Try.lays105_ren.f 105) #[.string s, .int .i64 c] w fun e w' => e = .returned (.string ⟨(Lib.repeatL s.data.toList c).toArray⟩) ∧ Below w.heap.size w w' := Any.strings_Repeat Try.lays105 Try.Builder_Extra_105 s c w hc hlen
end Go.Proofs
