/- The shelf's contracts that these claims' walks call, laid at this program: strings.Repeat, (*strings.Builder).WriteString, String. No walk: one application each. -/
import Derived.Shelf.Strings.Repeat
import Derived.Shelf.Strings.Builder1
import Derived.Test.YtnghcnkffbjddaaDoorProg
namespace Go.Proofs
open Go.Shelf
def Tryd.lays105_ren : Go.Shelf.Ren := ⟨fun | 105 => 150 | 212 => 176 | 99 => 177 | 165 => 178 | 166 => 155 | 170 => 179 | 169 => 156 | 263 => 193 | 264 => 194 | 206 => 195 | 240 => 184 | 241 => 196 | 276 => 202 | 277 => 208 | n => n, fun | 9 => 9 | 3 => 3 | 4 => 4 | 20 => 20 | 0 => 0 | 46 => 98 | 109 => 187 | 5 => 5 | 72 => 162 | 76 => 165 | 51 => 145 | 146 => 205 | 53 => 122 | 148 => 207 | 70 => 160 | 37 => 99 | 75 => 164 | 127 => 196 | 164 => 212 | 80 => 167 | n => n, fun | n => n⟩
theorem Tryd.lays105 : Go.Proofs.Lays.n105 Tryd.prog Tryd.lays105_ren := {
  mixed := by kernel_rfl
  f99 := Tryd.func177.trans (congrArg some (by kernel_rfl))
  f105 := Tryd.func150.trans (congrArg some (by kernel_rfl))
  f165 := Tryd.func178.trans (congrArg some (by kernel_rfl))
  f166 := Tryd.func155.trans (congrArg some (by kernel_rfl))
  f169 := Tryd.func156.trans (congrArg some (by kernel_rfl))
  f170 := Tryd.func179.trans (congrArg some (by kernel_rfl))
  f206 := Tryd.func195.trans (congrArg some (by kernel_rfl))
  f212 := Tryd.func176.trans (congrArg some (by kernel_rfl))
  f240 := Tryd.func184.trans (congrArg some (by kernel_rfl))
  f241 := Tryd.func196.trans (congrArg some (by kernel_rfl))
  f263 := Tryd.func193.trans (congrArg some (by kernel_rfl))
  f264 := Tryd.func194.trans (congrArg some (by kernel_rfl))
  f276 := Tryd.func202.trans (congrArg some (by kernel_rfl))
  f277 := Tryd.func208.trans (congrArg some (by kernel_rfl))
  t0 := Tryd.underlying0
  a0 := Tryd.isAgg0
  z0 := Tryd.sizeOf0
  v0 := Tryd.zeroValue0
  t3 := Tryd.underlying3
  a3 := Tryd.isAgg3
  z3 := Tryd.sizeOf3
  v3 := Tryd.zeroValue3
  t4 := Tryd.underlying4
  a4 := Tryd.isAgg4
  z4 := Tryd.sizeOf4
  v4 := Tryd.zeroValue4
  t5 := Tryd.underlying5
  a5 := Tryd.isAgg5
  z5 := Tryd.sizeOf5
  v5 := Tryd.zeroValue5
  t9 := Tryd.underlying9
  a9 := Tryd.isAgg9
  z9 := Tryd.sizeOf9
  v9 := Tryd.zeroValue9
  t20 := Tryd.underlying20
  a20 := Tryd.isAgg20
  z20 := Tryd.sizeOf20
  v20 := Tryd.zeroValue20
  t37 := Tryd.underlying99
  a37 := Tryd.isAgg99
  z37 := Tryd.sizeOf99
  v37 := Tryd.zeroValue99
  t46 := Tryd.underlying98
  a46 := Tryd.isAgg98
  z46 := Tryd.sizeOf98
  v46 := Tryd.zeroValue98
  t51 := Tryd.underlying145
  a51 := Tryd.isAgg145
  z51 := Tryd.sizeOf145
  v51 := Tryd.zeroValue145
  t53 := Tryd.underlying122
  a53 := Tryd.isAgg122
  z53 := Tryd.sizeOf122
  v53 := Tryd.zeroValue122
  t70 := Tryd.underlying160
  a70 := Tryd.isAgg160
  z70 := Tryd.sizeOf160
  v70 := Tryd.zeroValue160
  t72 := Tryd.underlying162
  a72 := Tryd.isAgg162
  z72 := Tryd.sizeOf162
  v72 := Tryd.zeroValue162
  t75 := Tryd.underlying164
  a75 := Tryd.isAgg164
  z75 := Tryd.sizeOf164
  v75 := Tryd.zeroValue164
  t76 := Tryd.underlying165
  a76 := Tryd.isAgg165
  z76 := Tryd.sizeOf165
  v76 := Tryd.zeroValue165
  t109 := Tryd.underlying187
  a109 := Tryd.isAgg187
  z109 := Tryd.sizeOf187
  v109 := Tryd.zeroValue187
  t127 := Tryd.underlying196
  a127 := Tryd.isAgg196
  z127 := Tryd.sizeOf196
  v127 := Tryd.zeroValue196
  t146 := Tryd.underlying205
  a146 := Tryd.isAgg205
  z146 := Tryd.sizeOf205
  v146 := Tryd.zeroValue205
  t148 := Tryd.underlying207
  a148 := Tryd.isAgg207
  z148 := Tryd.sizeOf207
  v148 := Tryd.zeroValue207
  t164 := Tryd.underlying212
  a164 := Tryd.isAgg212
  z164 := Tryd.sizeOf212
  v164 := Tryd.zeroValue212 }
theorem Tryd.lays166 : Lays.n166 Tryd.prog Tryd.lays105_ren := { Tryd.lays105 with }
theorem Tryd.lays169 : Lays.n169 Tryd.prog Tryd.lays105_ren := { Tryd.lays105 with }
theorem Tryd.Builder_Extra_105 : Builder.Extra Tryd.prog Tryd.lays105_ren := {
  sizeBuilder := by kernel_rfl
  liesBuilder := by kernel_rfl
  t5 := Tryd.lays105.t5
  a5 := Tryd.lays105.a5
  z5 := Tryd.lays105.z5
  v5 := Tryd.lays105.v5
  infoByte := by kernel_rfl
  cellsByte := by kernel_rfl
  sizeByte := by kernel_rfl
  neB5 := by decide }
open Go.RowKit Go.Lib in
/-- strings.Repeat: count ≥ 0, the result within one allocation: count copies of s. -/
theorem Tryd.strings_Repeat_calls (s : ByteArray) (c : Nat) (w : World) (hc : c ≤ 9223372036854775807) (hlen : s.size * c ≤ 140737488355328) :
    Calls Tryd.prog (Tryd.lays105_ren.f 105) #[.string s, .int .i64 c] w fun e w' => e = .returned (.string ⟨(Lib.repeatL s.data.toList c).toArray⟩) ∧ Below w.heap.size w w' := Any.strings_Repeat Tryd.lays105 Tryd.Builder_Extra_105 s c w hc hlen
open Go.RowKit Go.Lib in
/-- (*strings.Builder).WriteString. -/
theorem Tryd.Builder_WriteString_calls (B b : Nat) (bs : List Value) (s : ByteArray) (w : World) (h : Lib.IsBuilder (Tryd.lays105_ren.t 72) (Tryd.lays105_ren.t 5) B b bs w) (hlen : bs.length + s.size ≤ 140737488355328) (hBw : B ≤ w.heap.size) :
    Calls Tryd.prog (Tryd.lays105_ren.f 166) #[.pointer (some ⟨b, 0, none⟩), .string s] w fun e w' => e = .returned (.tuple #[.int .i64 s.size, .nilIface]) ∧ (Lib.BuilderAt (Tryd.lays105_ren.t 72) (Tryd.lays105_ren.t 5) B b (.pointer (some ⟨b, 0, none⟩)) (bs ++ Lib.strCells s) w' ∧ Below B w w') := Any.Builder_WriteString Tryd.lays166 Tryd.Builder_Extra_105 B b bs s w h hlen hBw
open Go.RowKit Go.Lib in
/-- (*strings.Builder).String. -/
theorem Tryd.Builder_String_calls (B b : Nat) (l : List UInt8) (w : World) (h : Lib.IsBuilder (Tryd.lays105_ren.t 72) (Tryd.lays105_ren.t 5) B b (Lib.byteCells l) w) (hBw : B ≤ w.heap.size) :
    Calls Tryd.prog (Tryd.lays105_ren.f 169) #[.pointer (some ⟨b, 0, none⟩)] w fun e w' => e = .returned (.string ⟨l.toArray⟩) ∧ Below B w w' := Any.Builder_String_any Tryd.lays169 Tryd.Builder_Extra_105 B b l w h hBw
end Go.Proofs
