/- The shelf's contracts that this claim's walks call, laid at this program: strings.Repeat. No walk: one application each. -/
import Derived.Shelf.Strings.Repeat
import Derived.Test.YtlohefjigggjiaaProg
namespace Go.Proofs
open Go.Shelf
def Try.lays105_ren : Go.Shelf.Ren := ⟨fun | 105 => 110 | 212 => 114 | 99 => 115 | 165 => 116 | 166 => 117 | 170 => 118 | 169 => 119 | 263 => 120 | 264 => 121 | 206 => 122 | 240 => 123 | 241 => 124 | 276 => 125 | 277 => 126 | n => n, fun | 9 => 9 | 3 => 3 | 4 => 4 | 20 => 20 | 0 => 0 | 46 => 103 | 109 => 129 | 5 => 5 | 72 => 133 | 76 => 137 | 51 => 139 | 146 => 140 | 53 => 78 | 148 => 142 | 70 => 131 | 37 => 126 | 75 => 136 | 127 => 144 | 164 => 145 | 80 => 88 | n => n, fun | n => n⟩
theorem Try.lays105 : Go.Proofs.Lays.n105 Try.prog Try.lays105_ren := {
  mixed := by kernel_rfl
  f99 := Try.func115.trans (congrArg some (by kernel_rfl))
  f105 := Try.func110.trans (congrArg some (by kernel_rfl))
  f165 := Try.func116.trans (congrArg some (by kernel_rfl))
  f166 := Try.func117.trans (congrArg some (by kernel_rfl))
  f169 := Try.func119.trans (congrArg some (by kernel_rfl))
  f170 := Try.func118.trans (congrArg some (by kernel_rfl))
  f206 := Try.func122.trans (congrArg some (by kernel_rfl))
  f212 := Try.func114.trans (congrArg some (by kernel_rfl))
  f240 := Try.func123.trans (congrArg some (by kernel_rfl))
  f241 := Try.func124.trans (congrArg some (by kernel_rfl))
  f263 := Try.func120.trans (congrArg some (by kernel_rfl))
  f264 := Try.func121.trans (congrArg some (by kernel_rfl))
  f276 := Try.func125.trans (congrArg some (by kernel_rfl))
  f277 := Try.func126.trans (congrArg some (by kernel_rfl))
  t0 := Try.underlying0
  a0 := Try.isAgg0
  z0 := Try.sizeOf0
  v0 := Try.zeroValue0
  t3 := Try.underlying3
  a3 := Try.isAgg3
  z3 := Try.sizeOf3
  v3 := Try.zeroValue3
  t4 := Try.underlying4
  a4 := Try.isAgg4
  z4 := Try.sizeOf4
  v4 := Try.zeroValue4
  t5 := Try.underlying5
  a5 := Try.isAgg5
  z5 := Try.sizeOf5
  v5 := Try.zeroValue5
  t9 := Try.underlying9
  a9 := Try.isAgg9
  z9 := Try.sizeOf9
  v9 := Try.zeroValue9
  t20 := Try.underlying20
  a20 := Try.isAgg20
  z20 := Try.sizeOf20
  v20 := Try.zeroValue20
  t37 := Try.underlying126
  a37 := Try.isAgg126
  z37 := Try.sizeOf126
  v37 := Try.zeroValue126
  t46 := Try.underlying103
  a46 := Try.isAgg103
  z46 := Try.sizeOf103
  v46 := Try.zeroValue103
  t51 := Try.underlying139
  a51 := Try.isAgg139
  z51 := Try.sizeOf139
  v51 := Try.zeroValue139
  t53 := Try.underlying78
  a53 := Try.isAgg78
  z53 := Try.sizeOf78
  v53 := Try.zeroValue78
  t70 := Try.underlying131
  a70 := Try.isAgg131
  z70 := Try.sizeOf131
  v70 := Try.zeroValue131
  t72 := Try.underlying133
  a72 := Try.isAgg133
  z72 := Try.sizeOf133
  v72 := Try.zeroValue133
  t75 := Try.underlying136
  a75 := Try.isAgg136
  z75 := Try.sizeOf136
  v75 := Try.zeroValue136
  t76 := Try.underlying137
  a76 := Try.isAgg137
  z76 := Try.sizeOf137
  v76 := Try.zeroValue137
  t109 := Try.underlying129
  a109 := Try.isAgg129
  z109 := Try.sizeOf129
  v109 := Try.zeroValue129
  t127 := Try.underlying144
  a127 := Try.isAgg144
  z127 := Try.sizeOf144
  v127 := Try.zeroValue144
  t146 := Try.underlying140
  a146 := Try.isAgg140
  z146 := Try.sizeOf140
  v146 := Try.zeroValue140
  t148 := Try.underlying142
  a148 := Try.isAgg142
  z148 := Try.sizeOf142
  v148 := Try.zeroValue142
  t164 := Try.underlying145
  a164 := Try.isAgg145
  z164 := Try.sizeOf145
  v164 := Try.zeroValue145 }
theorem Try.Builder_Extra_105 : Builder.Extra Try.prog Try.lays105_ren := {
  sizeBuilder := by kernel_rfl
  liesBuilder := by kernel_rfl
  t5 := Try.lays105.t5
  a5 := Try.lays105.a5
  z5 := Try.lays105.z5
  v5 := Try.lays105.v5
  infoByte := by kernel_rfl
  cellsByte := by kernel_rfl
  sizeByte := by kernel_rfl
  neB5 := by decide }
open Go.RowKit Go.Lib in
/-- strings.Repeat: count ≥ 0, the result within one allocation: count copies of s. -/
theorem Try.strings_Repeat_calls (s : ByteArray) (c : Nat) (w : World) (hc : c ≤ 9223372036854775807) (hlen : s.size * c ≤ 140737488355328) :
    Calls Try.prog (Try.lays105_ren.f 105) #[.string s, .int .i64 c] w fun e w' => e = .returned (.string ⟨(Lib.repeatL s.data.toList c).toArray⟩) ∧ Below w.heap.size w w' := Any.strings_Repeat Try.lays105 Try.Builder_Extra_105 s c w hc hlen
end Go.Proofs
