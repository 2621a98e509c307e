/- The shelf's contracts that this claim's walks call, laid at this program: strings.Repeat. No walk: one application each. -/
import Derived.Shelf.Strings.Repeat
import Derived.Test.YtimokakcdmcnnaaProg
namespace Go.Proofs
open Go.Shelf
def Try.lays105_ren : Go.Shelf.Ren := ⟨fun | 105 => 120 | 212 => 124 | 99 => 125 | 165 => 126 | 166 => 127 | 170 => 128 | 169 => 129 | 263 => 130 | 264 => 131 | 206 => 132 | 240 => 133 | 241 => 134 | 276 => 135 | 277 => 136 | n => n, fun | 9 => 9 | 3 => 3 | 4 => 4 | 20 => 20 | 0 => 0 | 46 => 74 | 109 => 111 | 5 => 5 | 72 => 115 | 76 => 118 | 51 => 78 | 146 => 120 | 53 => 71 | 148 => 122 | 70 => 113 | 37 => 43 | 75 => 117 | 127 => 124 | 164 => 125 | 80 => 92 | n => n, fun | n => n⟩
theorem Try.lays105 : Go.Proofs.Lays.n105 Try.prog Try.lays105_ren := {
  mixed := by kernel_rfl
  f99 := Try.func125.trans (congrArg some (by kernel_rfl))
  f105 := Try.func120.trans (congrArg some (by kernel_rfl))
  f165 := Try.func126.trans (congrArg some (by kernel_rfl))
  f166 := Try.func127.trans (congrArg some (by kernel_rfl))
  f169 := Try.func129.trans (congrArg some (by kernel_rfl))
  f170 := Try.func128.trans (congrArg some (by kernel_rfl))
  f206 := Try.func132.trans (congrArg some (by kernel_rfl))
  f212 := Try.func124.trans (congrArg some (by kernel_rfl))
  f240 := Try.func133.trans (congrArg some (by kernel_rfl))
  f241 := Try.func134.trans (congrArg some (by kernel_rfl))
  f263 := Try.func130.trans (congrArg some (by kernel_rfl))
  f264 := Try.func131.trans (congrArg some (by kernel_rfl))
  f276 := Try.func135.trans (congrArg some (by kernel_rfl))
  f277 := Try.func136.trans (congrArg some (by kernel_rfl))
  t0 := Try.underlying0
  a0 := Try.isAgg0
  z0 := Try.sizeOf0
  v0 := Try.zeroValue0
  t3 := Try.underlying3
  a3 := Try.isAgg3
  z3 := Try.sizeOf3
  v3 := Try.zeroValue3
  t4 := Try.underlying4
  a4 := Try.isAgg4
  z4 := Try.sizeOf4
  v4 := Try.zeroValue4
  t5 := Try.underlying5
  a5 := Try.isAgg5
  z5 := Try.sizeOf5
  v5 := Try.zeroValue5
  t9 := Try.underlying9
  a9 := Try.isAgg9
  z9 := Try.sizeOf9
  v9 := Try.zeroValue9
  t20 := Try.underlying20
  a20 := Try.isAgg20
  z20 := Try.sizeOf20
  v20 := Try.zeroValue20
  t37 := Try.underlying43
  a37 := Try.isAgg43
  z37 := Try.sizeOf43
  v37 := Try.zeroValue43
  t46 := Try.underlying74
  a46 := Try.isAgg74
  z46 := Try.sizeOf74
  v46 := Try.zeroValue74
  t51 := Try.underlying78
  a51 := Try.isAgg78
  z51 := Try.sizeOf78
  v51 := Try.zeroValue78
  t53 := Try.underlying71
  a53 := Try.isAgg71
  z53 := Try.sizeOf71
  v53 := Try.zeroValue71
  t70 := Try.underlying113
  a70 := Try.isAgg113
  z70 := Try.sizeOf113
  v70 := Try.zeroValue113
  t72 := Try.underlying115
  a72 := Try.isAgg115
  z72 := Try.sizeOf115
  v72 := Try.zeroValue115
  t75 := Try.underlying117
  a75 := Try.isAgg117
  z75 := Try.sizeOf117
  v75 := Try.zeroValue117
  t76 := Try.underlying118
  a76 := Try.isAgg118
  z76 := Try.sizeOf118
  v76 := Try.zeroValue118
  t109 := Try.underlying111
  a109 := Try.isAgg111
  z109 := Try.sizeOf111
  v109 := Try.zeroValue111
  t127 := Try.underlying124
  a127 := Try.isAgg124
  z127 := Try.sizeOf124
  v127 := Try.zeroValue124
  t146 := Try.underlying120
  a146 := Try.isAgg120
  z146 := Try.sizeOf120
  v146 := Try.zeroValue120
  t148 := Try.underlying122
  a148 := Try.isAgg122
  z148 := Try.sizeOf122
  v148 := Try.zeroValue122
  t164 := Try.underlying125
  a164 := Try.isAgg125
  z164 := Try.sizeOf125
  v164 := Try.zeroValue125 }
theorem Try.Builder_Extra_105 : Builder.Extra Try.prog Try.lays105_ren := {
  sizeBuilder := by kernel_rfl
  liesBuilder := by kernel_rfl
  t5 := Try.lays105.t5
  a5 := Try.lays105.a5
  z5 := Try.lays105.z5
  v5 := Try.lays105.v5
  infoByte := by kernel_rfl
  cellsByte := by kernel_rfl
  sizeByte := by kernel_rfl
  neB5 := by decide }
open Go.RowKit Go.Lib in
/-- strings.Repeat: count ≥ 0, the result within one allocation: count copies of s. -/
theorem Try.strings_Repeat_calls (s : ByteArray) (c : Nat) (w : World) (hc : c ≤ 9223372036854775807) (hlen : s.size * c ≤ 140737488355328) :
    Calls Try.prog (Try.lays105_ren.f 105) #[.string s, .int .i64 c] w fun e w' => e = .returned (.string ⟨(Lib.repeatL s.data.toList c).toArray⟩) ∧ Below w.heap.size w w' := Any.strings_Repeat Try.lays105 Try.Builder_Extra_105 s c w hc hlen
end Go.Proofs
