/- The shelf's contract that this claim's walks call, laid at this program: strings.Trim at a cutset of ASCII signs. No walk: one application. -/
import Derived.Shelf.Strings.SlTrimAscii
import Derived.Test.YtnghcnkffbjddaaDoorProg
namespace Go.Proofs
open Go.Shelf
def Tryd.lays160_ren : Go.Shelf.Ren := ⟨fun | 160 => 88 | 232 => 116 | 231 => 115 | 227 => 117 | 234 => 119 | 233 => 118 | 236 => 121 | 235 => 120 | 228 => 158 | 271 => 161 | 151 => 160 | 197 => 159 | 120 => 189 | 152 => 188 | 260 => 187 | 137 => 204 | 119 => 205 | 224 => 206 | 225 => 207 | 217 => 214 | 266 => 216 | n => n, fun | 9 => 9 | 4 => 4 | 3 => 3 | 5 => 5 | 117 => 128 | 116 => 127 | 0 => 0 | 124 => 131 | 21 => 21 | 105 => 170 | 46 => 98 | 119 => 214 | 139 => 217 | 138 => 216 | n => n, fun | 3 => 1 | 4 => 2 | n => n⟩
theorem Tryd.lays160 : Go.Proofs.Lays.n160 Tryd.prog Tryd.lays160_ren := {
  mixed := by kernel_rfl
  f119 := Tryd.func205.trans (congrArg some (by kernel_rfl))
  f120 := Tryd.func189.trans (congrArg some (by kernel_rfl))
  f137 := Tryd.func204.trans (congrArg some (by kernel_rfl))
  f151 := Tryd.func160.trans (congrArg some (by kernel_rfl))
  f152 := Tryd.func188.trans (congrArg some (by kernel_rfl))
  f160 := Tryd.func88.trans (congrArg some (by kernel_rfl))
  f197 := Tryd.func159.trans (congrArg some (by kernel_rfl))
  f217 := Tryd.func214.trans (congrArg some (by kernel_rfl))
  f224 := Tryd.func206.trans (congrArg some (by kernel_rfl))
  f225 := Tryd.func207.trans (congrArg some (by kernel_rfl))
  f227 := Tryd.func117.trans (congrArg some (by kernel_rfl))
  f228 := Tryd.func158.trans (congrArg some (by kernel_rfl))
  f231 := Tryd.func115.trans (congrArg some (by kernel_rfl))
  f232 := Tryd.func116.trans (congrArg some (by kernel_rfl))
  f233 := Tryd.func118.trans (congrArg some (by kernel_rfl))
  f234 := Tryd.func119.trans (congrArg some (by kernel_rfl))
  f235 := Tryd.func120.trans (congrArg some (by kernel_rfl))
  f236 := Tryd.func121.trans (congrArg some (by kernel_rfl))
  f260 := Tryd.func187.trans (congrArg some (by kernel_rfl))
  f266 := Tryd.func216.trans (congrArg some (by kernel_rfl))
  f271 := Tryd.func161.trans (congrArg some (by kernel_rfl))
  t0 := Tryd.underlying0
  a0 := Tryd.isAgg0
  z0 := Tryd.sizeOf0
  v0 := Tryd.zeroValue0
  t3 := Tryd.underlying3
  a3 := Tryd.isAgg3
  z3 := Tryd.sizeOf3
  v3 := Tryd.zeroValue3
  t4 := Tryd.underlying4
  a4 := Tryd.isAgg4
  z4 := Tryd.sizeOf4
  v4 := Tryd.zeroValue4
  t5 := Tryd.underlying5
  a5 := Tryd.isAgg5
  z5 := Tryd.sizeOf5
  v5 := Tryd.zeroValue5
  t9 := Tryd.underlying9
  a9 := Tryd.isAgg9
  z9 := Tryd.sizeOf9
  v9 := Tryd.zeroValue9
  t21 := Tryd.underlying21
  a21 := Tryd.isAgg21
  z21 := Tryd.sizeOf21
  v21 := Tryd.zeroValue21
  t46 := Tryd.underlying98
  a46 := Tryd.isAgg98
  z46 := Tryd.sizeOf98
  v46 := Tryd.zeroValue98
  t105 := Tryd.underlying170
  a105 := Tryd.isAgg170
  z105 := Tryd.sizeOf170
  v105 := Tryd.zeroValue170
  t116 := Tryd.underlying127
  a116 := Tryd.isAgg127
  z116 := Tryd.sizeOf127
  t117 := Tryd.underlying128
  a117 := Tryd.isAgg128
  z117 := Tryd.sizeOf128
  v117 := Tryd.zeroValue128
  t119 := Tryd.underlying214
  a119 := Tryd.isAgg214
  z119 := Tryd.sizeOf214
  t124 := Tryd.underlying131
  a124 := Tryd.isAgg131
  z124 := Tryd.sizeOf131
  v124 := Tryd.zeroValue131
  t138 := Tryd.underlying216
  a138 := Tryd.isAgg216
  z138 := Tryd.sizeOf216
  v138 := Tryd.zeroValue216
  t139 := Tryd.underlying217
  a139 := Tryd.isAgg217
  z139 := Tryd.sizeOf217
  v139 := Tryd.zeroValue217
  g3 := by kernel_rfl
  g4 := by kernel_rfl }
open Go.RowKit Go.Lib in
/-- strings.Trim at a cutset of ASCII signs. -/
theorem Tryd.strings_Trim_calls (s cutset : ByteArray) (w : World) (hs : s.size ≤ 9223372036854775807) (hcs : cutset.size < 4294967281) (hascii : ∀ (j : Nat) b, cutset.data.toList[j]? = some b → b.toNat < 128) :
    Calls Tryd.prog (Tryd.lays160_ren.f 160) #[.string s, .string cutset] w fun e w' => e = .returned (.string ⟨(Lib.trimS s.data.toList cutset.data.toList).toArray⟩) ∧ Below w.heap.size w w' := Any.strings_Trim_laid Tryd.lays160 (by kernel_rfl) s cutset w hs hcs hascii
end Go.Proofs
