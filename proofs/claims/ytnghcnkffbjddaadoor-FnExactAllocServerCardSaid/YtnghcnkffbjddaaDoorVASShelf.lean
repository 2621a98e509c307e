/- The shelf's contracts that this claim's walks call, laid at this program: slices.SortFunc at structs, at most 12 elements; cmp.Compare at int; math/bits.Len. No walk: applications. -/
import Derived.Shelf.SlSortCmp.SmallK
import Derived.Shelf.SlicesG.Cmp
import Derived.Shelf.Small.Bits
import Derived.Ground.SlsfProg
import Derived.Ground.SlgcProg
import Derived.Ground.NamesProg
import Derived.Test.YtnghcnkffbjddaaDoorProg
namespace Go.Proofs
open Go.Shelf
def Tryd.sortA_ren : Go.Shelf.Ren := ⟨fun | 6 => 79 | 15 => 101 | 14 => 106 | 28 => 136 | 29 => 137 | 20 => 138 | 21 => 139 | 22 => 140 | 23 => 141 | 24 => 142 | 25 => 143 | 26 => 144 | 27 => 145 | 46 => 171 | 47 => 167 | 48 => 168 | 49 => 172 | 50 => 173 | 57 => 191 | n => n, fun | 22 => 66 | 24 => 71 | 25 => 90 | 3 => 3 | 39 => 98 | 0 => 0 | 53 => 145 | 55 => 122 | 4 => 4 | 46 => 139 | 45 => 138 | 50 => 55 | 5 => 5 | 9 => 9 | 66 => 178 | 70 => 182 | 76 => 200 | 77 => 201 | n => n, fun | n => n⟩
theorem Tryd.sortA : Go.Proofs.SlLaysF0.n6 Tryd.prog Tryd.sortA_ren := {
  mixed := by kernel_rfl
  f6 := ⟨Tryd.f79.name, by decide, Tryd.func79.trans (congrArg some (by kernel_rfl))⟩
  f14 := ⟨Tryd.f106.name, by decide, Tryd.func106.trans (congrArg some (by kernel_rfl))⟩
  f15 := Tryd.func101.trans (congrArg some (by kernel_rfl))
  f20 := ⟨Tryd.f138.name, by decide, Tryd.func138.trans (congrArg some (by kernel_rfl))⟩
  f21 := ⟨Tryd.f139.name, by decide, Tryd.func139.trans (congrArg some (by kernel_rfl))⟩
  f22 := ⟨Tryd.f140.name, by decide, Tryd.func140.trans (congrArg some (by kernel_rfl))⟩
  f23 := ⟨Tryd.f141.name, by decide, Tryd.func141.trans (congrArg some (by kernel_rfl))⟩
  f24 := ⟨Tryd.f142.name, by decide, Tryd.func142.trans (congrArg some (by kernel_rfl))⟩
  f25 := ⟨Tryd.f143.name, by decide, Tryd.func143.trans (congrArg some (by kernel_rfl))⟩
  f26 := ⟨Tryd.f144.name, by decide, Tryd.func144.trans (congrArg some (by kernel_rfl))⟩
  f27 := ⟨Tryd.f145.name, by decide, Tryd.func145.trans (congrArg some (by kernel_rfl))⟩
  f28 := Tryd.func136.trans (congrArg some (by kernel_rfl))
  f29 := Tryd.func137.trans (congrArg some (by kernel_rfl))
  f46 := ⟨Tryd.f171.name, by decide, Tryd.func171.trans (congrArg some (by kernel_rfl))⟩
  f47 := Tryd.func167.trans (congrArg some (by kernel_rfl))
  f48 := Tryd.func168.trans (congrArg some (by kernel_rfl))
  f49 := ⟨Tryd.f172.name, by decide, Tryd.func172.trans (congrArg some (by kernel_rfl))⟩
  f50 := ⟨Tryd.f173.name, by decide, Tryd.func173.trans (congrArg some (by kernel_rfl))⟩
  f57 := ⟨Tryd.f191.name, by decide, Tryd.func191.trans (congrArg some (by kernel_rfl))⟩
  t0 := Tryd.underlying0
  a0 := Tryd.isAgg0
  z0 := Tryd.sizeOf0
  v0 := Tryd.zeroValue0
  t3 := Tryd.underlying3
  a3 := Tryd.isAgg3
  z3 := Tryd.sizeOf3
  v3 := Tryd.zeroValue3
  t4 := Tryd.underlying4
  a4 := Tryd.isAgg4
  z4 := Tryd.sizeOf4
  v4 := Tryd.zeroValue4
  t5 := Tryd.underlying5
  a5 := Tryd.isAgg5
  z5 := Tryd.sizeOf5
  v5 := Tryd.zeroValue5
  t9 := Tryd.underlying9
  a9 := Tryd.isAgg9
  z9 := Tryd.sizeOf9
  v9 := Tryd.zeroValue9
  t22 := Tryd.underlying66
  a22 := Tryd.isAgg66
  z22 := Tryd.sizeOf66
  v22 := Tryd.zeroValue66
  t25 := Tryd.underlying90
  a25 := Tryd.isAgg90
  z25 := Tryd.sizeOf90
  v25 := Tryd.zeroValue90
  t39 := Tryd.underlying98
  a39 := Tryd.isAgg98
  z39 := Tryd.sizeOf98
  v39 := Tryd.zeroValue98
  t45 := Tryd.underlying138
  a45 := Tryd.isAgg138
  z45 := Tryd.sizeOf138
  v45 := Tryd.zeroValue138
  t46 := Tryd.underlying139
  a46 := Tryd.isAgg139
  z46 := Tryd.sizeOf139
  v46 := Tryd.zeroValue139
  t50 := Tryd.underlying55
  a50 := Tryd.isAgg55
  z50 := Tryd.sizeOf55
  v50 := Tryd.zeroValue55
  t53 := Tryd.underlying145
  a53 := Tryd.isAgg145
  z53 := Tryd.sizeOf145
  v53 := Tryd.zeroValue145
  t55 := Tryd.underlying122
  a55 := Tryd.isAgg122
  z55 := Tryd.sizeOf122
  v55 := Tryd.zeroValue122
  t66 := Tryd.underlying178
  a66 := Tryd.isAgg178
  z66 := Tryd.sizeOf178
  v66 := Tryd.zeroValue178
  t70 := Tryd.underlying182
  a70 := Tryd.isAgg182
  z70 := Tryd.sizeOf182
  v70 := Tryd.zeroValue182
  t76 := Tryd.underlying200
  a76 := Tryd.isAgg200
  z76 := Tryd.sizeOf200
  v76 := Tryd.zeroValue200
  t77 := Tryd.underlying201
  a77 := Tryd.isAgg201
  z77 := Tryd.sizeOf201
  v77 := Tryd.zeroValue201 }
def Tryd.bitsL_ren : Go.Shelf.Ren := ⟨fun | 125 => 101 | 128 => 136 | 129 => 137 | n => n, fun | 46 => 98 | 3 => 3 | 51 => 145 | 53 => 122 | 4 => 4 | 5 => 5 | 9 => 9 | n => n, fun | n => n⟩
theorem Tryd.bitsL : Go.Proofs.Lays.n125 Tryd.prog Tryd.bitsL_ren := {
  mixed := by kernel_rfl
  f125 := Tryd.func101.trans (congrArg some (by kernel_rfl))
  f128 := Tryd.func136.trans (congrArg some (by kernel_rfl))
  f129 := Tryd.func137.trans (congrArg some (by kernel_rfl))
  t3 := Tryd.underlying3
  a3 := Tryd.isAgg3
  z3 := Tryd.sizeOf3
  v3 := Tryd.zeroValue3
  t4 := Tryd.underlying4
  a4 := Tryd.isAgg4
  z4 := Tryd.sizeOf4
  v4 := Tryd.zeroValue4
  t5 := Tryd.underlying5
  a5 := Tryd.isAgg5
  z5 := Tryd.sizeOf5
  v5 := Tryd.zeroValue5
  t9 := Tryd.underlying9
  a9 := Tryd.isAgg9
  z9 := Tryd.sizeOf9
  v9 := Tryd.zeroValue9
  t46 := Tryd.underlying98
  a46 := Tryd.isAgg98
  z46 := Tryd.sizeOf98
  v46 := Tryd.zeroValue98
  t51 := Tryd.underlying145
  a51 := Tryd.isAgg145
  z51 := Tryd.sizeOf145
  v51 := Tryd.zeroValue145
  t53 := Tryd.underlying122
  a53 := Tryd.isAgg122
  z53 := Tryd.sizeOf122
  v53 := Tryd.zeroValue122 }
open Go.RowKit Go.Lib Go.Sort in
/-- math/bits.Len, of at most 12. -/
theorem Tryd.bits_Len_calls (n : Nat) (W : World) (h : n ≤ 12) : Calls Tryd.prog (Tryd.bitsL_ren.f 125) #[.int .u64 n] W fun e w' => (∃ l : Int, e = .returned (.int .i64 l)) ∧ w' = W := (Any.bits_Len Tryd.bitsL n W (by omega) (by omega)).mono fun _ _ ⟨he, hw⟩ => ⟨⟨_, he⟩, hw⟩
end Go.Proofs
