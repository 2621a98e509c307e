/- Floats of the hash's constants: what math.Cbrt tells of a positive normal number, walked over the model's own steps. Conditions: the facts that the theorem names, each a closed fact of the model's floats. -/
import Derived.Test.YtnghcnkffbjddaaDoorVWb
import Derived.Test.YtnghcnkffbjddaaDoorPImplRx1
import Derived.Laws.FloatArith
import Derived.Laws.Externs
import Derived.Lib.Hide
namespace Go.Proofs.YtnghcnkffbjddaaDoorV.Aes
open Go.RowKit Go.Proofs.YtnghcnkffbjddaaDoorV.PrintWords Go.Proofs.YtnghcnkffbjddaaDoorV.PrintLast Go.Proofs.YtnghcnkffbjddaaDoorV.PrintMore Go.Proofs.YtnghcnkffbjddaaDoorV.Mem
set_option linter.unusedVariables false
set_option linter.unusedSimpArgs false

@[go_sem] theorem f64bits_call (b : Nat) (w : World) : (callFunc 212 #[.float .f64 b]).run Tryd.prog w = .ok (.value (.int .u64 (b : Int))) w := by
  rw [run_callFunc_extern Tryd.func212 (by kernel_rfl) (by kernel_rfl) (by kernel_rfl) (e := Extern.MathFloatBits.float64bits) (by kernel_rfl)]
  rfl
@[go_sem] theorem f64from_call (n : Nat) (w : World) : (callFunc 211 #[.int .u64 (n : Int)]).run Tryd.prog w = .ok (.value (.float .f64 n)) w := by
  rw [run_callFunc_extern Tryd.func211 (by kernel_rfl) (by kernel_rfl) (by kernel_rfl) (e := Extern.MathFloatBits.float64frombits) (by kernel_rfl)]
  rfl
theorem IsNaN_walk (x : Nat) (h : (FloatKind.f64.format.order x x != some .eq) = false) (w : World) : Calls Tryd.prog 209 #[.float .f64 x] w fun e w' => e = .returned (.bool false) ∧ w = w' := by
  go_enter Tryd.func209, Tryd.ntmps209
  go_wp2
  go_ret
  exact ⟨rfl, rfl⟩
theorem Abs_walk (x : Nat) (h : Go.bits .andNot .u64 (x : Int) 9223372036854775808 = (x : Int)) (w : World) : Calls Tryd.prog 215 #[.float .f64 x] w fun e w' => e = .returned (.float .f64 x) ∧ w = w' := by
  go_enter Tryd.func215, Tryd.ntmps215
  go_wp2
  go_ret
  exact ⟨rfl, rfl⟩
theorem IsInf_walk (x : Nat) (h : Go.bits .andNot .u64 (x : Int) 9223372036854775808 = (x : Int)) (h2 : (FloatKind.f64.format.order x 9218868437227405311 == some .gt) = false) (w : World) : Calls Tryd.prog 210 #[.float .f64 x, .int .i64 0] w fun e w' => e = .returned (.bool false) ∧ w = w' := by
  have H := Lib.hid h
  clear h
  go_enter Tryd.func210, Tryd.ntmps210
  go_wp2_with (go_at_call 215; refine (Abs_walk x H.out _).mono ?_; rintro e w' ⟨rfl, rfl⟩)
  go_ret
  exact ⟨rfl, rfl⟩
theorem f64_run (op : BinOp) {x y r : Nat} (h : floatBits op .f64 x y = some r) (w : World) : (binOp op 211 (.float .f64 x) (.float .f64 y)).run Tryd.prog w = .ok (.float .f64 r) w := run_float_arith w op _ .f64 x y r h
/-- The first word that math.cbrt makes of a number's bits. -/
def cbrt0 (x : Nat) : Nat := x / 3 + 3071306043645493248
def cbrtMask (t : Nat) : Nat := (Go.bits .and .u64 (t : Int) 18446744072635809792).toNat + 1073741824
/-- What math.cbrt does to a positive normal number's bits, step by step. -/
structure CbrtAt (x r : Nat) (a1 r1 a2 s1 a3 a4 a5 a6 a7 t1 s2 r2 wd a8 a9 r3 a10 : Nat) : Prop where
  b : x < 9223372036854775808
  e0 : (FloatKind.f64.format.order x 0 == some .eq) = false
  e1 : (FloatKind.f64.format.order x x != some .eq) = false
  e2 : (FloatKind.f64.format.order x 9218868437227405311 == some .gt) = false
  e3 : (FloatKind.f64.format.order x 0 == some .lt) = false
  e4 : (FloatKind.f64.format.order x 4503599627370496 == some .lt) = false
  ea : Go.bits .andNot .u64 (x : Int) 9223372036854775808 = (x : Int)
  h1 : floatBits .mul .f64 (cbrt0 x) (cbrt0 x) = some a1
  h2 : floatBits .quo .f64 a1 x = some r1
  h3 : floatBits .mul .f64 r1 (cbrt0 x) = some a2
  h4 : floatBits .add .f64 4603064841997850097 a2 = some s1
  h5 : floatBits .add .f64 s1 4609048195788499471 = some a3
  h6 : floatBits .quo .f64 13827900089180538932 s1 = some a4
  h7 : floatBits .add .f64 a3 a4 = some a5
  h8 : floatBits .quo .f64 4609916747145206638 a5 = some a6
  h9 : floatBits .add .f64 4600105333671292343 a6 = some a7
  h10 : floatBits .mul .f64 (cbrt0 x) a7 = some t1
  m : Go.bits .and .u64 (t1 : Int) 18446744072635809792 + 1073741824 = (cbrtMask t1 : Int)
  mb : cbrtMask t1 < 9223372036854775808
  h11 : floatBits .mul .f64 (cbrtMask t1) (cbrtMask t1) = some s2
  h12 : floatBits .quo .f64 x s2 = some r2
  h13 : floatBits .add .f64 (cbrtMask t1) (cbrtMask t1) = some wd
  h14 : floatBits .sub .f64 r2 (cbrtMask t1) = some a8
  h15 : floatBits .add .f64 wd r2 = some a9
  h16 : floatBits .quo .f64 a8 a9 = some r3
  h17 : floatBits .mul .f64 (cbrtMask t1) r3 = some a10
  h18 : floatBits .add .f64 (cbrtMask t1) a10 = some r
set_option maxHeartbeats 1000000 in
theorem cbrt_walk {x r a1 r1 a2 s1 a3 a4 a5 a6 a7 t1 s2 r2 wd a8 a9 r3 a10 : Nat} (h : CbrtAt x r a1 r1 a2 s1 a3 a4 a5 a6 a7 t1 s2 r2 wd a8 a9 r3 a10) (w : World) :
    Calls Tryd.prog 200 #[.float .f64 x] w fun e w' => e = .returned (.float .f64 r) ∧ w = w' := by
  obtain ⟨hb, e0, e1, e2, e3, e4, ea, h1, h2, h3, h4, h5, h6, h7, h8, h9, h10, hm, hmb, h11, h12, h13, h14, h15, h16, h17, h18⟩ := h
  have f1 := f64_run _ h1
  have f2 := f64_run _ h2
  have f3 := f64_run _ h3
  have f4 := f64_run _ h4
  have f5 := f64_run _ h5
  have f6 := f64_run _ h6
  have f7 := f64_run _ h7
  have f8 := f64_run _ h8
  have f9 := f64_run _ h9
  have f10 := f64_run _ h10
  have f11 := f64_run _ h11
  have f12 := f64_run _ h12
  have f13 := f64_run _ h13
  have f14 := f64_run _ h14
  have f15 := f64_run _ h15
  have f16 := f64_run _ h16
  have f17 := f64_run _ h17
  have f18 := f64_run _ h18
  clear h1 h2 h3 h4 h5 h6 h7 h8 h9 h10 h11 h12 h13 h14 h15 h16 h17 h18
  have ht0 : (x : Int) / 3 + 3071306043645493248 = (cbrt0 x : Int) := by unfold cbrt0; omega
  have hx0 : (x : Int) < 9223372036854775808 := by omega
  obtain ⟨t0, ht⟩ : ∃ t0, t0 = cbrt0 x := ⟨_, rfl⟩
  obtain ⟨t2, ht2⟩ : ∃ t2, t2 = cbrtMask t1 := ⟨_, rfl⟩
  rw [← ht] at ht0 f1 f3 f10
  rw [← ht2] at hm hmb f11 f13 f14 f17 f18
  clear ht ht2
  obtain ⟨m, hm1⟩ : ∃ m, m = Go.bits .and .u64 (t1 : Int) 18446744072635809792 := ⟨_, rfl⟩
  have hm2 := hm1.symm
  rw [← hm1] at hm
  have Hea := Lib.hid ea
  have He1 := Lib.hid e1
  have He2 := Lib.hid e2
  clear ea e1 e2 hm1
  have hw1 : IntKind.u64.wrap ((x : Int) / 3 + 3071306043645493248) = (t0 : Int) := by rw [ht0]; exact IntWalk.u64_in _ (by omega)
  have hw2 : IntKind.u64.wrap (m + 1073741824) = (t2 : Int) := by rw [hm]; exact IntWalk.u64_in _ (by omega)
  clear ht0 hm
  go_enter Tryd.func200, Tryd.ntmps200
  go_wp2_with (first
    | (go_at_call 209; refine (IsNaN_walk x He1.out _).mono ?_; rintro e w' ⟨rfl, rfl⟩)
    | (go_at_call 210; refine (IsInf_walk x Hea.out He2.out _).mono ?_; rintro e w' ⟨rfl, rfl⟩))
  go_ret
  exact ⟨rfl, rfl⟩
theorem Cbrt_walk {x r a1 r1 a2 s1 a3 a4 a5 a6 a7 t1 s2 r2 wd a8 a9 r3 a10 : Nat} (h : CbrtAt x r a1 r1 a2 s1 a3 a4 a5 a6 a7 t1 s2 r2 wd a8 a9 r3 a10) (w : World) :
    Calls Tryd.prog 182 #[.float .f64 x] w fun e w' => e = .returned (.float .f64 r) ∧ w = w' := by
  go_enter Tryd.func182, Tryd.ntmps182
  go_wp2_with (go_at_call 200; refine (cbrt_walk h _).mono ?_; rintro e w' ⟨rfl, rfl⟩)
  go_ret
  exact ⟨rfl, rfl⟩
theorem sqrt_call (x r : Nat) (h : FloatKind.f64.format.sqrt x = some r) (w : World) : (callFunc 198 #[.float .f64 x]).run Tryd.prog w = .ok (.value (.float .f64 r)) w := by
  rw [run_callFunc_extern Tryd.func198 (by kernel_rfl) (by kernel_rfl) (by kernel_rfl) (e := Extern.MathSqrt.sqrt) (by kernel_rfl)]
  have e : Extern.MathSqrt.sqrt #[.float .f64 x] = (match FloatKind.f64.format.sqrt x with | some r => pure (.float .f64 r) | none => do pure (.float .f64 (← choose (.nanBits .f64 x x)))) := rfl
  rw [e, h]
  rfl
theorem Sqrt_walk (x r : Nat) (h : FloatKind.f64.format.sqrt x = some r) (w : World) :
    Calls Tryd.prog 181 #[.float .f64 x] w fun e w' => e = .returned (.float .f64 r) ∧ w = w' := by
  have hc := sqrt_call x r h
  clear h
  go_enter Tryd.func181, Tryd.ntmps181
  go_wp2
  go_ret
  exact ⟨rfl, rfl⟩
/-- What math.Cbrt makes of a positive normal number's bits. -/
def cbrtF (x : Nat) : Option Nat :=
  if x < 9223372036854775808 ∧ (FloatKind.f64.format.order x 0 == some .eq) = false ∧ (FloatKind.f64.format.order x x != some .eq) = false ∧ (FloatKind.f64.format.order x 9218868437227405311 == some .gt) = false ∧ (FloatKind.f64.format.order x 0 == some .lt) = false ∧ (FloatKind.f64.format.order x 4503599627370496 == some .lt) = false ∧ Go.bits .andNot .u64 (x : Int) 9223372036854775808 = (x : Int) then
  (floatBits .mul .f64 (cbrt0 x) (cbrt0 x)).bind fun a1 => (floatBits .quo .f64 a1 x).bind fun r1 => (floatBits .mul .f64 r1 (cbrt0 x)).bind fun a2 => (floatBits .add .f64 4603064841997850097 a2).bind fun s1 =>
  (floatBits .add .f64 s1 4609048195788499471).bind fun a3 => (floatBits .quo .f64 13827900089180538932 s1).bind fun a4 => (floatBits .add .f64 a3 a4).bind fun a5 => (floatBits .quo .f64 4609916747145206638 a5).bind fun a6 =>
  (floatBits .add .f64 4600105333671292343 a6).bind fun a7 => (floatBits .mul .f64 (cbrt0 x) a7).bind fun t1 =>
  if Go.bits .and .u64 (t1 : Int) 18446744072635809792 + 1073741824 = (cbrtMask t1 : Int) ∧ cbrtMask t1 < 9223372036854775808 then
  (floatBits .mul .f64 (cbrtMask t1) (cbrtMask t1)).bind fun s2 => (floatBits .quo .f64 x s2).bind fun r2 => (floatBits .add .f64 (cbrtMask t1) (cbrtMask t1)).bind fun wd => (floatBits .sub .f64 r2 (cbrtMask t1)).bind fun a8 =>
  (floatBits .add .f64 wd r2).bind fun a9 => (floatBits .quo .f64 a8 a9).bind fun r3 => (floatBits .mul .f64 (cbrtMask t1) r3).bind fun a10 => floatBits .add .f64 (cbrtMask t1) a10
  else none
  else none
theorem cbrtF_walk (x r : Nat) (h : cbrtF x = some r) (w : World) : Calls Tryd.prog 182 #[.float .f64 x] w fun e w' => e = .returned (.float .f64 r) ∧ w = w' := by
  unfold cbrtF at h
  split at h
  · rename_i h0
    obtain ⟨hb, e0, e1, e2, e3, e4, ea⟩ := h0
    simp only [Option.bind_eq_some_iff] at h
    obtain ⟨a1, h1, r1, h2, a2, h3, s1, h4, a3, h5, a4, h6, a5, h7, a6, h8, a7, h9, t1, h10, h⟩ := h
    split at h
    · rename_i h0
      simp only [Option.bind_eq_some_iff] at h
      obtain ⟨s2, h11, r2, h12, wd, h13, a8, h14, a9, h15, r3, h16, a10, h17, h18⟩ := h
      exact Cbrt_walk ⟨hb, e0, e1, e2, e3, e4, ea, h1, h2, h3, h4, h5, h6, h7, h8, h9, h10, h0.1, h0.2, h11, h12, h13, h14, h15, h16, h17, h18⟩ w
    · cases h
  · cases h
/-- The first bits behind the point of a number. -/
def behindF (r : Nat) : Option Int := (floatBits .mul .f64 r 4751297606875873280).bind fun m => (floatToIntVal .f64 m .u64).bind fun n => some n
/-- The first primes. -/
def PL : List Nat := [2, 3, 5, 7, 11, 13, 17, 19, 23, 29, 31, 37, 41, 43, 47, 53, 59, 61, 67, 71, 73, 79, 83, 89, 97, 101, 103, 107, 109, 113, 127, 131, 137, 139, 149, 151, 157, 163, 167, 173, 179, 181, 191, 193, 197, 199, 211, 223, 227, 229, 233, 239, 241, 251, 257, 263, 269, 271, 277, 281, 283, 293, 307, 311]
/-- The words of the rounds; the state at first. -/
def KW : List Int := [1116352408, 1899447441, 3049323471, 3921009573, 961987163, 1508970993, 2453635748, 2870763221, 3624381080, 310598401, 607225278, 1426881987, 1925078388, 2162078206, 2614888103, 3248222580, 3835390401, 4022224774, 264347078, 604807628, 770255983, 1249150122, 1555081692, 1996064986, 2554220882, 2821834349, 2952996808, 3210313671, 3336571891, 3584528711, 113926993, 338241895, 666307205, 773529912, 1294757372, 1396182291, 1695183700, 1986661051, 2177026350, 2456956037, 2730485921, 2820302411, 3259730800, 3345764771, 3516065817, 3600352804, 4094571909, 275423344, 430227734, 506948616, 659060556, 883997877, 958139571, 1322822218, 1537002063, 1747873779, 1955562222, 2024104815, 2227730452, 2361852424, 2428436474, 2756734187, 3204031479, 3329325298]
def HW : List Int := [1779033703, 3144134277, 1013904242, 2773480762, 1359893119, 2600822924, 528734635, 1541459225]
def flt (n : Int) : Nat := FloatKind.f64.nearest n
end Go.Proofs.YtnghcnkffbjddaaDoorV.Aes
