/- Turning a word right, walked without a draw, at the ten counts that the hash names. Conditions: none. -/
import Derived.Test.YtnghcnkffbjddaaDoorVHm
namespace Go.Proofs.YtnghcnkffbjddaaDoorV.Aes
open Go.RowKit Go.Proofs.YtnghcnkffbjddaaDoorV.PrintWords Go.Proofs.YtnghcnkffbjddaaDoorV.PrintLast Go.Proofs.YtnghcnkffbjddaaDoorV.PrintMore Go.Proofs.YtnghcnkffbjddaaDoorV.Mem
set_option linter.unusedVariables false
set_option linter.unusedSimpArgs false

theorem rot2 (x : Int) (w : World) : Calls Tryd.prog 201 #[.int .u32 x, .int .i64 (-2)] w fun e w' => e = .returned (.int .u32 (ror x 2)) ∧ w' = w := by
  have hb : Go.bits .and .u64 (IntKind.u64.wrap (-2)) 31 = 30 := by decide +kernel
  have hr : Go.bits .or .u32 (x * 1073741824 % 4294967296) (x / 4) = ror x 2 := bits_or_comm _ _ _
  go_enter Tryd.func201, Tryd.ntmps201
  go_wp2
  go_ret
  exact ⟨rfl, rfl⟩
theorem still2 (x : Int) (w : World) : Calls Tryd.prog 183 #[.int .u32 x, .int .i64 2] w fun e w' => e = .returned (.int .u32 (ror x 2)) ∧ w' = w := by
  go_enter Tryd.func183, Tryd.ntmps183
  go_wp2_with (go_at_call 201; refine (rot2 x _).mono ?_; rintro e w' ⟨rfl, rfl⟩)
  go_ret
  exact ⟨rfl, rfl⟩
theorem rot6 (x : Int) (w : World) : Calls Tryd.prog 201 #[.int .u32 x, .int .i64 (-6)] w fun e w' => e = .returned (.int .u32 (ror x 6)) ∧ w' = w := by
  have hb : Go.bits .and .u64 (IntKind.u64.wrap (-6)) 31 = 26 := by decide +kernel
  have hr : Go.bits .or .u32 (x * 67108864 % 4294967296) (x / 64) = ror x 6 := bits_or_comm _ _ _
  go_enter Tryd.func201, Tryd.ntmps201
  go_wp2
  go_ret
  exact ⟨rfl, rfl⟩
theorem still6 (x : Int) (w : World) : Calls Tryd.prog 183 #[.int .u32 x, .int .i64 6] w fun e w' => e = .returned (.int .u32 (ror x 6)) ∧ w' = w := by
  go_enter Tryd.func183, Tryd.ntmps183
  go_wp2_with (go_at_call 201; refine (rot6 x _).mono ?_; rintro e w' ⟨rfl, rfl⟩)
  go_ret
  exact ⟨rfl, rfl⟩
theorem rot7 (x : Int) (w : World) : Calls Tryd.prog 201 #[.int .u32 x, .int .i64 (-7)] w fun e w' => e = .returned (.int .u32 (ror x 7)) ∧ w' = w := by
  have hb : Go.bits .and .u64 (IntKind.u64.wrap (-7)) 31 = 25 := by decide +kernel
  have hr : Go.bits .or .u32 (x * 33554432 % 4294967296) (x / 128) = ror x 7 := bits_or_comm _ _ _
  go_enter Tryd.func201, Tryd.ntmps201
  go_wp2
  go_ret
  exact ⟨rfl, rfl⟩
theorem still7 (x : Int) (w : World) : Calls Tryd.prog 183 #[.int .u32 x, .int .i64 7] w fun e w' => e = .returned (.int .u32 (ror x 7)) ∧ w' = w := by
  go_enter Tryd.func183, Tryd.ntmps183
  go_wp2_with (go_at_call 201; refine (rot7 x _).mono ?_; rintro e w' ⟨rfl, rfl⟩)
  go_ret
  exact ⟨rfl, rfl⟩
theorem rot11 (x : Int) (w : World) : Calls Tryd.prog 201 #[.int .u32 x, .int .i64 (-11)] w fun e w' => e = .returned (.int .u32 (ror x 11)) ∧ w' = w := by
  have hb : Go.bits .and .u64 (IntKind.u64.wrap (-11)) 31 = 21 := by decide +kernel
  have hr : Go.bits .or .u32 (x * 2097152 % 4294967296) (x / 2048) = ror x 11 := bits_or_comm _ _ _
  go_enter Tryd.func201, Tryd.ntmps201
  go_wp2
  go_ret
  exact ⟨rfl, rfl⟩
theorem still11 (x : Int) (w : World) : Calls Tryd.prog 183 #[.int .u32 x, .int .i64 11] w fun e w' => e = .returned (.int .u32 (ror x 11)) ∧ w' = w := by
  go_enter Tryd.func183, Tryd.ntmps183
  go_wp2_with (go_at_call 201; refine (rot11 x _).mono ?_; rintro e w' ⟨rfl, rfl⟩)
  go_ret
  exact ⟨rfl, rfl⟩
theorem rot13 (x : Int) (w : World) : Calls Tryd.prog 201 #[.int .u32 x, .int .i64 (-13)] w fun e w' => e = .returned (.int .u32 (ror x 13)) ∧ w' = w := by
  have hb : Go.bits .and .u64 (IntKind.u64.wrap (-13)) 31 = 19 := by decide +kernel
  have hr : Go.bits .or .u32 (x * 524288 % 4294967296) (x / 8192) = ror x 13 := bits_or_comm _ _ _
  go_enter Tryd.func201, Tryd.ntmps201
  go_wp2
  go_ret
  exact ⟨rfl, rfl⟩
theorem still13 (x : Int) (w : World) : Calls Tryd.prog 183 #[.int .u32 x, .int .i64 13] w fun e w' => e = .returned (.int .u32 (ror x 13)) ∧ w' = w := by
  go_enter Tryd.func183, Tryd.ntmps183
  go_wp2_with (go_at_call 201; refine (rot13 x _).mono ?_; rintro e w' ⟨rfl, rfl⟩)
  go_ret
  exact ⟨rfl, rfl⟩
theorem rot17 (x : Int) (w : World) : Calls Tryd.prog 201 #[.int .u32 x, .int .i64 (-17)] w fun e w' => e = .returned (.int .u32 (ror x 17)) ∧ w' = w := by
  have hb : Go.bits .and .u64 (IntKind.u64.wrap (-17)) 31 = 15 := by decide +kernel
  have hr : Go.bits .or .u32 (x * 32768 % 4294967296) (x / 131072) = ror x 17 := bits_or_comm _ _ _
  go_enter Tryd.func201, Tryd.ntmps201
  go_wp2
  go_ret
  exact ⟨rfl, rfl⟩
theorem still17 (x : Int) (w : World) : Calls Tryd.prog 183 #[.int .u32 x, .int .i64 17] w fun e w' => e = .returned (.int .u32 (ror x 17)) ∧ w' = w := by
  go_enter Tryd.func183, Tryd.ntmps183
  go_wp2_with (go_at_call 201; refine (rot17 x _).mono ?_; rintro e w' ⟨rfl, rfl⟩)
  go_ret
  exact ⟨rfl, rfl⟩
theorem rot18 (x : Int) (w : World) : Calls Tryd.prog 201 #[.int .u32 x, .int .i64 (-18)] w fun e w' => e = .returned (.int .u32 (ror x 18)) ∧ w' = w := by
  have hb : Go.bits .and .u64 (IntKind.u64.wrap (-18)) 31 = 14 := by decide +kernel
  have hr : Go.bits .or .u32 (x * 16384 % 4294967296) (x / 262144) = ror x 18 := bits_or_comm _ _ _
  go_enter Tryd.func201, Tryd.ntmps201
  go_wp2
  go_ret
  exact ⟨rfl, rfl⟩
theorem still18 (x : Int) (w : World) : Calls Tryd.prog 183 #[.int .u32 x, .int .i64 18] w fun e w' => e = .returned (.int .u32 (ror x 18)) ∧ w' = w := by
  go_enter Tryd.func183, Tryd.ntmps183
  go_wp2_with (go_at_call 201; refine (rot18 x _).mono ?_; rintro e w' ⟨rfl, rfl⟩)
  go_ret
  exact ⟨rfl, rfl⟩
theorem rot19 (x : Int) (w : World) : Calls Tryd.prog 201 #[.int .u32 x, .int .i64 (-19)] w fun e w' => e = .returned (.int .u32 (ror x 19)) ∧ w' = w := by
  have hb : Go.bits .and .u64 (IntKind.u64.wrap (-19)) 31 = 13 := by decide +kernel
  have hr : Go.bits .or .u32 (x * 8192 % 4294967296) (x / 524288) = ror x 19 := bits_or_comm _ _ _
  go_enter Tryd.func201, Tryd.ntmps201
  go_wp2
  go_ret
  exact ⟨rfl, rfl⟩
theorem still19 (x : Int) (w : World) : Calls Tryd.prog 183 #[.int .u32 x, .int .i64 19] w fun e w' => e = .returned (.int .u32 (ror x 19)) ∧ w' = w := by
  go_enter Tryd.func183, Tryd.ntmps183
  go_wp2_with (go_at_call 201; refine (rot19 x _).mono ?_; rintro e w' ⟨rfl, rfl⟩)
  go_ret
  exact ⟨rfl, rfl⟩
theorem rot22 (x : Int) (w : World) : Calls Tryd.prog 201 #[.int .u32 x, .int .i64 (-22)] w fun e w' => e = .returned (.int .u32 (ror x 22)) ∧ w' = w := by
  have hb : Go.bits .and .u64 (IntKind.u64.wrap (-22)) 31 = 10 := by decide +kernel
  have hr : Go.bits .or .u32 (x * 1024 % 4294967296) (x / 4194304) = ror x 22 := bits_or_comm _ _ _
  go_enter Tryd.func201, Tryd.ntmps201
  go_wp2
  go_ret
  exact ⟨rfl, rfl⟩
theorem still22 (x : Int) (w : World) : Calls Tryd.prog 183 #[.int .u32 x, .int .i64 22] w fun e w' => e = .returned (.int .u32 (ror x 22)) ∧ w' = w := by
  go_enter Tryd.func183, Tryd.ntmps183
  go_wp2_with (go_at_call 201; refine (rot22 x _).mono ?_; rintro e w' ⟨rfl, rfl⟩)
  go_ret
  exact ⟨rfl, rfl⟩
theorem rot25 (x : Int) (w : World) : Calls Tryd.prog 201 #[.int .u32 x, .int .i64 (-25)] w fun e w' => e = .returned (.int .u32 (ror x 25)) ∧ w' = w := by
  have hb : Go.bits .and .u64 (IntKind.u64.wrap (-25)) 31 = 7 := by decide +kernel
  have hr : Go.bits .or .u32 (x * 128 % 4294967296) (x / 33554432) = ror x 25 := bits_or_comm _ _ _
  go_enter Tryd.func201, Tryd.ntmps201
  go_wp2
  go_ret
  exact ⟨rfl, rfl⟩
theorem still25 (x : Int) (w : World) : Calls Tryd.prog 183 #[.int .u32 x, .int .i64 25] w fun e w' => e = .returned (.int .u32 (ror x 25)) ∧ w' = w := by
  go_enter Tryd.func183, Tryd.ntmps183
  go_wp2_with (go_at_call 201; refine (rot25 x _).mono ?_; rintro e w' ⟨rfl, rfl⟩)
  go_ret
  exact ⟨rfl, rfl⟩
end Go.Proofs.YtnghcnkffbjddaaDoorV.Aes
