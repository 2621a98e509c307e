/- Shared lemmas and walks of the AES laws of this seat. -/
import Derived.Test.YtimokakcdmcnnaaVId1
import Derived.Lib.Hide
import Derived.Deep.RegionHeld3
namespace Go.Proofs.YtimokakcdmcnnaaV.Aes
open Go.RowKit Go.Proofs.YtimokakcdmcnnaaV.PrintWords Go.Proofs.YtimokakcdmcnnaaV.PrintLast Go.Proofs.YtimokakcdmcnnaaV.PrintMore Go.Proofs.YtimokakcdmcnnaaV.Mem
set_option linter.unusedVariables false
set_option linter.unusedSimpArgs false

open Go.Proofs.Ytimokakcdmcnnaa.PImplE
def Told3 (x y : ByteArray) (b : Bool) (w : World) (e : Ending) (w' : World) : Prop := e = .returned (.tuple #[.string x, .string y, .bool b]) ∧ Below w.heap.size w w'
def DecOk (a b c : Int) (k id : ByteArray) : Prop := GoodC a b c k ∧ 1 + (b + c) ≤ (id.size : Int) ∧ bt id 0 / 32 = a
instance (a b c : Int) (k id : ByteArray) : Decidable (DecOk a b c k id) := by unfold DecOk; infer_instance
theorem decS_size (k b : ByteArray) : (decS k b).size = 16 := by
  unfold decS
  rw [str_size]
  exact addKL_length _ _ _
set_option maxHeartbeats 4000000 in
set_option maxRecDepth 100000 in
theorem Dec_bad (a b c : Int) (k id : ByteArray) (t : Bool) (hg : ¬ GoodC a b c k) (w : World) :
    Calls Try.prog 46 #[.agg #[.int .i64 a, .int .i64 b, .int .i64 c, .string k, .bool t], .string id] w (Told3 ⟨#[]⟩ ⟨#[]⟩ false w) := by
  have hm0 := made37 w a b c k t
  have hB0 := below_alloc (Below.refl w.heap.size w) (.cells #[.int .i64 a, .int .i64 b, .int .i64 c, .string k, .bool t] 37 (0, 0))
  obtain ⟨g0, g1, g2, g3, g4⟩ := cells37 hm0
  have hHG := good_walk a b c k t
  rw [decide_eq_false hg] at hHG
  clear hg
  go_enter Try.func46, Try.ntmps46
  go_wp2
  refine start_ (n := 19) (S := (fun W => W.cell? ⟨w.heap.size, 0, none⟩ = some (.int .i64 a) ∧ W.cell? ⟨w.heap.size, 1, none⟩ = some (.int .i64 b) ∧ W.cell? ⟨w.heap.size, 2, none⟩ = some (.int .i64 c) ∧ W.cell? ⟨w.heap.size, 3, none⟩ = some (.string k) ∧ W.cell? ⟨w.heap.size, 4, none⟩ = some (.bool t))) (ds := []) #[false, false, false, false, false, false, false, false, false, false, false, false, false, false, false, false, false, false, false] (by kernel_rfl) rfl rfl ⟨g0, g1, g2, g3, g4⟩ (fun hHeld => ?_)
  refine take_ (i := 0) (N := some 14) (v := ?_) (a' := ?_) #[true, false, false, false, false, false, false, false, false, false, false, false, false, false, false, false, false, false, false] rfl rfl (by kernel_rfl) (fun _ _ _ h => h) (Or.inl ⟨by rfl, ?_⟩) hHeld ?_ ?_
  rotate_left
  · intro w' hs_; go_split_ands; go_simp; with_reducible rfl
  rotate_left
  · simp only [Act.put, List.setIfInBounds_toArray, List.set_cons_zero, List.set_cons_succ, i64_w, i32_w]; rfl
  refine one_ (i := 1) (N := some 15) #[true, true, false, false, false, false, false, false, false, false, false, false, false, false, false, false, false, false, false] rfl rfl (by kernel_rfl) (by decide) (fun K hK => ?_)
  go_simp
  go_at_call 79
  refine (hHG _).mono ?_
  rintro e w1 ⟨rfl, hb1⟩
  have IS := (hm0.drewN 1).below hb1
  have HB := (pw_below_drewN hB0 1).trans (hb1.mono hB0.size)
  obtain ⟨f0, f1, f2, f3, f4⟩ := cells37 IS
  clear hm0 hB0 hb1
  refine hK.out _ _ (⟨f0, f1, f2, f3, f4⟩) (fun hHeld => ?_)
  clear hK K
  refine pure_ (i := 2) (N := some 16) (v := ?_) (a' := ?_) #[true, true, true, false, false, false, false, false, false, false, false, false, false, false, false, false, false, false, false] rfl rfl (by kernel_rfl) (fun _ _ _ h => h) (Or.inl ⟨by rfl, ?_⟩) ?_ ?_
  rotate_left
  · intro w'; go_simp; with_reducible rfl
  rotate_left
  · simp only [Act.put, List.setIfInBounds_toArray, List.set_cons_zero, List.set_cons_succ, i64_w, i32_w]; rfl
  refine pure_ (i := 3) (N := some 17) (v := ?_) (a' := ?_) #[true, true, true, true, false, false, false, false, false, false, false, false, false, false, false, false, false, false, false] rfl rfl (by kernel_rfl) (fun _ _ _ h => h) (Or.inl ⟨by rfl, ?_⟩) ?_ ?_
  rotate_left
  · intro w'; go_simp; with_reducible rfl
  rotate_left
  · simp only [Act.put, List.setIfInBounds_toArray, List.set_cons_zero, List.set_cons_succ, i64_w, i32_w]; rfl
  refine pure_ (i := 4) (N := some 18) (v := undef) (a' := ?_) #[true, true, true, true, true, false, false, false, false, false, false, false, false, false, false, false, false, false, false] rfl rfl (by kernel_rfl) (fun _ _ _ h => h) (Or.inr ⟨by rfl, rfl⟩) ?_ ?_
  rotate_left
  · simp only [Act.put, List.setIfInBounds_toArray, List.set_cons_zero, List.set_cons_succ, i64_w, i32_w]; rfl
  refine pure_ (i := 5) (N := some 19) (v := undef) (a' := ?_) #[true, true, true, true, true, true, false, false, false, false, false, false, false, false, false, false, false, false, false] rfl rfl (by kernel_rfl) (fun _ _ _ h => h) (Or.inr ⟨by rfl, rfl⟩) ?_ ?_
  rotate_left
  · simp only [Act.put, List.setIfInBounds_toArray, List.set_cons_zero, List.set_cons_succ, i64_w, i32_w]; rfl
  refine pure_ (i := 6) (N := some 20) (v := undef) (a' := ?_) #[true, true, true, true, true, true, true, false, false, false, false, false, false, false, false, false, false, false, false] rfl rfl (by kernel_rfl) (fun _ _ _ h => h) (Or.inr ⟨by rfl, rfl⟩) ?_ ?_
  rotate_left
  · simp only [Act.put, List.setIfInBounds_toArray, List.set_cons_zero, List.set_cons_succ, i64_w, i32_w]; rfl
  refine pure_ (i := 7) (N := some 21) (v := undef) (a' := ?_) #[true, true, true, true, true, true, true, true, false, false, false, false, false, false, false, false, false, false, false] rfl rfl (by kernel_rfl) (fun _ _ _ h => h) (Or.inr ⟨by rfl, rfl⟩) ?_ ?_
  rotate_left
  · simp only [Act.put, List.setIfInBounds_toArray, List.set_cons_zero, List.set_cons_succ, i64_w, i32_w]; rfl
  refine pure_ (i := 8) (N := some 22) (v := undef) (a' := ?_) #[true, true, true, true, true, true, true, true, true, false, false, false, false, false, false, false, false, false, false] rfl rfl (by kernel_rfl) (fun _ _ _ h => h) (Or.inr ⟨by rfl, rfl⟩) ?_ ?_
  rotate_left
  · simp only [Act.put, List.setIfInBounds_toArray, List.set_cons_zero, List.set_cons_succ, i64_w, i32_w]; rfl
  refine pure_ (i := 9) (N := some 23) (v := ?_) (a' := ?_) #[true, true, true, true, true, true, true, true, true, true, false, false, false, false, false, false, false, false, false] rfl rfl (by kernel_rfl) (fun _ _ _ h => h) (Or.inl ⟨by rfl, ?_⟩) ?_ ?_
  rotate_left
  · intro w'; go_simp; with_reducible rfl
  rotate_left
  · simp only [Act.put, List.setIfInBounds_toArray, List.set_cons_zero, List.set_cons_succ, i64_w, i32_w]; rfl
  refine pure_ (i := 10) (N := some 24) (v := ?_) (a' := ?_) #[true, true, true, true, true, true, true, true, true, true, true, false, false, false, false, false, false, false, false] rfl rfl (by kernel_rfl) (fun _ _ _ h => h) (Or.inl ⟨by rfl, ?_⟩) ?_ ?_
  rotate_left
  · intro w'; go_simp; with_reducible rfl
  rotate_left
  · simp only [Act.put, List.setIfInBounds_toArray, List.set_cons_zero, List.set_cons_succ, i64_w, i32_w]; rfl
  refine pure_ (i := 11) (N := some 25) (v := undef) (a' := ?_) #[true, true, true, true, true, true, true, true, true, true, true, true, false, false, false, false, false, false, false] rfl rfl (by kernel_rfl) (fun _ _ _ h => h) (Or.inr ⟨by rfl, rfl⟩) ?_ ?_
  rotate_left
  · simp only [Act.put, List.setIfInBounds_toArray, List.set_cons_zero, List.set_cons_succ, i64_w, i32_w]; rfl
  refine pure_ (i := 12) (N := some 26) (v := undef) (a' := ?_) #[true, true, true, true, true, true, true, true, true, true, true, true, true, false, false, false, false, false, false] rfl rfl (by kernel_rfl) (fun _ _ _ h => h) (Or.inr ⟨by rfl, rfl⟩) ?_ ?_
  rotate_left
  · simp only [Act.put, List.setIfInBounds_toArray, List.set_cons_zero, List.set_cons_succ, i64_w, i32_w]; rfl
  refine pure_ (i := 13) (N := some 27) (v := undef) (a' := ?_) #[true, true, true, true, true, true, true, true, true, true, true, true, true, true, false, false, false, false, false] rfl rfl (by kernel_rfl) (fun _ _ _ h => h) (Or.inr ⟨by rfl, rfl⟩) ?_ ?_
  rotate_left
  · simp only [Act.put, List.setIfInBounds_toArray, List.set_cons_zero, List.set_cons_succ, i64_w, i32_w]; rfl
  refine pure_ (i := 14) (N := some 28) (v := undef) (a' := ?_) #[true, true, true, true, true, true, true, true, true, true, true, true, true, true, true, false, false, false, false] rfl rfl (by kernel_rfl) (fun _ _ _ h => h) (Or.inr ⟨by rfl, rfl⟩) ?_ ?_
  rotate_left
  · simp only [Act.put, List.setIfInBounds_toArray, List.set_cons_zero, List.set_cons_succ, i64_w, i32_w]; rfl
  refine pure_ (i := 15) (N := some 29) (v := undef) (a' := ?_) #[true, true, true, true, true, true, true, true, true, true, true, true, true, true, true, true, false, false, false] rfl rfl (by kernel_rfl) (fun _ _ _ h => h) (Or.inr ⟨by rfl, rfl⟩) ?_ ?_
  rotate_left
  · simp only [Act.put, List.setIfInBounds_toArray, List.set_cons_zero, List.set_cons_succ, i64_w, i32_w]; rfl
  refine pure_ (i := 16) (N := some 30) (v := undef) (a' := ?_) #[true, true, true, true, true, true, true, true, true, true, true, true, true, true, true, true, true, false, false] rfl rfl (by kernel_rfl) (fun _ _ _ h => h) (Or.inr ⟨by rfl, rfl⟩) ?_ ?_
  rotate_left
  · simp only [Act.put, List.setIfInBounds_toArray, List.set_cons_zero, List.set_cons_succ, i64_w, i32_w]; rfl
  refine pure_ (i := 17) (N := some 31) (v := undef) (a' := ?_) #[true, true, true, true, true, true, true, true, true, true, true, true, true, true, true, true, true, true, false] rfl rfl (by kernel_rfl) (fun _ _ _ h => h) (Or.inr ⟨by rfl, rfl⟩) ?_ ?_
  rotate_left
  · simp only [Act.put, List.setIfInBounds_toArray, List.set_cons_zero, List.set_cons_succ, i64_w, i32_w]; rfl
  refine pure_ (i := 18) (N := some 32) (v := ?_) (a' := ?_) #[true, true, true, true, true, true, true, true, true, true, true, true, true, true, true, true, true, true, true] rfl rfl (by kernel_rfl) (fun _ _ _ h => h) (Or.inl ⟨by rfl, ?_⟩) ?_ ?_
  rotate_left
  · intro w'; go_simp; with_reducible rfl
  rotate_left
  · simp only [Act.put, List.setIfInBounds_toArray, List.set_cons_zero, List.set_cons_succ, i64_w, i32_w]; rfl
  refine done_ (by kernel_rfl) ?_
  go_wp2
  go_ret3
  exact ⟨rfl, HB⟩
set_option maxHeartbeats 4000000 in
set_option maxRecDepth 100000 in
theorem Dec_short (a b c : Int) (k id : ByteArray) (t : Bool) (hg : GoodC a b c k) (hl : (id.size : Int) < 1 + (b + c)) (w : World) :
    Calls Try.prog 46 #[.agg #[.int .i64 a, .int .i64 b, .int .i64 c, .string k, .bool t], .string id] w (Told3 ⟨#[]⟩ ⟨#[]⟩ false w) := by
  have hm0 := made37 w a b c k t
  have hB0 := below_alloc (Below.refl w.heap.size w) (.cells #[.int .i64 a, .int .i64 b, .int .i64 c, .string k, .bool t] 37 (0, 0))
  obtain ⟨g0, g1, g2, g3, g4⟩ := cells37 hm0
  have hHG := good_walk a b c k t
  rw [decide_eq_true hg] at hHG
  obtain ⟨⟨ha0, ha1⟩, ⟨hb0, hb1⟩, ⟨hc0, hc1⟩, hbc, hk⟩ := hg
  have hs1 : IntKind.i64.wrap (1 + (b + c)) = 1 + (b + c) := by rw [IntKind.wrap_i64]; omega
  have hld : decide ((id.size : Int) < 1 + (b + c)) = true := decide_eq_true hl
  clear hk
  go_enter Try.func46, Try.ntmps46
  go_wp2
  refine start_ (n := 19) (S := (fun W => W.cell? ⟨w.heap.size, 0, none⟩ = some (.int .i64 a) ∧ W.cell? ⟨w.heap.size, 1, none⟩ = some (.int .i64 b) ∧ W.cell? ⟨w.heap.size, 2, none⟩ = some (.int .i64 c) ∧ W.cell? ⟨w.heap.size, 3, none⟩ = some (.string k) ∧ W.cell? ⟨w.heap.size, 4, none⟩ = some (.bool t))) (ds := []) #[false, false, false, false, false, false, false, false, false, false, false, false, false, false, false, false, false, false, false] (by kernel_rfl) rfl rfl ⟨g0, g1, g2, g3, g4⟩ (fun hHeld => ?_)
  refine take_ (i := 0) (N := some 14) (v := ?_) (a' := ?_) #[true, false, false, false, false, false, false, false, false, false, false, false, false, false, false, false, false, false, false] rfl rfl (by kernel_rfl) (fun _ _ _ h => h) (Or.inl ⟨by rfl, ?_⟩) hHeld ?_ ?_
  rotate_left
  · intro w' hs_; go_split_ands; go_simp; with_reducible rfl
  rotate_left
  · simp only [Act.put, List.setIfInBounds_toArray, List.set_cons_zero, List.set_cons_succ, i64_w, i32_w]; rfl
  refine one_ (i := 1) (N := some 15) #[true, true, false, false, false, false, false, false, false, false, false, false, false, false, false, false, false, false, false] rfl rfl (by kernel_rfl) (by decide) (fun K hK => ?_)
  go_simp
  go_at_call 79
  refine (hHG _).mono ?_
  rintro e w1 ⟨rfl, hb1⟩
  have IS := (hm0.drewN 1).below hb1
  have HB := (pw_below_drewN hB0 1).trans (hb1.mono hB0.size)
  obtain ⟨f0, f1, f2, f3, f4⟩ := cells37 IS
  clear hm0 hB0 hb1
  refine hK.out _ _ (⟨f0, f1, f2, f3, f4⟩) (fun hHeld => ?_)
  clear hK K
  refine pure_ (i := 2) (N := some 16) (v := ?_) (a' := ?_) #[true, true, true, false, false, false, false, false, false, false, false, false, false, false, false, false, false, false, false] rfl rfl (by kernel_rfl) (fun _ _ _ h => h) (Or.inl ⟨by rfl, ?_⟩) ?_ ?_
  rotate_left
  · intro w'; go_simp; with_reducible rfl
  rotate_left
  · simp only [Act.put, List.setIfInBounds_toArray, List.set_cons_zero, List.set_cons_succ, i64_w, i32_w]; rfl
  refine pure_ (i := 3) (N := some 17) (v := ?_) (a' := ?_) #[true, true, true, true, false, false, false, false, false, false, false, false, false, false, false, false, false, false, false] rfl rfl (by kernel_rfl) (fun _ _ _ h => h) (Or.inl ⟨by rfl, ?_⟩) ?_ ?_
  rotate_left
  · intro w'; go_simp; with_reducible rfl
  rotate_left
  · simp only [Act.put, List.setIfInBounds_toArray, List.set_cons_zero, List.set_cons_succ, i64_w, i32_w]; rfl
  refine pure_ (i := 4) (N := some 18) (v := ?_) (a' := ?_) #[true, true, true, true, true, false, false, false, false, false, false, false, false, false, false, false, false, false, false] rfl rfl (by kernel_rfl) (fun _ _ _ h => h) (Or.inl ⟨by rfl, ?_⟩) ?_ ?_
  rotate_left
  · intro w'; go_simp; with_reducible rfl
  rotate_left
  · simp only [Act.put, List.setIfInBounds_toArray, List.set_cons_zero, List.set_cons_succ, i64_w, i32_w]; rfl
  refine pure_ (i := 5) (N := some 19) (v := ?_) (a' := ?_) #[true, true, true, true, true, true, false, false, false, false, false, false, false, false, false, false, false, false, false] rfl rfl (by kernel_rfl) (fun _ _ _ h => h) (Or.inl ⟨by rfl, ?_⟩) ?_ ?_
  rotate_left
  · intro w'; go_simp; with_reducible rfl
  rotate_left
  · simp only [Act.put, List.setIfInBounds_toArray, List.set_cons_zero, List.set_cons_succ, i64_w, i32_w]; rfl
  refine pure_ (i := 6) (N := some 20) (v := ?_) (a' := ?_) #[true, true, true, true, true, true, true, false, false, false, false, false, false, false, false, false, false, false, false] rfl rfl (by kernel_rfl) (fun _ _ _ h => h) (Or.inl ⟨by rfl, ?_⟩) ?_ ?_
  rotate_left
  · intro w'; go_simp; with_reducible rfl
  rotate_left
  · simp only [Act.put, List.setIfInBounds_toArray, List.set_cons_zero, List.set_cons_succ, i64_w, i32_w]; rfl
  refine pure_ (i := 7) (N := some 21) (v := ?_) (a' := ?_) #[true, true, true, true, true, true, true, true, false, false, false, false, false, false, false, false, false, false, false] rfl rfl (by kernel_rfl) (fun _ _ _ h => h) (Or.inl ⟨by rfl, ?_⟩) ?_ ?_
  rotate_left
  · intro w'; go_simp; with_reducible rfl
  rotate_left
  · simp only [Act.put, List.setIfInBounds_toArray, List.set_cons_zero, List.set_cons_succ, i64_w, i32_w]; rfl
  refine pure_ (i := 8) (N := some 22) (v := ?_) (a' := ?_) #[true, true, true, true, true, true, true, true, true, false, false, false, false, false, false, false, false, false, false] rfl rfl (by kernel_rfl) (fun _ _ _ h => h) (Or.inl ⟨by rfl, ?_⟩) ?_ ?_
  rotate_left
  · intro w'; go_simp; with_reducible rfl
  rotate_left
  · simp only [Act.put, List.setIfInBounds_toArray, List.set_cons_zero, List.set_cons_succ, i64_w, i32_w]; rfl
  refine pure_ (i := 9) (N := some 23) (v := ?_) (a' := ?_) #[true, true, true, true, true, true, true, true, true, true, false, false, false, false, false, false, false, false, false] rfl rfl (by kernel_rfl) (fun _ _ _ h => h) (Or.inl ⟨by rfl, ?_⟩) ?_ ?_
  rotate_left
  · intro w'; go_simp; with_reducible rfl
  rotate_left
  · simp only [Act.put, List.setIfInBounds_toArray, List.set_cons_zero, List.set_cons_succ, i64_w, i32_w]; rfl
  refine pure_ (i := 10) (N := some 24) (v := ?_) (a' := ?_) #[true, true, true, true, true, true, true, true, true, true, true, false, false, false, false, false, false, false, false] rfl rfl (by kernel_rfl) (fun _ _ _ h => h) (Or.inl ⟨by rfl, ?_⟩) ?_ ?_
  rotate_left
  · intro w'; go_simp; with_reducible rfl
  rotate_left
  · simp only [Act.put, List.setIfInBounds_toArray, List.set_cons_zero, List.set_cons_succ, i64_w, i32_w]; rfl
  refine pure_ (i := 11) (N := some 25) (v := undef) (a' := ?_) #[true, true, true, true, true, true, true, true, true, true, true, true, false, false, false, false, false, false, false] rfl rfl (by kernel_rfl) (fun _ _ _ h => h) (Or.inr ⟨by rfl, rfl⟩) ?_ ?_
  rotate_left
  · simp only [Act.put, List.setIfInBounds_toArray, List.set_cons_zero, List.set_cons_succ, i64_w, i32_w]; rfl
  refine pure_ (i := 12) (N := some 26) (v := undef) (a' := ?_) #[true, true, true, true, true, true, true, true, true, true, true, true, true, false, false, false, false, false, false] rfl rfl (by kernel_rfl) (fun _ _ _ h => h) (Or.inr ⟨by rfl, rfl⟩) ?_ ?_
  rotate_left
  · simp only [Act.put, List.setIfInBounds_toArray, List.set_cons_zero, List.set_cons_succ, i64_w, i32_w]; rfl
  refine pure_ (i := 13) (N := some 27) (v := undef) (a' := ?_) #[true, true, true, true, true, true, true, true, true, true, true, true, true, true, false, false, false, false, false] rfl rfl (by kernel_rfl) (fun _ _ _ h => h) (Or.inr ⟨by rfl, rfl⟩) ?_ ?_
  rotate_left
  · simp only [Act.put, List.setIfInBounds_toArray, List.set_cons_zero, List.set_cons_succ, i64_w, i32_w]; rfl
  refine pure_ (i := 14) (N := some 28) (v := undef) (a' := ?_) #[true, true, true, true, true, true, true, true, true, true, true, true, true, true, true, false, false, false, false] rfl rfl (by kernel_rfl) (fun _ _ _ h => h) (Or.inr ⟨by rfl, rfl⟩) ?_ ?_
  rotate_left
  · simp only [Act.put, List.setIfInBounds_toArray, List.set_cons_zero, List.set_cons_succ, i64_w, i32_w]; rfl
  refine pure_ (i := 15) (N := some 29) (v := undef) (a' := ?_) #[true, true, true, true, true, true, true, true, true, true, true, true, true, true, true, true, false, false, false] rfl rfl (by kernel_rfl) (fun _ _ _ h => h) (Or.inr ⟨by rfl, rfl⟩) ?_ ?_
  rotate_left
  · simp only [Act.put, List.setIfInBounds_toArray, List.set_cons_zero, List.set_cons_succ, i64_w, i32_w]; rfl
  refine pure_ (i := 16) (N := some 30) (v := undef) (a' := ?_) #[true, true, true, true, true, true, true, true, true, true, true, true, true, true, true, true, true, false, false] rfl rfl (by kernel_rfl) (fun _ _ _ h => h) (Or.inr ⟨by rfl, rfl⟩) ?_ ?_
  rotate_left
  · simp only [Act.put, List.setIfInBounds_toArray, List.set_cons_zero, List.set_cons_succ, i64_w, i32_w]; rfl
  refine pure_ (i := 17) (N := some 31) (v := undef) (a' := ?_) #[true, true, true, true, true, true, true, true, true, true, true, true, true, true, true, true, true, true, false] rfl rfl (by kernel_rfl) (fun _ _ _ h => h) (Or.inr ⟨by rfl, rfl⟩) ?_ ?_
  rotate_left
  · simp only [Act.put, List.setIfInBounds_toArray, List.set_cons_zero, List.set_cons_succ, i64_w, i32_w]; rfl
  refine pure_ (i := 18) (N := some 32) (v := ?_) (a' := ?_) #[true, true, true, true, true, true, true, true, true, true, true, true, true, true, true, true, true, true, true] rfl rfl (by kernel_rfl) (fun _ _ _ h => h) (Or.inl ⟨by rfl, ?_⟩) ?_ ?_
  rotate_left
  · intro w'; go_simp; with_reducible rfl
  rotate_left
  · simp only [Act.put, List.setIfInBounds_toArray, List.set_cons_zero, List.set_cons_succ, i64_w, i32_w]; rfl
  refine done_ (by kernel_rfl) ?_
  go_wp2
  go_ret3
  exact ⟨rfl, HB⟩
set_option maxHeartbeats 4000000 in
set_option maxRecDepth 100000 in
theorem Dec_slot (a b c : Int) (k id : ByteArray) (t : Bool) (hg : GoodC a b c k) (hl : 1 + (b + c) ≤ (id.size : Int)) (hq : ¬ bt id 0 / 32 = a) (w : World) :
    Calls Try.prog 46 #[.agg #[.int .i64 a, .int .i64 b, .int .i64 c, .string k, .bool t], .string id] w (Told3 ⟨#[]⟩ ⟨#[]⟩ false w) := by
  have hm0 := made37 w a b c k t
  have hB0 := below_alloc (Below.refl w.heap.size w) (.cells #[.int .i64 a, .int .i64 b, .int .i64 c, .string k, .bool t] 37 (0, 0))
  obtain ⟨g0, g1, g2, g3, g4⟩ := cells37 hm0
  have hHG := good_walk a b c k t
  rw [decide_eq_true hg] at hHG
  obtain ⟨⟨ha0, ha1⟩, ⟨hb0, hb1⟩, ⟨hc0, hc1⟩, hbc, hk⟩ := hg
  have hs1 : IntKind.i64.wrap (1 + (b + c)) = 1 + (b + c) := by rw [IntKind.wrap_i64]; omega
  have hln : ¬ (id.size : Int) < 1 + (b + c) := by omega
  have hld : decide ((id.size : Int) < 1 + (b + c)) = false := decide_eq_false hln
  have h0 : 0 < id.size := by omega
  have h0i : (0 : Int) < (id.size : Int) := by omega
  have hbt : ((id[0]'h0).toNat : Int) = bt id 0 := bt_at id 0 h0
  have hbr := bt_range id 0
  obtain ⟨z, hz⟩ : ∃ z, z = bt id 0 := ⟨_, rfl⟩
  rw [← hz] at hbt hbr hq
  have hz1 : IntKind.i64.wrap z = z := by rw [IntKind.wrap_i64]; omega
  have hz2 : 0 ≤ z := hbr.1
  have hz3 : IntKind.i64.wrap (z / 32) = z / 32 := by rw [IntKind.wrap_i64]; omega
  have hzt : wrap64 (z.tdiv 32) = z / 32 := by rw [Int.tdiv_eq_ediv_of_nonneg hz2]; unfold wrap64; omega
  have hne : (wrap64 (z.tdiv 32) != a) = true := by rw [hzt]; simpa using hq
  clear hzt
  clear hk hz hq hbr hl
  go_enter Try.func46, Try.ntmps46
  go_wp2
  refine start_ (n := 19) (S := (fun W => W.cell? ⟨w.heap.size, 0, none⟩ = some (.int .i64 a) ∧ W.cell? ⟨w.heap.size, 1, none⟩ = some (.int .i64 b) ∧ W.cell? ⟨w.heap.size, 2, none⟩ = some (.int .i64 c) ∧ W.cell? ⟨w.heap.size, 3, none⟩ = some (.string k) ∧ W.cell? ⟨w.heap.size, 4, none⟩ = some (.bool t))) (ds := []) #[false, false, false, false, false, false, false, false, false, false, false, false, false, false, false, false, false, false, false] (by kernel_rfl) rfl rfl ⟨g0, g1, g2, g3, g4⟩ (fun hHeld => ?_)
  refine take_ (i := 0) (N := some 14) (v := ?_) (a' := ?_) #[true, false, false, false, false, false, false, false, false, false, false, false, false, false, false, false, false, false, false] rfl rfl (by kernel_rfl) (fun _ _ _ h => h) (Or.inl ⟨by rfl, ?_⟩) hHeld ?_ ?_
  rotate_left
  · intro w' hs_; go_split_ands; go_simp; with_reducible rfl
  rotate_left
  · simp only [Act.put, List.setIfInBounds_toArray, List.set_cons_zero, List.set_cons_succ, i64_w, i32_w]; rfl
  refine one_ (i := 1) (N := some 15) #[true, true, false, false, false, false, false, false, false, false, false, false, false, false, false, false, false, false, false] rfl rfl (by kernel_rfl) (by decide) (fun K hK => ?_)
  go_simp
  go_at_call 79
  refine (hHG _).mono ?_
  rintro e w1 ⟨rfl, hb1⟩
  have IS := (hm0.drewN 1).below hb1
  have HB := (pw_below_drewN hB0 1).trans (hb1.mono hB0.size)
  obtain ⟨f0, f1, f2, f3, f4⟩ := cells37 IS
  clear hm0 hB0 hb1
  refine hK.out _ _ (⟨f0, f1, f2, f3, f4⟩) (fun hHeld => ?_)
  clear hK K
  refine pure_ (i := 2) (N := some 16) (v := ?_) (a' := ?_) #[true, true, true, false, false, false, false, false, false, false, false, false, false, false, false, false, false, false, false] rfl rfl (by kernel_rfl) (fun _ _ _ h => h) (Or.inl ⟨by rfl, ?_⟩) ?_ ?_
  rotate_left
  · intro w'; go_simp; with_reducible rfl
  rotate_left
  · simp only [Act.put, List.setIfInBounds_toArray, List.set_cons_zero, List.set_cons_succ, i64_w, i32_w]; rfl
  refine pure_ (i := 3) (N := some 17) (v := ?_) (a' := ?_) #[true, true, true, true, false, false, false, false, false, false, false, false, false, false, false, false, false, false, false] rfl rfl (by kernel_rfl) (fun _ _ _ h => h) (Or.inl ⟨by rfl, ?_⟩) ?_ ?_
  rotate_left
  · intro w'; go_simp; with_reducible rfl
  rotate_left
  · simp only [Act.put, List.setIfInBounds_toArray, List.set_cons_zero, List.set_cons_succ, i64_w, i32_w]; rfl
  refine pure_ (i := 4) (N := some 18) (v := ?_) (a' := ?_) #[true, true, true, true, true, false, false, false, false, false, false, false, false, false, false, false, false, false, false] rfl rfl (by kernel_rfl) (fun _ _ _ h => h) (Or.inl ⟨by rfl, ?_⟩) ?_ ?_
  rotate_left
  · intro w'; go_simp; with_reducible rfl
  rotate_left
  · simp only [Act.put, List.setIfInBounds_toArray, List.set_cons_zero, List.set_cons_succ, i64_w, i32_w]; rfl
  refine pure_ (i := 5) (N := some 19) (v := ?_) (a' := ?_) #[true, true, true, true, true, true, false, false, false, false, false, false, false, false, false, false, false, false, false] rfl rfl (by kernel_rfl) (fun _ _ _ h => h) (Or.inl ⟨by rfl, ?_⟩) ?_ ?_
  rotate_left
  · intro w'; go_simp; with_reducible rfl
  rotate_left
  · simp only [Act.put, List.setIfInBounds_toArray, List.set_cons_zero, List.set_cons_succ, i64_w, i32_w]; rfl
  refine pure_ (i := 6) (N := some 20) (v := ?_) (a' := ?_) #[true, true, true, true, true, true, true, false, false, false, false, false, false, false, false, false, false, false, false] rfl rfl (by kernel_rfl) (fun _ _ _ h => h) (Or.inl ⟨by rfl, ?_⟩) ?_ ?_
  rotate_left
  · intro w'; go_simp; with_reducible rfl
  rotate_left
  · simp only [Act.put, List.setIfInBounds_toArray, List.set_cons_zero, List.set_cons_succ, i64_w, i32_w]; rfl
  refine pure_ (i := 7) (N := some 21) (v := ?_) (a' := ?_) #[true, true, true, true, true, true, true, true, false, false, false, false, false, false, false, false, false, false, false] rfl rfl (by kernel_rfl) (fun _ _ _ h => h) (Or.inl ⟨by rfl, ?_⟩) ?_ ?_
  rotate_left
  · intro w'; go_simp; with_reducible rfl
  rotate_left
  · simp only [Act.put, List.setIfInBounds_toArray, List.set_cons_zero, List.set_cons_succ, i64_w, i32_w]; rfl
  refine pure_ (i := 8) (N := some 22) (v := ?_) (a' := ?_) #[true, true, true, true, true, true, true, true, true, false, false, false, false, false, false, false, false, false, false] rfl rfl (by kernel_rfl) (fun _ _ _ h => h) (Or.inl ⟨by rfl, ?_⟩) ?_ ?_
  rotate_left
  · intro w'; go_simp; with_reducible rfl
  rotate_left
  · simp only [Act.put, List.setIfInBounds_toArray, List.set_cons_zero, List.set_cons_succ, i64_w, i32_w]; rfl
  refine pure_ (i := 9) (N := some 23) (v := ?_) (a' := ?_) #[true, true, true, true, true, true, true, true, true, true, false, false, false, false, false, false, false, false, false] rfl rfl (by kernel_rfl) (fun _ _ _ h => h) (Or.inl ⟨by rfl, ?_⟩) ?_ ?_
  rotate_left
  · intro w'; go_simp; with_reducible rfl
  rotate_left
  · simp only [Act.put, List.setIfInBounds_toArray, List.set_cons_zero, List.set_cons_succ, i64_w, i32_w]; rfl
  refine pure_ (i := 10) (N := some 24) (v := ?_) (a' := ?_) #[true, true, true, true, true, true, true, true, true, true, true, false, false, false, false, false, false, false, false] rfl rfl (by kernel_rfl) (fun _ _ _ h => h) (Or.inl ⟨by rfl, ?_⟩) ?_ ?_
  rotate_left
  · intro w'; go_simp; with_reducible rfl
  rotate_left
  · simp only [Act.put, List.setIfInBounds_toArray, List.set_cons_zero, List.set_cons_succ, i64_w, i32_w]; rfl
  refine pure_ (i := 11) (N := some 25) (v := ?_) (a' := ?_) #[true, true, true, true, true, true, true, true, true, true, true, true, false, false, false, false, false, false, false] rfl rfl (by kernel_rfl) (fun _ _ _ h => h) (Or.inl ⟨by rfl, ?_⟩) ?_ ?_
  rotate_left
  · intro w'; go_simp; with_reducible rfl
  rotate_left
  · simp only [Act.put, List.setIfInBounds_toArray, List.set_cons_zero, List.set_cons_succ, i64_w, i32_w]; rfl
  refine pure_ (i := 12) (N := some 26) (v := ?_) (a' := ?_) #[true, true, true, true, true, true, true, true, true, true, true, true, true, false, false, false, false, false, false] rfl rfl (by kernel_rfl) (fun _ _ _ h => h) (Or.inl ⟨by rfl, ?_⟩) ?_ ?_
  rotate_left
  · intro w'; go_simp; with_reducible rfl
  rotate_left
  · simp only [Act.put, List.setIfInBounds_toArray, List.set_cons_zero, List.set_cons_succ, i64_w, i32_w]; rfl
  refine pure_ (i := 13) (N := some 27) (v := ?_) (a' := ?_) #[true, true, true, true, true, true, true, true, true, true, true, true, true, true, false, false, false, false, false] rfl rfl (by kernel_rfl) (fun _ _ _ h => h) (Or.inl ⟨by rfl, ?_⟩) ?_ ?_
  rotate_left
  · intro w'; go_simp; with_reducible rfl
  rotate_left
  · simp only [Act.put, List.setIfInBounds_toArray, List.set_cons_zero, List.set_cons_succ, i64_w, i32_w]; rfl
  refine pure_ (i := 14) (N := some 28) (v := ?_) (a' := ?_) #[true, true, true, true, true, true, true, true, true, true, true, true, true, true, true, false, false, false, false] rfl rfl (by kernel_rfl) (fun _ _ _ h => h) (Or.inl ⟨by rfl, ?_⟩) ?_ ?_
  rotate_left
  · intro w'; go_simp; with_reducible rfl
  rotate_left
  · simp only [Act.put, List.setIfInBounds_toArray, List.set_cons_zero, List.set_cons_succ, i64_w, i32_w]; rfl
  refine pure_ (i := 15) (N := some 29) (v := ?_) (a' := ?_) #[true, true, true, true, true, true, true, true, true, true, true, true, true, true, true, true, false, false, false] rfl rfl (by kernel_rfl) (fun _ _ _ h => h) (Or.inl ⟨by rfl, ?_⟩) ?_ ?_
  rotate_left
  · intro w'; go_simp; with_reducible rfl
  rotate_left
  · simp only [Act.put, List.setIfInBounds_toArray, List.set_cons_zero, List.set_cons_succ, i64_w, i32_w]; rfl
  refine take_ (i := 16) (N := some 30) (v := ?_) (a' := ?_) #[true, true, true, true, true, true, true, true, true, true, true, true, true, true, true, true, true, false, false] rfl rfl (by kernel_rfl) (fun _ _ _ h => h) (Or.inl ⟨by rfl, ?_⟩) hHeld ?_ ?_
  rotate_left
  · intro w' hs_; go_split_ands; go_simp; with_reducible rfl
  rotate_left
  · simp only [Act.put, List.setIfInBounds_toArray, List.set_cons_zero, List.set_cons_succ, i64_w, i32_w]; rfl
  refine pure_ (i := 17) (N := some 31) (v := ?_) (a' := ?_) #[true, true, true, true, true, true, true, true, true, true, true, true, true, true, true, true, true, true, false] rfl rfl (by kernel_rfl) (fun _ _ _ h => h) (Or.inl ⟨by rfl, ?_⟩) ?_ ?_
  rotate_left
  · intro w'; go_simp; with_reducible rfl
  rotate_left
  · simp only [Act.put, List.setIfInBounds_toArray, List.set_cons_zero, List.set_cons_succ, i64_w, i32_w]; rfl
  refine pure_ (i := 18) (N := some 32) (v := ?_) (a' := ?_) #[true, true, true, true, true, true, true, true, true, true, true, true, true, true, true, true, true, true, true] rfl rfl (by kernel_rfl) (fun _ _ _ h => h) (Or.inl ⟨by rfl, ?_⟩) ?_ ?_
  rotate_left
  · intro w'; go_simp; with_reducible rfl
  rotate_left
  · simp only [Act.put, List.setIfInBounds_toArray, List.set_cons_zero, List.set_cons_succ, i64_w, i32_w]; rfl
  refine done_ (by kernel_rfl) ?_
  go_wp2
  go_ret3
  exact ⟨rfl, HB⟩
set_option maxHeartbeats 4000000 in
set_option maxRecDepth 100000 in
theorem Dec_0 (a c : Int) (b m : Nat) (k id : ByteArray) (t : Bool) (hg : GoodC a b c k) (hm : (b : Int) + c = (m : Int)) (hl : 1 + ((b : Int) + c) ≤ (id.size : Int)) (hq : bt id 0 / 32 = a) (hk0 : k.size = 0) (w : World) :
    Calls Try.prog 46 #[.agg #[.int .i64 a, .int .i64 (b : Int), .int .i64 c, .string k, .bool t], .string id] w (Told3 ((id.extract 1 (1 + m)).extract 0 b) ((id.extract 1 (1 + m)).extract b m) true w) := by
  have hm0 := made37 w a (b : Int) c k t
  have hB0 := below_alloc (Below.refl w.heap.size w) (.cells #[.int .i64 a, .int .i64 (b : Int), .int .i64 c, .string k, .bool t] 37 (0, 0))
  obtain ⟨g0, g1, g2, g3, g4⟩ := cells37 hm0
  have hHG := good_walk a (b : Int) c k t
  rw [decide_eq_true hg] at hHG
  obtain ⟨⟨ha0, ha1⟩, ⟨hb0, hb1⟩, ⟨hc0, hc1⟩, hbc, hk⟩ := hg
  have hs1 : IntKind.i64.wrap (1 + ((b : Int) + c)) = 1 + ((b : Int) + c) := by rw [IntKind.wrap_i64]; omega
  have hln : ¬ (id.size : Int) < 1 + ((b : Int) + c) := by omega
  have hld : decide ((id.size : Int) < 1 + ((b : Int) + c)) = false := decide_eq_false hln
  have h0 : 0 < id.size := by omega
  have h0i : (0 : Int) < (id.size : Int) := by omega
  have hbt : ((id[0]'h0).toNat : Int) = bt id 0 := bt_at id 0 h0
  have hbr := bt_range id 0
  obtain ⟨z, hz⟩ : ∃ z, z = bt id 0 := ⟨_, rfl⟩
  rw [← hz] at hbt hbr hq
  have hz1 : IntKind.i64.wrap z = z := by rw [IntKind.wrap_i64]; omega
  have hz2 : 0 ≤ z := hbr.1
  have hz3 : IntKind.i64.wrap (z / 32) = z / 32 := by rw [IntKind.wrap_i64]; omega
  have hzt : wrap64 (z.tdiv 32) = z / 32 := by rw [Int.tdiv_eq_ediv_of_nonneg hz2]; unfold wrap64; omega
  have hne : (wrap64 (z.tdiv 32) != a) = false := by rw [hzt]; simp [hq]
  clear hzt
  have hqz : z / 32 = a := hq
  have hkd := kind_told a (b : Int) c k t ⟨by omega, by omega⟩ ⟨by omega, by omega⟩
  have hkw := fun (W : World) (g : Nat) (hI : IsS37 w W g a (b : Int) c k t) (hB : Below w.heap.size w W) => Go.Proofs.Ytimokakcdmcnnaa.PImplE.impl_IdConfig_kind.calls g a (b : Int) c k t (kindN (b : Int) c k) a (b : Int) c k t w W hI hB hkd
  have hBsz : (id.extract 1 (1 + m)).size = m := by rw [ByteArray.size_extract]; omega
  obtain ⟨Bk, hBk⟩ : ∃ B, B = id.extract 1 (1 + m) := ⟨_, rfl⟩
  rw [← hBk] at hBsz ⊢
  have hsB : ∀ W : World, (Instr.slice 9 (.string id) (some (.int .i64 1)) (some (.int .i64 (1 + (m : Int)))) none).run Try.prog W = .ok (.string Bk) W := fun W => by rw [run_slice_string W 9 id .i64 .i64 1 (1 + (m : Int)) Try.underlying9 (by decide) (by omega) (by omega), hBk, show (1 + (m : Int)).toNat = 1 + m by omega]; rfl
  clear hBk
  have hbm : b ≤ m := by omega
  have hbmi : (b : Int) ≤ (m : Int) := by omega
  have hkn : kindN (b : Int) c k = 0 := if_pos hk0
  rw [hkn] at hkw
  obtain ⟨E, hE⟩ : ∃ E, E = Bk := ⟨_, rfl⟩
  rw [← hE] at hBsz hsB ⊢
  have hEs := hBsz
  have hEi : (E.size : Int) = (m : Int) := by omega
  have hmi : (1 + (m : Int)).toNat = 1 + m := by omega
  have hm1 : 1 + (m : Int) ≤ (id.size : Int) := by omega
  have hm0 := hm0
  clear hk hkn hkd hz hbr hl hk0
  rw [hm] at hs1 hln hld
  have hsL : ∀ W : World, (Instr.slice 9 (.string E) none (some (.int .i64 (b : Int))) none).run Try.prog W = .ok (.string (E.extract 0 b)) W := fun W => by rw [run_slice_string_h W 9 E Try.underlying9 .i64 (b : Int) (by omega) (by omega)]; rfl
  have hsR : ∀ W : World, (Instr.slice 9 (.string E) (some (.int .i64 (b : Int))) none none).run Try.prog W = .ok (.string (E.extract b m)) W := fun W => by rw [run_slice_string_l W 9 E Try.underlying9 .i64 (b : Int) (by omega) (by omega), hEs]; rfl
  clear hE hEs hEi hmi hm1 hBsz hbmi
  go_enter Try.func46, Try.ntmps46
  go_wp2
  refine start_ (n := 19) (S := (fun W => W.cell? ⟨w.heap.size, 0, none⟩ = some (.int .i64 a) ∧ W.cell? ⟨w.heap.size, 1, none⟩ = some (.int .i64 b) ∧ W.cell? ⟨w.heap.size, 2, none⟩ = some (.int .i64 c) ∧ W.cell? ⟨w.heap.size, 3, none⟩ = some (.string k) ∧ W.cell? ⟨w.heap.size, 4, none⟩ = some (.bool t))) (ds := []) #[false, false, false, false, false, false, false, false, false, false, false, false, false, false, false, false, false, false, false] (by kernel_rfl) rfl rfl ⟨g0, g1, g2, g3, g4⟩ (fun hHeld => ?_)
  refine take_ (i := 0) (N := some 14) (v := ?_) (a' := ?_) #[true, false, false, false, false, false, false, false, false, false, false, false, false, false, false, false, false, false, false] rfl rfl (by kernel_rfl) (fun _ _ _ h => h) (Or.inl ⟨by rfl, ?_⟩) hHeld ?_ ?_
  rotate_left
  · intro w' hs_; go_split_ands; go_simp; with_reducible rfl
  rotate_left
  · simp only [Act.put, List.setIfInBounds_toArray, List.set_cons_zero, List.set_cons_succ, i64_w, i32_w]; rfl
  refine one_ (i := 1) (N := some 15) #[true, true, false, false, false, false, false, false, false, false, false, false, false, false, false, false, false, false, false] rfl rfl (by kernel_rfl) (by decide) (fun K hK => ?_)
  go_simp
  go_at_call 79
  refine (hHG _).mono ?_
  rintro e w1 ⟨rfl, hb1⟩
  have IS := (hm0.drewN 1).below hb1
  have HB := (pw_below_drewN hB0 1).trans (hb1.mono hB0.size)
  obtain ⟨f0, f1, f2, f3, f4⟩ := cells37 IS
  clear hm0 hB0 hb1
  refine hK.out _ _ (⟨f0, f1, f2, f3, f4⟩) (fun hHeld => ?_)
  clear hK K
  refine pure_ (i := 2) (N := some 16) (v := ?_) (a' := ?_) #[true, true, true, false, false, false, false, false, false, false, false, false, false, false, false, false, false, false, false] rfl rfl (by kernel_rfl) (fun _ _ _ h => h) (Or.inl ⟨by rfl, ?_⟩) ?_ ?_
  rotate_left
  · intro w'; go_simp; with_reducible rfl
  rotate_left
  · simp only [Act.put, List.setIfInBounds_toArray, List.set_cons_zero, List.set_cons_succ, i64_w, i32_w]; rfl
  refine pure_ (i := 3) (N := some 17) (v := ?_) (a' := ?_) #[true, true, true, true, false, false, false, false, false, false, false, false, false, false, false, false, false, false, false] rfl rfl (by kernel_rfl) (fun _ _ _ h => h) (Or.inl ⟨by rfl, ?_⟩) ?_ ?_
  rotate_left
  · intro w'; go_simp; with_reducible rfl
  rotate_left
  · simp only [Act.put, List.setIfInBounds_toArray, List.set_cons_zero, List.set_cons_succ, i64_w, i32_w]; rfl
  refine pure_ (i := 4) (N := some 18) (v := ?_) (a' := ?_) #[true, true, true, true, true, false, false, false, false, false, false, false, false, false, false, false, false, false, false] rfl rfl (by kernel_rfl) (fun _ _ _ h => h) (Or.inl ⟨by rfl, ?_⟩) ?_ ?_
  rotate_left
  · intro w'; go_simp; with_reducible rfl
  rotate_left
  · simp only [Act.put, List.setIfInBounds_toArray, List.set_cons_zero, List.set_cons_succ, i64_w, i32_w]; rfl
  refine pure_ (i := 5) (N := some 19) (v := ?_) (a' := ?_) #[true, true, true, true, true, true, false, false, false, false, false, false, false, false, false, false, false, false, false] rfl rfl (by kernel_rfl) (fun _ _ _ h => h) (Or.inl ⟨by rfl, ?_⟩) ?_ ?_
  rotate_left
  · intro w'; go_simp; with_reducible rfl
  rotate_left
  · simp only [Act.put, List.setIfInBounds_toArray, List.set_cons_zero, List.set_cons_succ, i64_w, i32_w]; rfl
  refine pure_ (i := 6) (N := some 20) (v := ?_) (a' := ?_) #[true, true, true, true, true, true, true, false, false, false, false, false, false, false, false, false, false, false, false] rfl rfl (by kernel_rfl) (fun _ _ _ h => h) (Or.inl ⟨by rfl, ?_⟩) ?_ ?_
  rotate_left
  · intro w'; go_simp; with_reducible rfl
  rotate_left
  · simp only [Act.put, List.setIfInBounds_toArray, List.set_cons_zero, List.set_cons_succ, i64_w, i32_w]; rfl
  refine pure_ (i := 7) (N := some 21) (v := ?_) (a' := ?_) #[true, true, true, true, true, true, true, true, false, false, false, false, false, false, false, false, false, false, false] rfl rfl (by kernel_rfl) (fun _ _ _ h => h) (Or.inl ⟨by rfl, ?_⟩) ?_ ?_
  rotate_left
  · intro w'; go_simp; with_reducible rfl
  rotate_left
  · simp only [Act.put, List.setIfInBounds_toArray, List.set_cons_zero, List.set_cons_succ, i64_w, i32_w]; rfl
  refine pure_ (i := 8) (N := some 22) (v := ?_) (a' := ?_) #[true, true, true, true, true, true, true, true, true, false, false, false, false, false, false, false, false, false, false] rfl rfl (by kernel_rfl) (fun _ _ _ h => h) (Or.inl ⟨by rfl, ?_⟩) ?_ ?_
  rotate_left
  · intro w'; go_simp; with_reducible rfl
  rotate_left
  · simp only [Act.put, List.setIfInBounds_toArray, List.set_cons_zero, List.set_cons_succ, i64_w, i32_w]; rfl
  refine pure_ (i := 9) (N := some 23) (v := ?_) (a' := ?_) #[true, true, true, true, true, true, true, true, true, true, false, false, false, false, false, false, false, false, false] rfl rfl (by kernel_rfl) (fun _ _ _ h => h) (Or.inl ⟨by rfl, ?_⟩) ?_ ?_
  rotate_left
  · intro w'; go_simp; with_reducible rfl
  rotate_left
  · simp only [Act.put, List.setIfInBounds_toArray, List.set_cons_zero, List.set_cons_succ, i64_w, i32_w]; rfl
  refine pure_ (i := 10) (N := some 24) (v := ?_) (a' := ?_) #[true, true, true, true, true, true, true, true, true, true, true, false, false, false, false, false, false, false, false] rfl rfl (by kernel_rfl) (fun _ _ _ h => h) (Or.inl ⟨by rfl, ?_⟩) ?_ ?_
  rotate_left
  · intro w'; go_simp; with_reducible rfl
  rotate_left
  · simp only [Act.put, List.setIfInBounds_toArray, List.set_cons_zero, List.set_cons_succ, i64_w, i32_w]; rfl
  refine pure_ (i := 11) (N := some 25) (v := ?_) (a' := ?_) #[true, true, true, true, true, true, true, true, true, true, true, true, false, false, false, false, false, false, false] rfl rfl (by kernel_rfl) (fun _ _ _ h => h) (Or.inl ⟨by rfl, ?_⟩) ?_ ?_
  rotate_left
  · intro w'; go_simp; with_reducible rfl
  rotate_left
  · simp only [Act.put, List.setIfInBounds_toArray, List.set_cons_zero, List.set_cons_succ, i64_w, i32_w]; rfl
  refine pure_ (i := 12) (N := some 26) (v := ?_) (a' := ?_) #[true, true, true, true, true, true, true, true, true, true, true, true, true, false, false, false, false, false, false] rfl rfl (by kernel_rfl) (fun _ _ _ h => h) (Or.inl ⟨by rfl, ?_⟩) ?_ ?_
  rotate_left
  · intro w'; go_simp; with_reducible rfl
  rotate_left
  · simp only [Act.put, List.setIfInBounds_toArray, List.set_cons_zero, List.set_cons_succ, i64_w, i32_w]; rfl
  refine pure_ (i := 13) (N := some 27) (v := ?_) (a' := ?_) #[true, true, true, true, true, true, true, true, true, true, true, true, true, true, false, false, false, false, false] rfl rfl (by kernel_rfl) (fun _ _ _ h => h) (Or.inl ⟨by rfl, ?_⟩) ?_ ?_
  rotate_left
  · intro w'; go_simp; with_reducible rfl
  rotate_left
  · simp only [Act.put, List.setIfInBounds_toArray, List.set_cons_zero, List.set_cons_succ, i64_w, i32_w]; rfl
  refine pure_ (i := 14) (N := some 28) (v := ?_) (a' := ?_) #[true, true, true, true, true, true, true, true, true, true, true, true, true, true, true, false, false, false, false] rfl rfl (by kernel_rfl) (fun _ _ _ h => h) (Or.inl ⟨by rfl, ?_⟩) ?_ ?_
  rotate_left
  · intro w'; go_simp; with_reducible rfl
  rotate_left
  · simp only [Act.put, List.setIfInBounds_toArray, List.set_cons_zero, List.set_cons_succ, i64_w, i32_w]; rfl
  refine pure_ (i := 15) (N := some 29) (v := ?_) (a' := ?_) #[true, true, true, true, true, true, true, true, true, true, true, true, true, true, true, true, false, false, false] rfl rfl (by kernel_rfl) (fun _ _ _ h => h) (Or.inl ⟨by rfl, ?_⟩) ?_ ?_
  rotate_left
  · intro w'; go_simp; with_reducible rfl
  rotate_left
  · simp only [Act.put, List.setIfInBounds_toArray, List.set_cons_zero, List.set_cons_succ, i64_w, i32_w]; rfl
  refine take_ (i := 16) (N := some 30) (v := ?_) (a' := ?_) #[true, true, true, true, true, true, true, true, true, true, true, true, true, true, true, true, true, false, false] rfl rfl (by kernel_rfl) (fun _ _ _ h => h) (Or.inl ⟨by rfl, ?_⟩) hHeld ?_ ?_
  rotate_left
  · intro w' hs_; go_split_ands; go_simp; with_reducible rfl
  rotate_left
  · simp only [Act.put, List.setIfInBounds_toArray, List.set_cons_zero, List.set_cons_succ, i64_w, i32_w]; rfl
  refine pure_ (i := 17) (N := some 31) (v := ?_) (a' := ?_) #[true, true, true, true, true, true, true, true, true, true, true, true, true, true, true, true, true, true, false] rfl rfl (by kernel_rfl) (fun _ _ _ h => h) (Or.inl ⟨by rfl, ?_⟩) ?_ ?_
  rotate_left
  · intro w'; go_simp; with_reducible rfl
  rotate_left
  · simp only [Act.put, List.setIfInBounds_toArray, List.set_cons_zero, List.set_cons_succ, i64_w, i32_w]; rfl
  refine pure_ (i := 18) (N := some 32) (v := ?_) (a' := ?_) #[true, true, true, true, true, true, true, true, true, true, true, true, true, true, true, true, true, true, true] rfl rfl (by kernel_rfl) (fun _ _ _ h => h) (Or.inl ⟨by rfl, ?_⟩) ?_ ?_
  rotate_left
  · intro w'; go_simp; with_reducible rfl
  rotate_left
  · simp only [Act.put, List.setIfInBounds_toArray, List.set_cons_zero, List.set_cons_succ, i64_w, i32_w]; rfl
  refine done_ (by kernel_rfl) ?_
  go_wp2_with (first
    | (go_at_call 80; refine (hkw _ _ IS HB).mono ?_; rintro e w3 ⟨rfl, IS', HB', _⟩; clear IS HB f0 f1 f2 f3 f4; have IS := IS'; have HB := HB'; clear IS' HB'; obtain ⟨f0, f1, f2, f3, f4⟩ := cells37 IS)
    | (go_at_call 54; refine (hci _).mono ?_; rintro e w5 ⟨gc, gb, gk, cap, rfl, hC, _, _, _, hb5⟩; have IS' := IS.below hb5; have HB' := HB.trans (hb5.mono HB.size); clear IS HB f0 f1 f2 f3 f4 hb5; have IS := IS'; have HB := HB'; clear IS' HB'; obtain ⟨f0, f1, f2, f3, f4⟩ := cells37 IS)
    | (go_at_call 57; refine (hec _ _ _ _ _ hC).mono ?_; rintro e w5 ⟨rfl, hb5⟩; have IS' := IS.below hb5; have HB' := HB.trans (hb5.mono HB.size); clear IS HB f0 f1 f2 f3 f4 hb5; have IS := IS'; have HB := HB'; clear IS' HB'; obtain ⟨f0, f1, f2, f3, f4⟩ := cells37 IS)
    | (go_at_call 75; refine (hfp _).mono ?_; rintro e w5 ⟨rfl, hb5⟩; have IS' := IS.below hb5; have HB' := HB.trans (hb5.mono HB.size); clear IS HB f0 f1 f2 f3 f4 hb5; have IS := IS'; have HB := HB'; clear IS' HB'; obtain ⟨f0, f1, f2, f3, f4⟩ := cells37 IS))
  go_region_held3 (fun W => W.cell? ⟨w.heap.size, 1, none⟩ = some (.int .i64 (b : Int))) (exact f1) (fail)
  go_wp2
  go_ret3
  exact ⟨rfl, pw_below_drewN HB 1⟩
set_option maxHeartbeats 4000000 in
set_option maxRecDepth 100000 in
theorem Dec_1 (a c : Int) (b m : Nat) (k id : ByteArray) (t : Bool) (hg : GoodC a b c k) (hm : (b : Int) + c = (m : Int)) (hl : 1 + ((b : Int) + c) ≤ (id.size : Int)) (hq : bt id 0 / 32 = a) (hk0 : k.size = 16) (h16 : (b : Int) + c = 16) (w : World) :
    Calls Try.prog 46 #[.agg #[.int .i64 a, .int .i64 (b : Int), .int .i64 c, .string k, .bool t], .string id] w (Told3 ((decS k (id.extract 1 (1 + m))).extract 0 b) ((decS k (id.extract 1 (1 + m))).extract b m) true w) := by
  have hm0 := made37 w a (b : Int) c k t
  have hB0 := below_alloc (Below.refl w.heap.size w) (.cells #[.int .i64 a, .int .i64 (b : Int), .int .i64 c, .string k, .bool t] 37 (0, 0))
  obtain ⟨g0, g1, g2, g3, g4⟩ := cells37 hm0
  have hHG := good_walk a (b : Int) c k t
  rw [decide_eq_true hg] at hHG
  obtain ⟨⟨ha0, ha1⟩, ⟨hb0, hb1⟩, ⟨hc0, hc1⟩, hbc, hk⟩ := hg
  have hs1 : IntKind.i64.wrap (1 + ((b : Int) + c)) = 1 + ((b : Int) + c) := by rw [IntKind.wrap_i64]; omega
  have hln : ¬ (id.size : Int) < 1 + ((b : Int) + c) := by omega
  have hld : decide ((id.size : Int) < 1 + ((b : Int) + c)) = false := decide_eq_false hln
  have h0 : 0 < id.size := by omega
  have h0i : (0 : Int) < (id.size : Int) := by omega
  have hbt : ((id[0]'h0).toNat : Int) = bt id 0 := bt_at id 0 h0
  have hbr := bt_range id 0
  obtain ⟨z, hz⟩ : ∃ z, z = bt id 0 := ⟨_, rfl⟩
  rw [← hz] at hbt hbr hq
  have hz1 : IntKind.i64.wrap z = z := by rw [IntKind.wrap_i64]; omega
  have hz2 : 0 ≤ z := hbr.1
  have hz3 : IntKind.i64.wrap (z / 32) = z / 32 := by rw [IntKind.wrap_i64]; omega
  have hzt : wrap64 (z.tdiv 32) = z / 32 := by rw [Int.tdiv_eq_ediv_of_nonneg hz2]; unfold wrap64; omega
  have hne : (wrap64 (z.tdiv 32) != a) = false := by rw [hzt]; simp [hq]
  clear hzt
  have hqz : z / 32 = a := hq
  have hkd := kind_told a (b : Int) c k t ⟨by omega, by omega⟩ ⟨by omega, by omega⟩
  have hkw := fun (W : World) (g : Nat) (hI : IsS37 w W g a (b : Int) c k t) (hB : Below w.heap.size w W) => Go.Proofs.Ytimokakcdmcnnaa.PImplE.impl_IdConfig_kind.calls g a (b : Int) c k t (kindN (b : Int) c k) a (b : Int) c k t w W hI hB hkd
  have hBsz : (id.extract 1 (1 + m)).size = m := by rw [ByteArray.size_extract]; omega
  obtain ⟨Bk, hBk⟩ : ∃ B, B = id.extract 1 (1 + m) := ⟨_, rfl⟩
  rw [← hBk] at hBsz ⊢
  have hsB : ∀ W : World, (Instr.slice 9 (.string id) (some (.int .i64 1)) (some (.int .i64 (1 + (m : Int)))) none).run Try.prog W = .ok (.string Bk) W := fun W => by rw [run_slice_string W 9 id .i64 .i64 1 (1 + (m : Int)) Try.underlying9 (by decide) (by omega) (by omega), hBk, show (1 + (m : Int)).toNat = 1 + m by omega]; rfl
  clear hBk
  have hbm : b ≤ m := by omega
  have hbmi : (b : Int) ≤ (m : Int) := by omega
  have hk0' : ¬ k.size = 0 := by omega
  have hkn : kindN (b : Int) c k = 1 := by unfold kindN; rw [if_neg hk0', if_pos h16]
  rw [hkn] at hkw
  have hci := cipher_made k hk0
  have hec := fun (gc gb gk cap : Nat) (W : World) (hC : Ci W gc gb gk cap BX (KS k)) => dec_walk k Bk hk0 (by omega) gc gb gk cap W hC
  have hEs : (decS k Bk).size = m := by rw [decS_size]; omega
  obtain ⟨E, hE⟩ : ∃ E, E = decS k Bk := ⟨_, rfl⟩
  rw [← hE] at hec hEs ⊢
  clear hk0'
  have hEi : (E.size : Int) = (m : Int) := by omega
  have hmi : (1 + (m : Int)).toNat = 1 + m := by omega
  have hm1 : 1 + (m : Int) ≤ (id.size : Int) := by omega
  have hm0 := hm0
  clear hk hkn hkd hz hbr hl hk0 h16
  rw [hm] at hs1 hln hld
  have hsL : ∀ W : World, (Instr.slice 9 (.string E) none (some (.int .i64 (b : Int))) none).run Try.prog W = .ok (.string (E.extract 0 b)) W := fun W => by rw [run_slice_string_h W 9 E Try.underlying9 .i64 (b : Int) (by omega) (by omega)]; rfl
  have hsR : ∀ W : World, (Instr.slice 9 (.string E) (some (.int .i64 (b : Int))) none none).run Try.prog W = .ok (.string (E.extract b m)) W := fun W => by rw [run_slice_string_l W 9 E Try.underlying9 .i64 (b : Int) (by omega) (by omega), hEs]; rfl
  clear hE hEs hEi hmi hm1 hBsz hbmi
  go_enter Try.func46, Try.ntmps46
  go_wp2
  refine start_ (n := 19) (S := (fun W => W.cell? ⟨w.heap.size, 0, none⟩ = some (.int .i64 a) ∧ W.cell? ⟨w.heap.size, 1, none⟩ = some (.int .i64 b) ∧ W.cell? ⟨w.heap.size, 2, none⟩ = some (.int .i64 c) ∧ W.cell? ⟨w.heap.size, 3, none⟩ = some (.string k) ∧ W.cell? ⟨w.heap.size, 4, none⟩ = some (.bool t))) (ds := []) #[false, false, false, false, false, false, false, false, false, false, false, false, false, false, false, false, false, false, false] (by kernel_rfl) rfl rfl ⟨g0, g1, g2, g3, g4⟩ (fun hHeld => ?_)
  refine take_ (i := 0) (N := some 14) (v := ?_) (a' := ?_) #[true, false, false, false, false, false, false, false, false, false, false, false, false, false, false, false, false, false, false] rfl rfl (by kernel_rfl) (fun _ _ _ h => h) (Or.inl ⟨by rfl, ?_⟩) hHeld ?_ ?_
  rotate_left
  · intro w' hs_; go_split_ands; go_simp; with_reducible rfl
  rotate_left
  · simp only [Act.put, List.setIfInBounds_toArray, List.set_cons_zero, List.set_cons_succ, i64_w, i32_w]; rfl
  refine one_ (i := 1) (N := some 15) #[true, true, false, false, false, false, false, false, false, false, false, false, false, false, false, false, false, false, false] rfl rfl (by kernel_rfl) (by decide) (fun K hK => ?_)
  go_simp
  go_at_call 79
  refine (hHG _).mono ?_
  rintro e w1 ⟨rfl, hb1⟩
  have IS := (hm0.drewN 1).below hb1
  have HB := (pw_below_drewN hB0 1).trans (hb1.mono hB0.size)
  obtain ⟨f0, f1, f2, f3, f4⟩ := cells37 IS
  clear hm0 hB0 hb1
  refine hK.out _ _ (⟨f0, f1, f2, f3, f4⟩) (fun hHeld => ?_)
  clear hK K
  refine pure_ (i := 2) (N := some 16) (v := ?_) (a' := ?_) #[true, true, true, false, false, false, false, false, false, false, false, false, false, false, false, false, false, false, false] rfl rfl (by kernel_rfl) (fun _ _ _ h => h) (Or.inl ⟨by rfl, ?_⟩) ?_ ?_
  rotate_left
  · intro w'; go_simp; with_reducible rfl
  rotate_left
  · simp only [Act.put, List.setIfInBounds_toArray, List.set_cons_zero, List.set_cons_succ, i64_w, i32_w]; rfl
  refine pure_ (i := 3) (N := some 17) (v := ?_) (a' := ?_) #[true, true, true, true, false, false, false, false, false, false, false, false, false, false, false, false, false, false, false] rfl rfl (by kernel_rfl) (fun _ _ _ h => h) (Or.inl ⟨by rfl, ?_⟩) ?_ ?_
  rotate_left
  · intro w'; go_simp; with_reducible rfl
  rotate_left
  · simp only [Act.put, List.setIfInBounds_toArray, List.set_cons_zero, List.set_cons_succ, i64_w, i32_w]; rfl
  refine pure_ (i := 4) (N := some 18) (v := ?_) (a' := ?_) #[true, true, true, true, true, false, false, false, false, false, false, false, false, false, false, false, false, false, false] rfl rfl (by kernel_rfl) (fun _ _ _ h => h) (Or.inl ⟨by rfl, ?_⟩) ?_ ?_
  rotate_left
  · intro w'; go_simp; with_reducible rfl
  rotate_left
  · simp only [Act.put, List.setIfInBounds_toArray, List.set_cons_zero, List.set_cons_succ, i64_w, i32_w]; rfl
  refine pure_ (i := 5) (N := some 19) (v := ?_) (a' := ?_) #[true, true, true, true, true, true, false, false, false, false, false, false, false, false, false, false, false, false, false] rfl rfl (by kernel_rfl) (fun _ _ _ h => h) (Or.inl ⟨by rfl, ?_⟩) ?_ ?_
  rotate_left
  · intro w'; go_simp; with_reducible rfl
  rotate_left
  · simp only [Act.put, List.setIfInBounds_toArray, List.set_cons_zero, List.set_cons_succ, i64_w, i32_w]; rfl
  refine pure_ (i := 6) (N := some 20) (v := ?_) (a' := ?_) #[true, true, true, true, true, true, true, false, false, false, false, false, false, false, false, false, false, false, false] rfl rfl (by kernel_rfl) (fun _ _ _ h => h) (Or.inl ⟨by rfl, ?_⟩) ?_ ?_
  rotate_left
  · intro w'; go_simp; with_reducible rfl
  rotate_left
  · simp only [Act.put, List.setIfInBounds_toArray, List.set_cons_zero, List.set_cons_succ, i64_w, i32_w]; rfl
  refine pure_ (i := 7) (N := some 21) (v := ?_) (a' := ?_) #[true, true, true, true, true, true, true, true, false, false, false, false, false, false, false, false, false, false, false] rfl rfl (by kernel_rfl) (fun _ _ _ h => h) (Or.inl ⟨by rfl, ?_⟩) ?_ ?_
  rotate_left
  · intro w'; go_simp; with_reducible rfl
  rotate_left
  · simp only [Act.put, List.setIfInBounds_toArray, List.set_cons_zero, List.set_cons_succ, i64_w, i32_w]; rfl
  refine pure_ (i := 8) (N := some 22) (v := ?_) (a' := ?_) #[true, true, true, true, true, true, true, true, true, false, false, false, false, false, false, false, false, false, false] rfl rfl (by kernel_rfl) (fun _ _ _ h => h) (Or.inl ⟨by rfl, ?_⟩) ?_ ?_
  rotate_left
  · intro w'; go_simp; with_reducible rfl
  rotate_left
  · simp only [Act.put, List.setIfInBounds_toArray, List.set_cons_zero, List.set_cons_succ, i64_w, i32_w]; rfl
  refine pure_ (i := 9) (N := some 23) (v := ?_) (a' := ?_) #[true, true, true, true, true, true, true, true, true, true, false, false, false, false, false, false, false, false, false] rfl rfl (by kernel_rfl) (fun _ _ _ h => h) (Or.inl ⟨by rfl, ?_⟩) ?_ ?_
  rotate_left
  · intro w'; go_simp; with_reducible rfl
  rotate_left
  · simp only [Act.put, List.setIfInBounds_toArray, List.set_cons_zero, List.set_cons_succ, i64_w, i32_w]; rfl
  refine pure_ (i := 10) (N := some 24) (v := ?_) (a' := ?_) #[true, true, true, true, true, true, true, true, true, true, true, false, false, false, false, false, false, false, false] rfl rfl (by kernel_rfl) (fun _ _ _ h => h) (Or.inl ⟨by rfl, ?_⟩) ?_ ?_
  rotate_left
  · intro w'; go_simp; with_reducible rfl
  rotate_left
  · simp only [Act.put, List.setIfInBounds_toArray, List.set_cons_zero, List.set_cons_succ, i64_w, i32_w]; rfl
  refine pure_ (i := 11) (N := some 25) (v := ?_) (a' := ?_) #[true, true, true, true, true, true, true, true, true, true, true, true, false, false, false, false, false, false, false] rfl rfl (by kernel_rfl) (fun _ _ _ h => h) (Or.inl ⟨by rfl, ?_⟩) ?_ ?_
  rotate_left
  · intro w'; go_simp; with_reducible rfl
  rotate_left
  · simp only [Act.put, List.setIfInBounds_toArray, List.set_cons_zero, List.set_cons_succ, i64_w, i32_w]; rfl
  refine pure_ (i := 12) (N := some 26) (v := ?_) (a' := ?_) #[true, true, true, true, true, true, true, true, true, true, true, true, true, false, false, false, false, false, false] rfl rfl (by kernel_rfl) (fun _ _ _ h => h) (Or.inl ⟨by rfl, ?_⟩) ?_ ?_
  rotate_left
  · intro w'; go_simp; with_reducible rfl
  rotate_left
  · simp only [Act.put, List.setIfInBounds_toArray, List.set_cons_zero, List.set_cons_succ, i64_w, i32_w]; rfl
  refine pure_ (i := 13) (N := some 27) (v := ?_) (a' := ?_) #[true, true, true, true, true, true, true, true, true, true, true, true, true, true, false, false, false, false, false] rfl rfl (by kernel_rfl) (fun _ _ _ h => h) (Or.inl ⟨by rfl, ?_⟩) ?_ ?_
  rotate_left
  · intro w'; go_simp; with_reducible rfl
  rotate_left
  · simp only [Act.put, List.setIfInBounds_toArray, List.set_cons_zero, List.set_cons_succ, i64_w, i32_w]; rfl
  refine pure_ (i := 14) (N := some 28) (v := ?_) (a' := ?_) #[true, true, true, true, true, true, true, true, true, true, true, true, true, true, true, false, false, false, false] rfl rfl (by kernel_rfl) (fun _ _ _ h => h) (Or.inl ⟨by rfl, ?_⟩) ?_ ?_
  rotate_left
  · intro w'; go_simp; with_reducible rfl
  rotate_left
  · simp only [Act.put, List.setIfInBounds_toArray, List.set_cons_zero, List.set_cons_succ, i64_w, i32_w]; rfl
  refine pure_ (i := 15) (N := some 29) (v := ?_) (a' := ?_) #[true, true, true, true, true, true, true, true, true, true, true, true, true, true, true, true, false, false, false] rfl rfl (by kernel_rfl) (fun _ _ _ h => h) (Or.inl ⟨by rfl, ?_⟩) ?_ ?_
  rotate_left
  · intro w'; go_simp; with_reducible rfl
  rotate_left
  · simp only [Act.put, List.setIfInBounds_toArray, List.set_cons_zero, List.set_cons_succ, i64_w, i32_w]; rfl
  refine take_ (i := 16) (N := some 30) (v := ?_) (a' := ?_) #[true, true, true, true, true, true, true, true, true, true, true, true, true, true, true, true, true, false, false] rfl rfl (by kernel_rfl) (fun _ _ _ h => h) (Or.inl ⟨by rfl, ?_⟩) hHeld ?_ ?_
  rotate_left
  · intro w' hs_; go_split_ands; go_simp; with_reducible rfl
  rotate_left
  · simp only [Act.put, List.setIfInBounds_toArray, List.set_cons_zero, List.set_cons_succ, i64_w, i32_w]; rfl
  refine pure_ (i := 17) (N := some 31) (v := ?_) (a' := ?_) #[true, true, true, true, true, true, true, true, true, true, true, true, true, true, true, true, true, true, false] rfl rfl (by kernel_rfl) (fun _ _ _ h => h) (Or.inl ⟨by rfl, ?_⟩) ?_ ?_
  rotate_left
  · intro w'; go_simp; with_reducible rfl
  rotate_left
  · simp only [Act.put, List.setIfInBounds_toArray, List.set_cons_zero, List.set_cons_succ, i64_w, i32_w]; rfl
  refine pure_ (i := 18) (N := some 32) (v := ?_) (a' := ?_) #[true, true, true, true, true, true, true, true, true, true, true, true, true, true, true, true, true, true, true] rfl rfl (by kernel_rfl) (fun _ _ _ h => h) (Or.inl ⟨by rfl, ?_⟩) ?_ ?_
  rotate_left
  · intro w'; go_simp; with_reducible rfl
  rotate_left
  · simp only [Act.put, List.setIfInBounds_toArray, List.set_cons_zero, List.set_cons_succ, i64_w, i32_w]; rfl
  refine done_ (by kernel_rfl) ?_
  go_wp2_with (first
    | (go_at_call 80; refine (hkw _ _ IS HB).mono ?_; rintro e w3 ⟨rfl, IS', HB', _⟩; clear IS HB f0 f1 f2 f3 f4; have IS := IS'; have HB := HB'; clear IS' HB'; obtain ⟨f0, f1, f2, f3, f4⟩ := cells37 IS)
    | (go_at_call 54; refine (hci _).mono ?_; rintro e w5 ⟨gc, gb, gk, cap, rfl, hC, _, _, _, hb5⟩; have IS' := IS.below hb5; have HB' := HB.trans (hb5.mono HB.size); clear IS HB f0 f1 f2 f3 f4 hb5; have IS := IS'; have HB := HB'; clear IS' HB'; obtain ⟨f0, f1, f2, f3, f4⟩ := cells37 IS)
    | (go_at_call 57; refine (hec _ _ _ _ _ hC).mono ?_; rintro e w5 ⟨rfl, hb5⟩; have IS' := IS.below hb5; have HB' := HB.trans (hb5.mono HB.size); clear IS HB f0 f1 f2 f3 f4 hb5; have IS := IS'; have HB := HB'; clear IS' HB'; obtain ⟨f0, f1, f2, f3, f4⟩ := cells37 IS)
    | (go_at_call 75; refine (hfp _).mono ?_; rintro e w5 ⟨rfl, hb5⟩; have IS' := IS.below hb5; have HB' := HB.trans (hb5.mono HB.size); clear IS HB f0 f1 f2 f3 f4 hb5; have IS := IS'; have HB := HB'; clear IS' HB'; obtain ⟨f0, f1, f2, f3, f4⟩ := cells37 IS))
  go_region_held3 (fun W => W.cell? ⟨w.heap.size, 1, none⟩ = some (.int .i64 (b : Int))) (exact f1) (fail)
  go_wp2
  go_ret3
  exact ⟨rfl, pw_below_drewN HB 1⟩
set_option maxHeartbeats 4000000 in
set_option maxRecDepth 100000 in
theorem Dec_2 (a c : Int) (b m : Nat) (k id : ByteArray) (t : Bool) (hg : GoodC a b c k) (hm : (b : Int) + c = (m : Int)) (hl : 1 + ((b : Int) + c) ≤ (id.size : Int)) (hq : bt id 0 / 32 = a) (hk0 : k.size = 16) (h16 : ¬ (b : Int) + c = 16) (w : World) :
    Calls Try.prog 46 #[.agg #[.int .i64 a, .int .i64 (b : Int), .int .i64 c, .string k, .bool t], .string id] w (Told3 ((fourS k (id.extract 1 (1 + m)) [4, 3, 2, 1]).extract 0 b) ((fourS k (id.extract 1 (1 + m)) [4, 3, 2, 1]).extract b m) true w) := by
  have hm0 := made37 w a (b : Int) c k t
  have hB0 := below_alloc (Below.refl w.heap.size w) (.cells #[.int .i64 a, .int .i64 (b : Int), .int .i64 c, .string k, .bool t] 37 (0, 0))
  obtain ⟨g0, g1, g2, g3, g4⟩ := cells37 hm0
  have hHG := good_walk a (b : Int) c k t
  rw [decide_eq_true hg] at hHG
  obtain ⟨⟨ha0, ha1⟩, ⟨hb0, hb1⟩, ⟨hc0, hc1⟩, hbc, hk⟩ := hg
  have hs1 : IntKind.i64.wrap (1 + ((b : Int) + c)) = 1 + ((b : Int) + c) := by rw [IntKind.wrap_i64]; omega
  have hln : ¬ (id.size : Int) < 1 + ((b : Int) + c) := by omega
  have hld : decide ((id.size : Int) < 1 + ((b : Int) + c)) = false := decide_eq_false hln
  have h0 : 0 < id.size := by omega
  have h0i : (0 : Int) < (id.size : Int) := by omega
  have hbt : ((id[0]'h0).toNat : Int) = bt id 0 := bt_at id 0 h0
  have hbr := bt_range id 0
  obtain ⟨z, hz⟩ : ∃ z, z = bt id 0 := ⟨_, rfl⟩
  rw [← hz] at hbt hbr hq
  have hz1 : IntKind.i64.wrap z = z := by rw [IntKind.wrap_i64]; omega
  have hz2 : 0 ≤ z := hbr.1
  have hz3 : IntKind.i64.wrap (z / 32) = z / 32 := by rw [IntKind.wrap_i64]; omega
  have hzt : wrap64 (z.tdiv 32) = z / 32 := by rw [Int.tdiv_eq_ediv_of_nonneg hz2]; unfold wrap64; omega
  have hne : (wrap64 (z.tdiv 32) != a) = false := by rw [hzt]; simp [hq]
  clear hzt
  have hqz : z / 32 = a := hq
  have hkd := kind_told a (b : Int) c k t ⟨by omega, by omega⟩ ⟨by omega, by omega⟩
  have hkw := fun (W : World) (g : Nat) (hI : IsS37 w W g a (b : Int) c k t) (hB : Below w.heap.size w W) => Go.Proofs.Ytimokakcdmcnnaa.PImplE.impl_IdConfig_kind.calls g a (b : Int) c k t (kindN (b : Int) c k) a (b : Int) c k t w W hI hB hkd
  have hBsz : (id.extract 1 (1 + m)).size = m := by rw [ByteArray.size_extract]; omega
  obtain ⟨Bk, hBk⟩ : ∃ B, B = id.extract 1 (1 + m) := ⟨_, rfl⟩
  rw [← hBk] at hBsz ⊢
  have hsB : ∀ W : World, (Instr.slice 9 (.string id) (some (.int .i64 1)) (some (.int .i64 (1 + (m : Int)))) none).run Try.prog W = .ok (.string Bk) W := fun W => by rw [run_slice_string W 9 id .i64 .i64 1 (1 + (m : Int)) Try.underlying9 (by decide) (by omega) (by omega), hBk, show (1 + (m : Int)).toNat = 1 + m by omega]; rfl
  clear hBk
  have hbm : b ≤ m := by omega
  have hbmi : (b : Int) ≤ (m : Int) := by omega
  have hk0' : ¬ k.size = 0 := by omega
  have hkn : kindN (b : Int) c k = 2 := by unfold kindN; rw [if_neg hk0', if_neg h16]
  rw [hkn] at hkw
  have hfp := fourBack_walk k Bk hk0 (by omega) (by omega)
  have hEs : (fourS k Bk [4, 3, 2, 1]).size = m := by rw [fourS_size _ _ _ (by omega) (by omega)]; exact hBsz
  obtain ⟨E, hE⟩ : ∃ E, E = fourS k Bk [4, 3, 2, 1] := ⟨_, rfl⟩
  rw [← hE] at hfp hEs ⊢
  clear hk0'
  have hEi : (E.size : Int) = (m : Int) := by omega
  have hmi : (1 + (m : Int)).toNat = 1 + m := by omega
  have hm1 : 1 + (m : Int) ≤ (id.size : Int) := by omega
  have hm0 := hm0
  clear hk hkn hkd hz hbr hl hk0 h16
  rw [hm] at hs1 hln hld
  have hsL : ∀ W : World, (Instr.slice 9 (.string E) none (some (.int .i64 (b : Int))) none).run Try.prog W = .ok (.string (E.extract 0 b)) W := fun W => by rw [run_slice_string_h W 9 E Try.underlying9 .i64 (b : Int) (by omega) (by omega)]; rfl
  have hsR : ∀ W : World, (Instr.slice 9 (.string E) (some (.int .i64 (b : Int))) none none).run Try.prog W = .ok (.string (E.extract b m)) W := fun W => by rw [run_slice_string_l W 9 E Try.underlying9 .i64 (b : Int) (by omega) (by omega), hEs]; rfl
  clear hE hEs hEi hmi hm1 hBsz hbmi
  go_enter Try.func46, Try.ntmps46
  go_wp2
  refine start_ (n := 19) (S := (fun W => W.cell? ⟨w.heap.size, 0, none⟩ = some (.int .i64 a) ∧ W.cell? ⟨w.heap.size, 1, none⟩ = some (.int .i64 b) ∧ W.cell? ⟨w.heap.size, 2, none⟩ = some (.int .i64 c) ∧ W.cell? ⟨w.heap.size, 3, none⟩ = some (.string k) ∧ W.cell? ⟨w.heap.size, 4, none⟩ = some (.bool t))) (ds := []) #[false, false, false, false, false, false, false, false, false, false, false, false, false, false, false, false, false, false, false] (by kernel_rfl) rfl rfl ⟨g0, g1, g2, g3, g4⟩ (fun hHeld => ?_)
  refine take_ (i := 0) (N := some 14) (v := ?_) (a' := ?_) #[true, false, false, false, false, false, false, false, false, false, false, false, false, false, false, false, false, false, false] rfl rfl (by kernel_rfl) (fun _ _ _ h => h) (Or.inl ⟨by rfl, ?_⟩) hHeld ?_ ?_
  rotate_left
  · intro w' hs_; go_split_ands; go_simp; with_reducible rfl
  rotate_left
  · simp only [Act.put, List.setIfInBounds_toArray, List.set_cons_zero, List.set_cons_succ, i64_w, i32_w]; rfl
  refine one_ (i := 1) (N := some 15) #[true, true, false, false, false, false, false, false, false, false, false, false, false, false, false, false, false, false, false] rfl rfl (by kernel_rfl) (by decide) (fun K hK => ?_)
  go_simp
  go_at_call 79
  refine (hHG _).mono ?_
  rintro e w1 ⟨rfl, hb1⟩
  have IS := (hm0.drewN 1).below hb1
  have HB := (pw_below_drewN hB0 1).trans (hb1.mono hB0.size)
  obtain ⟨f0, f1, f2, f3, f4⟩ := cells37 IS
  clear hm0 hB0 hb1
  refine hK.out _ _ (⟨f0, f1, f2, f3, f4⟩) (fun hHeld => ?_)
  clear hK K
  refine pure_ (i := 2) (N := some 16) (v := ?_) (a' := ?_) #[true, true, true, false, false, false, false, false, false, false, false, false, false, false, false, false, false, false, false] rfl rfl (by kernel_rfl) (fun _ _ _ h => h) (Or.inl ⟨by rfl, ?_⟩) ?_ ?_
  rotate_left
  · intro w'; go_simp; with_reducible rfl
  rotate_left
  · simp only [Act.put, List.setIfInBounds_toArray, List.set_cons_zero, List.set_cons_succ, i64_w, i32_w]; rfl
  refine pure_ (i := 3) (N := some 17) (v := ?_) (a' := ?_) #[true, true, true, true, false, false, false, false, false, false, false, false, false, false, false, false, false, false, false] rfl rfl (by kernel_rfl) (fun _ _ _ h => h) (Or.inl ⟨by rfl, ?_⟩) ?_ ?_
  rotate_left
  · intro w'; go_simp; with_reducible rfl
  rotate_left
  · simp only [Act.put, List.setIfInBounds_toArray, List.set_cons_zero, List.set_cons_succ, i64_w, i32_w]; rfl
  refine pure_ (i := 4) (N := some 18) (v := ?_) (a' := ?_) #[true, true, true, true, true, false, false, false, false, false, false, false, false, false, false, false, false, false, false] rfl rfl (by kernel_rfl) (fun _ _ _ h => h) (Or.inl ⟨by rfl, ?_⟩) ?_ ?_
  rotate_left
  · intro w'; go_simp; with_reducible rfl
  rotate_left
  · simp only [Act.put, List.setIfInBounds_toArray, List.set_cons_zero, List.set_cons_succ, i64_w, i32_w]; rfl
  refine pure_ (i := 5) (N := some 19) (v := ?_) (a' := ?_) #[true, true, true, true, true, true, false, false, false, false, false, false, false, false, false, false, false, false, false] rfl rfl (by kernel_rfl) (fun _ _ _ h => h) (Or.inl ⟨by rfl, ?_⟩) ?_ ?_
  rotate_left
  · intro w'; go_simp; with_reducible rfl
  rotate_left
  · simp only [Act.put, List.setIfInBounds_toArray, List.set_cons_zero, List.set_cons_succ, i64_w, i32_w]; rfl
  refine pure_ (i := 6) (N := some 20) (v := ?_) (a' := ?_) #[true, true, true, true, true, true, true, false, false, false, false, false, false, false, false, false, false, false, false] rfl rfl (by kernel_rfl) (fun _ _ _ h => h) (Or.inl ⟨by rfl, ?_⟩) ?_ ?_
  rotate_left
  · intro w'; go_simp; with_reducible rfl
  rotate_left
  · simp only [Act.put, List.setIfInBounds_toArray, List.set_cons_zero, List.set_cons_succ, i64_w, i32_w]; rfl
  refine pure_ (i := 7) (N := some 21) (v := ?_) (a' := ?_) #[true, true, true, true, true, true, true, true, false, false, false, false, false, false, false, false, false, false, false] rfl rfl (by kernel_rfl) (fun _ _ _ h => h) (Or.inl ⟨by rfl, ?_⟩) ?_ ?_
  rotate_left
  · intro w'; go_simp; with_reducible rfl
  rotate_left
  · simp only [Act.put, List.setIfInBounds_toArray, List.set_cons_zero, List.set_cons_succ, i64_w, i32_w]; rfl
  refine pure_ (i := 8) (N := some 22) (v := ?_) (a' := ?_) #[true, true, true, true, true, true, true, true, true, false, false, false, false, false, false, false, false, false, false] rfl rfl (by kernel_rfl) (fun _ _ _ h => h) (Or.inl ⟨by rfl, ?_⟩) ?_ ?_
  rotate_left
  · intro w'; go_simp; with_reducible rfl
  rotate_left
  · simp only [Act.put, List.setIfInBounds_toArray, List.set_cons_zero, List.set_cons_succ, i64_w, i32_w]; rfl
  refine pure_ (i := 9) (N := some 23) (v := ?_) (a' := ?_) #[true, true, true, true, true, true, true, true, true, true, false, false, false, false, false, false, false, false, false] rfl rfl (by kernel_rfl) (fun _ _ _ h => h) (Or.inl ⟨by rfl, ?_⟩) ?_ ?_
  rotate_left
  · intro w'; go_simp; with_reducible rfl
  rotate_left
  · simp only [Act.put, List.setIfInBounds_toArray, List.set_cons_zero, List.set_cons_succ, i64_w, i32_w]; rfl
  refine pure_ (i := 10) (N := some 24) (v := ?_) (a' := ?_) #[true, true, true, true, true, true, true, true, true, true, true, false, false, false, false, false, false, false, false] rfl rfl (by kernel_rfl) (fun _ _ _ h => h) (Or.inl ⟨by rfl, ?_⟩) ?_ ?_
  rotate_left
  · intro w'; go_simp; with_reducible rfl
  rotate_left
  · simp only [Act.put, List.setIfInBounds_toArray, List.set_cons_zero, List.set_cons_succ, i64_w, i32_w]; rfl
  refine pure_ (i := 11) (N := some 25) (v := ?_) (a' := ?_) #[true, true, true, true, true, true, true, true, true, true, true, true, false, false, false, false, false, false, false] rfl rfl (by kernel_rfl) (fun _ _ _ h => h) (Or.inl ⟨by rfl, ?_⟩) ?_ ?_
  rotate_left
  · intro w'; go_simp; with_reducible rfl
  rotate_left
  · simp only [Act.put, List.setIfInBounds_toArray, List.set_cons_zero, List.set_cons_succ, i64_w, i32_w]; rfl
  refine pure_ (i := 12) (N := some 26) (v := ?_) (a' := ?_) #[true, true, true, true, true, true, true, true, true, true, true, true, true, false, false, false, false, false, false] rfl rfl (by kernel_rfl) (fun _ _ _ h => h) (Or.inl ⟨by rfl, ?_⟩) ?_ ?_
  rotate_left
  · intro w'; go_simp; with_reducible rfl
  rotate_left
  · simp only [Act.put, List.setIfInBounds_toArray, List.set_cons_zero, List.set_cons_succ, i64_w, i32_w]; rfl
  refine pure_ (i := 13) (N := some 27) (v := ?_) (a' := ?_) #[true, true, true, true, true, true, true, true, true, true, true, true, true, true, false, false, false, false, false] rfl rfl (by kernel_rfl) (fun _ _ _ h => h) (Or.inl ⟨by rfl, ?_⟩) ?_ ?_
  rotate_left
  · intro w'; go_simp; with_reducible rfl
  rotate_left
  · simp only [Act.put, List.setIfInBounds_toArray, List.set_cons_zero, List.set_cons_succ, i64_w, i32_w]; rfl
  refine pure_ (i := 14) (N := some 28) (v := ?_) (a' := ?_) #[true, true, true, true, true, true, true, true, true, true, true, true, true, true, true, false, false, false, false] rfl rfl (by kernel_rfl) (fun _ _ _ h => h) (Or.inl ⟨by rfl, ?_⟩) ?_ ?_
  rotate_left
  · intro w'; go_simp; with_reducible rfl
  rotate_left
  · simp only [Act.put, List.setIfInBounds_toArray, List.set_cons_zero, List.set_cons_succ, i64_w, i32_w]; rfl
  refine pure_ (i := 15) (N := some 29) (v := ?_) (a' := ?_) #[true, true, true, true, true, true, true, true, true, true, true, true, true, true, true, true, false, false, false] rfl rfl (by kernel_rfl) (fun _ _ _ h => h) (Or.inl ⟨by rfl, ?_⟩) ?_ ?_
  rotate_left
  · intro w'; go_simp; with_reducible rfl
  rotate_left
  · simp only [Act.put, List.setIfInBounds_toArray, List.set_cons_zero, List.set_cons_succ, i64_w, i32_w]; rfl
  refine take_ (i := 16) (N := some 30) (v := ?_) (a' := ?_) #[true, true, true, true, true, true, true, true, true, true, true, true, true, true, true, true, true, false, false] rfl rfl (by kernel_rfl) (fun _ _ _ h => h) (Or.inl ⟨by rfl, ?_⟩) hHeld ?_ ?_
  rotate_left
  · intro w' hs_; go_split_ands; go_simp; with_reducible rfl
  rotate_left
  · simp only [Act.put, List.setIfInBounds_toArray, List.set_cons_zero, List.set_cons_succ, i64_w, i32_w]; rfl
  refine pure_ (i := 17) (N := some 31) (v := ?_) (a' := ?_) #[true, true, true, true, true, true, true, true, true, true, true, true, true, true, true, true, true, true, false] rfl rfl (by kernel_rfl) (fun _ _ _ h => h) (Or.inl ⟨by rfl, ?_⟩) ?_ ?_
  rotate_left
  · intro w'; go_simp; with_reducible rfl
  rotate_left
  · simp only [Act.put, List.setIfInBounds_toArray, List.set_cons_zero, List.set_cons_succ, i64_w, i32_w]; rfl
  refine pure_ (i := 18) (N := some 32) (v := ?_) (a' := ?_) #[true, true, true, true, true, true, true, true, true, true, true, true, true, true, true, true, true, true, true] rfl rfl (by kernel_rfl) (fun _ _ _ h => h) (Or.inl ⟨by rfl, ?_⟩) ?_ ?_
  rotate_left
  · intro w'; go_simp; with_reducible rfl
  rotate_left
  · simp only [Act.put, List.setIfInBounds_toArray, List.set_cons_zero, List.set_cons_succ, i64_w, i32_w]; rfl
  refine done_ (by kernel_rfl) ?_
  go_wp2_with (first
    | (go_at_call 80; refine (hkw _ _ IS HB).mono ?_; rintro e w3 ⟨rfl, IS', HB', _⟩; clear IS HB f0 f1 f2 f3 f4; have IS := IS'; have HB := HB'; clear IS' HB'; obtain ⟨f0, f1, f2, f3, f4⟩ := cells37 IS)
    | (go_at_call 54; refine (hci _).mono ?_; rintro e w5 ⟨gc, gb, gk, cap, rfl, hC, _, _, _, hb5⟩; have IS' := IS.below hb5; have HB' := HB.trans (hb5.mono HB.size); clear IS HB f0 f1 f2 f3 f4 hb5; have IS := IS'; have HB := HB'; clear IS' HB'; obtain ⟨f0, f1, f2, f3, f4⟩ := cells37 IS)
    | (go_at_call 57; refine (hec _ _ _ _ _ hC).mono ?_; rintro e w5 ⟨rfl, hb5⟩; have IS' := IS.below hb5; have HB' := HB.trans (hb5.mono HB.size); clear IS HB f0 f1 f2 f3 f4 hb5; have IS := IS'; have HB := HB'; clear IS' HB'; obtain ⟨f0, f1, f2, f3, f4⟩ := cells37 IS)
    | (go_at_call 75; refine (hfp _).mono ?_; rintro e w5 ⟨rfl, hb5⟩; have IS' := IS.below hb5; have HB' := HB.trans (hb5.mono HB.size); clear IS HB f0 f1 f2 f3 f4 hb5; have IS := IS'; have HB := HB'; clear IS' HB'; obtain ⟨f0, f1, f2, f3, f4⟩ := cells37 IS))
  go_region_held3 (fun W => W.cell? ⟨w.heap.size, 1, none⟩ = some (.int .i64 (b : Int))) (exact f1) (fail)
  go_wp2
  go_ret3
  exact ⟨rfl, pw_below_drewN HB 1⟩
end Go.Proofs.YtimokakcdmcnnaaV.Aes
