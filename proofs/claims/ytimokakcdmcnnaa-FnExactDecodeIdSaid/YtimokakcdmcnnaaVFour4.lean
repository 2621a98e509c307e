/- Shared lemmas and walks of the AES laws of this seat. -/
import Derived.Test.YtimokakcdmcnnaaVFour1
namespace Go.Proofs.YtimokakcdmcnnaaV.Aes
open Go.RowKit Go.Proofs.YtimokakcdmcnnaaV.PrintWords Go.Proofs.YtimokakcdmcnnaaV.PrintLast Go.Proofs.YtimokakcdmcnnaaV.PrintMore Go.Proofs.YtimokakcdmcnnaaV.Mem
set_option linter.unusedVariables false
set_option linter.unusedSimpArgs false

open Gcm
variable {w w' : World} {g gc gb gk cap n : Nat} {key : ByteArray} {l r : List Int}
theorem ext_str (l : List Int) (hl : Bt l) (a b : Nat) : (strOfNums l).extract a b = strOfNums ((l.take b).drop a) := by
  have h := Gcm.bytes_ext (strOfNums l) a b
  rw [Gcm.bytes_str l hl] at h
  have e : ∀ s : ByteArray, strOfNums (bytesOf s) = s := fun s => by
    apply ByteArray.ext
    apply Array.ext'
    have e1 : ((fun n : Int => UInt8.ofNat n.toNat) ∘ fun b : UInt8 => (b.toNat : Int)) = id := by funext b; simp
    simp only [strOfNums, bytesOf, List.map_map, e1, List.map_id]
  rw [← e ((strOfNums l).extract a b), h]
theorem conv_one (W : World) (x : Int) (g : Nat) (hg : W.heap.size = g) : (convert 43 9 (.slice (some ⟨g, 0, none⟩) 1 1)).run Try.prog (W.alloc (.cells #[.int .u8 x] 5 (0, 0))).drew = .ok (.string (strOfNums [x])) (W.alloc (.cells #[.int .u8 x] 5 (0, 0))).drew := by
  subst hg
  exact backAll [x] [] 1 rfl W.heap.size 1 _ (by rw [List.append_nil]; exact (At.made W 5 [x]).drew 1)
theorem join_odd (l r : List Int) (h n : Nat) (h1 : l.length = h + 1) (h2 : r.length = h + 1) (hn : n % 2 = 1) : strOfNums (l.take h) ++ strOfNums [Go.bits .or .u8 (rd l (h : Int)) (rd r 0)] ++ strOfNums (r.drop 1) = strOfNums (joinP n (l, r)) := by
  unfold joinP
  rw [if_pos hn, Gcm.str_append, Gcm.str_append]
  dsimp only
  rw [show l.length - 1 = h by omega]
set_option maxHeartbeats 4000000 in
set_option maxRecDepth 100000 in
theorem text_even (hH : Hv w g gc gb gk cap n key l r) (h : Nat) (HL : Lr n (h + 1) (l, r)) (hh : h ≤ 9) (hn : n % 2 = 0) : Calls Try.prog 112 #[.pointer (some ⟨g, 0, none⟩)] w fun e w' => e = .returned (.string (strOfNums (joinP n (l, r)))) ∧ Below w.heap.size w w' := by
  have l1 : l.length = h + 1 := HL.l1
  have l2 : r.length = h + 1 := HL.l2
  have e : strOfNums (joinP n (l, r)) = strOfNums l ++ strOfNums r := by unfold joinP; rw [if_neg (by omega), Gcm.str_append]
  rw [e]
  have hm : ((n : Int) % 2 == 0) = true := by
    have : (n : Int) % 2 = 0 := by omega
    simp [this]
  have hm' : (n : Int) % 2 = 0 := by omega
  have h0 : (0 : Int) ≤ (n : Int) := by omega
  have hcat : ¬ 9223372036854775807 < (strOfNums l).size + (strOfNums r).size := by rw [str_size, str_size]; omega
  have k1 := hH.c1
  have k2 := hH.c2
  have k3 := hH.c3
  clear e l1 l2 HL
  go_enter Try.func112, Try.ntmps112
  go_wp2
  go_region_held3 (fun W => W.cell? ⟨g, 2, none⟩ = some (.string (strOfNums l)) ∧ W.cell? ⟨g, 3, none⟩ = some (.string (strOfNums r))) (first | exact ⟨k2, k3⟩) (fail)
  all_goals (
    go_wp2
    go_ret
    exact ⟨rfl, pw_below_drewN (Below.refl w.heap.size w) 1⟩)
set_option maxHeartbeats 4000000 in
set_option maxRecDepth 100000 in
theorem text_odd (hH : Hv w g gc gb gk cap n key l r) (h : Nat) (HL : Lr n (h + 1) (l, r)) (hh : h ≤ 9) (hn : n % 2 = 1) : Calls Try.prog 112 #[.pointer (some ⟨g, 0, none⟩)] w fun e w' => e = .returned (.string (strOfNums (joinP n (l, r)))) ∧ Below w.heap.size w w' := by
  have l1 : l.length = h + 1 := HL.l1
  have l2 : r.length = h + 1 := HL.l2
  have b1 : Bt l := HL.b1
  have b2 : Bt r := HL.b2
  have hj := join_odd l r h n l1 l2 hn
  have hm : ((n : Int) % 2 == 0) = false := by
    have : (n : Int) % 2 = 1 := by omega
    simp [this]
  have hm' : ¬ (n : Int) % 2 = 0 := by omega
  have h0 : (0 : Int) ≤ (n : Int) := by omega
  have k1 := hH.c1
  have k2 := hH.c2
  have k3 := hH.c3
  have x1 := ext_str l b1 0 h
  rw [List.drop_zero] at x1
  obtain ⟨m, hmh⟩ : ∃ m, m = h + 1 := ⟨_, rfl⟩
  have x2 := ext_str r b2 1 m
  rw [List.take_of_length_le (by omega)] at x2
  have zL : (strOfNums l).size = m := by rw [str_size, l1, hmh]
  have zR : (strOfNums r).size = m := by rw [str_size, l2, hmh]
  have hbt1 : ∀ p : h < (strOfNums l).size, (((strOfNums l)[h]'p).toNat : Int) = rd l (h : Int) := fun p => by
    have := bt_at (strOfNums l) (h : Int) p
    rw [← rd_bytesOf, Gcm.bytes_str l b1] at this
    exact this
  have hbt2 : ∀ p : 0 < (strOfNums r).size, (((strOfNums r)[0]'p).toNat : Int) = rd r 0 := fun p => by
    have := bt_at (strOfNums r) 0 p
    rw [← rd_bytesOf, Gcm.bytes_str r b2] at this
    exact this
  rw [← x1, ← x2] at hj
  obtain ⟨L, hL⟩ : ∃ L, L = strOfNums l := ⟨_, rfl⟩
  obtain ⟨R, hR⟩ : ∃ R, R = strOfNums r := ⟨_, rfl⟩
  rw [← hL] at k2 zL hbt1 hj
  rw [← hR] at k3 zR hbt2 hj
  rw [← hj]
  have hcv := conv_one w (Go.bits .or .u8 (rd l (h : Int)) (rd r 0)) w.heap.size rfl
  have z1 : (strOfNums [Go.bits .or .u8 (rd l (h : Int)) (rd r 0)]).size = 1 := str_size _
  obtain ⟨M, hM⟩ : ∃ M, M = strOfNums [Go.bits .or .u8 (rd l (h : Int)) (rd r 0)] := ⟨_, rfl⟩
  rw [← hM] at hcv z1 ⊢
  have hq : (m : Int) - 1 = (h : Int) := by omega
  have hq1 : (h : Int) ≤ (m : Int) := by omega
  have hq2 : (0 : Int) ≤ (h : Int) := by omega
  have hq3 : (h : Int) < (m : Int) := by omega
  have hq4 : (1 : Int) ≤ (m : Int) := by omega
  have hq5 : h < L.size := by omega
  have hq6 : 0 < R.size := by omega
  have hq7 : (0 : Int) < (m : Int) := by omega
  have hq8 : 0 < m := by omega
  have hq9 : h < m := by omega
  have zLi : (L.size : Int) = (m : Int) := by omega
  have zRi : (R.size : Int) = (m : Int) := by omega
  have hc1 : ¬ 9223372036854775807 < (L.extract 0 h).size + M.size := by rw [ByteArray.size_extract]; omega
  have hc2 : ¬ 9223372036854775807 < (L.extract 0 h).size + M.size + (R.extract 1 R.size).size := by rw [ByteArray.size_extract, ByteArray.size_extract]; omega
  have hc3 : ¬ 9223372036854775807 < min h m + 1 := by omega
  have hc4 : ¬ 9223372036854775807 < min h m + 1 + (m - 1) := by omega
  have hb1 := hbt1 hq5
  have hb2 := hbt2 hq6
  have hB := below_drew (below_alloc (Below.refl w.heap.size w) (.cells #[.int .u8 (Go.bits .or .u8 (rd l (h : Int)) (rd r 0))] 5 (0, 0)))
  have hlt := hH.lt
  have a2 : (w.alloc (.cells #[.int .u8 (Go.bits .or .u8 (rd l (h : Int)) (rd r 0))] 5 (0, 0))).cell? ⟨g, 2, none⟩ = some (.string L) := by simp only [World.cell?, Below.heap_alloc _ _ _ hlt]; exact k2
  have a3 : (w.alloc (.cells #[.int .u8 (Go.bits .or .u8 (rd l (h : Int)) (rd r 0))] 5 (0, 0))).cell? ⟨g, 3, none⟩ = some (.string R) := by simp only [World.cell?, Below.heap_alloc _ _ _ hlt]; exact k3
  clear hbt1 hbt2 hL hR hmh hj l1 l2 b1 b2 HL hM x1 x2
  go_enter Try.func112, Try.ntmps112
  go_wp2
  refine start_ (n := 28) (S := (fun W => W.cell? ⟨g, 2, none⟩ = some (.string L) ∧ W.cell? ⟨g, 3, none⟩ = some (.string R))) (ds := []) #[false, false, false, false, false, false, false, false, false, false, false, false, false, false, false, false, false, false, false, false, false, false, false, false, false, false, false, false] (by kernel_rfl) rfl rfl ⟨k2, k3⟩ (fun hHeld => ?_)
  refine pure_ (i := 0) (N := some 25) (v := ?_) (a' := ?_) #[true, false, false, false, false, false, false, false, false, false, false, false, false, false, false, false, false, false, false, false, false, false, false, false, false, false, false, false] rfl rfl (by kernel_rfl) (fun _ _ _ h => h) (Or.inl ⟨by rfl, ?_⟩) ?_ ?_
  rotate_left
  · intro w'; go_simp; with_reducible rfl
  rotate_left
  · simp only [Act.put, List.setIfInBounds_toArray, List.set_cons_zero, List.set_cons_succ, i64_w, i32_w]; rfl
  refine pure_ (i := 1) (N := some 26) (v := ?_) (a' := ?_) #[true, true, false, false, false, false, false, false, false, false, false, false, false, false, false, false, false, false, false, false, false, false, false, false, false, false, false, false] rfl rfl (by kernel_rfl) (fun _ _ _ h => h) (Or.inl ⟨by rfl, ?_⟩) ?_ ?_
  rotate_left
  · intro w'; go_simp; with_reducible rfl
  rotate_left
  · simp only [Act.put, List.setIfInBounds_toArray, List.set_cons_zero, List.set_cons_succ, i64_w, i32_w]; rfl
  refine pure_ (i := 2) (N := some 27) (v := ?_) (a' := ?_) #[true, true, true, false, false, false, false, false, false, false, false, false, false, false, false, false, false, false, false, false, false, false, false, false, false, false, false, false] rfl rfl (by kernel_rfl) (fun _ _ _ h => h) (Or.inl ⟨by rfl, ?_⟩) ?_ ?_
  rotate_left
  · intro w'; go_simp; with_reducible rfl
  rotate_left
  · simp only [Act.put, List.setIfInBounds_toArray, List.set_cons_zero, List.set_cons_succ, i64_w, i32_w]; rfl
  refine take_ (i := 3) (N := some 28) (v := ?_) (a' := ?_) #[true, true, true, true, false, false, false, false, false, false, false, false, false, false, false, false, false, false, false, false, false, false, false, false, false, false, false, false] rfl rfl (by kernel_rfl) (fun _ _ _ h => h) (Or.inl ⟨by rfl, ?_⟩) hHeld ?_ ?_
  rotate_left
  · intro w' hs_; go_split_ands; go_simp; with_reducible rfl
  rotate_left
  · simp only [Act.put, List.setIfInBounds_toArray, List.set_cons_zero, List.set_cons_succ, i64_w, i32_w]; rfl
  refine pure_ (i := 4) (N := some 29) (v := ?_) (a' := ?_) #[true, true, true, true, true, false, false, false, false, false, false, false, false, false, false, false, false, false, false, false, false, false, false, false, false, false, false, false] rfl rfl (by kernel_rfl) (fun _ _ _ h => h) (Or.inl ⟨by rfl, ?_⟩) ?_ ?_
  rotate_left
  · intro w'; go_simp; with_reducible rfl
  rotate_left
  · simp only [Act.put, List.setIfInBounds_toArray, List.set_cons_zero, List.set_cons_succ, i64_w, i32_w]; rfl
  refine pure_ (i := 5) (N := some 30) (v := ?_) (a' := ?_) #[true, true, true, true, true, true, false, false, false, false, false, false, false, false, false, false, false, false, false, false, false, false, false, false, false, false, false, false] rfl rfl (by kernel_rfl) (fun _ _ _ h => h) (Or.inl ⟨by rfl, ?_⟩) ?_ ?_
  rotate_left
  · intro w'; go_simp; with_reducible rfl
  rotate_left
  · simp only [Act.put, List.setIfInBounds_toArray, List.set_cons_zero, List.set_cons_succ, i64_w, i32_w]; rfl
  refine pure_ (i := 6) (N := some 31) (v := ?_) (a' := ?_) #[true, true, true, true, true, true, true, false, false, false, false, false, false, false, false, false, false, false, false, false, false, false, false, false, false, false, false, false] rfl rfl (by kernel_rfl) (fun _ _ _ h => h) (Or.inl ⟨by rfl, ?_⟩) ?_ ?_
  rotate_left
  · intro w'; go_simp; with_reducible rfl
  rotate_left
  · simp only [Act.put, List.setIfInBounds_toArray, List.set_cons_zero, List.set_cons_succ, i64_w, i32_w]; rfl
  refine pure_ (i := 7) (N := some 32) (v := ?_) (a' := ?_) #[true, true, true, true, true, true, true, true, false, false, false, false, false, false, false, false, false, false, false, false, false, false, false, false, false, false, false, false] rfl rfl (by kernel_rfl) (fun _ _ _ h => h) (Or.inl ⟨by rfl, ?_⟩) ?_ ?_
  rotate_left
  · intro w'; go_simp; with_reducible rfl
  rotate_left
  · simp only [Act.put, List.setIfInBounds_toArray, List.set_cons_zero, List.set_cons_succ, i64_w, i32_w]; rfl
  refine pure_ (i := 8) (N := some 33) (v := ?_) (a' := ?_) #[true, true, true, true, true, true, true, true, true, false, false, false, false, false, false, false, false, false, false, false, false, false, false, false, false, false, false, false] rfl rfl (by kernel_rfl) (fun _ _ _ h => h) (Or.inl ⟨by rfl, ?_⟩) ?_ ?_
  rotate_left
  · intro w'; go_simp; with_reducible rfl
  rotate_left
  · simp only [Act.put, List.setIfInBounds_toArray, List.set_cons_zero, List.set_cons_succ, i64_w, i32_w]; rfl
  refine take_ (i := 9) (N := some 34) (v := ?_) (a' := ?_) #[true, true, true, true, true, true, true, true, true, true, false, false, false, false, false, false, false, false, false, false, false, false, false, false, false, false, false, false] rfl rfl (by kernel_rfl) (fun _ _ _ h => h) (Or.inl ⟨by rfl, ?_⟩) hHeld ?_ ?_
  rotate_left
  · intro w' hs_; go_split_ands; go_simp; with_reducible rfl
  rotate_left
  · simp only [Act.put, List.setIfInBounds_toArray, List.set_cons_zero, List.set_cons_succ, i64_w, i32_w]; rfl
  refine pure_ (i := 10) (N := some 35) (v := ?_) (a' := ?_) #[true, true, true, true, true, true, true, true, true, true, true, false, false, false, false, false, false, false, false, false, false, false, false, false, false, false, false, false] rfl rfl (by kernel_rfl) (fun _ _ _ h => h) (Or.inl ⟨by rfl, ?_⟩) ?_ ?_
  rotate_left
  · intro w'; go_simp; with_reducible rfl
  rotate_left
  · simp only [Act.put, List.setIfInBounds_toArray, List.set_cons_zero, List.set_cons_succ, i64_w, i32_w]; rfl
  refine pure_ (i := 11) (N := some 36) (v := ?_) (a' := ?_) #[true, true, true, true, true, true, true, true, true, true, true, true, false, false, false, false, false, false, false, false, false, false, false, false, false, false, false, false] rfl rfl (by kernel_rfl) (fun _ _ _ h => h) (Or.inl ⟨by rfl, ?_⟩) ?_ ?_
  rotate_left
  · intro w'; go_simp; with_reducible rfl
  rotate_left
  · simp only [Act.put, List.setIfInBounds_toArray, List.set_cons_zero, List.set_cons_succ, i64_w, i32_w]; rfl
  refine pure_ (i := 12) (N := some 37) (v := ?_) (a' := ?_) #[true, true, true, true, true, true, true, true, true, true, true, true, true, false, false, false, false, false, false, false, false, false, false, false, false, false, false, false] rfl rfl (by kernel_rfl) (fun _ _ _ h => h) (Or.inl ⟨by rfl, ?_⟩) ?_ ?_
  rotate_left
  · intro w'; go_simp; with_reducible rfl
  rotate_left
  · simp only [Act.put, List.setIfInBounds_toArray, List.set_cons_zero, List.set_cons_succ, i64_w, i32_w]; rfl
  refine pure_ (i := 13) (N := some 38) (v := ?_) (a' := ?_) #[true, true, true, true, true, true, true, true, true, true, true, true, true, true, false, false, false, false, false, false, false, false, false, false, false, false, false, false] rfl rfl (by kernel_rfl) (fun _ _ _ h => h) (Or.inl ⟨by rfl, ?_⟩) ?_ ?_
  rotate_left
  · intro w'; go_simp; with_reducible rfl
  rotate_left
  · simp only [Act.put, List.setIfInBounds_toArray, List.set_cons_zero, List.set_cons_succ, i64_w, i32_w]; rfl
  refine pure_ (i := 14) (N := some 39) (v := ?_) (a' := ?_) #[true, true, true, true, true, true, true, true, true, true, true, true, true, true, true, false, false, false, false, false, false, false, false, false, false, false, false, false] rfl rfl (by kernel_rfl) (fun _ _ _ h => h) (Or.inl ⟨by rfl, ?_⟩) ?_ ?_
  rotate_left
  · intro w'; go_simp; with_reducible rfl
  rotate_left
  · simp only [Act.put, List.setIfInBounds_toArray, List.set_cons_zero, List.set_cons_succ, i64_w, i32_w]; rfl
  refine take_ (i := 15) (N := some 40) (v := ?_) (a' := ?_) #[true, true, true, true, true, true, true, true, true, true, true, true, true, true, true, true, false, false, false, false, false, false, false, false, false, false, false, false] rfl rfl (by kernel_rfl) (fun _ _ _ h => h) (Or.inl ⟨by rfl, ?_⟩) hHeld ?_ ?_
  rotate_left
  · intro w' hs_; go_split_ands; go_simp; with_reducible rfl
  rotate_left
  · simp only [Act.put, List.setIfInBounds_toArray, List.set_cons_zero, List.set_cons_succ, i64_w, i32_w]; rfl
  refine pure_ (i := 16) (N := some 41) (v := ?_) (a' := ?_) #[true, true, true, true, true, true, true, true, true, true, true, true, true, true, true, true, true, false, false, false, false, false, false, false, false, false, false, false] rfl rfl (by kernel_rfl) (fun _ _ _ h => h) (Or.inl ⟨by rfl, ?_⟩) ?_ ?_
  rotate_left
  · intro w'; go_simp; with_reducible rfl
  rotate_left
  · simp only [Act.put, List.setIfInBounds_toArray, List.set_cons_zero, List.set_cons_succ, i64_w, i32_w]; rfl
  refine pure_ (i := 17) (N := some 42) (v := ?_) (a' := ?_) #[true, true, true, true, true, true, true, true, true, true, true, true, true, true, true, true, true, true, false, false, false, false, false, false, false, false, false, false] rfl rfl (by kernel_rfl) (fun _ _ _ h => h) (Or.inl ⟨by rfl, ?_⟩) ?_ ?_
  rotate_left
  · intro w'; go_simp; with_reducible rfl
  rotate_left
  · simp only [Act.put, List.setIfInBounds_toArray, List.set_cons_zero, List.set_cons_succ, i64_w, i32_w]; rfl
  refine pure_ (i := 21) (N := some 46) (v := ?_) (a' := ?_) #[true, true, true, true, true, true, true, true, true, true, true, true, true, true, true, true, true, true, false, false, false, true, false, false, false, false, false, false] rfl rfl (by kernel_rfl) (fun _ _ _ h => h) (Or.inl ⟨by rfl, ?_⟩) ?_ ?_
  rotate_left
  · intro w'; go_simp; with_reducible rfl
  rotate_left
  · simp only [Act.put, List.setIfInBounds_toArray, List.set_cons_zero, List.set_cons_succ, i64_w, i32_w]; rfl
  refine pure_ (i := 22) (N := some 47) (v := ?_) (a' := ?_) #[true, true, true, true, true, true, true, true, true, true, true, true, true, true, true, true, true, true, false, false, false, true, true, false, false, false, false, false] rfl rfl (by kernel_rfl) (fun _ _ _ h => h) (Or.inl ⟨by rfl, ?_⟩) ?_ ?_
  rotate_left
  · intro w'; go_simp; with_reducible rfl
  rotate_left
  · simp only [Act.put, List.setIfInBounds_toArray, List.set_cons_zero, List.set_cons_succ, i64_w, i32_w]; rfl
  refine pure_ (i := 23) (N := some 48) (v := ?_) (a' := ?_) #[true, true, true, true, true, true, true, true, true, true, true, true, true, true, true, true, true, true, false, false, false, true, true, true, false, false, false, false] rfl rfl (by kernel_rfl) (fun _ _ _ h => h) (Or.inl ⟨by rfl, ?_⟩) ?_ ?_
  rotate_left
  · intro w'; go_simp; with_reducible rfl
  rotate_left
  · simp only [Act.put, List.setIfInBounds_toArray, List.set_cons_zero, List.set_cons_succ, i64_w, i32_w]; rfl
  refine take_ (i := 24) (N := some 49) (v := ?_) (a' := ?_) #[true, true, true, true, true, true, true, true, true, true, true, true, true, true, true, true, true, true, false, false, false, true, true, true, true, false, false, false] rfl rfl (by kernel_rfl) (fun _ _ _ h => h) (Or.inl ⟨by rfl, ?_⟩) hHeld ?_ ?_
  rotate_left
  · intro w' hs_; go_split_ands; go_simp; with_reducible rfl
  rotate_left
  · simp only [Act.put, List.setIfInBounds_toArray, List.set_cons_zero, List.set_cons_succ, i64_w, i32_w]; rfl
  refine pure_ (i := 25) (N := some 50) (v := ?_) (a' := ?_) #[true, true, true, true, true, true, true, true, true, true, true, true, true, true, true, true, true, true, false, false, false, true, true, true, true, true, false, false] rfl rfl (by kernel_rfl) (fun _ _ _ h => h) (Or.inl ⟨by rfl, ?_⟩) ?_ ?_
  rotate_left
  · intro w'; go_simp; with_reducible rfl
  rotate_left
  · simp only [Act.put, List.setIfInBounds_toArray, List.set_cons_zero, List.set_cons_succ, i64_w, i32_w]; rfl
  refine one_ (i := 18) (N := some 43) #[true, true, true, true, true, true, true, true, true, true, true, true, true, true, true, true, true, true, true, false, false, true, true, true, true, true, false, false] rfl rfl (by kernel_rfl) (by decide) (fun K hK => ?_)
  go_simp
  refine hK.out _ _ (⟨a2, a3⟩) (fun hHeld => ?_)
  clear hK K
  refine one_ (i := 19) (N := some 44) #[true, true, true, true, true, true, true, true, true, true, true, true, true, true, true, true, true, true, true, true, false, true, true, true, true, true, false, false] rfl rfl (by kernel_rfl) (by decide) (fun K hK => ?_)
  go_simp
  refine hK.out _ _ (⟨a2, a3⟩) (fun hHeld => ?_)
  clear hK K
  refine pure_ (i := 20) (N := some 45) (v := ?_) (a' := ?_) #[true, true, true, true, true, true, true, true, true, true, true, true, true, true, true, true, true, true, true, true, true, true, true, true, true, true, false, false] rfl rfl (by kernel_rfl) (fun _ _ _ h => h) (Or.inl ⟨by rfl, ?_⟩) ?_ ?_
  rotate_left
  · intro w'; go_simp; with_reducible rfl
  rotate_left
  · simp only [Act.put, List.setIfInBounds_toArray, List.set_cons_zero, List.set_cons_succ, i64_w, i32_w]; rfl
  refine pure_ (i := 26) (N := some 51) (v := ?_) (a' := ?_) #[true, true, true, true, true, true, true, true, true, true, true, true, true, true, true, true, true, true, true, true, true, true, true, true, true, true, true, false] rfl rfl (by kernel_rfl) (fun _ _ _ h => h) (Or.inl ⟨by rfl, ?_⟩) ?_ ?_
  rotate_left
  · intro w'; go_simp; with_reducible rfl
  rotate_left
  · simp only [Act.put, List.setIfInBounds_toArray, List.set_cons_zero, List.set_cons_succ, i64_w, i32_w]; rfl
  refine pure_ (i := 27) (N := some 2) (v := ?_) (a' := ?_) #[true, true, true, true, true, true, true, true, true, true, true, true, true, true, true, true, true, true, true, true, true, true, true, true, true, true, true, true] rfl rfl (by kernel_rfl) (fun _ _ _ h => h) (Or.inl ⟨by rfl, ?_⟩) ?_ ?_
  rotate_left
  · intro w'; go_simp; with_reducible rfl
  rotate_left
  · simp only [Act.put, List.setIfInBounds_toArray, List.set_cons_zero, List.set_cons_succ, i64_w, i32_w]; rfl
  refine done_ (by kernel_rfl) ?_
  clear a2 a3 k1 k2 k3 hb1 hb2
  go_wp2
  go_ret
  exact ⟨rfl, hB⟩
end Go.Proofs.YtimokakcdmcnnaaV.Aes
