/- Shared lemmas and walks of the AES laws of this seat. -/
import Derived.Test.YtimokakcdmcnnaaVFour1
namespace Go.Proofs.YtimokakcdmcnnaaV.Aes
open Go.RowKit Go.Proofs.YtimokakcdmcnnaaV.PrintWords Go.Proofs.YtimokakcdmcnnaaV.PrintLast Go.Proofs.YtimokakcdmcnnaaV.PrintMore Go.Proofs.YtimokakcdmcnnaaV.Mem
set_option linter.unusedVariables false
set_option linter.unusedSimpArgs false

open Go.Proofs.Ytimokakcdmcnnaa.PImplC Gcm
variable {w w' : World} {g gc gb gk cap n : Nat} {key : ByteArray} {l r : List Int}
theorem trim_walk (hH : Hv w g gc gb gk cap n key l r) (h : Nat) (h1 : l.length = h + 1) (h2 : r.length = h + 1) (hh : h ≤ 30) (bl : Bt l) (br : Bt r) :
    Calls Try.prog 121 #[.pointer (some ⟨g, 0, none⟩)] w (HvPost g gc gb gk cap n key (trL (oddB n) l) (trR (oddB n) r) w) := by
  by_cases hn : n % 2 = 1
  · rw [show oddB n = true from decide_eq_true hn]
    exact trim_odd hH hn h h1 h2 hh bl br
  · rw [show oddB n = false from decide_eq_false hn]
    exact trim_even hH (by omega)
theorem halfBlock_walk (s : ByteArray) (n p : Nat) (hs : s.size ≤ 10) (hn : n < 256) (hp : p < 256) (w : World) : Calls Try.prog 122 #[.string s, .int .i64 (n : Int), .int .i64 (p : Int)] w fun e w' => e = .returned (.string (hbS s n p)) ∧ Below w.heap.size w w' :=
  impl_halfBlock.calls s (n : Int) (p : Int) _ w (hb_told s n p hs hn hp).1
theorem xor_walk (a : List Int) (E : ByteArray) (ha : Bt a) (hl : a.length ≤ 16) (hE : E.size = 16) (w : World) : Calls Try.prog 105 #[.string (strOfNums a), .string E] w fun e w' => e = .returned (.string (strOfNums (xorL a (bytesOf E)))) ∧ Below w.heap.size w w' := by
  have h := xored_tells KG (strOfNums a) E (by rw [str_size]; omega) (by rw [str_size]; omega) (by unfold KG; omega)
  rw [Gcm.bytes_str a ha] at h
  exact Go.Proofs.Ytimokakcdmcnnaa.PImplX.impl_xored.calls KG _ _ _ w h
set_option maxHeartbeats 8000000 in
set_option maxRecDepth 100000 in
theorem pass_odd (hk : key.size = 16) (hH : Hv w g gc gb gk cap n key l r) (h : Nat) (HL : Lr n (h + 1) (l, r)) (hh : h ≤ 9) (hn : n < 256) (p : Nat) (hp : p < 256) (hpo : p % 2 = 1) :
    Calls Try.prog 111 #[.pointer (some ⟨g, 0, none⟩), .int .i64 (p : Int)] w (HvPost g gc gb gk cap n key l (trR (oddB n) (xorL r (bytesOf (encS key (hbS (strOfNums l) n p))))) w) := by
  have b1 : Bt l := HL.b1
  have b2 : Bt r := HL.b2
  have l1 : l.length = h + 1 := HL.l1
  have l2 : r.length = h + 1 := HL.l2
  have t1 : trL (oddB n) l = l := HL.t1
  have hm : ((p : Int) % 2 == 1) = true := by
    have : (p : Int) % 2 = 1 := by omega
    simp [this]
  have hm' : (p : Int) % 2 = 1 := by omega
  have h0 : (0 : Int) ≤ (p : Int) := by omega
  have hB16 := (hb_told (strOfNums l) n p (by rw [str_size]; omega) hn hp).2.2
  have hbw := halfBlock_walk (strOfNums l) n p (by rw [str_size]; omega) hn hp
  obtain ⟨Bk, hBk⟩ : ∃ Bk, Bk = hbS (strOfNums l) n p := ⟨_, rfl⟩
  rw [← hBk] at hB16 hbw ⊢
  have henc := fun (W : World) (hC : Ci W gc gb gk cap BX (KS key)) => enc_walk key Bk hk hB16 gc gb gk cap W hC
  have hE16 := encS_size key Bk
  obtain ⟨E, hE⟩ : ∃ E, E = encS key Bk := ⟨_, rfl⟩
  rw [← hE] at henc hE16 ⊢
  have hxw := xor_walk r E b2 (by omega) hE16
  have hXl : (xorL r (bytesOf E)).length = h + 1 := by rw [xorL_len _ _ (by rw [bytesOf_length]; omega)]; exact l2
  have hXb := xorL_bt r (bytesOf E)
  obtain ⟨X, hX⟩ : ∃ X, X = xorL r (bytesOf E) := ⟨_, rfl⟩
  rw [← hX] at hxw hXl hXb ⊢
  have htr := fun (W : World) (H : Hv W g gc gb gk cap n key l X) => trim_walk H h l1 hXl (by omega) b1 hXb
  rw [t1] at htr
  clear hX hE hBk hB16 hE16 hXl l1 l2 t1 HL hpo
  have HH := hH
  have HB := Below.refl w.heap.size w
  have k0 := hH.c0
  have k1 := hH.c1
  have k2 := hH.c2
  have k3 := hH.c3
  have kf := hH.f3
  go_enter Try.func111, Try.ntmps111
  go_wp2
  refine start_ (n := 24) (S := (fun W => W.cell? ⟨g, 0, none⟩ = some (.pointer (some ⟨gc, 0, none⟩)) ∧ W.cell? ⟨g, 1, none⟩ = some (.int .i64 (n : Int)) ∧ W.cell? ⟨g, 2, none⟩ = some (.string (strOfNums l)) ∧ W.cell? ⟨g, 3, none⟩ = some (.string (strOfNums r)))) (ds := [23]) #[false, false, false, false, false, false, false, false, false, false, false, false, false, false, false, false, false, false, false, false, false, false, false, false] (by kernel_rfl) rfl rfl ⟨k0, k1, k2, k3⟩ (fun hHeld => ?_)
  refine pure_ (i := 0) (N := some 7) (v := ?_) (a' := ?_) #[true, false, false, false, false, false, false, false, false, false, false, false, false, false, false, false, false, false, false, false, false, false, false, false] rfl rfl (by kernel_rfl) (fun _ _ _ h => h) (Or.inl ⟨by rfl, ?_⟩) ?_ ?_
  rotate_left
  · intro w'; go_simp; with_reducible rfl
  rotate_left
  · simp only [Act.put, List.setIfInBounds_toArray, List.set_cons_zero, List.set_cons_succ, i64_w, i32_w]; rfl
  refine pure_ (i := 1) (N := some 8) (v := ?_) (a' := ?_) #[true, true, false, false, false, false, false, false, false, false, false, false, false, false, false, false, false, false, false, false, false, false, false, false] rfl rfl (by kernel_rfl) (fun _ _ _ h => h) (Or.inl ⟨by rfl, ?_⟩) ?_ ?_
  rotate_left
  · intro w'; go_simp; with_reducible rfl
  rotate_left
  · simp only [Act.put, List.setIfInBounds_toArray, List.set_cons_zero, List.set_cons_succ, i64_w, i32_w]; rfl
  refine pure_ (i := 2) (N := some 9) (v := ?_) (a' := ?_) #[true, true, true, false, false, false, false, false, false, false, false, false, false, false, false, false, false, false, false, false, false, false, false, false] rfl rfl (by kernel_rfl) (fun _ _ _ h => h) (Or.inl ⟨by rfl, ?_⟩) ?_ ?_
  rotate_left
  · intro w'; go_simp; with_reducible rfl
  rotate_left
  · simp only [Act.put, List.setIfInBounds_toArray, List.set_cons_zero, List.set_cons_succ, i64_w, i32_w]; rfl
  refine pure_ (i := 3) (N := some 10) (v := ?_) (a' := ?_) #[true, true, true, true, false, false, false, false, false, false, false, false, false, false, false, false, false, false, false, false, false, false, false, false] rfl rfl (by kernel_rfl) (fun _ _ _ h => h) (Or.inl ⟨by rfl, ?_⟩) ?_ ?_
  rotate_left
  · intro w'; go_simp; with_reducible rfl
  rotate_left
  · simp only [Act.put, List.setIfInBounds_toArray, List.set_cons_zero, List.set_cons_succ, i64_w, i32_w]; rfl
  refine take_ (i := 4) (N := some 11) (v := ?_) (a' := ?_) #[true, true, true, true, true, false, false, false, false, false, false, false, false, false, false, false, false, false, false, false, false, false, false, false] rfl rfl (by kernel_rfl) (fun _ _ _ h => h) (Or.inl ⟨by rfl, ?_⟩) hHeld ?_ ?_
  rotate_left
  · intro w' hs_; go_split_ands; go_simp; with_reducible rfl
  rotate_left
  · simp only [Act.put, List.setIfInBounds_toArray, List.set_cons_zero, List.set_cons_succ, i64_w, i32_w]; rfl
  refine pure_ (i := 5) (N := some 12) (v := ?_) (a' := ?_) #[true, true, true, true, true, true, false, false, false, false, false, false, false, false, false, false, false, false, false, false, false, false, false, false] rfl rfl (by kernel_rfl) (fun _ _ _ h => h) (Or.inl ⟨by rfl, ?_⟩) ?_ ?_
  rotate_left
  · intro w'; go_simp; with_reducible rfl
  rotate_left
  · simp only [Act.put, List.setIfInBounds_toArray, List.set_cons_zero, List.set_cons_succ, i64_w, i32_w]; rfl
  refine pure_ (i := 6) (N := some 13) (v := ?_) (a' := ?_) #[true, true, true, true, true, true, true, false, false, false, false, false, false, false, false, false, false, false, false, false, false, false, false, false] rfl rfl (by kernel_rfl) (fun _ _ _ h => h) (Or.inl ⟨by rfl, ?_⟩) ?_ ?_
  rotate_left
  · intro w'; go_simp; with_reducible rfl
  rotate_left
  · simp only [Act.put, List.setIfInBounds_toArray, List.set_cons_zero, List.set_cons_succ, i64_w, i32_w]; rfl
  refine pure_ (i := 7) (N := some 14) (v := ?_) (a' := ?_) #[true, true, true, true, true, true, true, true, false, false, false, false, false, false, false, false, false, false, false, false, false, false, false, false] rfl rfl (by kernel_rfl) (fun _ _ _ h => h) (Or.inl ⟨by rfl, ?_⟩) ?_ ?_
  rotate_left
  · intro w'; go_simp; with_reducible rfl
  rotate_left
  · simp only [Act.put, List.setIfInBounds_toArray, List.set_cons_zero, List.set_cons_succ, i64_w, i32_w]; rfl
  refine take_ (i := 8) (N := some 15) (v := ?_) (a' := ?_) #[true, true, true, true, true, true, true, true, true, false, false, false, false, false, false, false, false, false, false, false, false, false, false, false] rfl rfl (by kernel_rfl) (fun _ _ _ h => h) (Or.inl ⟨by rfl, ?_⟩) hHeld ?_ ?_
  rotate_left
  · intro w' hs_; go_split_ands; go_simp; with_reducible rfl
  rotate_left
  · simp only [Act.put, List.setIfInBounds_toArray, List.set_cons_zero, List.set_cons_succ, i64_w, i32_w]; rfl
  refine pure_ (i := 9) (N := some 16) (v := ?_) (a' := ?_) #[true, true, true, true, true, true, true, true, true, true, false, false, false, false, false, false, false, false, false, false, false, false, false, false] rfl rfl (by kernel_rfl) (fun _ _ _ h => h) (Or.inl ⟨by rfl, ?_⟩) ?_ ?_
  rotate_left
  · intro w'; go_simp; with_reducible rfl
  rotate_left
  · simp only [Act.put, List.setIfInBounds_toArray, List.set_cons_zero, List.set_cons_succ, i64_w, i32_w]; rfl
  refine pure_ (i := 10) (N := some 17) (v := ?_) (a' := ?_) #[true, true, true, true, true, true, true, true, true, true, true, false, false, false, false, false, false, false, false, false, false, false, false, false] rfl rfl (by kernel_rfl) (fun _ _ _ h => h) (Or.inl ⟨by rfl, ?_⟩) ?_ ?_
  rotate_left
  · intro w'; go_simp; with_reducible rfl
  rotate_left
  · simp only [Act.put, List.setIfInBounds_toArray, List.set_cons_zero, List.set_cons_succ, i64_w, i32_w]; rfl
  refine pure_ (i := 11) (N := some 18) (v := ?_) (a' := ?_) #[true, true, true, true, true, true, true, true, true, true, true, true, false, false, false, false, false, false, false, false, false, false, false, false] rfl rfl (by kernel_rfl) (fun _ _ _ h => h) (Or.inl ⟨by rfl, ?_⟩) ?_ ?_
  rotate_left
  · intro w'; go_simp; with_reducible rfl
  rotate_left
  · simp only [Act.put, List.setIfInBounds_toArray, List.set_cons_zero, List.set_cons_succ, i64_w, i32_w]; rfl
  refine take_ (i := 12) (N := some 19) (v := ?_) (a' := ?_) #[true, true, true, true, true, true, true, true, true, true, true, true, true, false, false, false, false, false, false, false, false, false, false, false] rfl rfl (by kernel_rfl) (fun _ _ _ h => h) (Or.inl ⟨by rfl, ?_⟩) hHeld ?_ ?_
  rotate_left
  · intro w' hs_; go_split_ands; go_simp; with_reducible rfl
  rotate_left
  · simp only [Act.put, List.setIfInBounds_toArray, List.set_cons_zero, List.set_cons_succ, i64_w, i32_w]; rfl
  refine pure_ (i := 13) (N := some 20) (v := ?_) (a' := ?_) #[true, true, true, true, true, true, true, true, true, true, true, true, true, true, false, false, false, false, false, false, false, false, false, false] rfl rfl (by kernel_rfl) (fun _ _ _ h => h) (Or.inl ⟨by rfl, ?_⟩) ?_ ?_
  rotate_left
  · intro w'; go_simp; with_reducible rfl
  rotate_left
  · simp only [Act.put, List.setIfInBounds_toArray, List.set_cons_zero, List.set_cons_succ, i64_w, i32_w]; rfl
  refine pure_ (i := 14) (N := some 21) (v := ?_) (a' := ?_) #[true, true, true, true, true, true, true, true, true, true, true, true, true, true, true, false, false, false, false, false, false, false, false, false] rfl rfl (by kernel_rfl) (fun _ _ _ h => h) (Or.inl ⟨by rfl, ?_⟩) ?_ ?_
  rotate_left
  · intro w'; go_simp; with_reducible rfl
  rotate_left
  · simp only [Act.put, List.setIfInBounds_toArray, List.set_cons_zero, List.set_cons_succ, i64_w, i32_w]; rfl
  refine pure_ (i := 15) (N := some 22) (v := ?_) (a' := ?_) #[true, true, true, true, true, true, true, true, true, true, true, true, true, true, true, true, false, false, false, false, false, false, false, false] rfl rfl (by kernel_rfl) (fun _ _ _ h => h) (Or.inl ⟨by rfl, ?_⟩) ?_ ?_
  rotate_left
  · intro w'; go_simp; with_reducible rfl
  rotate_left
  · simp only [Act.put, List.setIfInBounds_toArray, List.set_cons_zero, List.set_cons_succ, i64_w, i32_w]; rfl
  refine take_ (i := 16) (N := some 23) (v := ?_) (a' := ?_) #[true, true, true, true, true, true, true, true, true, true, true, true, true, true, true, true, true, false, false, false, false, false, false, false] rfl rfl (by kernel_rfl) (fun _ _ _ h => h) (Or.inl ⟨by rfl, ?_⟩) hHeld ?_ ?_
  rotate_left
  · intro w' hs_; go_split_ands; go_simp; with_reducible rfl
  rotate_left
  · simp only [Act.put, List.setIfInBounds_toArray, List.set_cons_zero, List.set_cons_succ, i64_w, i32_w]; rfl
  refine pure_ (i := 17) (N := some 24) (v := ?_) (a' := ?_) #[true, true, true, true, true, true, true, true, true, true, true, true, true, true, true, true, true, true, false, false, false, false, false, false] rfl rfl (by kernel_rfl) (fun _ _ _ h => h) (Or.inl ⟨by rfl, ?_⟩) ?_ ?_
  rotate_left
  · intro w'; go_simp; with_reducible rfl
  rotate_left
  · simp only [Act.put, List.setIfInBounds_toArray, List.set_cons_zero, List.set_cons_succ, i64_w, i32_w]; rfl
  refine one_ (i := 18) (N := some 25) #[true, true, true, true, true, true, true, true, true, true, true, true, true, true, true, true, true, true, true, false, false, false, false, false] rfl rfl (by kernel_rfl) (by decide) (fun K hK => ?_)
  go_simp
  go_at_call 122
  refine (hbw _).mono ?_
  rintro e w2 ⟨rfl, hb2⟩
  have HH' : Hv w2 g gc gb gk cap n key l r := (HH.below (pw_below_drewN (Below.refl w.heap.size w) 1)).below hb2
  have HB' : Below w.heap.size w w2 := (pw_below_drewN HB 1).trans (hb2.mono HB.size)
  clear HH HB k0 k1 k2 k3 kf hb2; have HH := HH'; have HB := HB'; have k0 := HH.c0; have k1 := HH.c1; have k2 := HH.c2; have k3 := HH.c3; have kf := HH.f3; clear HH' HB'
  refine hK.out _ _ (⟨k0, k1, k2, k3⟩) (fun hHeld => ?_)
  clear hK K
  refine one_ (i := 19) (N := some 26) #[true, true, true, true, true, true, true, true, true, true, true, true, true, true, true, true, true, true, true, true, false, false, false, false] rfl rfl (by kernel_rfl) (by decide) (fun K hK => ?_)
  go_simp
  go_at_call 59
  refine (henc _ HH.ci).mono ?_
  rintro e w2 ⟨rfl, hb2⟩
  have HH' : Hv w2 g gc gb gk cap n key l r := HH.below hb2
  have HB' : Below w.heap.size w w2 := HB.trans (hb2.mono HB.size)
  clear HH HB k0 k1 k2 k3 kf hb2; have HH := HH'; have HB := HB'; have k0 := HH.c0; have k1 := HH.c1; have k2 := HH.c2; have k3 := HH.c3; have kf := HH.f3; clear HH' HB'
  refine hK.out _ _ (⟨k0, k1, k2, k3⟩) (fun hHeld => ?_)
  clear hK K
  refine one_ (i := 20) (N := some 27) #[true, true, true, true, true, true, true, true, true, true, true, true, true, true, true, true, true, true, true, true, true, false, false, false] rfl rfl (by kernel_rfl) (by decide) (fun K hK => ?_)
  go_simp
  go_at_call 105
  refine (hxw _).mono ?_
  rintro e w2 ⟨rfl, hb2⟩
  have HH' : Hv w2 g gc gb gk cap n key l r := HH.below hb2
  have HB' : Below w.heap.size w w2 := HB.trans (hb2.mono HB.size)
  clear HH HB k0 k1 k2 k3 kf hb2; have HH := HH'; have HB := HB'; have k0 := HH.c0; have k1 := HH.c1; have k2 := HH.c2; have k3 := HH.c3; have kf := HH.f3; clear HH' HB'
  refine hK.out _ _ (⟨k0, k1, k2, k3⟩) (fun hHeld => ?_)
  clear hK K
  refine pure_ (i := 21) (N := some 28) (v := ?_) (a' := ?_) #[true, true, true, true, true, true, true, true, true, true, true, true, true, true, true, true, true, true, true, true, true, true, false, false] rfl rfl (by kernel_rfl) (fun _ _ _ h => h) (Or.inl ⟨by rfl, ?_⟩) ?_ ?_
  rotate_left
  · intro w'; go_simp; with_reducible rfl
  rotate_left
  · simp only [Act.put, List.setIfInBounds_toArray, List.set_cons_zero, List.set_cons_succ, i64_w, i32_w]; rfl
  refine pure_ (i := 22) (N := some 29) (v := ?_) (a' := ?_) #[true, true, true, true, true, true, true, true, true, true, true, true, true, true, true, true, true, true, true, true, true, true, true, false] rfl rfl (by kernel_rfl) (fun _ _ _ h => h) (Or.inl ⟨by rfl, ?_⟩) ?_ ?_
  rotate_left
  · intro w'; go_simp; with_reducible rfl
  rotate_left
  · simp only [Act.put, List.setIfInBounds_toArray, List.set_cons_zero, List.set_cons_succ, i64_w, i32_w]; rfl
  refine last_ (i := 23) (N := none) #[true, true, true, true, true, true, true, true, true, true, true, true, true, true, true, true, true, true, true, true, true, true, true, true] rfl rfl (by kernel_rfl) (by decide) (fun K hK => ?_)
  go_simp
  refine hK.out _ _ ?_
  clear hK K
  refine done_ (by kernel_rfl) ?_
  have HS := HH.setR X
  have BS : But w.heap.size g w _ := (But.of g HB).setCell ⟨g, 3, none⟩ (.inl rfl) (.string (strOfNums X))
  clear k0 k1 k2 k3 kf HH hHeld
  go_wp2_with (go_at_call 121; refine (htr _ HS).mono ?_; rintro e w4 ⟨rfl, HF, BF⟩)
  go_end0
  exact ⟨rfl, HF, BS.trans (BF.mono (Nat.le_trans HB.size (Nat.le_of_eq (by simp))))⟩
set_option maxHeartbeats 8000000 in
set_option maxRecDepth 100000 in
theorem pass_even (hk : key.size = 16) (hH : Hv w g gc gb gk cap n key l r) (h : Nat) (HL : Lr n (h + 1) (l, r)) (hh : h ≤ 9) (hn : n < 256) (p : Nat) (hp : p < 256) (hpo : ¬ p % 2 = 1) :
    Calls Try.prog 111 #[.pointer (some ⟨g, 0, none⟩), .int .i64 (p : Int)] w (HvPost g gc gb gk cap n key (trL (oddB n) (xorL l (bytesOf (encS key (hbS (strOfNums r) n p))))) r w) := by
  have b1 : Bt l := HL.b1
  have b2 : Bt r := HL.b2
  have l1 : l.length = h + 1 := HL.l1
  have l2 : r.length = h + 1 := HL.l2
  have t1 : trR (oddB n) r = r := HL.t2
  have hm : ((p : Int) % 2 == 1) = false := by
    have : (p : Int) % 2 = 0 := by omega
    simp [this]
  have hm' : ¬ (p : Int) % 2 = 1 := by omega
  have h0 : (0 : Int) ≤ (p : Int) := by omega
  have hB16 := (hb_told (strOfNums r) n p (by rw [str_size]; omega) hn hp).2.2
  have hbw := halfBlock_walk (strOfNums r) n p (by rw [str_size]; omega) hn hp
  obtain ⟨Bk, hBk⟩ : ∃ Bk, Bk = hbS (strOfNums r) n p := ⟨_, rfl⟩
  rw [← hBk] at hB16 hbw ⊢
  have henc := fun (W : World) (hC : Ci W gc gb gk cap BX (KS key)) => enc_walk key Bk hk hB16 gc gb gk cap W hC
  have hE16 := encS_size key Bk
  obtain ⟨E, hE⟩ : ∃ E, E = encS key Bk := ⟨_, rfl⟩
  rw [← hE] at henc hE16 ⊢
  have hxw := xor_walk l E b1 (by omega) hE16
  have hXl : (xorL l (bytesOf E)).length = h + 1 := by rw [xorL_len _ _ (by rw [bytesOf_length]; omega)]; exact l1
  have hXb := xorL_bt l (bytesOf E)
  obtain ⟨X, hX⟩ : ∃ X, X = xorL l (bytesOf E) := ⟨_, rfl⟩
  rw [← hX] at hxw hXl hXb ⊢
  have htr := fun (W : World) (H : Hv W g gc gb gk cap n key X r) => trim_walk H h hXl l2 (by omega) hXb b2
  rw [t1] at htr
  clear hX hE hBk hB16 hE16 hXl l1 l2 t1 HL hpo
  have HH := hH
  have HB := Below.refl w.heap.size w
  have k0 := hH.c0
  have k1 := hH.c1
  have k2 := hH.c2
  have k3 := hH.c3
  have kf := hH.f2
  go_enter Try.func111, Try.ntmps111
  go_wp2
  refine start_ (n := 24) (S := (fun W => W.cell? ⟨g, 0, none⟩ = some (.pointer (some ⟨gc, 0, none⟩)) ∧ W.cell? ⟨g, 1, none⟩ = some (.int .i64 (n : Int)) ∧ W.cell? ⟨g, 2, none⟩ = some (.string (strOfNums l)) ∧ W.cell? ⟨g, 3, none⟩ = some (.string (strOfNums r)))) (ds := [23]) #[false, false, false, false, false, false, false, false, false, false, false, false, false, false, false, false, false, false, false, false, false, false, false, false] (by kernel_rfl) rfl rfl ⟨k0, k1, k2, k3⟩ (fun hHeld => ?_)
  refine pure_ (i := 0) (N := some 30) (v := ?_) (a' := ?_) #[true, false, false, false, false, false, false, false, false, false, false, false, false, false, false, false, false, false, false, false, false, false, false, false] rfl rfl (by kernel_rfl) (fun _ _ _ h => h) (Or.inl ⟨by rfl, ?_⟩) ?_ ?_
  rotate_left
  · intro w'; go_simp; with_reducible rfl
  rotate_left
  · simp only [Act.put, List.setIfInBounds_toArray, List.set_cons_zero, List.set_cons_succ, i64_w, i32_w]; rfl
  refine pure_ (i := 1) (N := some 31) (v := ?_) (a' := ?_) #[true, true, false, false, false, false, false, false, false, false, false, false, false, false, false, false, false, false, false, false, false, false, false, false] rfl rfl (by kernel_rfl) (fun _ _ _ h => h) (Or.inl ⟨by rfl, ?_⟩) ?_ ?_
  rotate_left
  · intro w'; go_simp; with_reducible rfl
  rotate_left
  · simp only [Act.put, List.setIfInBounds_toArray, List.set_cons_zero, List.set_cons_succ, i64_w, i32_w]; rfl
  refine pure_ (i := 2) (N := some 32) (v := ?_) (a' := ?_) #[true, true, true, false, false, false, false, false, false, false, false, false, false, false, false, false, false, false, false, false, false, false, false, false] rfl rfl (by kernel_rfl) (fun _ _ _ h => h) (Or.inl ⟨by rfl, ?_⟩) ?_ ?_
  rotate_left
  · intro w'; go_simp; with_reducible rfl
  rotate_left
  · simp only [Act.put, List.setIfInBounds_toArray, List.set_cons_zero, List.set_cons_succ, i64_w, i32_w]; rfl
  refine pure_ (i := 3) (N := some 33) (v := ?_) (a' := ?_) #[true, true, true, true, false, false, false, false, false, false, false, false, false, false, false, false, false, false, false, false, false, false, false, false] rfl rfl (by kernel_rfl) (fun _ _ _ h => h) (Or.inl ⟨by rfl, ?_⟩) ?_ ?_
  rotate_left
  · intro w'; go_simp; with_reducible rfl
  rotate_left
  · simp only [Act.put, List.setIfInBounds_toArray, List.set_cons_zero, List.set_cons_succ, i64_w, i32_w]; rfl
  refine take_ (i := 4) (N := some 34) (v := ?_) (a' := ?_) #[true, true, true, true, true, false, false, false, false, false, false, false, false, false, false, false, false, false, false, false, false, false, false, false] rfl rfl (by kernel_rfl) (fun _ _ _ h => h) (Or.inl ⟨by rfl, ?_⟩) hHeld ?_ ?_
  rotate_left
  · intro w' hs_; go_split_ands; go_simp; with_reducible rfl
  rotate_left
  · simp only [Act.put, List.setIfInBounds_toArray, List.set_cons_zero, List.set_cons_succ, i64_w, i32_w]; rfl
  refine pure_ (i := 5) (N := some 35) (v := ?_) (a' := ?_) #[true, true, true, true, true, true, false, false, false, false, false, false, false, false, false, false, false, false, false, false, false, false, false, false] rfl rfl (by kernel_rfl) (fun _ _ _ h => h) (Or.inl ⟨by rfl, ?_⟩) ?_ ?_
  rotate_left
  · intro w'; go_simp; with_reducible rfl
  rotate_left
  · simp only [Act.put, List.setIfInBounds_toArray, List.set_cons_zero, List.set_cons_succ, i64_w, i32_w]; rfl
  refine pure_ (i := 6) (N := some 36) (v := ?_) (a' := ?_) #[true, true, true, true, true, true, true, false, false, false, false, false, false, false, false, false, false, false, false, false, false, false, false, false] rfl rfl (by kernel_rfl) (fun _ _ _ h => h) (Or.inl ⟨by rfl, ?_⟩) ?_ ?_
  rotate_left
  · intro w'; go_simp; with_reducible rfl
  rotate_left
  · simp only [Act.put, List.setIfInBounds_toArray, List.set_cons_zero, List.set_cons_succ, i64_w, i32_w]; rfl
  refine pure_ (i := 7) (N := some 37) (v := ?_) (a' := ?_) #[true, true, true, true, true, true, true, true, false, false, false, false, false, false, false, false, false, false, false, false, false, false, false, false] rfl rfl (by kernel_rfl) (fun _ _ _ h => h) (Or.inl ⟨by rfl, ?_⟩) ?_ ?_
  rotate_left
  · intro w'; go_simp; with_reducible rfl
  rotate_left
  · simp only [Act.put, List.setIfInBounds_toArray, List.set_cons_zero, List.set_cons_succ, i64_w, i32_w]; rfl
  refine take_ (i := 8) (N := some 38) (v := ?_) (a' := ?_) #[true, true, true, true, true, true, true, true, true, false, false, false, false, false, false, false, false, false, false, false, false, false, false, false] rfl rfl (by kernel_rfl) (fun _ _ _ h => h) (Or.inl ⟨by rfl, ?_⟩) hHeld ?_ ?_
  rotate_left
  · intro w' hs_; go_split_ands; go_simp; with_reducible rfl
  rotate_left
  · simp only [Act.put, List.setIfInBounds_toArray, List.set_cons_zero, List.set_cons_succ, i64_w, i32_w]; rfl
  refine pure_ (i := 9) (N := some 39) (v := ?_) (a' := ?_) #[true, true, true, true, true, true, true, true, true, true, false, false, false, false, false, false, false, false, false, false, false, false, false, false] rfl rfl (by kernel_rfl) (fun _ _ _ h => h) (Or.inl ⟨by rfl, ?_⟩) ?_ ?_
  rotate_left
  · intro w'; go_simp; with_reducible rfl
  rotate_left
  · simp only [Act.put, List.setIfInBounds_toArray, List.set_cons_zero, List.set_cons_succ, i64_w, i32_w]; rfl
  refine pure_ (i := 10) (N := some 40) (v := ?_) (a' := ?_) #[true, true, true, true, true, true, true, true, true, true, true, false, false, false, false, false, false, false, false, false, false, false, false, false] rfl rfl (by kernel_rfl) (fun _ _ _ h => h) (Or.inl ⟨by rfl, ?_⟩) ?_ ?_
  rotate_left
  · intro w'; go_simp; with_reducible rfl
  rotate_left
  · simp only [Act.put, List.setIfInBounds_toArray, List.set_cons_zero, List.set_cons_succ, i64_w, i32_w]; rfl
  refine pure_ (i := 11) (N := some 41) (v := ?_) (a' := ?_) #[true, true, true, true, true, true, true, true, true, true, true, true, false, false, false, false, false, false, false, false, false, false, false, false] rfl rfl (by kernel_rfl) (fun _ _ _ h => h) (Or.inl ⟨by rfl, ?_⟩) ?_ ?_
  rotate_left
  · intro w'; go_simp; with_reducible rfl
  rotate_left
  · simp only [Act.put, List.setIfInBounds_toArray, List.set_cons_zero, List.set_cons_succ, i64_w, i32_w]; rfl
  refine take_ (i := 12) (N := some 42) (v := ?_) (a' := ?_) #[true, true, true, true, true, true, true, true, true, true, true, true, true, false, false, false, false, false, false, false, false, false, false, false] rfl rfl (by kernel_rfl) (fun _ _ _ h => h) (Or.inl ⟨by rfl, ?_⟩) hHeld ?_ ?_
  rotate_left
  · intro w' hs_; go_split_ands; go_simp; with_reducible rfl
  rotate_left
  · simp only [Act.put, List.setIfInBounds_toArray, List.set_cons_zero, List.set_cons_succ, i64_w, i32_w]; rfl
  refine pure_ (i := 13) (N := some 43) (v := ?_) (a' := ?_) #[true, true, true, true, true, true, true, true, true, true, true, true, true, true, false, false, false, false, false, false, false, false, false, false] rfl rfl (by kernel_rfl) (fun _ _ _ h => h) (Or.inl ⟨by rfl, ?_⟩) ?_ ?_
  rotate_left
  · intro w'; go_simp; with_reducible rfl
  rotate_left
  · simp only [Act.put, List.setIfInBounds_toArray, List.set_cons_zero, List.set_cons_succ, i64_w, i32_w]; rfl
  refine pure_ (i := 14) (N := some 44) (v := ?_) (a' := ?_) #[true, true, true, true, true, true, true, true, true, true, true, true, true, true, true, false, false, false, false, false, false, false, false, false] rfl rfl (by kernel_rfl) (fun _ _ _ h => h) (Or.inl ⟨by rfl, ?_⟩) ?_ ?_
  rotate_left
  · intro w'; go_simp; with_reducible rfl
  rotate_left
  · simp only [Act.put, List.setIfInBounds_toArray, List.set_cons_zero, List.set_cons_succ, i64_w, i32_w]; rfl
  refine pure_ (i := 15) (N := some 45) (v := ?_) (a' := ?_) #[true, true, true, true, true, true, true, true, true, true, true, true, true, true, true, true, false, false, false, false, false, false, false, false] rfl rfl (by kernel_rfl) (fun _ _ _ h => h) (Or.inl ⟨by rfl, ?_⟩) ?_ ?_
  rotate_left
  · intro w'; go_simp; with_reducible rfl
  rotate_left
  · simp only [Act.put, List.setIfInBounds_toArray, List.set_cons_zero, List.set_cons_succ, i64_w, i32_w]; rfl
  refine take_ (i := 16) (N := some 46) (v := ?_) (a' := ?_) #[true, true, true, true, true, true, true, true, true, true, true, true, true, true, true, true, true, false, false, false, false, false, false, false] rfl rfl (by kernel_rfl) (fun _ _ _ h => h) (Or.inl ⟨by rfl, ?_⟩) hHeld ?_ ?_
  rotate_left
  · intro w' hs_; go_split_ands; go_simp; with_reducible rfl
  rotate_left
  · simp only [Act.put, List.setIfInBounds_toArray, List.set_cons_zero, List.set_cons_succ, i64_w, i32_w]; rfl
  refine pure_ (i := 17) (N := some 47) (v := ?_) (a' := ?_) #[true, true, true, true, true, true, true, true, true, true, true, true, true, true, true, true, true, true, false, false, false, false, false, false] rfl rfl (by kernel_rfl) (fun _ _ _ h => h) (Or.inl ⟨by rfl, ?_⟩) ?_ ?_
  rotate_left
  · intro w'; go_simp; with_reducible rfl
  rotate_left
  · simp only [Act.put, List.setIfInBounds_toArray, List.set_cons_zero, List.set_cons_succ, i64_w, i32_w]; rfl
  refine one_ (i := 18) (N := some 48) #[true, true, true, true, true, true, true, true, true, true, true, true, true, true, true, true, true, true, true, false, false, false, false, false] rfl rfl (by kernel_rfl) (by decide) (fun K hK => ?_)
  go_simp
  go_at_call 122
  refine (hbw _).mono ?_
  rintro e w2 ⟨rfl, hb2⟩
  have HH' : Hv w2 g gc gb gk cap n key l r := (HH.below (pw_below_drewN (Below.refl w.heap.size w) 1)).below hb2
  have HB' : Below w.heap.size w w2 := (pw_below_drewN HB 1).trans (hb2.mono HB.size)
  clear HH HB k0 k1 k2 k3 kf hb2; have HH := HH'; have HB := HB'; have k0 := HH.c0; have k1 := HH.c1; have k2 := HH.c2; have k3 := HH.c3; have kf := HH.f2; clear HH' HB'
  refine hK.out _ _ (⟨k0, k1, k2, k3⟩) (fun hHeld => ?_)
  clear hK K
  refine one_ (i := 19) (N := some 49) #[true, true, true, true, true, true, true, true, true, true, true, true, true, true, true, true, true, true, true, true, false, false, false, false] rfl rfl (by kernel_rfl) (by decide) (fun K hK => ?_)
  go_simp
  go_at_call 59
  refine (henc _ HH.ci).mono ?_
  rintro e w2 ⟨rfl, hb2⟩
  have HH' : Hv w2 g gc gb gk cap n key l r := HH.below hb2
  have HB' : Below w.heap.size w w2 := HB.trans (hb2.mono HB.size)
  clear HH HB k0 k1 k2 k3 kf hb2; have HH := HH'; have HB := HB'; have k0 := HH.c0; have k1 := HH.c1; have k2 := HH.c2; have k3 := HH.c3; have kf := HH.f2; clear HH' HB'
  refine hK.out _ _ (⟨k0, k1, k2, k3⟩) (fun hHeld => ?_)
  clear hK K
  refine one_ (i := 20) (N := some 50) #[true, true, true, true, true, true, true, true, true, true, true, true, true, true, true, true, true, true, true, true, true, false, false, false] rfl rfl (by kernel_rfl) (by decide) (fun K hK => ?_)
  go_simp
  go_at_call 105
  refine (hxw _).mono ?_
  rintro e w2 ⟨rfl, hb2⟩
  have HH' : Hv w2 g gc gb gk cap n key l r := HH.below hb2
  have HB' : Below w.heap.size w w2 := HB.trans (hb2.mono HB.size)
  clear HH HB k0 k1 k2 k3 kf hb2; have HH := HH'; have HB := HB'; have k0 := HH.c0; have k1 := HH.c1; have k2 := HH.c2; have k3 := HH.c3; have kf := HH.f2; clear HH' HB'
  refine hK.out _ _ (⟨k0, k1, k2, k3⟩) (fun hHeld => ?_)
  clear hK K
  refine pure_ (i := 21) (N := some 51) (v := ?_) (a' := ?_) #[true, true, true, true, true, true, true, true, true, true, true, true, true, true, true, true, true, true, true, true, true, true, false, false] rfl rfl (by kernel_rfl) (fun _ _ _ h => h) (Or.inl ⟨by rfl, ?_⟩) ?_ ?_
  rotate_left
  · intro w'; go_simp; with_reducible rfl
  rotate_left
  · simp only [Act.put, List.setIfInBounds_toArray, List.set_cons_zero, List.set_cons_succ, i64_w, i32_w]; rfl
  refine pure_ (i := 22) (N := some 52) (v := ?_) (a' := ?_) #[true, true, true, true, true, true, true, true, true, true, true, true, true, true, true, true, true, true, true, true, true, true, true, false] rfl rfl (by kernel_rfl) (fun _ _ _ h => h) (Or.inl ⟨by rfl, ?_⟩) ?_ ?_
  rotate_left
  · intro w'; go_simp; with_reducible rfl
  rotate_left
  · simp only [Act.put, List.setIfInBounds_toArray, List.set_cons_zero, List.set_cons_succ, i64_w, i32_w]; rfl
  refine last_ (i := 23) (N := none) #[true, true, true, true, true, true, true, true, true, true, true, true, true, true, true, true, true, true, true, true, true, true, true, true] rfl rfl (by kernel_rfl) (by decide) (fun K hK => ?_)
  go_simp
  refine hK.out _ _ ?_
  clear hK K
  refine done_ (by kernel_rfl) ?_
  have HS := HH.setL X
  have BS : But w.heap.size g w _ := (But.of g HB).setCell ⟨g, 2, none⟩ (.inl rfl) (.string (strOfNums X))
  clear k0 k1 k2 k3 kf HH hHeld
  go_wp2_with (go_at_call 121; refine (htr _ HS).mono ?_; rintro e w4 ⟨rfl, HF, BF⟩)
  go_end0
  exact ⟨rfl, HF, BS.trans (BF.mono (Nat.le_trans HB.size (Nat.le_of_eq (by simp))))⟩
end Go.Proofs.YtimokakcdmcnnaaV.Aes
