/- Shared lemmas and walks of the AES laws of this seat. -/
import Derived.Test.YtimokakcdmcnnaaVGcm3
import Derived.Deep.RegionHeld3
namespace Go.Proofs.YtimokakcdmcnnaaV.Aes
open Go.RowKit Go.Proofs.YtimokakcdmcnnaaV.PrintWords Go.Proofs.YtimokakcdmcnnaaV.PrintLast Go.Proofs.YtimokakcdmcnnaaV.PrintMore Go.Proofs.YtimokakcdmcnnaaV.Mem
set_option linter.unusedVariables false
set_option linter.unusedSimpArgs false

open Go.Proofs.Ytimokakcdmcnnaa.PImplB Gcm
theorem polyOf_walk (s : ByteArray) (a b : Int) (h : impl_polyOf.f KG s = some (a, b)) (w : World) : Calls Try.prog 101 #[.string s] w fun e w' => e = .returned (.agg #[.int .u64 a, .int .u64 b]) ∧ Below w.heap.size w w' := impl_polyOf.calls KG s a b w h
/-- Two words of a block, in a block of memory of its own. -/
structure PolyAt (w : World) (g : Nat) (a b : Int) : Prop where
  c0 : w.cell? ⟨g, 0, none⟩ = some (.int .u64 a)
  c1 : w.cell? ⟨g, 1, none⟩ = some (.int .u64 b)
  lt : g < w.heap.size
theorem PolyAt.made (w : World) (a b : Int) : PolyAt (w.alloc (.cells #[.int .u64 a, .int .u64 b] 89 (0, 0))) w.heap.size a b :=
  ⟨by simp only [World.cell?, heap_alloc_new]; rfl, by simp only [World.cell?, heap_alloc_new]; rfl, by simp⟩
theorem PolyAt.drew {w : World} {g : Nat} {a b : Int} (h : PolyAt w g a b) : PolyAt w.drew g a b := ⟨h.c0, h.c1, h.lt⟩
theorem PolyAt.below {w w' : World} {g : Nat} {a b : Int} (h : PolyAt w g a b) (hb : Below w.heap.size w w') : PolyAt w' g a b := by
  have e : ∀ o, w'.cell? ⟨g, o, none⟩ = w.cell? ⟨g, o, none⟩ := fun o => by simp only [World.cell?, hb.block g h.lt]
  exact ⟨by rw [e]; exact h.c0, by rw [e]; exact h.c1, Nat.lt_of_lt_of_le h.lt hb.size⟩
theorem filled_walk (s : ByteArray) (hs : s.size ≤ 2000000) (w : World) : Calls Try.prog 103 #[.string s] w fun e w' => e = .returned (.string (fillS s)) ∧ Below w.heap.size w w' := impl_filled.calls s _ w (filled_tells s hs)
theorem be8_walk (n : Int) (w : World) : Calls Try.prog 81 #[.int .u64 n, .int .i64 8] w fun e w' => e = .returned (.string (strOfNums (Aes.be 8 n))) ∧ Below w.heap.size w w' := be_walk n 8 (by decide) w
set_option maxHeartbeats 8000000 in
set_option maxRecDepth 100000 in
theorem tag_walk (key nonce beside sealed : ByteArray) (hk : key.size = 16) (hn : nonce.size = 12) (hb : beside.size ≤ 1500) (hs : sealed.size ≤ 1500) (g gb gk cap : Nat) (w : World) (hC : Ci w g gb gk cap BX (KS key)) :
    Calls Try.prog 66 #[.pointer (some ⟨g, 0, none⟩), .string nonce, .string beside, .string sealed] w fun e w' => e = .returned (.string (tagS key nonce beside sealed)) ∧ Below w.heap.size w w' := by
  have hg1 := hC.lt
  have hg2 := hC.atBox.lt
  have hg3 := hC.ltk
  have hz2 : (strOfNums (Aes.be 8 0)).size = 8 := by rw [str_size, Aes.be_length]
  have hbe8 := be8_walk
  have hbe4 := be4_walk 1
  have henc := fun (s : ByteArray) (h : s.size = 16) (W : World) (hW : Ci W g gb gk cap BX (KS key)) => enc_walk key s hk h g gb gk cap W hW
  have hnst : (nonce ++ strOfNums (Aes.be 4 1)).size = 16 := by rw [ByteArray.size_append, str_size, Aes.be_length, hn]
  have hfb := fillS_size beside
  have hfs := fillS_size sealed
  have hsz := sizesS_size beside sealed
  obtain ⟨T, hT⟩ : ∃ T, T = fillS beside ++ fillS sealed ++ sizesS beside sealed := ⟨_, rfl⟩
  have hTs : T.size % 16 = 0 ∧ T.size ≤ 3200 := by
    rw [hT, ByteArray.size_append, ByteArray.size_append, hfb, hfs, hsz]
    unfold zerosN
    omega
  obtain ⟨a, b, c, d, p1, p2, p3, _, _⟩ := gh_told (encS key zeros16) T (encS_size _ _) hTs.1 hTs.2
  have hend : tagS key nonce beside sealed = strOfNums (xorL (bytesOf (ghS (encS key zeros16) T)) (bytesOf (encS key (nonce ++ strOfNums (Aes.be 4 1))))) := by rw [hT]; rfl
  rw [hend]
  obtain ⟨EZ, hEZ⟩ : ∃ EZ, EZ = encS key zeros16 := ⟨_, rfl⟩
  have henc0 : ∀ (W : World) (hW : Ci W g gb gk cap BX (KS key)), Calls Try.prog 59 #[.pointer (some ⟨g, 0, none⟩), .string (strOfNums (Aes.be 8 0) ++ strOfNums (Aes.be 8 0))] W fun e w' => e = .returned (.string EZ) ∧ Below W.heap.size W w' := by
    rw [hEZ]; exact fun W hW => henc zeros16 zeros16_size W hW
  have henc1 := fun (W : World) (hW : Ci W g gb gk cap BX (KS key)) => henc (nonce ++ strOfNums (Aes.be 4 1)) hnst W hW
  rw [← hEZ] at p1 p3 ⊢
  clear hEZ hend henc
  have hp1 := fun W => polyOf_walk EZ a b p1 W
  have hp2 := fun W => impl_ghash.calls KG a b T c d W p2
  obtain ⟨GS, hGS⟩ : ∃ GS, GS = ghS EZ T := ⟨_, rfl⟩
  rw [← hGS] at p3 ⊢
  have hp3 := fun W => impl_poly_text.calls KG c d GS W p3
  have hgs := text_size c d GS p3
  obtain ⟨EN, hEN⟩ : ∃ EN, EN = encS key (nonce ++ strOfNums (Aes.be 4 1)) := ⟨_, rfl⟩
  rw [← hEN] at henc1 ⊢
  have hens : EN.size = 16 := by rw [hEN]; exact encS_size _ _
  have hp4 := fun W => impl_xored.calls KG GS EN _ W (xored16 GS EN hgs hens)
  have hcat1 : ¬ 9223372036854775807 < nonce.size + (strOfNums (Aes.be 4 1)).size := by rw [ByteArray.size_append] at hnst; omega
  clear hEN hgs hens
  clear p1 p2 p3 hGS
  have HB := Below.refl w.heap.size w
  have HT := Lib.hid hT
  have Hn := Lib.hid (And.intro hn (And.intro hz2 (And.intro hnst (And.intro hfb (And.intro hfs hsz)))))
  have hcat0 : ¬ 9223372036854775807 < (strOfNums (Aes.be 8 0)).size + (strOfNums (Aes.be 8 0)).size := by omega
  clear hT hn hz2 hnst hfb hfs hsz
  go_enter Try.func66, Try.ntmps66
  go_wp2_with (first
    | (go_at_call 81; refine (hbe8 _ _).mono ?_; rintro e w2 ⟨rfl, hb2⟩; have HB' := HB.trans (hb2.mono HB.size); clear HB hb2; have HB := HB'; clear HB')
    | (go_at_call 59; refine (henc0 _ (hC.below HB hg1 hg2 hg3)).mono ?_; rintro e w2 ⟨rfl, hb2⟩; have HB' := HB.trans (hb2.mono HB.size); clear HB hb2; have HB := HB'; clear HB')
    | (go_at_call 101; refine (hp1 _).mono ?_; rintro e w2 ⟨rfl, hb2⟩; have HB' := HB.trans (hb2.mono HB.size); clear HB hb2; have HB := HB'; clear HB'))
  have gw := HB.size
  obtain ⟨gp, hgp⟩ : ∃ gp, gp = w2.heap.size := ⟨_, rfl⟩
  have HP : PolyAt (w2.alloc (.cells #[.int .u64 a, .int .u64 b] 89 (0, 0))) gp a b := by rw [hgp]; exact PolyAt.made w2 a b
  have HB1 := HB.alloc gw (.cells #[.int .u64 a, .int .u64 b] 89 (0, 0))
  rw [← hgp]
  clear HB hgp
  have HB := HB1
  clear HB1
  go_wp2_with (first
    | (go_at_call 81; refine (hbe8 _ _).mono ?_; rintro e w3 ⟨rfl, hb2⟩; have HB' := HB.trans (hb2.mono HB.size); have HP' := HP.below hb2; clear HB HP hb2; have HB := HB'; have HP := HP'; clear HB' HP'))
  have hp2' : ∀ W, Calls Try.prog 102 #[.agg #[.int .u64 a, .int .u64 b], .string (fillS beside ++ fillS sealed ++ (strOfNums (Aes.be 8 (8 * (beside.size : Int))) ++ strOfNums (Aes.be 8 (8 * (sealed.size : Int)))))] W fun e w' => e = .returned (.agg #[.int .u64 c, .int .u64 d]) ∧ Below W.heap.size W w' := by
    intro W
    have h := hp2 W
    rw [HT.out] at h
    exact h
  have k0 := HP.c0
  have k1 := HP.c1
  obtain ⟨_, _, _, hfb, hfs, hsz⟩ := Hn.out
  have hzb : zerosN beside.size ≤ 15 ∧ zerosN sealed.size ≤ 15 := by unfold zerosN; omega
  have hq1 : ¬ 9223372036854775807 < (fillS beside).size + (fillS sealed).size := by omega
  have hq2 : ¬ 9223372036854775807 < (fillS beside).size + (fillS sealed).size + ((strOfNums (Aes.be 8 (8 * (beside.size : Int)))).size + (strOfNums (Aes.be 8 (8 * (sealed.size : Int)))).size) := by have e : (sizesS beside sealed).size = (strOfNums (Aes.be 8 (8 * (beside.size : Int)))).size + (strOfNums (Aes.be 8 (8 * (sealed.size : Int)))).size := ByteArray.size_append; omega
  have Hq := Lib.hid (And.intro hfb (And.intro hfs hsz))
  clear hfb hfs hsz hzb
  have keepS : ∀ {W W' : World}, PolyAt W gp a b → Below W.heap.size W W' → PolyAt W' gp a b := fun h k => h.below k
  go_region_held3 (fun W => W.cell? ⟨gp, 0, none⟩ = some (.int .u64 a) ∧ W.cell? ⟨gp, 1, none⟩ = some (.int .u64 b)) (first | exact ⟨k0, k1⟩ | exact ⟨HP.c0, HP.c1⟩) (first
    | (go_at_call_of 103 beside; refine (filled_walk beside (by omega) _).mono ?_; rintro e w4 ⟨rfl, hb2⟩; have HB' : Below w.heap.size w w4 := (by first | exact (below_drewN' HB 1).trans (hb2.mono HB.size) | exact HB.trans (hb2.mono HB.size)); have HP' : PolyAt w4 gp a b := (by first | exact (HP.drew).below hb2 | exact HP.below hb2); clear HB HP k0 k1 hb2; have HB := HB'; have HP := HP'; clear HB' HP'; have k0 := HP.c0; have k1 := HP.c1)
    | (go_at_call_of 103 sealed; refine (filled_walk sealed (by omega) _).mono ?_; rintro e w4 ⟨rfl, hb2⟩; have HB' : Below w.heap.size w w4 := (by first | exact (below_drewN' HB 1).trans (hb2.mono HB.size) | exact HB.trans (hb2.mono HB.size)); have HP' : PolyAt w4 gp a b := (by first | exact (HP.drew).below hb2 | exact HP.below hb2); clear HB HP k0 k1 hb2; have HB := HB'; have HP := HP'; clear HB' HP'; have k0 := HP.c0; have k1 := HP.c1)
    | (go_at_call 102; refine (hp2' _).mono ?_; rintro e w4 ⟨rfl, hb2⟩; have HB' : Below w.heap.size w w4 := (by first | exact (below_drewN' HB 1).trans (hb2.mono HB.size) | exact HB.trans (hb2.mono HB.size)); have HP' : PolyAt w4 gp a b := (by first | exact (HP.drew).below hb2 | exact HP.below hb2); clear HB HP k0 k1 hb2; have HB := HB'; have HP := HP'; clear HB' HP'; have k0 := HP.c0; have k1 := HP.c1)
    | (go_at_call 104; refine (hp3 _).mono ?_; rintro e w4 ⟨rfl, hb2⟩; have HB' : Below w.heap.size w w4 := (by first | exact (below_drewN' HB 1).trans (hb2.mono HB.size) | exact HB.trans (hb2.mono HB.size)); have HP' : PolyAt w4 gp a b := (by first | exact (HP.drew).below hb2 | exact HP.below hb2); clear HB HP k0 k1 hb2; have HB := HB'; have HP := HP'; clear HB' HP'; have k0 := HP.c0; have k1 := HP.c1))
  all_goals (
    clear k0 k1 HP hq1 hq2
    go_wp2_with (first
      | (go_at_call 81; refine (hbe4 _).mono ?_; rintro e w5 ⟨rfl, hb2⟩; have HB' := HB.trans (hb2.mono HB.size); clear HB hb2; have HB := HB'; clear HB')
      | (go_at_call 59; refine (henc1 _ (hC.below HB hg1 hg2 hg3)).mono ?_; rintro e w6 ⟨rfl, hb2⟩; have HB' := HB.trans (hb2.mono HB.size); clear HB hb2; have HB := HB'; clear HB')
      | (go_at_call 105; refine (hp4 _).mono ?_; rintro e w7 ⟨rfl, hb2⟩; have HB' := HB.trans (hb2.mono HB.size); clear HB hb2; have HB := HB'; clear HB'))
    go_ret
    exact ⟨rfl, HB⟩)
end Go.Proofs.YtimokakcdmcnnaaV.Aes
