/- Shared lemmas and walks of the AES laws of this seat. -/
import Derived.Test.YtimokakcdmcnnaaVSpcG1
import Derived.Lib.Hide
import Derived.Deep.RegionHeld3
import Derived.Deep.RegionWith
namespace Go.Proofs.YtimokakcdmcnnaaV.Aes
open Go.RowKit Go.Proofs.YtimokakcdmcnnaaV.PrintWords Go.Proofs.YtimokakcdmcnnaaV.PrintLast Go.Proofs.YtimokakcdmcnnaaV.PrintMore Go.Proofs.YtimokakcdmcnnaaV.Mem
set_option linter.unusedVariables false
set_option linter.unusedSimpArgs false

open Go.Proofs.Ytimokakcdmcnnaa.PSpecA Gcm
theorem xorL_tab (a b : List Int) (n : Nat) (ha : a.length = n) (hb : b.length = n) : (tab n fun i => Go.bits .xor .u8 (rd a (i : Int)) (rd b (i : Int))) = xorL a b := by
  apply List.ext_getElem
  · rw [tab_length, xorL, List.length_zipWith, ha, hb]; omega
  · intro i h1 h2
    rw [tab_length] at h1
    simp [xorL, tab, rd, List.getD_eq_getElem?_getD, List.getElem?_eq_getElem (by omega : i < a.length), List.getElem?_eq_getElem (by omega : i < b.length)]
theorem xor16_walk (a b : List Int) (ha : a.length = 16) (hb : b.length = 16) (A0 A1 : Option Addr) (c0 c1 : Nat) (w : World) (r0 : Kd.C (Kd.int .u8) w A0 16 a) (r1 : Kd.C (Kd.int .u8) w A1 16 b) (l0 : 16 ≤ c0) (l1 : 16 ≤ c1) :
    Calls Try.prog 89 #[.slice A0 16 c0, .slice A1 16 c1] w (RowPost (xorL a b) 16 w) := by
  obtain ⟨k, h⟩ := (ev_xor a b 16 ha (by omega) (by omega)).rounds
  rw [xorL_tab a b 16 ha hb] at h
  have := spec_l3Xor.calls k A0 c0 a A1 c1 b _ w (by rw [ha]; exact r0) (by rw [ha]; exact l0) (by rw [hb]; exact r1) (by rw [hb]; exact l1) h
  rw [ha, hb] at this
  exact this.mono fun e w' h => RowPost.of (by rw [xorL, List.length_zipWith, ha, hb]; rfl) h
theorem one4 : (⟨#[0, 0, 0, 1]⟩ : ByteArray) = strOfNums (be 4 1) := by decide
theorem bytes_C (W : World) (s : ByteArray) (n : Nat) (hs : s.size = n) (hl : n ≤ 9223372036854775807) : Kd.C (Kd.int .u8) (Lib.bytesWorld W 5 s) (some ⟨W.heap.size, 0, none⟩) n (bytesOf s) := by
  subst hs
  have h := Kd.bytes_row W W.heap.size 5 s (ok := fun _ => True) trivial hl (Nat.le_refl _)
  have := (Kd.R_reads' h).2.2
  rw [bytesOf_length] at this
  exact this
theorem bytes_B (W : World) (s : ByteArray) : Below W.heap.size W (Lib.bytesWorld W 5 s) := bytes_below (Below.refl W.heap.size W) (Nat.le_refl _) 5 s
theorem row_string (A : Option Addr) (c n : Nat) (l : List Int) (W : World) (h : Kd.C (Kd.int .u8) W A n l) : (convert 43 9 (.slice A n c)).run Try.prog W = .ok (.string (strOfNums l)) W :=
  Kd.C_string Try.underlying43 Try.underlying5 Try.underlying9 h
theorem conv_in (Y : ByteArray) (n : Nat) (h : Y.size = n) (W : World) : (convert 9 43 (.string Y)).run Try.prog W = .ok (.slice (some ⟨W.heap.size, 0, none⟩) n (grownCap W n 0 5)) (Lib.bytesWorld W 5 Y) := by
  subst h
  exact Lib.run_convert_string_bytes (P := Try.prog) W 9 43 5 Y Try.underlying9 Try.underlying43 Try.underlying5
set_option maxHeartbeats 8000000 in
set_option maxRecDepth 100000 in
theorem stag_walk (key nonce beside sealed : ByteArray) (hk : key.size = 16) (hn : nonce.size = 12) (hb : beside.size ≤ 1500) (hs : sealed.size ≤ 1500) (g c0 c1 : Nat) (A0 A1 : Option Addr) (w : World) (hK : K5 w g A0 A1 c0 c1 key) :
    Calls Try.prog 64 #[.pointer (some ⟨g, 0, none⟩), .string nonce, .string beside, .string sealed] w fun e w' => e = .returned (.string (tagS key nonce beside sealed)) ∧ Below w.heap.size w w' := by
  obtain ⟨T, hT⟩ : ∃ T, T = fillS beside ++ fillS sealed ++ sizesS beside sealed := ⟨_, rfl⟩
  have hfb := fillS_size beside
  have hfs := fillS_size sealed
  have hsz := sizesS_size beside sealed
  have hTs : T.size % 16 = 0 ∧ T.size ≤ 3200 := by
    rw [hT, ByteArray.size_append, ByteArray.size_append, hfb, hfs, hsz]
    unfold zerosN
    omega
  obtain ⟨c0', d0', c, d, p1, p2, p3, p4, p5⟩ := gh_told (encS key zeros16) T (encS_size _ _) hTs.1 hTs.2
  have hend : tagS key nonce beside sealed = strOfNums (xorL (bytesOf (ghS (encS key zeros16) T)) (bytesOf (encS key (nonce ++ (⟨#[0, 0, 0, 1]⟩ : ByteArray))))) := by rw [hT, one4]; rfl
  have hnst : (nonce ++ (⟨#[0, 0, 0, 1]⟩ : ByteArray)).size = 16 := by rw [ByteArray.size_append, hn]; rfl
  rw [hend]
  have hwi := with_walk key (nonce ++ (⟨#[0, 0, 0, 1]⟩ : ByteArray)) hk hnst
  obtain ⟨EN, hEN⟩ : ∃ EN, EN = encS key (nonce ++ (⟨#[0, 0, 0, 1]⟩ : ByteArray)) := ⟨_, rfl⟩
  have hEs : EN.size = 16 := by rw [hEN]; exact encS_size _ _
  rw [← hEN] at hwi ⊢
  have hGs := text_size c d _ p3
  obtain ⟨GS, hGS⟩ : ∃ GS, GS = ghS (encS key zeros16) T := ⟨_, rfl⟩
  rw [← hGS] at p5 hGs ⊢
  have hX : T = fillS beside ++ fillS sealed ++ strOfNums (be 8 (8 * (beside.size : Int))) ++ strOfNums (be 8 (8 * (sealed.size : Int))) := by rw [hT, sizesS, ByteArray.append_assoc, ByteArray.append_assoc, ByteArray.append_assoc]
  have hp4 := fun W => Go.Proofs.Ytimokakcdmcnnaa.PSpecB.spec_l5Ghash.calls KG (encS key zeros16) T c d W p4
  rw [hX] at hp4
  have hz8 : ∀ x : Int, (strOfNums (be 8 x)).size = 8 := fun x => by rw [str_size, be_length]
  have hz8a := hz8 (8 * (beside.size : Int))
  have hz8b := hz8 (8 * (sealed.size : Int))
  have hzb : zerosN beside.size ≤ 15 ∧ zerosN sealed.size ≤ 15 := by unfold zerosN; omega
  have hq1 : ¬ 9223372036854775807 < (fillS beside).size + (fillS sealed).size := by omega
  have hq2 : ¬ 9223372036854775807 < (fillS beside).size + (fillS sealed).size + (strOfNums (be 8 (8 * (beside.size : Int)))).size := by omega
  have hq3 : ¬ 9223372036854775807 < (fillS beside).size + (fillS sealed).size + (strOfNums (be 8 (8 * (beside.size : Int)))).size + (strOfNums (be 8 (8 * (sealed.size : Int)))).size := by omega
  have hp5 := fun W => Go.Proofs.Ytimokakcdmcnnaa.PSpecB.spec_l5Told.calls KG c d GS W p5
  have hcg := conv_in GS 16 hGs
  have hce := conv_in EN 16 hEs
  have hbg := fun W => bytes_C W GS 16 hGs (by decide)
  have hbe := fun W => bytes_C W EN 16 hEs (by decide)
  have hx := xor16_walk (bytesOf GS) (bytesOf EN) (by rw [bytesOf_length]; exact hGs) (by rw [bytesOf_length]; exact hEs)
  have hcat : ¬ 9223372036854775807 < nonce.size + (⟨#[0, 0, 0, 1]⟩ : ByteArray).size := by rw [ByteArray.size_append] at hnst; omega
  have hfu1 := sfull_walk beside (by omega)
  have hfu2 := sfull_walk sealed (by omega)
  have hfx : ∀ (x : Int) (W : World), Calls Try.prog 96 #[.int .i64 x, .int .i64 8] W fun e w' => e = .returned (.string (strOfNums (be 8 x))) ∧ Below W.heap.size W w' := fun x W => sfixed_walk 8 (by decide) x W
  clear p1 p2 p3 p4 p5 hGS hEN hend hGs hEs hnst hX hz8 hz8a hz8b hzb
  have Hb := Lib.hid (And.intro hfb (And.intro hfs (And.intro hsz hn)))
  clear hfb hfs hsz hn
  have HT := Lib.hid hT
  clear hT
  have HB := Below.refl w.heap.size w
  go_enter Try.func64, Try.ntmps64
  go_wp2_with (first
    | (go_at_call_of 98 beside; refine (hfu1 _).mono ?_; rintro e w1 ⟨rfl, hb1⟩; have HB' := HB.trans (hb1.below.mono HB.size); clear HB hb1; have HB := HB'; clear HB')
    | (go_at_call_of 98 sealed; refine (hfu2 _).mono ?_; rintro e w1 ⟨rfl, hb1⟩; have HB' := HB.trans (hb1.below.mono HB.size); clear HB hb1; have HB := HB'; clear HB')
    | (go_at_call 96; refine (hfx _ _).mono ?_; rintro e w1 ⟨rfl, hb1⟩; have HB' := HB.trans (hb1.mono HB.size); clear HB hb1; have HB := HB'; have hf3 := (hK.below HB).f2; clear HB')
    | (go_at_call 100; refine (hp4 _).mono ?_; rintro e w1 ⟨rfl, hb1⟩; have HB' := HB.trans (hb1.mono HB.size); clear HB hb1; have HB := HB'; clear HB')
    | (go_at_call 99; refine (hp5 _).mono ?_; rintro e w1 ⟨rfl, hb1⟩; have HB' := HB.trans (hb1.mono HB.size); clear HB hb1; have HB := HB'; clear HB'))
  clear hq1 hq2 hq3 hf3 hp4 hp5 hfx hfu1 hfu2
  have HK := hK.below HB
  clear hK
  have k0 := HK.f0
  have k1 := HK.f1
  have n0 : (Lib.bytesWorld w1.drew 5 GS).cell? ⟨g, 0, none⟩ = some (.slice A0 176 c0) := ((HK.drew 1).below (bytes_B _ GS)).f0
  have n1 : (Lib.bytesWorld w1.drew 5 GS).cell? ⟨g, 1, none⟩ = some (.slice A1 256 c1) := ((HK.drew 1).below (bytes_B _ GS)).f1
  go_region_with (first
    | (go_at_call 93; refine (hwi A0 A1 c0 c1 _ (by first | exact (HK.drew 1).r0 | exact ((HK.drew 1).below (bytes_B _ GS)).r0) (by first | exact (HK.drew 1).r1 | exact ((HK.drew 1).below (bytes_B _ GS)).r1) HK.l0 HK.l1).mono ?_; rintro e w4 ⟨rfl, hb4⟩)
    | (go_at_call 89; refine (hx _ _ _ _ _ (by first | exact Kd.C_below (Kd.C_below (hbg w1.drew) hb4) (bytes_B _ EN) | exact Kd.C_below (hbg w4) (bytes_B _ EN) | exact hbg (Lib.bytesWorld w4 5 EN)) (by first | exact hbe w4 | exact Kd.C_below (hbe w4) (bytes_B _ GS) | exact hbe (Lib.bytesWorld w4 5 GS)) (grownCap_ge _ 16 0 5) (grownCap_ge _ 16 0 5)).mono ?_; rintro e w5 ⟨A, cc, rfl, l5, r5, hb5⟩; have hst := row_string A cc 16 _ _ r5; have HB5 : Below w.heap.size w w5 := (by first | exact below_step (below_step (below_step (below_step (below_drew HB) (bytes_B _ GS)) hb4) (bytes_B _ EN)) hb5 | exact below_step (below_step (below_step (below_step (below_drew HB) hb4) (bytes_B _ GS)) (bytes_B _ EN)) hb5 | exact below_step (below_step (below_step (below_step (below_drew HB) hb4) (bytes_B _ EN)) (bytes_B _ GS)) hb5)))
  all_goals (
    clear hwi hx hbg hbe hcg hce n0 n1 k0 k1
    go_wp2
    go_ret
    exact ⟨rfl, HB5⟩)
end Go.Proofs.YtimokakcdmcnnaaV.Aes
