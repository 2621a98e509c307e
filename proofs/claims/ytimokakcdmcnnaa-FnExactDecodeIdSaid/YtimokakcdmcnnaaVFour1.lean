/- Shared lemmas and walks of the AES laws of this seat. -/
import Derived.Test.YtimokakcdmcnnaaVFour0
import Derived.Lib.Hide
import Derived.Deep.RegionHeld3
import Derived.Deep.RegionWith
namespace Go.Proofs.YtimokakcdmcnnaaV.Aes
open Go.RowKit Go.Proofs.YtimokakcdmcnnaaV.PrintWords Go.Proofs.YtimokakcdmcnnaaV.PrintLast Go.Proofs.YtimokakcdmcnnaaV.PrintMore Go.Proofs.YtimokakcdmcnnaaV.Mem
set_option linter.unusedVariables false
set_option linter.unusedSimpArgs false

open Go.Proofs.Ytimokakcdmcnnaa.PImplC Gcm
/-- Both halves, in memory: block g. -/
structure Hv (w : World) (g gc gb gk cap n : Nat) (key : ByteArray) (l r : List Int) : Prop where
  blk : w.heap[g]? = some (.cells #[.pointer (some ⟨gc, 0, none⟩), .int .i64 (n : Int), .string (strOfNums l), .string (strOfNums r)] 109 (0, 0))
  ci : Ci w gc gb gk cap BX (KS key)
  nc : g ≠ gc
  nb : g ≠ gb
  nk : g ≠ gk
variable {w w' : World} {g gc gb gk cap n : Nat} {key : ByteArray} {l r : List Int}
theorem Hv.lt (h : Hv w g gc gb gk cap n key l r) : g < w.heap.size := (Array.getElem?_eq_some_iff.1 h.blk).1
theorem Hv.below (h : Hv w g gc gb gk cap n key l r) (hb : Below w.heap.size w w') : Hv w' g gc gb gk cap n key l r :=
  ⟨by rw [hb.block g h.lt]; exact h.blk, h.ci.below hb h.ci.lt h.ci.atBox.lt h.ci.ltk, h.nc, h.nb, h.nk⟩
theorem Hv.c0 (h : Hv w g gc gb gk cap n key l r) : w.cell? ⟨g, 0, none⟩ = some (.pointer (some ⟨gc, 0, none⟩)) := by simp only [World.cell?, h.blk]; rfl
theorem Hv.c1 (h : Hv w g gc gb gk cap n key l r) : w.cell? ⟨g, 1, none⟩ = some (.int .i64 (n : Int)) := by simp only [World.cell?, h.blk]; rfl
theorem Hv.c2 (h : Hv w g gc gb gk cap n key l r) : w.cell? ⟨g, 2, none⟩ = some (.string (strOfNums l)) := by simp only [World.cell?, h.blk]; rfl
theorem Hv.c3 (h : Hv w g gc gb gk cap n key l r) : w.cell? ⟨g, 3, none⟩ = some (.string (strOfNums r)) := by simp only [World.cell?, h.blk]; rfl
theorem Hv.f2 (h : Hv w g gc gb gk cap n key l r) : w.frozen? ⟨g, 2, none⟩ = false := by simp [World.frozen?, h.blk]
theorem Hv.f3 (h : Hv w g gc gb gk cap n key l r) : w.frozen? ⟨g, 3, none⟩ = false := by simp [World.frozen?, h.blk]
theorem Ci.setOther {bx ks : List Int} (h : Ci w gc gb gk cap bx ks) (a : Addr) (v : Value) (n1 : a.block ≠ gc) (n2 : a.block ≠ gb) (n3 : a.block ≠ gk) : Ci (w.setCell a v) gc gb gk cap bx ks :=
  h.but (But.setCell (But.refl w.heap.size a.block w) a (.inl rfl) v) h.lt h.atBox.lt h.ltk (Ne.symm n1) (Ne.symm n2) (Ne.symm n3)
theorem Hv.setL (h : Hv w g gc gb gk cap n key l r) (l' : List Int) : Hv (w.setCell ⟨g, 2, none⟩ (.string (strOfNums l'))) g gc gb gk cap n key l' r :=
  ⟨by unfold World.setCell; rw [Array.getElem?_modify, if_pos rfl, h.blk]; rfl, h.ci.setOther _ _ h.nc h.nb h.nk, h.nc, h.nb, h.nk⟩
theorem Hv.setR (h : Hv w g gc gb gk cap n key l r) (r' : List Int) : Hv (w.setCell ⟨g, 3, none⟩ (.string (strOfNums r'))) g gc gb gk cap n key l r' :=
  ⟨by unfold World.setCell; rw [Array.getElem?_modify, if_pos rfl, h.blk]; rfl, h.ci.setOther _ _ h.nc h.nb h.nk, h.nc, h.nb, h.nk⟩
theorem Hv.other (h : Hv w g gc gb gk cap n key l r) (a : Addr) (v : Value) (n0 : a.block ≠ g) (n1 : a.block ≠ gc) (n2 : a.block ≠ gb) (n3 : a.block ≠ gk) : Hv (w.setCell a v) g gc gb gk cap n key l r :=
  ⟨by rw [Below.heap_setCell w a v g (Ne.symm n0)]; exact h.blk, h.ci.setOther a v n1 n2 n3, h.nc, h.nb, h.nk⟩
/-- What a method that works on both halves leaves: the halves turned, all else that was there as it was. -/
def HvPost (g gc gb gk cap n : Nat) (key : ByteArray) (l r : List Int) (w : World) (e : Ending) (w' : World) : Prop :=
  e = .returned (.tuple #[]) ∧ Hv w' g gc gb gk cap n key l r ∧ But w.heap.size g w w'
set_option maxHeartbeats 4000000 in
set_option maxRecDepth 100000 in
theorem trim_even (hH : Hv w g gc gb gk cap n key l r) (hn : n % 2 = 0) : Calls Try.prog 121 #[.pointer (some ⟨g, 0, none⟩)] w (HvPost g gc gb gk cap n key l r w) := by
  have k1 := hH.c1
  have h2 : ((n : Int) % 2 == 0) = true := by
    have : (n : Int) % 2 = 0 := by omega
    simp [this]
  have h2' : (n : Int) % 2 = 0 := by omega
  have h0 : (0 : Int) ≤ (n : Int) := by omega
  go_enter Try.func121, Try.ntmps121
  go_wp2
  go_end0
  exact ⟨rfl, hH, But.refl _ _ _⟩
theorem conv_n (Y : ByteArray) (n : Nat) (h : Y.size = n) (W : World) : (convert 9 43 (.string Y)).run Try.prog W = .ok (.slice (some ⟨W.heap.size, 0, none⟩) n (grownCap W n 0 5)) (Lib.bytesWorld W 5 Y) := by
  subst h
  exact Lib.run_convert_string_bytes (P := Try.prog) W 9 43 5 Y Try.underlying9 Try.underlying43 Try.underlying5
theorem bytes_At (W : World) (l : List Int) (hl : Bt l) (z : List Int) (hz : z = List.replicate (grownCap W l.length 0 5 - l.length) 0) : At (Lib.bytesWorld W 5 (strOfNums l)) W.heap.size 5 (l ++ z) := by
  have h := At.bytes W 5 (strOfNums l)
  rw [Gcm.bytes_str l hl, str_size, ← hz] at h
  exact h
theorem two_made (hH : Hv w g gc gb gk cap n key l r) (a b : List Int) (ha : Bt a) (hb : Bt b) (A B : ByteArray) (hA : A = strOfNums a) (hB : B = strOfNums b) :
    (∃ z, At (Lib.bytesWorld (Lib.bytesWorld w.drew 5 A) 5 B) w.heap.size 5 (a ++ z)) ∧ (∃ z, At (Lib.bytesWorld (Lib.bytesWorld w.drew 5 A) 5 B) (Lib.bytesWorld w.drew 5 A).heap.size 5 (b ++ z)) ∧ w.heap.size ≠ (Lib.bytesWorld w.drew 5 A).heap.size ∧
      w.heap.size ≤ (Lib.bytesWorld w.drew 5 A).heap.size ∧ Hv (Lib.bytesWorld (Lib.bytesWorld w.drew 5 A) 5 B) g gc gb gk cap n key l r ∧ Below w.heap.size w (Lib.bytesWorld (Lib.bytesWorld w.drew 5 A) 5 B) := by
  subst hA; subst hB
  have h1 := bytes_At w.drew a ha _ rfl
  have h2 := bytes_At (Lib.bytesWorld w.drew 5 (strOfNums a)) b hb _ rfl
  have hs : (Lib.bytesWorld w.drew 5 (strOfNums a)).heap.size = w.heap.size + 1 := Lib.bytesWorld_size ..
  have b1 := bytes_below (pw_below_drewN (Below.refl w.heap.size w) 1) (Nat.le_refl _) 5 (strOfNums a)
  have b2 : Below w.heap.size w (Lib.bytesWorld (Lib.bytesWorld w.drew 5 (strOfNums a)) 5 (strOfNums b)) := bytes_below b1 b1.size 5 (strOfNums b)
  refine ⟨⟨_, h1.below (bytes_below (Below.refl _ _) (Nat.le_refl _) 5 (strOfNums b)) h1.lt⟩, ⟨_, h2⟩, by omega, by omega, hH.below b2, b2⟩
set_option maxHeartbeats 8000000 in
set_option maxRecDepth 100000 in
theorem trim_odd (hH : Hv w g gc gb gk cap n key l r) (hn : n % 2 = 1) (h : Nat) (h1 : l.length = h + 1) (h2 : r.length = h + 1) (hh : h ≤ 30) (bl : Bt l) (br : Bt r) :
    Calls Try.prog 121 #[.pointer (some ⟨g, 0, none⟩)] w (HvPost g gc gb gk cap n key (trL true l) (trR true r) w) := by
  have k1 := hH.c1
  have hm : ((n : Int) % 2 == 0) = false := by
    have : (n : Int) % 2 = 1 := by omega
    simp [this]
  have hm' : ¬ (n : Int) % 2 = 0 := by omega
  have h0 : (0 : Int) ≤ (n : Int) := by omega
  have k2 := hH.c2
  have k3 := hH.c3
  obtain ⟨m, hmh⟩ : ∃ m, m = h + 1 := ⟨_, rfl⟩
  rw [← hmh] at h1 h2
  have cl := conv_n (strOfNums l) m (by rw [str_size]; exact h1)
  have cr := conv_n (strOfNums r) m (by rw [str_size]; exact h2)
  obtain ⟨L, hL⟩ : ∃ L, L = strOfNums l := ⟨_, rfl⟩
  obtain ⟨R, hR⟩ : ∃ R, R = strOfNums r := ⟨_, rfl⟩
  rw [← hL] at k2 cl
  rw [← hR] at k3 cr
  have HL := Lib.hid hL
  have HR := Lib.hid hR
  have Hm := Lib.hid hmh
  have H1 := Lib.hid h1
  have H2 := Lib.hid h2
  have hb : ∀ (W : World) (Y : ByteArray) (o : Nat), g < W.heap.size → (Lib.bytesWorld W 5 Y).cell? ⟨g, o, none⟩ = W.cell? ⟨g, o, none⟩ := fun W Y o h => by simp only [World.cell?, Lib.bytesWorld_at_old W 5 Y g h]
  have hlt := hH.lt
  have n3 : (Lib.bytesWorld w.drew 5 L).cell? ⟨g, 3, none⟩ = some (.string R) := (hb w.drew L 3 hlt).trans k3
  have n2 : (Lib.bytesWorld w.drew 5 R).cell? ⟨g, 2, none⟩ = some (.string L) := (hb w.drew R 2 hlt).trans k2
  clear hL hR hmh h1 h2 hb
  go_enter Try.func121, Try.ntmps121
  go_wp2
  go_region_with (first | (go_at_call 1000; fail))
  all_goals first
    | (
      obtain ⟨⟨zl, AL⟩, ⟨zr, AR⟩, hne0, gR, HZ, BZ⟩ := two_made hH l r bl br L R HL.out HR.out
      have hne := Ne.symm hne0
      have gL : w.heap.size ≤ w.heap.size := Nat.le_refl _
      generalize grownCap (Lib.bytesWorld w.drew 5 L) m 0 5 = capR
      generalize grownCap w.drew m 0 5 = capL
      generalize Lib.bytesWorld (Lib.bytesWorld w.drew 5 L) 5 R = Z at AL AR HZ BZ ⊢
      clear n2 n3
      generalize (Lib.bytesWorld w.drew 5 L).heap.size = bR at AR hne0 hne gR ⊢
      have hm1 := Hm.out
      have h1 := H1.out
      have h2 := H2.out
      have hl0 : h < l.length := by omega
      have hr0 : 0 < r.length := by omega
      have cL := AL.cell (i := h) (by rw [List.length_append]; omega)
      rw [rd_append _ _ _ hl0] at cL
      have fL := AL.frozen (i := h) (by rw [List.length_append]; omega)
      have tl : trL true l = l.set h (Go.bits .and .u8 (rd l (h : Int)) 240) := by unfold trL; rw [if_pos rfl, show l.length - 1 = h by omega]
      have tr : trR true r = r.set 0 (Go.bits .and .u8 (rd r 0) 15) := by unfold trR; rw [if_pos rfl]
      have A1L := AL.set (i := h) (x := Go.bits .and .u8 (rd l (h : Int)) 240)
      rw [List.set_append_left _ _ hl0, ← tl] at A1L
      have A1R := AR.other (a := ⟨w.heap.size, h, none⟩) (v := .int .u8 (Go.bits .and .u8 (rd l (h : Int)) 240)) hne
      have cR := A1R.cell (i := 0) (by rw [List.length_append]; omega)
      rw [rd_append _ _ _ hr0, show ((0 : Nat) : Int) = 0 from rfl] at cR
      have fR := A1R.frozen (i := 0) (by rw [List.length_append]; omega)
      have A2R := A1R.set (i := 0) (x := Go.bits .and .u8 (rd r 0) 15)
      rw [List.set_append_left _ _ hr0, ← tr] at A2R
      have A2L := A1L.other (a := ⟨bR, 0, none⟩) (v := .int .u8 (Go.bits .and .u8 (rd r 0) 15)) (Ne.symm hne)
      have bkL := fun cp => backAll (trL true l) zl m (by rw [trL_length]; exact h1) (w.heap.size) cp _ A2L
      have bkR := fun cp => backAll (trR true r) zr m (by rw [trR_length]; exact h2) bR cp _ A2R
      have gcl := hH.ci.lt
      have gbl := hH.ci.atBox.lt
      have gkl := hH.ci.ltk
      have HZ2 := (HZ.other ⟨w.heap.size, h, none⟩ (.int .u8 (Go.bits .and .u8 (rd l (h : Int)) 240)) (Nat.ne_of_gt (Nat.lt_of_lt_of_le hlt gL)) (Nat.ne_of_gt (Nat.lt_of_lt_of_le gcl gL)) (Nat.ne_of_gt (Nat.lt_of_lt_of_le gbl gL)) (Nat.ne_of_gt (Nat.lt_of_lt_of_le gkl gL))).other ⟨bR, 0, none⟩ (.int .u8 (Go.bits .and .u8 (rd r 0) 15)) (Nat.ne_of_gt (Nat.lt_of_lt_of_le hlt gR)) (Nat.ne_of_gt (Nat.lt_of_lt_of_le gcl gR)) (Nat.ne_of_gt (Nat.lt_of_lt_of_le gbl gR)) (Nat.ne_of_gt (Nat.lt_of_lt_of_le gkl gR))
      have HZ3 := HZ2.setL (trL true l)
      have HZ4 := HZ3.setR (trR true r)
      have z2 := HZ2.c2
      have zf2 := HZ2.f2
      have z3 := HZ3.c3
      have zf3 := HZ3.f3
      have BT : But w.heap.size g w _ := (((((But.of g BZ).setCell ⟨w.heap.size, h, none⟩ (.inr gL) (.int .u8 (Go.bits .and .u8 (rd l (h : Int)) 240))).setCell ⟨bR, 0, none⟩ (.inr gR) (.int .u8 (Go.bits .and .u8 (rd r 0) 15))).setCell ⟨g, 2, none⟩ (.inl rfl) (.string (strOfNums (trL true l)))).setCell ⟨g, 3, none⟩ (.inl rfl) (.string (strOfNums (trR true r))))
      have hq : (m : Int) - 1 = (h : Int) := by omega
      have hq1 : (h : Int) < (m : Int) := by omega
      have hq2 : (0 : Int) ≤ (h : Int) := by omega
      have hq3 : 0 < m := by omega
      have hq4 : h < m := by omega
      have hq5 : (0 : Int) < (m : Int) := by omega
      have ng1 : ¬ g = w.heap.size := Nat.ne_of_lt (Nat.lt_of_lt_of_le hlt gL)
      have ng2 : ¬ g = bR := Nat.ne_of_lt (Nat.lt_of_lt_of_le hlt gR)
      have FIN := Lib.hid (And.intro HZ4 BT)
      clear tl tr A1L A1R A2L A2R HZ HZ2 HZ3 HZ4 BT AL AR hm1 h1 h2 hl0 hr0 k1 k2 k3 cl cr gcl gbl gkl gL gR BZ
      go_wp2
      go_end0
      exact ⟨rfl, FIN.out.1, FIN.out.2⟩)
    | (
      obtain ⟨⟨zr, AR⟩, ⟨zl, AL⟩, hne, gL, HZ, BZ⟩ := two_made hH r l br bl R L HR.out HL.out
      have gR : w.heap.size ≤ w.heap.size := Nat.le_refl _
      generalize grownCap (Lib.bytesWorld w.drew 5 R) m 0 5 = capL
      generalize grownCap w.drew m 0 5 = capR
      generalize Lib.bytesWorld (Lib.bytesWorld w.drew 5 R) 5 L = Z at AL AR HZ BZ ⊢
      clear n2 n3
      generalize (Lib.bytesWorld w.drew 5 R).heap.size = bL at AL hne gL ⊢
      have hm1 := Hm.out
      have h1 := H1.out
      have h2 := H2.out
      have hl0 : h < l.length := by omega
      have hr0 : 0 < r.length := by omega
      have cL := AL.cell (i := h) (by rw [List.length_append]; omega)
      rw [rd_append _ _ _ hl0] at cL
      have fL := AL.frozen (i := h) (by rw [List.length_append]; omega)
      have tl : trL true l = l.set h (Go.bits .and .u8 (rd l (h : Int)) 240) := by unfold trL; rw [if_pos rfl, show l.length - 1 = h by omega]
      have tr : trR true r = r.set 0 (Go.bits .and .u8 (rd r 0) 15) := by unfold trR; rw [if_pos rfl]
      have A1L := AL.set (i := h) (x := Go.bits .and .u8 (rd l (h : Int)) 240)
      rw [List.set_append_left _ _ hl0, ← tl] at A1L
      have A1R := AR.other (a := ⟨bL, h, none⟩) (v := .int .u8 (Go.bits .and .u8 (rd l (h : Int)) 240)) hne
      have cR := A1R.cell (i := 0) (by rw [List.length_append]; omega)
      rw [rd_append _ _ _ hr0, show ((0 : Nat) : Int) = 0 from rfl] at cR
      have fR := A1R.frozen (i := 0) (by rw [List.length_append]; omega)
      have A2R := A1R.set (i := 0) (x := Go.bits .and .u8 (rd r 0) 15)
      rw [List.set_append_left _ _ hr0, ← tr] at A2R
      have A2L := A1L.other (a := ⟨w.heap.size, 0, none⟩) (v := .int .u8 (Go.bits .and .u8 (rd r 0) 15)) (Ne.symm hne)
      have bkL := fun cp => backAll (trL true l) zl m (by rw [trL_length]; exact h1) bL cp _ A2L
      have bkR := fun cp => backAll (trR true r) zr m (by rw [trR_length]; exact h2) (w.heap.size) cp _ A2R
      have gcl := hH.ci.lt
      have gbl := hH.ci.atBox.lt
      have gkl := hH.ci.ltk
      have HZ2 := (HZ.other ⟨bL, h, none⟩ (.int .u8 (Go.bits .and .u8 (rd l (h : Int)) 240)) (Nat.ne_of_gt (Nat.lt_of_lt_of_le hlt gL)) (Nat.ne_of_gt (Nat.lt_of_lt_of_le gcl gL)) (Nat.ne_of_gt (Nat.lt_of_lt_of_le gbl gL)) (Nat.ne_of_gt (Nat.lt_of_lt_of_le gkl gL))).other ⟨w.heap.size, 0, none⟩ (.int .u8 (Go.bits .and .u8 (rd r 0) 15)) (Nat.ne_of_gt (Nat.lt_of_lt_of_le hlt gR)) (Nat.ne_of_gt (Nat.lt_of_lt_of_le gcl gR)) (Nat.ne_of_gt (Nat.lt_of_lt_of_le gbl gR)) (Nat.ne_of_gt (Nat.lt_of_lt_of_le gkl gR))
      have HZ3 := HZ2.setL (trL true l)
      have HZ4 := HZ3.setR (trR true r)
      have z2 := HZ2.c2
      have zf2 := HZ2.f2
      have z3 := HZ3.c3
      have zf3 := HZ3.f3
      have BT : But w.heap.size g w _ := (((((But.of g BZ).setCell ⟨bL, h, none⟩ (.inr gL) (.int .u8 (Go.bits .and .u8 (rd l (h : Int)) 240))).setCell ⟨w.heap.size, 0, none⟩ (.inr gR) (.int .u8 (Go.bits .and .u8 (rd r 0) 15))).setCell ⟨g, 2, none⟩ (.inl rfl) (.string (strOfNums (trL true l)))).setCell ⟨g, 3, none⟩ (.inl rfl) (.string (strOfNums (trR true r))))
      have hq : (m : Int) - 1 = (h : Int) := by omega
      have hq1 : (h : Int) < (m : Int) := by omega
      have hq2 : (0 : Int) ≤ (h : Int) := by omega
      have hq3 : 0 < m := by omega
      have hq4 : h < m := by omega
      have hq5 : (0 : Int) < (m : Int) := by omega
      have ng1 : ¬ g = bL := Nat.ne_of_lt (Nat.lt_of_lt_of_le hlt gL)
      have ng2 : ¬ g = w.heap.size := Nat.ne_of_lt (Nat.lt_of_lt_of_le hlt gR)
      have FIN := Lib.hid (And.intro HZ4 BT)
      clear tl tr A1L A1R A2L A2R HZ HZ2 HZ3 HZ4 BT AL AR hm1 h1 h2 hl0 hr0 k1 k2 k3 cl cr gcl gbl gkl gL gR BZ
      go_wp2
      go_end0
      exact ⟨rfl, FIN.out.1, FIN.out.2⟩)
end Go.Proofs.YtimokakcdmcnnaaV.Aes
