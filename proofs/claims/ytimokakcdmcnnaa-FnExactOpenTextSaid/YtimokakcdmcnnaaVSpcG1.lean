/- Shared lemmas and walks of the AES laws of this seat. -/
import Derived.Test.YtimokakcdmcnnaaVSpc6
import Derived.Test.YtimokakcdmcnnaaVGcm3
import Derived.Lib.Hide
import Derived.Deep.RegionHeld3
import Derived.Deep.RegionWith
namespace Go.Proofs.YtimokakcdmcnnaaV.Aes
open Go.RowKit Go.Proofs.YtimokakcdmcnnaaV.PrintWords Go.Proofs.YtimokakcdmcnnaaV.PrintLast Go.Proofs.YtimokakcdmcnnaaV.PrintMore Go.Proofs.YtimokakcdmcnnaaV.Mem
set_option linter.unusedVariables false
set_option linter.unusedSimpArgs false

open Go.Proofs.Ytimokakcdmcnnaa.PSpecA Gcm
/-- A key of the reference that is ready, in memory. -/
structure K5 (w : World) (g : Nat) (A0 A1 : Option Addr) (c0 c1 : Nat) (key : ByteArray) : Prop where
  f0 : w.cell? ⟨g, 0, none⟩ = some (.slice A0 176 c0)
  f1 : w.cell? ⟨g, 1, none⟩ = some (.slice A1 256 c1)
  f2 : w.cell? ⟨g, 2, none⟩ = some (.string (encS key zeros16))
  r0 : Kd.C (Kd.int .u8) w A0 176 (KS key)
  r1 : Kd.C (Kd.int .u8) w A1 256 TB
  l0 : 176 ≤ c0
  l1 : 256 ≤ c1
  lt : g < w.heap.size
theorem K5.below {w w' : World} {g : Nat} {A0 A1 : Option Addr} {c0 c1 : Nat} {key : ByteArray} (h : K5 w g A0 A1 c0 c1 key) (hb : Below w.heap.size w w') : K5 w' g A0 A1 c0 c1 key := by
  have e : ∀ o, w'.cell? ⟨g, o, none⟩ = w.cell? ⟨g, o, none⟩ := fun o => by simp only [World.cell?, hb.block g h.lt]
  exact ⟨by rw [e]; exact h.f0, by rw [e]; exact h.f1, by rw [e]; exact h.f2, Kd.C_below h.r0 hb, Kd.C_below h.r1 hb, h.l0, h.l1, Nat.lt_of_lt_of_le h.lt hb.size⟩
theorem K5.drew {w : World} {g : Nat} {A0 A1 : Option Addr} {c0 c1 : Nat} {key : ByteArray} (h : K5 w g A0 A1 c0 c1 key) (n : Nat) : K5 (w.drewN n) g A0 A1 c0 c1 key := h.below (pw_below_drewN (Below.refl _ _) n)
theorem K5.made {w w2 w3 : World} {g : Nat} {A0 A1 : Option Addr} {c0 c1 : Nat} {key : ByteArray} (hb : w3.heap[g]? = some (.cells #[.slice A0 176 c0, .slice A1 256 c1, .string { data := #[] }] 83 (0, 0))) (hg : g < w3.heap.size)
    (q0 : Kd.C (Kd.int .u8) w2 A0 176 (KS key)) (q1 : Kd.C (Kd.int .u8) w2 A1 256 TB) (l0 : 176 ≤ c0) (l1 : 256 ≤ c1) (hB2 : Below w2.heap.size w2 w3) (hB : Below w.heap.size w w2) (h2 : g = w2.heap.size) :
    K5 (w3.setCell ⟨g, 2, none⟩ (.string (encS key zeros16))) g A0 A1 c0 c1 key ∧ Below w.heap.size w (w3.setCell ⟨g, 2, none⟩ (.string (encS key zeros16))) := by
  have h : (w3.setCell ⟨g, 2, none⟩ (.string (encS key zeros16))).heap[g]? = some (.cells #[.slice A0 176 c0, .slice A1 256 c1, .string (encS key zeros16)] 83 (0, 0)) := by
    unfold World.setCell
    rw [Array.getElem?_modify, if_pos rfl, hb]
    rfl
  have hB3 := hB2.setCell (p := ⟨g, 2, none⟩) (by rw [h2]; exact Nat.le_refl _) (.string (encS key zeros16))
  exact ⟨⟨by simp only [World.cell?, h]; rfl, by simp only [World.cell?, h]; rfl, by simp only [World.cell?, h]; rfl, Kd.C_below q0 hB3, Kd.C_below q1 hB3, l0, l1, by simpa using hg⟩, hB.trans (hB3.mono hB.size)⟩
/-- A key made ready by the reference: a pointer to it. -/
def K5Post (key : ByteArray) (w : World) (e : Ending) (w' : World) : Prop := ∃ (g : Nat) (A0 A1 : Option Addr) (c0 c1 : Nat), e = .returned (.pointer (some ⟨g, 0, none⟩)) ∧ K5 w' g A0 A1 c0 c1 key ∧ w.heap.size ≤ g ∧ Below w.heap.size w w'
theorem with_walk (key s : ByteArray) (hk : key.size = 16) (hs : s.size = 16) (A0 A1 : Option Addr) (c0 c1 : Nat) (w : World) (r0 : Kd.C (Kd.int .u8) w A0 176 (KS key)) (r1 : Kd.C (Kd.int .u8) w A1 256 TB) (l0 : 176 ≤ c0) (l1 : 256 ≤ c1) :
    Calls Try.prog 93 #[.slice A0 176 c0, .slice A1 256 c1, .string s] w fun e w' => e = .returned (.string (encS key s)) ∧ Below w.heap.size w w' := by
  obtain ⟨k, h⟩ := (ev_withTB key s hk hs).rounds
  have := spec_l3With.calls k A0 c0 (KS key) A1 c1 TB s _ w (by rw [KS_length key hk]; exact r0) (by rw [KS_length key hk]; exact l0) (by rw [TB_length]; exact r1) (by rw [TB_length]; exact l1) h
  rw [KS_length key hk, TB_length] at this
  exact this
/-- The reference's lists of bytes, behind one definition: a value that reads as a list. -/
def RowPost (l : List Int) (n : Nat) (w : World) (e : Ending) (w' : World) : Prop := ∃ (A : Option Addr) (c : Nat), e = .returned (.slice A n c) ∧ n ≤ c ∧ Kd.C (Kd.int .u8) w' A n l ∧ Below w.heap.size w w'
theorem RowPost.of {l : List Int} {n : Nat} (hn : l.length = n) {w : World} {e : Ending} {w' : World} (h : ∃ v : Value, e = .returned v ∧ Kd.R (Kd.int .u8) 5 w' w.heap.size (fun _ => True) v l ∧ Below w.heap.size w w') : RowPost l n w e w' := by
  subst hn
  obtain ⟨v, rfl, hr, hb⟩ := h
  obtain ⟨A, c, rfl, hc, hC⟩ := Kd.R_reads hr
  exact ⟨A, c, rfl, hc, hC, hb⟩
theorem keys_walk (key : ByteArray) (hk : key.size = 16) (w : World) : Calls Try.prog 52 #[.string key] w (RowPost (KS key) 176 w) := by
  obtain ⟨k, h⟩ := (ev_keys key hk).rounds
  exact (spec_l3Keys.calls k key _ w h).mono fun e w' h => RowPost.of (KS_length key hk) h
theorem table_walk (w : World) : Calls Try.prog 94 #[] w (RowPost TB 256 w) := by
  obtain ⟨k, h⟩ := ev_TB.rounds
  exact (spec_l3Table.calls k _ w h).mono fun e w' h => RowPost.of TB_length h
theorem sfull_walk (s : ByteArray) (hs : s.size ≤ 2000000) (w : World) : Calls Try.prog 98 #[.string s] w fun e w' => e = .returned (.string (fillS s)) ∧ Drawn0 w w' := by
  obtain ⟨k, h⟩ := (ev_full s hs).rounds
  exact Go.Proofs.Ytimokakcdmcnnaa.PSpecB.spec_l5Full.calls k s _ w h
theorem sfixed_walk (j : Nat) (hj : j ≤ 9) (x : Int) (w : World) : Calls Try.prog 96 #[.int .i64 x, .int .i64 (j : Int)] w fun e w' => e = .returned (.string (strOfNums (be j x))) ∧ Below w.heap.size w w' := by
  obtain ⟨k, h⟩ := (ev_fixed j x hj).rounds
  exact spec_l1Fixed.calls k x (j : Int) _ w h
def z16 : Array Value := u8s (List.replicate 16 0)
theorem make16 (W : World) : (Instr.makeSlice 43 (.int .i64 16) (.int .i64 16)).run Try.prog W = .ok (.slice (some ⟨W.heap.size, 0, none⟩) 16 16) (W.alloc (.cells z16 5 (0, 0))) := by kernel_rfl
theorem conv_made (W : World) (g n : Nat) (hg : W.heap.size = g) : (convert 43 9 (.slice (some ⟨g, 0, none⟩) 16 16)).run Try.prog ((W.alloc (.cells z16 5 (0, 0))).drewN n) = .ok (.string zeros16) ((W.alloc (.cells z16 5 (0, 0))).drewN n) := by
  subst hg
  have h := backAll (List.replicate 16 0) [] 16 rfl W.heap.size 16 _ (by rw [List.append_nil]; exact (At.made W 5 (List.replicate 16 0)).drew n)
  rw [← zeros16_rep] at h
  exact h
theorem conv_made1 (W : World) (g : Nat) (hg : W.heap.size = g) : (convert 43 9 (.slice (some ⟨g, 0, none⟩) 16 16)).run Try.prog (W.alloc (.cells z16 5 (0, 0))).drew = .ok (.string zeros16) (W.alloc (.cells z16 5 (0, 0))).drew := conv_made W g 1 hg
set_option maxHeartbeats 4000000 in
set_option maxRecDepth 100000 in
theorem l5Key_walk (key : ByteArray) (hk : key.size = 16) (w : World) : Calls Try.prog 63 #[.string key] w (K5Post key w) := by
  have hkw := keys_walk key hk
  have htw := table_walk
  have hmk := make16
  have hcv := conv_made1
  have hwi := with_walk key zeros16 hk zeros16_size
  go_enter Try.func63, Try.ntmps63
  go_wp2_with (first
    | (go_at_call 52; refine (hkw _).mono ?_; rintro e w1 ⟨A0, c0, rfl, l0, r0, hb1⟩)
    | (go_at_call 94; refine (htw _).mono ?_; rintro e w2 ⟨A1, c1, rfl, l1, r1, hb2⟩))
  have hB := hb1.trans (hb2.mono hb1.size)
  have hBW := below_alloc (Below.refl w2.heap.size w2) (.cells #[.slice A0 176 c0, .slice A1 256 c1, .string { data := #[] }] 83)
  have r0 := Kd.C_below r0 hb2
  have hblk : (w2.alloc (.cells #[.slice A0 176 c0, .slice A1 256 c1, .string { data := #[] }] 83)).heap[w2.heap.size]? = some (.cells #[.slice A0 176 c0, .slice A1 256 c1, .string { data := #[] }] 83 (0, 0)) := heap_alloc_new _ _
  have hlt : w2.heap.size < (w2.alloc (.cells #[.slice A0 176 c0, .slice A1 256 c1, .string { data := #[] }] 83)).heap.size := by simp
  obtain ⟨W, hW⟩ : ∃ W, W = w2.alloc (.cells #[.slice A0 176 c0, .slice A1 256 c1, .string { data := #[] }] 83) := ⟨_, rfl⟩
  obtain ⟨g, hg⟩ : ∃ g, g = w2.heap.size := ⟨_, rfl⟩
  rw [← hW] at hblk hBW hlt ⊢
  rw [← hg] at hblk hlt ⊢
  have Hg := Lib.hid hg
  have hgw : w.heap.size ≤ g := by rw [hg]; exact hB.size
  clear hW hg hb1 hb2
  have q0 := Kd.C_below r0 hBW
  have q1 := Kd.C_below r1 hBW
  have k0 : W.cell? ⟨g, 0, none⟩ = some (.slice A0 176 c0) := by simp only [World.cell?, hblk]; rfl
  have k1 : W.cell? ⟨g, 1, none⟩ = some (.slice A1 256 c1) := by simp only [World.cell?, hblk]; rfl
  have Hblk := Lib.hid hblk
  clear hblk
  go_region_with (first
    | (go_at_call 93; refine (hwi A0 A1 c0 c1 _ (Kd.C_drew (Kd.C_alloc q0 _)) (Kd.C_drew (Kd.C_alloc q1 _)) l0 l1).mono ?_; rintro e w3 ⟨rfl, hb3⟩; have hb4 := (below_drew (below_alloc (Below.refl W.heap.size W) (.cells z16 5 (0, 0)))).trans (hb3.mono (by simp)); clear k0 k1 hb3; have hblk : w3.heap[g]? = some (.cells #[.slice A0 176 c0, .slice A1 256 c1, .string { data := #[] }] 83 (0, 0)) := (by rw [hb4.block g hlt]; exact Hblk.out); have k0 : w3.cell? ⟨g, 0, none⟩ = some (.slice A0 176 c0) := (by simp only [World.cell?, hblk]; rfl); have k1 : w3.cell? ⟨g, 1, none⟩ = some (.slice A1 256 c1) := (by simp only [World.cell?, hblk]; rfl); have k2 : w3.cell? ⟨g, 2, none⟩ = some (.string { data := #[] }) := (by simp only [World.cell?, hblk]; rfl); have f2 : w3.frozen? ⟨g, 2, none⟩ = false := (by simp [World.frozen?, hblk]); have Hblk3 := Lib.hid hblk; clear hblk))
  all_goals (
    have fin : K5 (w3.setCell ⟨g, 2, none⟩ (.string (encS key zeros16))) g A0 A1 c0 c1 key ∧ Below w.heap.size w (w3.setCell ⟨g, 2, none⟩ (.string (encS key zeros16))) :=
      K5.made Hblk3.out (Nat.lt_of_lt_of_le hlt hb4.size) r0 r1 l0 l1 (hBW.trans (hb4.mono hBW.size)) hB Hg.out
    clear k0 k1 k2 f2 Hblk3 hb4 hB
    go_wp2
    go_ret
    exact ⟨g, A0, A1, c0, c1, rfl, fin.1, hgw, fin.2⟩)
end Go.Proofs.YtimokakcdmcnnaaV.Aes
