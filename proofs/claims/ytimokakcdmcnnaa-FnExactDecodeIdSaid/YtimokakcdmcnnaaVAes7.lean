/- Shared lemmas and walks of the AES laws of this seat. -/
import Derived.Test.YtimokakcdmcnnaaVAes5
namespace Go.Proofs.YtimokakcdmcnnaaV.Aes
open Go.RowKit Go.Proofs.YtimokakcdmcnnaaV.PrintWords Go.Proofs.YtimokakcdmcnnaaV.PrintLast Go.Proofs.YtimokakcdmcnnaaV.PrintMore Go.Proofs.YtimokakcdmcnnaaV.Mem
set_option linter.unusedVariables false
set_option linter.unusedSimpArgs false

/-- Part of a slice of bytes. -/
theorem run_slice_part (G o C n l h : Nat) (hl : l ≤ h) (hh : h ≤ C) (hC : l < C) (vl vh : Int) (el : vl = (l : Int)) (eh : vh = (h : Int)) (w : World) :
    (Instr.slice 43 (.slice (some ⟨G, o, none⟩) n C) (some (.int .i64 vl)) (some (.int .i64 vh)) none).run Try.prog w = .ok (.slice (some ⟨G, o + l, none⟩) (h - l) (C - l)) w := by
  subst el; subst eh
  have hm : ¬ C = l := by omega
  go_simp
theorem conv16 (s : ByteArray) (hs : s.size = 16) (wx : World) : (convert 9 43 (.string s)).run Try.prog wx = .ok (.slice (some ⟨wx.heap.size, 0, none⟩) 16 (grownCap wx 16 0 5)) (Lib.bytesWorld wx 5 s) := by
  have := Lib.run_convert_string_bytes (P := Try.prog) wx 9 43 5 s Try.underlying9 Try.underlying43 Try.underlying5
  rw [hs] at this
  exact this
/-- A whole block back to a text. -/
theorem back16 (l z : List Int) (hl : l.length = 16) (g cap : Nat) (w : World) (h : At w g 5 (l ++ z)) : (convert 43 9 (.slice (some ⟨g, 0, none⟩) 16 cap)).run Try.prog w = .ok (.string (strOfNums l)) w := by
  refine run_convert_bytes_arg (P := Try.prog) w 43 5 Try.underlying43 Try.underlying5 g 0 16 cap l hl (fun i hi => ?_) 9 Try.underlying9
  rw [h.cell (by simp; omega)]
  have : i < l.length := by omega
  simp [rd, List.getD_eq_getElem?_getD, List.getElem?_append_left this]
theorem addKey_walk' (bx ks b z : List Int) (r : Nat) (hr : r ≤ 10) (hb : b.length = 16) (hk : 176 ≤ ks.length) (g gb gk cap gB capB : Nat) (R : Int) (hR : R = (r : Int)) (w : World) (hC : Ci w g gb gk cap bx ks) (hB : At w gB 5 (b ++ z)) (n1 : g ≠ gB) (n3 : gk ≠ gB) :
    Calls Try.prog 90 #[.pointer (some ⟨g, 0, none⟩), .slice (some ⟨gB, 0, none⟩) 16 capB, .int .i64 R] w fun e w' => e = .returned (.tuple #[]) ∧ At w' gB 5 (addKL ks r b ++ z) ∧ But w.heap.size gB w w' := by
  subst hR
  exact addKey_walk bx ks b z r hr hb hk g gb gk cap gB capB w hC hB n1 n3
set_option maxHeartbeats 8000000 in
set_option maxRecDepth 100000 in
theorem encrypt_walk (bx ks : List Int) (hbx : bx.length = 512) (hbt : Bt bx) (hk : 176 ≤ ks.length) (g gb gk cap : Nat) (s : ByteArray) (hs : s.size = 16) (w : World) (hC : Ci w g gb gk cap bx ks) :
    Calls Try.prog 59 #[.pointer (some ⟨g, 0, none⟩), .string s] w fun e w' => e = .returned (.string (strOfNums (encN ks bx (bytesOf s) 10))) ∧ Below w.heap.size w w' := by
  have hcv := conv16 s hs
  have hb0 := At.bytes w 5 s
  have hB0 := bytes_below (Below.refl w.heap.size w) (Nat.le_refl _) 5 s
  rw [hs] at hb0
  obtain ⟨z, hz⟩ : ∃ z, z = List.replicate (grownCap w 16 0 5 - 16) (0 : Int) := ⟨_, rfl⟩
  rw [← hz] at hb0
  have hzb : Bt z := by rw [hz]; exact Bt.zeros _
  clear hz
  have hg1 := hC.lt
  have hg2 := hC.atBox.lt
  have hg3 := hC.ltk
  have hbl : (bytesOf s).length = 16 := by rw [bytesOf_length]; exact hs
  have hbb := Bt.bytes s
  have hB0s := hB0.size
  obtain ⟨b, hb⟩ : ∃ b, b = bytesOf s := ⟨_, rfl⟩
  rw [← hb] at hb0 hbl hbb ⊢
  clear hb
  go_enter Try.func59, Try.ntmps59
  go_wp2_with (go_at_call 90; refine (addKey_walk bx ks b z 0 (by omega) hbl hk g gb gk cap _ _ _ (hC.below hB0 hg1 hg2 hg3) hb0 (by omega) (by omega)).mono ?_; rintro e w1 ⟨rfl, hA, hBt⟩)
  have hBl : Below w.heap.size w w1 := But.below ((But.of _ hB0).trans (hBt.mono hB0s)) (Nat.le_refl _)
  clear hBt hB0 hb0 hcv
  go_loopw [6] (fun v wr => ∃ r : Nat, r ≤ 10 ∧ v = .int .i64 ((r + 1 : Nat) : Int) ∧ At wr w.heap.size 5 (encN ks bx b r ++ z) ∧ Below w.heap.size w wr)
    (fun v _ => 11 - (intOf v).toNat)
  case atStart => exact ⟨0, by omega, rfl, hA, hBl⟩
  case round =>
    clear hA hBl
    obtain ⟨r, hr, rfl, hA, hBl⟩ := hrel
    have hel := encN_length ks bx b r
    have heb := encN_bt ks bx b r
    obtain ⟨e, he⟩ : ∃ e, e = encN ks bx b r := ⟨_, rfl⟩
    by_cases h10 : r < 10
    · rw [← he] at hA hel heb
      have hd10 : decide (((r + 1 : Nat) : Int) ≤ 10) = true := decide_eq_true (by omega)
      go_wp2
      try rw [hd10]
      go_loopw [21] (fun v wx => ∃ i : Nat, i ≤ 16 ∧ v = .int .i64 i ∧ At wx w.heap.size 5 ((mapL bx e).take i ++ e.drop i ++ z) ∧ Below w.heap.size w wx)
        (fun v _ => 16 - (intOf v).toNat)
      case atStart => exact ⟨0, by omega, rfl, by rw [show (mapL bx e).take 0 ++ e.drop 0 ++ z = e ++ z from tab_start _ _ _ _]; exact hA, hBl⟩
      case round =>
        clear hA hBl
        rename_i wx
        obtain ⟨i, hi, rfl, hA, hBl⟩ := hrel
        by_cases h : i < 16
        · have hl : ((mapL bx e).take i ++ e.drop i ++ z).length = 16 + z.length := tab_both _ _ _ _ hel i hi
          have c2 : wr.cell? ⟨w.heap.size, i, none⟩ = some (.int .u8 (rd e (i : Int))) := by
            rw [hA.cell (by omega)]
            rw [show rd ((mapL bx e).take i ++ e.drop i ++ z) (i : Int) = rd e (i : Int) from tab_rest _ _ _ _ hel i i (Nat.le_refl _) h]
          have f2 : wr.frozen? ⟨w.heap.size, i, none⟩ = false := hA.frozen (by omega)
          have hvb := heb.rd i
          obtain ⟨x, hx⟩ : ∃ x : Nat, rd e (i : Int) = (x : Int) := Int.eq_ofNat_of_zero_le hvb.1
          have hx2 : x < 256 := by omega
          rw [hx] at c2
          have hCw := hC.below hBl hg1 hg2 hg3
          have c0 := hCw.box
          have c1 : wr.cell? ⟨gb, x, none⟩ = some (.int .u8 (rd bx (x : Int))) := hCw.atBox.cell (by omega)
          have fin : At (wr.setCell ⟨w.heap.size, i, none⟩ (.int .u8 (rd bx (x : Int)))) w.heap.size 5 ((mapL bx e).take (i + 1) ++ e.drop (i + 1) ++ z) ∧
              Below w.heap.size w (wr.setCell ⟨w.heap.size, i, none⟩ (.int .u8 (rd bx (x : Int)))) := by
            have hs := hA.set (i := i) (x := rd bx (x : Int))
            have e2 : ((mapL bx e).take i ++ e.drop i ++ z).set i (rd bx (x : Int)) = (mapL bx e).take (i + 1) ++ e.drop (i + 1) ++ z := by
              rw [← hx]
              exact tab_step 16 (fun i => rd bx (rd e (i : Int))) e z hel i h
            rw [e2] at hs
            exact ⟨hs, hBl.setCell (Nat.le_refl _) _⟩
          clear hA hBl hl hvb hx hCw hd10
          go_wp2
          clear c0 c1 c2 f2
          go_roundw
          case rel => exact ⟨i + 1, by omega, by go_num, fin.1, fin.2⟩
          case measure => simp [intOf]; omega
        · have : i = 16 := by omega
          subst this
          rw [show (mapL bx e).take 16 ++ e.drop 16 ++ z = mapL bx e ++ z from tab_end _ _ _ _ hel] at hA
          have hml := mapL_length bx e
          go_wp2_with (go_at_call 92; refine (shift_walk (mapL bx e) z 1 (by decide) hml w.heap.size _ _ hA).mono ?_; rintro e w2 ⟨rfl, hA2, hBt2⟩)
          have hBl2 : Below w.heap.size w w2 := But.below ((But.of w.heap.size hBl).trans (hBt2.mono hBl.size)) (Nat.le_refl _)
          obtain ⟨m, hm⟩ : ∃ m, m = shiftL 1 (mapL bx e) := ⟨_, rfl⟩
          have hmb : Bt m := by rw [hm]; exact shiftL_bt _ _ (mapL_bt _ _ hbt heb)
          have hml2 : m.length = 16 := by rw [hm]; exact shiftL_length _ _
          have hmid : encMid bx (r + 1) e = if r + 1 < 10 then mixN [2, 3, 1, 1] m 4 else m := by rw [hm]; rfl
          rw [← hm] at hA2
          clear hm hA hBl hBt2 hml heb hel
          go_loopw [9] (fun v wx => ∃ q c : Nat, (q ≤ 4 * c ∧ 4 * c ≤ q) ∧ c ≤ 4 ∧ (c = 0 ∨ r + 1 < 10) ∧ v = .int .i64 (q : Int) ∧ At wx w.heap.size 5 (mixN [2, 3, 1, 1] m c ++ z) ∧ Below w.heap.size w wx)
            (fun v _ => 16 - (intOf v).toNat)
          case atStart => exact ⟨0, 0, ⟨by omega, by omega⟩, by omega, .inl rfl, rfl, hA2, hBl2⟩
          case round =>
            clear hA2 hBl2
            obtain ⟨q, c, hq, hc, hcr, rfl, hA, hBl⟩ := hrel
            have hmc := mixN_length [2, 3, 1, 1] m hml2 c hc
            have hmcb := mixN_bt [2, 3, 1, 1] m hmb c
            by_cases h9 : r + 1 < 10
            · have h9' : (r : Int) + 1 < 10 := by omega
              by_cases h4 : c < 4
              · have hq16 : (q : Int) < 16 := by omega
                have hcap : 16 ≤ grownCap w 16 0 5 := grownCap_ge w 16 0 5
                have hw4 : IntKind.i64.wrap ((q : Int) + 4) = (q : Int) + 4 := by rw [IntKind.wrap_i64]; omega
                have hw5 : wrap64 ((q : Int) + 4) = (q : Int) + 4 := by unfold wrap64; omega
                have hq0 : (0 : Int) ≤ (q : Int) + 4 := by omega
                have hsl : ∀ wx, (Instr.slice 43 (.slice (some ⟨w.heap.size, 0, none⟩) 16 (grownCap w 16 0 5)) (some (.int .i64 (q : Int))) (some (.int .i64 ((q : Int) + 4))) none).run Try.prog wx = .ok (.slice (some ⟨w.heap.size, q, none⟩) 4 (grownCap w 16 0 5 - q)) wx := by
                  intro wx
                  have := run_slice_part w.heap.size 0 (grownCap w 16 0 5) 16 q (q + 4) (by omega) (by omega) (by omega) (q : Int) ((q : Int) + 4) rfl (by omega) wx
                  rw [Nat.zero_add, show q + 4 - q = 4 by omega] at this
                  exact this
                go_wp2
                have hrg : ∀ x ∈ mixN [2, 3, 1, 1] m c ++ z, 0 ≤ x ∧ x < 256 := hmcb.append hzb
                have hfit : q + 4 ≤ (mixN [2, 3, 1, 1] m c ++ z).length := by rw [List.length_append]; omega
                have hstep : mixAt [2, 3, 1, 1] q (mixN [2, 3, 1, 1] m c ++ z) = mixN [2, 3, 1, 1] m (c + 1) ++ z := by
                  rw [mixAt_tail _ _ _ _ (by omega)]
                  have : q = 4 * c := by omega
                  rw [this]; rfl
                go_region_with (first
                  | (go_at_call 49; refine (forth_walk _).mono ?_; rintro e w3 ⟨rfl, hb1⟩)
                  | (go_at_call 48; refine (mixed_walk [2, 3, 1, 1] _ M 16 M_tells hrg w.heap.size q _ _ ((hA.drew 1).below hb1 hA.lt) hfit).mono ?_; rintro e w4 ⟨rfl, hA4, hBt4⟩))
                all_goals (
                  have hA5 : At w4 w.heap.size 5 (mixN [2, 3, 1, 1] m (c + 1) ++ z) := by rw [← hstep]; exact hA4
                  have hB5 : Below w.heap.size w w4 := But.below (((But.of w.heap.size hBl).drew 1).trans ((But.of w.heap.size (hb1.mono hBl.size)).trans (hBt4.mono (Nat.le_trans hBl.size hb1.size)))) (Nat.le_refl _)
                  clear hA hA4 hb1 hBt4 hBl hsl hcap hw4 hw5 hq0
                  go_wp2
                  go_roundw
                  case rel => exact ⟨q + 4, c + 1, ⟨by omega, by omega⟩, by omega, .inr h9, by go_num, hA5, hB5⟩
                  case measure => simp [intOf]; omega)
              · have hq16 : ¬ (q : Int) < 16 := by omega
                have hA6 : At wr w.heap.size 5 (encMid bx (r + 1) e ++ z) := by rw [hmid]; rw [if_pos h9, ← (show c = 4 by omega)]; exact hA
                have hlm := encMid_length bx (r + 1) e
                go_wp2_with (go_at_call 90; refine (addKey_walk' bx ks (encMid bx (r + 1) e) z (r + 1) (by omega) hlm hk g gb gk cap w.heap.size _ ((r : Int) + 1) (by omega) _ (hC.below hBl hg1 hg2 hg3) hA6 (by omega) (by omega)).mono ?_; rintro e' w5 ⟨rfl, hA7, hBt7⟩)
                have hA8 : At w5 w.heap.size 5 (encN ks bx b (r + 1) ++ z) := by
                  have : encN ks bx b (r + 1) = addKL ks (r + 1) (encMid bx (r + 1) e) := by rw [he]; rfl
                  rw [this]; exact hA7
                have hB8 : Below w.heap.size w w5 := But.below ((But.of w.heap.size hBl).trans (hBt7.mono hBl.size)) (Nat.le_refl _)
                clear hA hA6 hA7 hBt7 hBl
                go_roundw
                case rel => exact ⟨r + 1, by omega, by go_num, hA8, hB8⟩
                case measure => simp [intOf]; omega
            · have h9' : ¬ (r : Int) + 1 < 10 := by omega
              have : c = 0 := by omega
              subst this
              have hq16 : (q : Int) < 16 := by omega
              have hA6 : At wr w.heap.size 5 (encMid bx (r + 1) e ++ z) := by rw [hmid]; rw [if_neg h9]; exact hA
              have hlm := encMid_length bx (r + 1) e
              go_wp2_with (go_at_call 90; refine (addKey_walk' bx ks (encMid bx (r + 1) e) z (r + 1) (by omega) hlm hk g gb gk cap w.heap.size _ ((r : Int) + 1) (by omega) _ (hC.below hBl hg1 hg2 hg3) hA6 (by omega) (by omega)).mono ?_; rintro e' w5 ⟨rfl, hA7, hBt7⟩)
              have hA8 : At w5 w.heap.size 5 (encN ks bx b (r + 1) ++ z) := by
                have : encN ks bx b (r + 1) = addKL ks (r + 1) (encMid bx (r + 1) e) := by rw [he]; rfl
                rw [this]; exact hA7
              have hB8 : Below w.heap.size w w5 := But.below ((But.of w.heap.size hBl).trans (hBt7.mono hBl.size)) (Nat.le_refl _)
              clear hA hA6 hA7 hBt7 hBl
              go_roundw
              case rel => exact ⟨r + 1, by omega, by go_num, hA8, hB8⟩
              case measure => simp [intOf]; omega
    · have : r = 10 := by omega
      subst this
      have hback := fun cp => back16 _ z hel w.heap.size cp wr hA
      go_wp2
      go_ret
      exact ⟨rfl, hBl⟩
end Go.Proofs.YtimokakcdmcnnaaV.Aes
