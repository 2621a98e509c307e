/- Shared lemmas and walks of the AES laws of this seat. -/
import Derived.Test.YtimokakcdmcnnaaVAes7
namespace Go.Proofs.YtimokakcdmcnnaaV.Aes
open Go.RowKit Go.Proofs.YtimokakcdmcnnaaV.PrintWords Go.Proofs.YtimokakcdmcnnaaV.PrintLast Go.Proofs.YtimokakcdmcnnaaV.PrintMore Go.Proofs.YtimokakcdmcnnaaV.Mem
set_option linter.unusedVariables false
set_option linter.unusedSimpArgs false

set_option maxHeartbeats 8000000 in
set_option maxRecDepth 100000 in
theorem decrypt_walk (bx ks : List Int) (hbx : bx.length = 512) (hbt : Bt bx) (hk : 176 ≤ ks.length) (g gb gk cap : Nat) (s : ByteArray) (hs : s.size = 16) (w : World) (hC : Ci w g gb gk cap bx ks) :
    Calls Try.prog 57 #[.pointer (some ⟨g, 0, none⟩), .string s] w fun e w' => e = .returned (.string (strOfNums (addKL ks 0 (decN ks (bx.drop 256) (bytesOf s) 10)))) ∧ Below w.heap.size w w' := by
  have hcv := conv16 s hs
  have hb0 := At.bytes w 5 s
  have hB0 := bytes_below (Below.refl w.heap.size w) (Nat.le_refl _) 5 s
  rw [hs] at hb0
  obtain ⟨z, hz⟩ : ∃ z, z = List.replicate (grownCap w 16 0 5 - 16) (0 : Int) := ⟨_, rfl⟩
  rw [← hz] at hb0
  have hzb : Bt z := by rw [hz]; exact Bt.zeros _
  clear hz
  have hg1 := hC.lt
  have hg2 := hC.atBox.lt
  have hg3 := hC.ltk
  have hbl : (bytesOf s).length = 16 := by rw [bytesOf_length]; exact hs
  have hbb := Bt.bytes s
  obtain ⟨b, hb⟩ : ∃ b, b = bytesOf s := ⟨_, rfl⟩
  rw [← hb] at hb0 hbl hbb ⊢
  clear hb
  have hTb : Bt (bx.drop 256) := hbt.drop 256
  have hTr : ∀ x : Nat, rd (bx.drop 256) (x : Int) = rd bx ((256 + x : Nat) : Int) := by
    intro x
    simp [rd, List.getD_eq_getElem?_getD]
    congr 1
  obtain ⟨T, hT⟩ : ∃ T, T = bx.drop 256 := ⟨_, rfl⟩
  rw [← hT] at hTb hTr ⊢
  clear hT
  go_enter Try.func57, Try.ntmps57
  go_wp2
  go_loopw [6] (fun v wr => ∃ R n : Nat, (R + n ≤ 10 ∧ 10 ≤ R + n) ∧ v = .int .i64 (R : Int) ∧ At wr w.heap.size 5 (decN ks T b n ++ z) ∧ Below w.heap.size w wr)
    (fun v _ => (intOf v).toNat)
  case atStart => exact ⟨10, 0, ⟨by omega, by omega⟩, rfl, hb0, hB0⟩
  case round =>
    clear hb0 hB0 hcv
    obtain ⟨R, n, hRn, rfl, hA, hBl⟩ := hrel
    have hel := decN_length ks T b hbl n
    have heb := decN_bt ks T b hbb hTb n
    by_cases h10 : 1 ≤ R
    · have hd10 : decide (1 ≤ (R : Int)) = true := decide_eq_true (by omega)
      have h10i : 1 ≤ (R : Int) := by omega
      have hR10 : 10 - n = R := by omega
      have hdn : decN ks T b (n + 1) = mapL T (shiftL 3 (decMid ks R (decN ks T b n))) := by
        rw [← hR10]; rfl
      clear hR10
      obtain ⟨e, he⟩ : ∃ e, e = decN ks T b n := ⟨_, rfl⟩
      rw [← he] at hA hel heb hdn
      clear he
      go_wp2_with (go_at_call 90; refine (addKey_walk' bx ks e z R (by omega) hel hk g gb gk cap w.heap.size _ (R : Int) rfl _ (hC.below hBl hg1 hg2 hg3) hA (by omega) (by omega)).mono ?_; rintro e' w2 ⟨rfl, hA2, hBt2⟩)
      try rw [hd10]
      have hBl2 : Below w.heap.size w w2 := But.below ((But.of w.heap.size hBl).trans (hBt2.mono hBl.size)) (Nat.le_refl _)
      obtain ⟨m, hm⟩ : ∃ m, m = addKL ks R e := ⟨_, rfl⟩
      have hmb : Bt m := by rw [hm]; exact addKL_bt _ _ _
      have hml2 : m.length = 16 := by rw [hm]; exact addKL_length _ _ _
      have hmid : decMid ks R e = if R < 10 then mixN [14, 11, 13, 9] m 4 else m := by rw [hm]; rfl
      rw [← hm] at hA2
      clear hm hA hBl hBt2
      go_loopw [7] (fun v wx => ∃ q c : Nat, (q ≤ 4 * c ∧ 4 * c ≤ q) ∧ c ≤ 4 ∧ (c = 0 ∨ R < 10) ∧ v = .int .i64 (q : Int) ∧ At wx w.heap.size 5 (mixN [14, 11, 13, 9] m c ++ z) ∧ Below w.heap.size w wx)
        (fun v _ => 16 - (intOf v).toNat)
      case atStart => exact ⟨0, 0, ⟨by omega, by omega⟩, by omega, .inl rfl, rfl, hA2, hBl2⟩
      case round =>
        clear hA2 hBl2
        obtain ⟨q, c, hq, hc, hcr, rfl, hA, hBl⟩ := hrel
        have hmc := mixN_length [14, 11, 13, 9] m hml2 c hc
        have hmcb := mixN_bt [14, 11, 13, 9] m hmb c
        have hgo : R < 10 ∧ c < 4 ∨ (¬ (R < 10 ∧ c < 4) ∧ mixN [14, 11, 13, 9] m c = decMid ks R e) := by
          by_cases h9 : R < 10
          · by_cases h4 : c < 4
            · exact .inl ⟨h9, h4⟩
            · exact .inr ⟨fun h => h4 h.2, by rw [hmid, if_pos h9, show c = 4 by omega]⟩
          · exact .inr ⟨fun h => h9 h.1, by rw [hmid, if_neg h9, show c = 0 by omega]; rfl⟩
        rcases hgo with ⟨h9, h4⟩ | ⟨hout, hmde⟩
        · have h9' : (R : Int) < 10 := by omega
          have hq16 : (q : Int) < 16 := by omega
          have hcap : 16 ≤ grownCap w 16 0 5 := grownCap_ge w 16 0 5
          have hw4 : IntKind.i64.wrap ((q : Int) + 4) = (q : Int) + 4 := by rw [IntKind.wrap_i64]; omega
          have hw5 : wrap64 ((q : Int) + 4) = (q : Int) + 4 := by unfold wrap64; omega
          have hq0 : (0 : Int) ≤ (q : Int) + 4 := by omega
          have hsl : ∀ wx, (Instr.slice 43 (.slice (some ⟨w.heap.size, 0, none⟩) 16 (grownCap w 16 0 5)) (some (.int .i64 (q : Int))) (some (.int .i64 ((q : Int) + 4))) none).run Try.prog wx = .ok (.slice (some ⟨w.heap.size, q, none⟩) 4 (grownCap w 16 0 5 - q)) wx := by
            intro wx
            have := run_slice_part w.heap.size 0 (grownCap w 16 0 5) 16 q (q + 4) (by omega) (by omega) (by omega) (q : Int) ((q : Int) + 4) rfl (by omega) wx
            rw [Nat.zero_add, show q + 4 - q = 4 by omega] at this
            exact this
          go_wp2
          have hrg : ∀ x ∈ mixN [14, 11, 13, 9] m c ++ z, 0 ≤ x ∧ x < 256 := hmcb.append hzb
          have hfit : q + 4 ≤ (mixN [14, 11, 13, 9] m c ++ z).length := by rw [List.length_append]; omega
          have hstep : mixAt [14, 11, 13, 9] q (mixN [14, 11, 13, 9] m c ++ z) = mixN [14, 11, 13, 9] m (c + 1) ++ z := by
            rw [mixAt_tail _ _ _ _ (by omega)]
            have : q = 4 * c := by omega
            rw [this]; rfl
          go_region_with (first
            | (go_at_call 91; refine (backward_walk _).mono ?_; rintro e w3 ⟨rfl, hb1⟩)
            | (go_at_call 48; refine (mixed_walk [14, 11, 13, 9] _ M 16 M_tells hrg w.heap.size q _ _ ((hA.drew 1).below hb1 hA.lt) hfit).mono ?_; rintro e w4 ⟨rfl, hA4, hBt4⟩))
          all_goals (
            have hA5 : At w4 w.heap.size 5 (mixN [14, 11, 13, 9] m (c + 1) ++ z) := by rw [← hstep]; exact hA4
            have hB5 : Below w.heap.size w w4 := But.below (((But.of w.heap.size hBl).drew 1).trans ((But.of w.heap.size (hb1.mono hBl.size)).trans (hBt4.mono (Nat.le_trans hBl.size hb1.size)))) (Nat.le_refl _)
            clear hA hA4 hb1 hBt4 hBl hsl hcap hw4 hw5 hq0
            go_wp2
            go_roundw
            case rel => exact ⟨q + 4, c + 1, ⟨by omega, by omega⟩, by omega, .inr h9, by go_num, hA5, hB5⟩
            case measure => simp [intOf]; omega)
        · rw [hmde] at hA
          have hlm := decMid_length ks R e
          have hdmb : Bt (decMid ks R e) := by rw [← hmde]; exact hmcb
          by_cases hqi : (q : Int) < 16
          all_goals (
            try (have h9' : ¬ (R : Int) < 10 := by omega)
            go_wp2_with (go_at_call 92; refine (shift_walk (decMid ks R e) z 3 (by decide) hlm w.heap.size _ _ hA).mono ?_; rintro e w5 ⟨rfl, hA5, hBt5⟩)
            have hB5 : Below w.heap.size w w5 := But.below ((But.of w.heap.size hBl).trans (hBt5.mono hBl.size)) (Nat.le_refl _)
            obtain ⟨y, hy⟩ : ∃ y, y = shiftL 3 (decMid ks R e) := ⟨_, rfl⟩
            have hyl : y.length = 16 := by rw [hy]; exact shiftL_length _ _
            have hyb : Bt y := by rw [hy]; exact shiftL_bt _ _ hdmb
            rw [← hy] at hA5 hdn
            clear hA hBl hBt5 hy
            go_loopw [39] (fun v wx => ∃ i : Nat, i ≤ 16 ∧ v = .int .i64 i ∧ At wx w.heap.size 5 ((mapL T y).take i ++ y.drop i ++ z) ∧ Below w.heap.size w wx)
              (fun v _ => 16 - (intOf v).toNat)
            case atStart => exact ⟨0, by omega, rfl, by rw [show (mapL T y).take 0 ++ y.drop 0 ++ z = y ++ z from tab_start _ _ _ _]; exact hA5, hB5⟩
            case round =>
              clear hA5 hB5
              obtain ⟨i, hi, rfl, hA, hBl⟩ := hrel
              by_cases h : i < 16
              · have hl : ((mapL T y).take i ++ y.drop i ++ z).length = 16 + z.length := tab_both _ _ _ _ hyl i hi
                have c2 : wr.cell? ⟨w.heap.size, i, none⟩ = some (.int .u8 (rd y (i : Int))) := by
                  rw [hA.cell (by omega)]
                  rw [show rd ((mapL T y).take i ++ y.drop i ++ z) (i : Int) = rd y (i : Int) from tab_rest _ _ _ _ hyl i i (Nat.le_refl _) h]
                have f2 : wr.frozen? ⟨w.heap.size, i, none⟩ = false := hA.frozen (by omega)
                have hvb := hyb.rd i
                obtain ⟨x, hx⟩ : ∃ x : Nat, rd y (i : Int) = (x : Int) := Int.eq_ofNat_of_zero_le hvb.1
                have hx2 : x < 256 := by omega
                rw [hx] at c2
                have hCw := hC.below hBl hg1 hg2 hg3
                have c0 := hCw.box
                have c1 : wr.cell? ⟨gb, 256 + x, none⟩ = some (.int .u8 (rd T (x : Int))) := by rw [hTr]; exact hCw.atBox.cell (by omega)
                have fin : At (wr.setCell ⟨w.heap.size, i, none⟩ (.int .u8 (rd T (x : Int)))) w.heap.size 5 ((mapL T y).take (i + 1) ++ y.drop (i + 1) ++ z) ∧
                    Below w.heap.size w (wr.setCell ⟨w.heap.size, i, none⟩ (.int .u8 (rd T (x : Int)))) := by
                  have hs := hA.set (i := i) (x := rd T (x : Int))
                  have e2 : ((mapL T y).take i ++ y.drop i ++ z).set i (rd T (x : Int)) = (mapL T y).take (i + 1) ++ y.drop (i + 1) ++ z := by
                    rw [← hx]
                    exact tab_step 16 (fun i => rd T (rd y (i : Int))) y z hyl i h
                  rw [e2] at hs
                  exact ⟨hs, hBl.setCell (Nat.le_refl _) _⟩
                clear hA hBl hl hvb hx hCw hd10 hTr
                go_wp2
                clear c0 c1 c2 f2
                go_roundw
                case rel => exact ⟨i + 1, by omega, by go_num, fin.1, fin.2⟩
                case measure => simp [intOf]; omega
              · have : i = 16 := by omega
                subst this
                rw [show (mapL T y).take 16 ++ y.drop 16 ++ z = mapL T y ++ z from tab_end _ _ _ _ hyl, ← hdn] at hA
                go_wp2
                go_roundw
                case rel => exact ⟨R - 1, n + 1, ⟨by omega, by omega⟩, by rw [Int.natCast_sub h10]; rfl, hA, hBl⟩
                case measure => simp [intOf]; omega)
    · have hR0 : R = 0 := by omega
      subst hR0
      have hn10 : n = 10 := by omega
      subst hn10
      go_wp2_with (go_at_call 90; refine (addKey_walk' bx ks (decN ks T b 10) z 0 (by omega) hel hk g gb gk cap w.heap.size _ 0 rfl _ (hC.below hBl hg1 hg2 hg3) hA (by omega) (by omega)).mono ?_; rintro e' w2 ⟨rfl, hA2, hBt2⟩; have hback := fun cp => back16 _ z (addKL_length ks 0 (decN ks T b 10)) w.heap.size cp w2 hA2)
      have hBl2 : Below w.heap.size w w2 := But.below ((But.of w.heap.size hBl).trans (hBt2.mono hBl.size)) (Nat.le_refl _)
      go_ret
      exact ⟨rfl, hBl2⟩
end Go.Proofs.YtimokakcdmcnnaaV.Aes
