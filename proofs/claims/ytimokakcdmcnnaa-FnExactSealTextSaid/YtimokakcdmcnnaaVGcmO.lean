/- Shared lemmas and walks of the AES laws of this seat. -/
import Derived.Test.YtimokakcdmcnnaaVGcmT
import Derived.Deep.RegionWith
import Derived.Deep.RegionHeld3
import Derived.Deep.QuietTactic
import Derived.BigQuiet
namespace Go.Proofs.YtimokakcdmcnnaaV.Aes
open Go.RowKit Go.Proofs.YtimokakcdmcnnaaV.PrintWords Go.Proofs.YtimokakcdmcnnaaV.PrintLast Go.Proofs.YtimokakcdmcnnaaV.PrintMore Go.Proofs.YtimokakcdmcnnaaV.Mem
set_option linter.unusedVariables false
set_option linter.unusedSimpArgs false

open Gcm
/-- What opening tells. -/
def openB (key nonce beside sealed : ByteArray) : Bool := decide (tagS key nonce beside (sealed.extract 0 (sealed.size - 16)) = sealed.extract (sealed.size - 16) sealed.size)
def openS (key nonce beside sealed : ByteArray) : ByteArray := if openB key nonce beside sealed = true then cntS key nonce (sealed.extract 0 (sealed.size - 16)) else ⟨#[]⟩
theorem str_ne {a b : ByteArray} (h : ¬ a = b) : (a.toList == b.toList) = false := by
  rw [ByteArray.toList_eq, ByteArray.toList_eq]
  have : a.data.toList ≠ b.data.toList := fun e => h (WideShapes.bytes_inj e)
  simpa using this
theorem in_yes (n l h : Int) (h1 : l ≤ n) (h2 : n ≤ h) (w : World) : Calls Try.prog 70 #[.int .i64 n, .int .i64 l, .int .i64 h] w fun e w' => e = .returned (.bool true) ∧ w = w' := by
  go_enter Try.func70, Try.ntmps70
  go_wp2
  go_ret
  exact ⟨by simp [h1, h2], rfl⟩
theorem in_no (n l h : Int) (h1 : ¬ (l ≤ n ∧ n ≤ h)) (w : World) : Calls Try.prog 70 #[.int .i64 n, .int .i64 l, .int .i64 h] w fun e w' => e = .returned (.bool false) ∧ w = w' := by
  by_cases h2 : l ≤ n
  · have h3 : ¬ n ≤ h := fun e => h1 ⟨h2, e⟩
    have h2' : n ≥ l := h2
    have h2d : decide (n ≥ l) = true := decide_eq_true h2
    have h3d : decide (n ≤ h) = false := decide_eq_false h3
    clear h1
    go_enter Try.func70, Try.ntmps70
    go_wp2
    go_ret
    exact ⟨rfl, rfl⟩
  · have h2d : decide (n ≥ l) = false := decide_eq_false h2
    clear h1
    go_enter Try.func70, Try.ntmps70
    go_wp2
    go_ret
    exact ⟨rfl, rfl⟩
set_option maxHeartbeats 4000000 in
set_option maxRecDepth 100000 in
theorem OpenText_yes (key nonce beside sealed : ByteArray) (g : Ok5 key nonce beside) (hs0 : 16 ≤ sealed.size) (hs : sealed.size ≤ 1516) (w : World) : Calls Try.prog 36 #[.string key, .string nonce, .string beside, .string sealed] w (Told2 (openS key nonce beside sealed) (openB key nonce beside sealed) w) := by
  obtain ⟨n, hn⟩ : ∃ n, n = sealed.size - 16 := ⟨_, rfl⟩
  have hsz : (sealed.size : Int) - 16 = (n : Int) := by omega
  have hn0 : (0 : Int) ≤ (n : Int) := by omega
  have hn1 : (n : Int) ≤ 1500 := by omega
  have hn2 : (n : Int) ≤ (sealed.size : Int) := by omega
  have hok := sealOk_yes key nonce beside g
  have hin := in_yes (n : Int) 0 1500 hn0 hn1
  have hc := cipher_made key g.1
  have hus : (sealed.extract 0 n).size ≤ 1500 := by rw [ByteArray.size_extract]; omega
  have htag := fun (gg gb gk cap : Nat) (W : World) (hC : Ci W gg gb gk cap BX (KS key)) => tag_walk key nonce beside (sealed.extract 0 n) g.1 g.2.1 g.2.2 hus gg gb gk cap W hC
  have htn : ∀ (gg gb gk cap : Nat) (W : World) (hC : Ci W gg gb gk cap BX (KS key)), Calls Try.prog 68 #[.pointer (some ⟨gg, 0, none⟩), .string nonce, .string (sealed.extract 0 n)] W fun e w' => e = .returned (.string (cntS key nonce (sealed.extract 0 n))) ∧ Below W.heap.size W w' := fun gg gb gk cap W hC => turned_walk key nonce (sealed.extract 0 n) g.1 g.2.1 (by omega) gg gb gk cap W hC
  have hob : openB key nonce beside sealed = decide (tagS key nonce beside (sealed.extract 0 n) = sealed.extract n sealed.size) := by rw [hn]; rfl
  have hos : openS key nonce beside sealed = if openB key nonce beside sealed = true then cntS key nonce (sealed.extract 0 n) else ⟨#[]⟩ := by rw [hn]; rfl
  rw [hos, hob]
  clear hos hob
  obtain ⟨T, hT⟩ : ∃ T, T = tagS key nonce beside (sealed.extract 0 n) := ⟨_, rfl⟩
  rw [← hT] at htag ⊢
  clear hT hn hus
  by_cases hTV : T = sealed.extract n sealed.size
  · rw [decide_eq_true hTV, if_pos rfl]
    rw [hTV] at htag
    clear hTV
    go_enter Try.func36, Try.ntmps36
    go_wp2_with (first
      | (go_at_call 65; refine (hok _).mono ?_; rintro e w1 ⟨rfl, rfl⟩)
      | (go_at_call 54; refine (hc _).mono ?_; rintro e w2 ⟨gg, gb, gk, cap, rfl, hC, _, _, _, hb⟩; have hl1 := hC.lt; have hl2 := hC.atBox.lt; have hl3 := hC.ltk)
      | (go_at_call 70; refine (hin _).mono ?_; rintro e w1 ⟨rfl, rfl⟩))
    go_region_with (first
      | (go_at_call 66; refine (htag _ _ _ _ _ (hC.below (pw_below_drewN (Below.refl w2.heap.size w2) 1) hl1 hl2 hl3)).mono ?_; rintro e w3 ⟨rfl, hb2⟩))
    all_goals (
      have hb3 : Below w2.heap.size w2 w3 := (pw_below_drewN (Below.refl w2.heap.size w2) 1).trans hb2
      go_wp2_with (go_at_call 68; refine (htn _ _ _ _ _ (hC.below hb3 hl1 hl2 hl3)).mono ?_; rintro e w4 ⟨rfl, hb4⟩)
      go_ret2
      exact ⟨rfl, (hb.trans (hb3.mono hb.size)).trans (hb4.mono (Nat.le_trans hb.size hb3.size))⟩)
  · rw [decide_eq_false hTV, if_neg (by decide)]
    have hne := str_ne hTV
    clear hTV
    go_enter Try.func36, Try.ntmps36
    go_wp2_with (first
      | (go_at_call 65; refine (hok _).mono ?_; rintro e w1 ⟨rfl, rfl⟩)
      | (go_at_call 54; refine (hc _).mono ?_; rintro e w2 ⟨gg, gb, gk, cap, rfl, hC, _, _, _, hb⟩; have hl1 := hC.lt; have hl2 := hC.atBox.lt; have hl3 := hC.ltk)
      | (go_at_call 70; refine (hin _).mono ?_; rintro e w1 ⟨rfl, rfl⟩))
    go_region_with (first
      | (go_at_call 66; refine (htag _ _ _ _ _ (hC.below (pw_below_drewN (Below.refl w2.heap.size w2) 1) hl1 hl2 hl3)).mono ?_; rintro e w3 ⟨rfl, hb2⟩))
    all_goals (
      have hb3 : Below w2.heap.size w2 w3 := (pw_below_drewN (Below.refl w2.heap.size w2) 1).trans hb2
      go_wp2
      go_ret2
      exact ⟨rfl, hb.trans (hb3.mono hb.size)⟩)

theorem OpenText_no (key nonce beside sealed : ByteArray) (g : ¬ (Ok5 key nonce beside ∧ 16 ≤ sealed.size ∧ sealed.size ≤ 1516)) (hs0 : sealed.size ≤ 9223372036854775807) (w : World) : Calls Try.prog 36 #[.string key, .string nonce, .string beside, .string sealed] w (Told2 ⟨#[]⟩ false w) := by
  obtain ⟨n, hn⟩ : ∃ n, n = (sealed.size : Int) - 16 := ⟨_, rfl⟩
  have hsz : (sealed.size : Int) - 16 = n := hn.symm
  by_cases gg : Ok5 key nonce beside
  · have hok := sealOk_yes key nonce beside gg
    have hin := in_no n 0 1500 (fun e => g ⟨gg, by omega, by omega⟩)
    clear hn g
    go_enter Try.func36, Try.ntmps36
    go_wp2_with (first
      | (go_at_call 65; refine (hok _).mono ?_; rintro e w1 ⟨rfl, rfl⟩)
      | (go_at_call 70; refine (hin _).mono ?_; rintro e w1 ⟨rfl, rfl⟩))
    go_ret2
    exact ⟨rfl, Below.refl _ _⟩
  · have hok := sealOk_no key nonce beside gg
    clear hn g
    go_enter Try.func36, Try.ntmps36
    go_wp2_with (go_at_call 65; refine (hok _).mono ?_; rintro e w1 ⟨rfl, rfl⟩)
    go_ret2
    exact ⟨rfl, Below.refl _ _⟩
set_option maxHeartbeats 4000000 in
set_option maxRecDepth 100000 in
theorem open_walk (key nonce beside sealed : ByteArray) (g : Ok5 key nonce beside) (hs0 : 16 ≤ sealed.size) (hs : sealed.size ≤ 1516) (gg c0 c1 : Nat) (A0 A1 : Option Addr) (w : World) (hC : K5 w gg A0 A1 c0 c1 key) :
    Calls Try.prog 69 #[.pointer (some ⟨gg, 0, none⟩), .string nonce, .string beside, .string sealed] w (Told2 (openS key nonce beside sealed) (openB key nonce beside sealed) w) := by
  obtain ⟨n, hn⟩ : ∃ n, n = sealed.size - 16 := ⟨_, rfl⟩
  have hsz : (sealed.size : Int) - 16 = (n : Int) := by omega
  have hn0 : (0 : Int) ≤ (n : Int) := by omega
  have hn1 : ¬ (n : Int) < 0 := by omega
  have hn1d : decide ((n : Int) < 0) = false := decide_eq_false hn1
  have hn2 : (n : Int) ≤ (sealed.size : Int) := by omega
  have hus : (sealed.extract 0 n).size ≤ 1500 := by rw [ByteArray.size_extract]; omega
  have htag := fun (gg c0 c1 : Nat) (A0 A1 : Option Addr) (W : World) (hC : K5 W gg A0 A1 c0 c1 key) => stag_walk key nonce beside (sealed.extract 0 n) g.1 g.2.1 g.2.2 hus gg c0 c1 A0 A1 W hC
  have htn : ∀ (gg c0 c1 : Nat) (A0 A1 : Option Addr) (W : World) (hC : K5 W gg A0 A1 c0 c1 key), Calls Try.prog 106 #[.pointer (some ⟨gg, 0, none⟩), .string nonce, .string (sealed.extract 0 n)] W fun e w' => e = .returned (.string (cntS key nonce (sealed.extract 0 n))) ∧ Below W.heap.size W w' := fun gg c0 c1 A0 A1 W hC => count_walk key nonce (sealed.extract 0 n) g.1 g.2.1 hus gg c0 c1 A0 A1 W hC
  have hob : openB key nonce beside sealed = decide (tagS key nonce beside (sealed.extract 0 n) = sealed.extract n sealed.size) := by rw [hn]; rfl
  have hos : openS key nonce beside sealed = if openB key nonce beside sealed = true then cntS key nonce (sealed.extract 0 n) else ⟨#[]⟩ := by rw [hn]; rfl
  rw [hos, hob]
  clear hos hob
  obtain ⟨T, hT⟩ : ∃ T, T = tagS key nonce beside (sealed.extract 0 n) := ⟨_, rfl⟩
  rw [← hT] at htag ⊢
  clear hT hn hus hn1
  have hC0 := hC.drew 1
  by_cases hTV : T = sealed.extract n sealed.size
  · rw [decide_eq_true hTV, if_pos rfl]
    rw [hTV] at htag
    clear hTV
    go_enter Try.func69, Try.ntmps69
    go_wp2
    go_region_held3 (fun W => True) (trivial) (first
      | (go_at_call 64; refine (htag _ _ _ _ _ _ hC0).mono ?_; rintro e w3 ⟨rfl, hb2⟩))
    all_goals (
      have hb3 : Below w.heap.size w w3 := (pw_below_drewN (Below.refl w.heap.size w) 1).trans hb2
      go_wp2_with (go_at_call 106; refine (htn _ _ _ _ _ _ (hC.below hb3)).mono ?_; rintro e w4 ⟨rfl, hb4⟩)
      go_ret2
      exact ⟨rfl, hb3.trans (hb4.mono hb3.size)⟩)
  · rw [decide_eq_false hTV, if_neg (by decide)]
    have hne := str_ne hTV
    clear hTV
    go_enter Try.func69, Try.ntmps69
    go_wp2
    go_region_held3 (fun W => True) (trivial) (first
      | (go_at_call 64; refine (htag _ _ _ _ _ _ hC0).mono ?_; rintro e w3 ⟨rfl, hb2⟩))
    all_goals (
      have hb3 : Below w.heap.size w w3 := (pw_below_drewN (Below.refl w.heap.size w) 1).trans hb2
      go_wp2
      go_ret2
      exact ⟨rfl, hb3⟩)
set_option maxHeartbeats 4000000 in
theorem sOpenText_yes (key nonce beside sealed : ByteArray) (g : Ok5 key nonce beside) (hs0 : 16 ≤ sealed.size) (hs : sealed.size ≤ 1516) (w : World) : Calls Try.prog 35 #[.string key, .string nonce, .string beside, .string sealed] w (Told2 (openS key nonce beside sealed) (openB key nonce beside sealed) w) := by
  have ht1 : ¬ (sealed.size : Int) > 1516 := by omega
  have ht2 : decide ((sealed.size : Int) > 1516) = false := decide_eq_false ht1
  have ht3 : (sealed.size : Int) ≤ 1516 := by omega
  have hok := said_yes key nonce beside g
  have hc := l5Key_walk key g.1
  have htag := fun (gg c0 c1 : Nat) (A0 A1 : Option Addr) (W : World) (hC : K5 W gg A0 A1 c0 c1 key) => open_walk key nonce beside sealed g hs0 hs gg c0 c1 A0 A1 W hC
  obtain ⟨R, hR⟩ : ∃ R, R = openS key nonce beside sealed := ⟨_, rfl⟩
  obtain ⟨b, hb⟩ : ∃ b, b = openB key nonce beside sealed := ⟨_, rfl⟩
  rw [← hR, ← hb] at htag ⊢
  clear hR hb
  go_enter Try.func35, Try.ntmps35
  go_wp2_with (first
    | (go_at_call 62; refine (hok _).mono ?_; rintro e w1 ⟨rfl, rfl⟩)
    | (go_at_call 63; refine (hc _).mono ?_; rintro e w2 ⟨gg, A0, A1, c0, c1, rfl, hC, _, hb⟩)
    | (go_at_call 69; refine (htag _ _ _ _ _ _ hC).mono ?_; rintro e w3 ⟨rfl, hb2⟩))
  go_ret2
  exact ⟨rfl, hb.trans (hb2.mono hb.size)⟩
theorem open_short (key nonce beside sealed : ByteArray) (hs0 : sealed.size < 16) (gg : Nat) (w : World) :
    Calls Try.prog 69 #[.pointer (some ⟨gg, 0, none⟩), .string nonce, .string beside, .string sealed] w (Told2 ⟨#[]⟩ false w) := by
  obtain ⟨n, hn⟩ : ∃ n, n = (sealed.size : Int) - 16 := ⟨_, rfl⟩
  have hsz : (sealed.size : Int) - 16 = n := hn.symm
  have hn1 : n < 0 := by omega
  have hn1d : decide (n < 0) = true := decide_eq_true hn1
  have hb3 := pw_below_drewN (Below.refl w.heap.size w) 1
  clear hn hn1
  go_enter Try.func69, Try.ntmps69
  go_wp2
  go_quiet (fail)
  all_goals (
    go_wp2
    go_ret2
    exact ⟨rfl, pw_below_drewN (Below.refl w.heap.size w) _⟩)
theorem sOpenText_no (key nonce beside sealed : ByteArray) (g : ¬ (Ok5 key nonce beside ∧ 16 ≤ sealed.size ∧ sealed.size ≤ 1516)) (w : World) : Calls Try.prog 35 #[.string key, .string nonce, .string beside, .string sealed] w (Told2 ⟨#[]⟩ false w) := by
  by_cases gg : Ok5 key nonce beside
  · have hok := said_yes key nonce beside gg
    by_cases hl : sealed.size ≤ 1516
    · have ht1 : ¬ (sealed.size : Int) > 1516 := by omega
      have ht2 : decide ((sealed.size : Int) > 1516) = false := decide_eq_false ht1
      have ht3 : (sealed.size : Int) ≤ 1516 := by omega
      have hlt : sealed.size < 16 := by
        have : ¬ 16 ≤ sealed.size := fun e => g ⟨gg, e, hl⟩
        omega
      have hc := l5Key_walk key gg.1
      have hop := open_short key nonce beside sealed hlt
      clear hlt
      go_enter Try.func35, Try.ntmps35
      go_wp2_with (first
        | (go_at_call 62; refine (hok _).mono ?_; rintro e w1 ⟨rfl, rfl⟩)
        | (go_at_call 63; refine (hc _).mono ?_; rintro e w2 ⟨gg, A0, A1, c0, c1, rfl, hC, _, hb⟩)
        | (go_at_call 69; refine (hop _ _).mono ?_; rintro e w3 ⟨rfl, hb2⟩))
      go_ret2
      exact ⟨rfl, hb.trans (hb2.mono hb.size)⟩
    · have ht1 : (sealed.size : Int) > 1516 := by omega
      have ht2 : decide ((sealed.size : Int) > 1516) = true := decide_eq_true ht1
      go_enter Try.func35, Try.ntmps35
      go_wp2_with (go_at_call 62; refine (hok _).mono ?_; rintro e w1 ⟨rfl, rfl⟩)
      go_ret2
      exact ⟨rfl, Below.refl _ _⟩
  · have hok := said_no key nonce beside gg
    go_enter Try.func35, Try.ntmps35
    go_wp2_with (go_at_call 62; refine (hok _).mono ?_; rintro e w1 ⟨rfl, rfl⟩)
    go_ret2
    exact ⟨rfl, Below.refl _ _⟩
end Go.Proofs.YtimokakcdmcnnaaV.Aes
