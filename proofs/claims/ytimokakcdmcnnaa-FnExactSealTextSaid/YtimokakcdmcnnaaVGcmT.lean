/- Shared lemmas and walks of the AES laws of this seat. -/
import Derived.Test.YtimokakcdmcnnaaVAes17
import Derived.Test.YtimokakcdmcnnaaVSpcG2
import Derived.Test.YtimokakcdmcnnaaVSpcG3
namespace Go.Proofs.YtimokakcdmcnnaaV.Aes
open Go.RowKit Go.Proofs.YtimokakcdmcnnaaV.PrintWords Go.Proofs.YtimokakcdmcnnaaV.PrintLast Go.Proofs.YtimokakcdmcnnaaV.PrintMore Go.Proofs.YtimokakcdmcnnaaV.Mem
set_option linter.unusedVariables false
set_option linter.unusedSimpArgs false

open Gcm
/-- A text sealed, as the program and the reference seal it. -/
def cntS (key nonce text : ByteArray) : ByteArray := ctrS key (nonce ++ strOfNums (be 4 2)) text
theorem cntS_size (key nonce text : ByteArray) : (cntS key nonce text).size = text.size := by
  unfold cntS ctrS
  rw [str_size, ctrL_length]
theorem tagS_size (key nonce beside sealed : ByteArray) (hb : beside.size ≤ 1500) (hs : sealed.size ≤ 1500) : (tagS key nonce beside sealed).size ≤ 16 := by
  unfold tagS
  rw [str_size, xorL, List.length_zipWith, bytesOf_length, bytesOf_length, encS_size]
  exact Nat.min_le_right _ _
def Ok5 (key nonce beside : ByteArray) : Prop := key.size = 16 ∧ nonce.size = 12 ∧ beside.size ≤ 1500
instance (key nonce beside : ByteArray) : Decidable (Ok5 key nonce beside) := by unfold Ok5; infer_instance
theorem sealOk_yes (key nonce beside : ByteArray) (g : Ok5 key nonce beside) (w : World) : Calls Try.prog 65 #[.string key, .string nonce, .string beside] w fun e w' => e = .returned (.bool true) ∧ w = w' := by
  have hk := g.1
  have h1 : ((nonce.size : Int) == 12) = true := by have := g.2.1; simp [this]
  have h1' : (nonce.size : Int) = 12 := by have := g.2.1; omega
  have h2 : (beside.size : Int) ≤ 1500 := by have := g.2.2; omega
  go_enter Try.func65, Try.ntmps65
  go_wp2_with (go_at_call 53; refine (isKey_yes key hk _).mono ?_; rintro e w1 ⟨rfl, rfl⟩)
  go_ret
  exact ⟨rfl, rfl⟩
theorem sealOk_no (key nonce beside : ByteArray) (g : ¬ Ok5 key nonce beside) (w : World) : Calls Try.prog 65 #[.string key, .string nonce, .string beside] w fun e w' => e = .returned (.bool false) ∧ w = w' := by
  by_cases hk : key.size = 16
  · by_cases hn : nonce.size = 12
    · have h1 : ((nonce.size : Int) == 12) = true := by simp [hn]
      have h1' : (nonce.size : Int) = 12 := by omega
      have h2 : ¬ (beside.size : Int) ≤ 1500 := fun e => g ⟨hk, hn, by omega⟩
      have h2d : decide ((beside.size : Int) ≤ 1500) = false := decide_eq_false h2
      go_enter Try.func65, Try.ntmps65
      go_wp2_with (go_at_call 53; refine (isKey_yes key hk _).mono ?_; rintro e w1 ⟨rfl, rfl⟩)
      go_ret
      exact ⟨rfl, rfl⟩
    · have h1 : ((nonce.size : Int) == 12) = false := by simp; omega
      have h1' : ¬ (nonce.size : Int) = 12 := by omega
      go_enter Try.func65, Try.ntmps65
      go_wp2_with (go_at_call 53; refine (isKey_yes key hk _).mono ?_; rintro e w1 ⟨rfl, rfl⟩)
      go_ret
      exact ⟨rfl, rfl⟩
  · go_enter Try.func65, Try.ntmps65
    go_wp2_with (go_at_call 53; refine (isKey_no key hk _).mono ?_; rintro e w1 ⟨rfl, rfl⟩)
    go_ret
    exact ⟨rfl, rfl⟩
theorem said_yes (key nonce beside : ByteArray) (g : Ok5 key nonce beside) (w : World) : Calls Try.prog 62 #[.string key, .string nonce, .string beside] w fun e w' => e = .returned (.bool true) ∧ w = w' := by
  have h0 : ((key.size : Int) == 16) = true := by have := g.1; simp [this]
  have h0' : (key.size : Int) = 16 := by have := g.1; omega
  have h1 : ((nonce.size : Int) == 12) = true := by have := g.2.1; simp [this]
  have h1' : (nonce.size : Int) = 12 := by have := g.2.1; omega
  have h2 : (beside.size : Int) ≤ 1500 := by have := g.2.2; omega
  go_enter Try.func62, Try.ntmps62
  go_wp2
  go_ret
  exact ⟨rfl, rfl⟩
theorem said_no (key nonce beside : ByteArray) (g : ¬ Ok5 key nonce beside) (w : World) : Calls Try.prog 62 #[.string key, .string nonce, .string beside] w fun e w' => e = .returned (.bool false) ∧ w = w' := by
  by_cases hk : key.size = 16
  · have h0 : ((key.size : Int) == 16) = true := by simp [hk]
    have h0' : (key.size : Int) = 16 := by omega
    by_cases hn : nonce.size = 12
    · have h1 : ((nonce.size : Int) == 12) = true := by simp [hn]
      have h1' : (nonce.size : Int) = 12 := by omega
      have h2 : ¬ (beside.size : Int) ≤ 1500 := fun e => g ⟨hk, hn, by omega⟩
      have h2d : decide ((beside.size : Int) ≤ 1500) = false := decide_eq_false h2
      go_enter Try.func62, Try.ntmps62
      go_wp2
      go_ret
      exact ⟨rfl, rfl⟩
    · have h1 : ((nonce.size : Int) == 12) = false := by simp; omega
      have h1' : ¬ (nonce.size : Int) = 12 := by omega
      go_enter Try.func62, Try.ntmps62
      go_wp2
      go_ret
      exact ⟨rfl, rfl⟩
  · have h0 : ((key.size : Int) == 16) = false := by simp; omega
    have h0' : ¬ (key.size : Int) = 16 := by omega
    go_enter Try.func62, Try.ntmps62
    go_wp2
    go_ret
    exact ⟨rfl, rfl⟩
/-- What the three functions tell: a text and whether it is one. -/
def Told2 (t : ByteArray) (b : Bool) (w : World) (e : Ending) (w' : World) : Prop := e = .returned (.tuple #[.string t, .bool b]) ∧ Below w.heap.size w w'
set_option maxHeartbeats 4000000 in
theorem TagOf_yes (key nonce beside sealed : ByteArray) (g : Ok5 key nonce beside) (hs : sealed.size ≤ 1500) (w : World) : Calls Try.prog 32 #[.string key, .string nonce, .string beside, .string sealed] w (Told2 (tagS key nonce beside sealed) true w) := by
  have ht1 : ¬ (sealed.size : Int) > 1500 := by omega
  have ht2 : decide ((sealed.size : Int) > 1500) = false := decide_eq_false ht1
  have ht3 : (sealed.size : Int) ≤ 1500 := by omega
  have hok := sealOk_yes key nonce beside g
  have hc := cipher_made key g.1
  have htag := fun (gg gb gk cap : Nat) (W : World) (hC : Ci W gg gb gk cap BX (KS key)) => tag_walk key nonce beside sealed g.1 g.2.1 g.2.2 hs gg gb gk cap W hC
  go_enter Try.func32, Try.ntmps32
  go_wp2_with (first
    | (go_at_call 65; refine (hok _).mono ?_; rintro e w1 ⟨rfl, rfl⟩)
    | (go_at_call 54; refine (hc _).mono ?_; rintro e w2 ⟨gg, gb, gk, cap, rfl, hC, _, _, _, hb⟩)
    | (go_at_call 66; refine (htag _ _ _ _ _ hC).mono ?_; rintro e w3 ⟨rfl, hb2⟩))
  go_ret2
  exact ⟨rfl, hb.trans (hb2.mono hb.size)⟩
theorem TagOf_no (key nonce beside sealed : ByteArray) (g : ¬ (Ok5 key nonce beside ∧ sealed.size ≤ 1500)) (w : World) : Calls Try.prog 32 #[.string key, .string nonce, .string beside, .string sealed] w (Told2 ⟨#[]⟩ false w) := by
  by_cases gg : Ok5 key nonce beside
  · have ht1 : (sealed.size : Int) > 1500 := by
      have : ¬ sealed.size ≤ 1500 := fun e => g ⟨gg, e⟩
      omega
    have ht2 : decide ((sealed.size : Int) > 1500) = true := decide_eq_true ht1
    have hok := sealOk_yes key nonce beside gg
    go_enter Try.func32, Try.ntmps32
    go_wp2_with (go_at_call 65; refine (hok _).mono ?_; rintro e w1 ⟨rfl, rfl⟩)
    go_ret2
    exact ⟨rfl, Below.refl _ _⟩
  · have hok := sealOk_no key nonce beside gg
    go_enter Try.func32, Try.ntmps32
    go_wp2_with (go_at_call 65; refine (hok _).mono ?_; rintro e w1 ⟨rfl, rfl⟩)
    go_ret2
    exact ⟨rfl, Below.refl _ _⟩
set_option maxHeartbeats 4000000 in
theorem sTagOf_yes (key nonce beside sealed : ByteArray) (g : Ok5 key nonce beside) (hs : sealed.size ≤ 1500) (w : World) : Calls Try.prog 31 #[.string key, .string nonce, .string beside, .string sealed] w (Told2 (tagS key nonce beside sealed) true w) := by
  have ht1 : ¬ (sealed.size : Int) > 1500 := by omega
  have ht2 : decide ((sealed.size : Int) > 1500) = false := decide_eq_false ht1
  have ht3 : (sealed.size : Int) ≤ 1500 := by omega
  have hok := said_yes key nonce beside g
  have hc := l5Key_walk key g.1
  have htag := fun (gg c0 c1 : Nat) (A0 A1 : Option Addr) (W : World) (hC : K5 W gg A0 A1 c0 c1 key) => stag_walk key nonce beside sealed g.1 g.2.1 g.2.2 hs gg c0 c1 A0 A1 W hC
  go_enter Try.func31, Try.ntmps31
  go_wp2_with (first
    | (go_at_call 62; refine (hok _).mono ?_; rintro e w1 ⟨rfl, rfl⟩)
    | (go_at_call 63; refine (hc _).mono ?_; rintro e w2 ⟨gg, A0, A1, c0, c1, rfl, hC, _, hb⟩)
    | (go_at_call 64; refine (htag _ _ _ _ _ _ hC).mono ?_; rintro e w3 ⟨rfl, hb2⟩))
  go_ret2
  exact ⟨rfl, hb.trans (hb2.mono hb.size)⟩
theorem sTagOf_no (key nonce beside sealed : ByteArray) (g : ¬ (Ok5 key nonce beside ∧ sealed.size ≤ 1500)) (w : World) : Calls Try.prog 31 #[.string key, .string nonce, .string beside, .string sealed] w (Told2 ⟨#[]⟩ false w) := by
  by_cases gg : Ok5 key nonce beside
  · have ht1 : (sealed.size : Int) > 1500 := by
      have : ¬ sealed.size ≤ 1500 := fun e => g ⟨gg, e⟩
      omega
    have ht2 : decide ((sealed.size : Int) > 1500) = true := decide_eq_true ht1
    have hok := said_yes key nonce beside gg
    go_enter Try.func31, Try.ntmps31
    go_wp2_with (go_at_call 62; refine (hok _).mono ?_; rintro e w1 ⟨rfl, rfl⟩)
    go_ret2
    exact ⟨rfl, Below.refl _ _⟩
  · have hok := said_no key nonce beside gg
    go_enter Try.func31, Try.ntmps31
    go_wp2_with (go_at_call 62; refine (hok _).mono ?_; rintro e w1 ⟨rfl, rfl⟩)
    go_ret2
    exact ⟨rfl, Below.refl _ _⟩
set_option maxHeartbeats 4000000 in
theorem SealText_yes (key nonce beside text : ByteArray) (g : Ok5 key nonce beside) (hs : text.size ≤ 1500) (w : World) : Calls Try.prog 34 #[.string key, .string nonce, .string beside, .string text] w (Told2 (cntS key nonce text ++ tagS key nonce beside (cntS key nonce text)) true w) := by
  have ht1 : ¬ (text.size : Int) > 1500 := by omega
  have ht2 : decide ((text.size : Int) > 1500) = false := decide_eq_false ht1
  have ht3 : (text.size : Int) ≤ 1500 := by omega
  have hok := sealOk_yes key nonce beside g
  have hc := cipher_made key g.1
  have hcs := cntS_size key nonce text
  have htag := fun (gg gb gk cap : Nat) (W : World) (hC : Ci W gg gb gk cap BX (KS key)) => tag_walk key nonce beside (cntS key nonce text) g.1 g.2.1 g.2.2 (by omega) gg gb gk cap W hC
  have htn : ∀ (gg gb gk cap : Nat) (W : World) (hC : Ci W gg gb gk cap BX (KS key)), Calls Try.prog 68 #[.pointer (some ⟨gg, 0, none⟩), .string nonce, .string text] W fun e w' => e = .returned (.string (cntS key nonce text)) ∧ Below W.heap.size W w' := fun gg gb gk cap W hC => turned_walk key nonce text g.1 g.2.1 (by omega) gg gb gk cap W hC
  obtain ⟨S, hS⟩ : ∃ S, S = cntS key nonce text := ⟨_, rfl⟩
  rw [← hS] at htag htn hcs ⊢
  obtain ⟨T, hT⟩ : ∃ T, T = tagS key nonce beside S := ⟨_, rfl⟩
  have hTs : T.size ≤ 16 := by rw [hT]; exact tagS_size _ _ _ _ g.2.2 (by omega)
  rw [← hT] at htag ⊢
  have hcat : ¬ 9223372036854775807 < S.size + T.size := by omega
  clear hS hT hTs hcs
  go_enter Try.func34, Try.ntmps34
  go_wp2_with (first
    | (go_at_call 65; refine (hok _).mono ?_; rintro e w1 ⟨rfl, rfl⟩)
    | (go_at_call 54; refine (hc _).mono ?_; rintro e w2 ⟨gg, gb, gk, cap, rfl, hC, _, _, _, hb⟩; have hl1 := hC.lt; have hl2 := hC.atBox.lt; have hl3 := hC.ltk)
    | (go_at_call 68; refine (htn _ _ _ _ _ hC).mono ?_; rintro e w3 ⟨rfl, hb2⟩)
    | (go_at_call 66; refine (htag _ _ _ _ _ (hC.below hb2 hl1 hl2 hl3)).mono ?_; rintro e w4 ⟨rfl, hb3⟩))
  go_ret2
  exact ⟨rfl, (hb.trans (hb2.mono hb.size)).trans (hb3.mono (Nat.le_trans hb.size hb2.size))⟩
theorem SealText_no (key nonce beside text : ByteArray) (g : ¬ (Ok5 key nonce beside ∧ text.size ≤ 1500)) (w : World) : Calls Try.prog 34 #[.string key, .string nonce, .string beside, .string text] w (Told2 ⟨#[]⟩ false w) := by
  by_cases gg : Ok5 key nonce beside
  · have ht1 : (text.size : Int) > 1500 := by
      have : ¬ text.size ≤ 1500 := fun e => g ⟨gg, e⟩
      omega
    have ht2 : decide ((text.size : Int) > 1500) = true := decide_eq_true ht1
    have hok := sealOk_yes key nonce beside gg
    go_enter Try.func34, Try.ntmps34
    go_wp2_with (go_at_call 65; refine (hok _).mono ?_; rintro e w1 ⟨rfl, rfl⟩)
    go_ret2
    exact ⟨rfl, Below.refl _ _⟩
  · have hok := sealOk_no key nonce beside gg
    go_enter Try.func34, Try.ntmps34
    go_wp2_with (go_at_call 65; refine (hok _).mono ?_; rintro e w1 ⟨rfl, rfl⟩)
    go_ret2
    exact ⟨rfl, Below.refl _ _⟩
set_option maxHeartbeats 4000000 in
theorem seal_walk (key nonce beside text : ByteArray) (g : Ok5 key nonce beside) (hs : text.size ≤ 1500) (gg c0 c1 : Nat) (A0 A1 : Option Addr) (w : World) (hC : K5 w gg A0 A1 c0 c1 key) :
    Calls Try.prog 67 #[.pointer (some ⟨gg, 0, none⟩), .string nonce, .string beside, .string text] w fun e w' => e = .returned (.string (cntS key nonce text ++ tagS key nonce beside (cntS key nonce text))) ∧ Below w.heap.size w w' := by
  have hcs := cntS_size key nonce text
  have htag := fun (gg c0 c1 : Nat) (A0 A1 : Option Addr) (W : World) (hC : K5 W gg A0 A1 c0 c1 key) => stag_walk key nonce beside (cntS key nonce text) g.1 g.2.1 g.2.2 (by omega) gg c0 c1 A0 A1 W hC
  have htn : ∀ (gg c0 c1 : Nat) (A0 A1 : Option Addr) (W : World) (hC : K5 W gg A0 A1 c0 c1 key), Calls Try.prog 106 #[.pointer (some ⟨gg, 0, none⟩), .string nonce, .string text] W fun e w' => e = .returned (.string (cntS key nonce text)) ∧ Below W.heap.size W w' := fun gg c0 c1 A0 A1 W hC => count_walk key nonce text g.1 g.2.1 hs gg c0 c1 A0 A1 W hC
  obtain ⟨S, hS⟩ : ∃ S, S = cntS key nonce text := ⟨_, rfl⟩
  rw [← hS] at htag htn hcs ⊢
  obtain ⟨T, hT⟩ : ∃ T, T = tagS key nonce beside S := ⟨_, rfl⟩
  have hTs : T.size ≤ 16 := by rw [hT]; exact tagS_size _ _ _ _ g.2.2 (by omega)
  rw [← hT] at htag ⊢
  have hcat : ¬ 9223372036854775807 < S.size + T.size := by omega
  clear hS hT hTs hcs
  go_enter Try.func67, Try.ntmps67
  go_wp2_with (first
    | (go_at_call 106; refine (htn _ _ _ _ _ _ hC).mono ?_; rintro e w3 ⟨rfl, hb2⟩)
    | (go_at_call 64; refine (htag _ _ _ _ _ _ (hC.below hb2)).mono ?_; rintro e w4 ⟨rfl, hb3⟩))
  go_ret
  exact ⟨rfl, hb2.trans (hb3.mono hb2.size)⟩
set_option maxHeartbeats 4000000 in
theorem sSealText_yes (key nonce beside text : ByteArray) (g : Ok5 key nonce beside) (hs : text.size ≤ 1500) (w : World) : Calls Try.prog 33 #[.string key, .string nonce, .string beside, .string text] w (Told2 (cntS key nonce text ++ tagS key nonce beside (cntS key nonce text)) true w) := by
  have ht1 : ¬ (text.size : Int) > 1500 := by omega
  have ht2 : decide ((text.size : Int) > 1500) = false := decide_eq_false ht1
  have ht3 : (text.size : Int) ≤ 1500 := by omega
  have hok := said_yes key nonce beside g
  have hc := l5Key_walk key g.1
  have htag := fun (gg c0 c1 : Nat) (A0 A1 : Option Addr) (W : World) (hC : K5 W gg A0 A1 c0 c1 key) => seal_walk key nonce beside text g hs gg c0 c1 A0 A1 W hC
  obtain ⟨R, hR⟩ : ∃ R, R = cntS key nonce text ++ tagS key nonce beside (cntS key nonce text) := ⟨_, rfl⟩
  rw [← hR] at htag ⊢
  clear hR
  go_enter Try.func33, Try.ntmps33
  go_wp2_with (first
    | (go_at_call 62; refine (hok _).mono ?_; rintro e w1 ⟨rfl, rfl⟩)
    | (go_at_call 63; refine (hc _).mono ?_; rintro e w2 ⟨gg, A0, A1, c0, c1, rfl, hC, _, hb⟩)
    | (go_at_call 67; refine (htag _ _ _ _ _ _ hC).mono ?_; rintro e w3 ⟨rfl, hb2⟩))
  go_ret2
  exact ⟨rfl, hb.trans (hb2.mono hb.size)⟩
theorem sSealText_no (key nonce beside text : ByteArray) (g : ¬ (Ok5 key nonce beside ∧ text.size ≤ 1500)) (w : World) : Calls Try.prog 33 #[.string key, .string nonce, .string beside, .string text] w (Told2 ⟨#[]⟩ false w) := by
  by_cases gg : Ok5 key nonce beside
  · have ht1 : (text.size : Int) > 1500 := by
      have : ¬ text.size ≤ 1500 := fun e => g ⟨gg, e⟩
      omega
    have ht2 : decide ((text.size : Int) > 1500) = true := decide_eq_true ht1
    have hok := said_yes key nonce beside gg
    go_enter Try.func33, Try.ntmps33
    go_wp2_with (go_at_call 62; refine (hok _).mono ?_; rintro e w1 ⟨rfl, rfl⟩)
    go_ret2
    exact ⟨rfl, Below.refl _ _⟩
  · have hok := said_no key nonce beside gg
    go_enter Try.func33, Try.ntmps33
    go_wp2_with (go_at_call 62; refine (hok _).mono ?_; rintro e w1 ⟨rfl, rfl⟩)
    go_ret2
    exact ⟨rfl, Below.refl _ _⟩
end Go.Proofs.YtimokakcdmcnnaaV.Aes
