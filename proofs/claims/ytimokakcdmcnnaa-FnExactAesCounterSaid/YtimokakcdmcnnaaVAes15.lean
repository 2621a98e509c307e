/- Shared lemmas and walks of the AES laws of this seat. -/
import Derived.Test.YtimokakcdmcnnaaVSpc6
namespace Go.Proofs.YtimokakcdmcnnaaV.Aes
open Go.RowKit Go.Proofs.YtimokakcdmcnnaaV.PrintWords Go.Proofs.YtimokakcdmcnnaaV.PrintLast Go.Proofs.YtimokakcdmcnnaaV.PrintMore Go.Proofs.YtimokakcdmcnnaaV.Mem
set_option linter.unusedVariables false
set_option linter.unusedSimpArgs false

open Go.Proofs.Ytimokakcdmcnnaa.PSpecA in
theorem specCounter_walk (a b c : ByteArray) (w : World) : Calls Try.prog 29 #[.string a, .string b, .string c] w fun e w' => e = .returned (if a.size = 16 ∧ b.size = 16 ∧ c.size ≤ 1500 then .tuple #[.string (ctrS a b c), .bool true] else .tuple #[.string ⟨#[]⟩, .bool false]) ∧ Below w.heap.size w w' := by
  by_cases g : a.size = 16 ∧ b.size = 16 ∧ c.size ≤ 1500
  · rw [if_pos g]
    have h : Ev (fun k => spec_AesCounter.f k a b c) (ctrS a b c, true) := by
      have h1 := Ev.bind (f := fun _ t => some (t, true)) (ev_counter a b c g.1 g.2.1 (by omega)) (Ev.now _)
      refine Ev.congr (fun k => ?_) h1
      unfold spec_AesCounter.f
      rw [if_pos (by omega), if_pos (by omega), if_neg (by omega)]
    obtain ⟨k, hk⟩ := h.rounds
    exact spec_AesCounter.calls k a b c _ _ w hk
  · rw [if_neg g]
    have h : spec_AesCounter.f 0 a b c = some (⟨#[]⟩, false) := by
      unfold spec_AesCounter.f
      by_cases g1 : a.size = 16
      · by_cases g2 : b.size = 16
        · have g3 : ¬ c.size ≤ 1500 := fun e => g ⟨g1, g2, e⟩
          rw [if_pos (by omega), if_pos (by omega), if_pos (by omega)]
        · rw [if_pos (by omega), if_neg (by omega)]
      · rw [if_neg (by omega)]
    exact spec_AesCounter.calls 0 a b c _ _ w h
set_option maxHeartbeats 4000000 in
theorem AesCounter_yes (k s t : ByteArray) (hk : k.size = 16) (hs : s.size = 16) (ht : t.size ≤ 1500) (w : World) : Calls Try.prog 30 #[.string k, .string s, .string t] w fun e w' => e = .returned (.tuple #[.string (ctrS k s t), .bool true]) ∧ Below w.heap.size w w' := by
  have ht1 : ¬ (t.size : Int) > 1500 := by omega
  have ht2 : decide ((t.size : Int) > 1500) = false := decide_eq_false ht1
  have ht3 : (t.size : Int) ≤ 1500 := by omega
  go_enter Try.func30, Try.ntmps30
  go_wp2_with (first
    | (go_at_call 53; refine (isKey_yes k hk _).mono ?_; rintro e w1 ⟨rfl, rfl⟩)
    | (go_at_call 56; refine (isBlock_yes s hs _).mono ?_; rintro e w1 ⟨rfl, rfl⟩)
    | (go_at_call 54; refine (cipher_made k hk _).mono ?_; rintro e w2 ⟨g, gb, gk, cap, rfl, hC, _, _, _, hb⟩)
    | (go_at_call 61; refine (counter_walk k s t hk hs (by omega) g gb gk cap _ hC).mono ?_; rintro e w3 ⟨rfl, hb2⟩))
  go_ret2
  exact ⟨rfl, hb.trans (hb2.mono hb.size)⟩
set_option maxHeartbeats 4000000 in
theorem AesCounter_no (k s t : ByteArray) (h : ¬ (k.size = 16 ∧ s.size = 16 ∧ t.size ≤ 1500)) (w : World) : Calls Try.prog 30 #[.string k, .string s, .string t] w fun e w' => e = .returned (.tuple #[.string ⟨#[]⟩, .bool false]) ∧ Below w.heap.size w w' := by
  by_cases hk : k.size = 16
  · by_cases hs : s.size = 16
    · have ht1 : (t.size : Int) > 1500 := by
        have : ¬ t.size ≤ 1500 := fun e => h ⟨hk, hs, e⟩
        omega
      have ht2 : decide ((t.size : Int) > 1500) = true := decide_eq_true ht1
      go_enter Try.func30, Try.ntmps30
      go_wp2_with (first
        | (go_at_call 53; refine (isKey_yes k hk _).mono ?_; rintro e w1 ⟨rfl, rfl⟩)
        | (go_at_call 56; refine (isBlock_yes s hs _).mono ?_; rintro e w1 ⟨rfl, rfl⟩))
      go_ret2
      exact ⟨rfl, Below.refl _ _⟩
    · go_enter Try.func30, Try.ntmps30
      go_wp2_with (first
        | (go_at_call 53; refine (isKey_yes k hk _).mono ?_; rintro e w1 ⟨rfl, rfl⟩)
        | (go_at_call 56; refine (isBlock_no s hs _).mono ?_; rintro e w1 ⟨rfl, rfl⟩))
      go_ret2
      exact ⟨rfl, Below.refl _ _⟩
  · go_enter Try.func30, Try.ntmps30
    go_wp2_with (go_at_call 53; refine (isKey_no k hk _).mono ?_; rintro e w1 ⟨rfl, rfl⟩)
    go_ret2
    exact ⟨rfl, Below.refl _ _⟩
end Go.Proofs.YtimokakcdmcnnaaV.Aes
