/- The reference's PickBackend. Conditions: texts of at most 1048576 bytes. -/
import Derived.Test.YtnghcnkffbjddaaDoorVRk6
import Derived.Test.YtnghcnkffbjddaaDoorPSpecOx1
import Derived.Lib.Hide
import Derived.Deep.LoopGhost
namespace Go.Proofs.YtnghcnkffbjddaaDoorV.Aes
open Go.RowKit Go.Proofs.YtnghcnkffbjddaaDoorV.PrintWords Go.Proofs.YtnghcnkffbjddaaDoorV.PrintLast Go.Proofs.YtnghcnkffbjddaaDoorV.PrintMore Go.Proofs.YtnghcnkffbjddaaDoorV.Mem
set_option linter.unusedVariables false
set_option linter.unusedSimpArgs false

open Go.Proofs.YtnghcnkffbjddaaDoor.PSpecO
theorem rdS_D (l : List ByteArray) (xi : Int) (h0 : 0 ≤ xi) (h1 : xi < l.length) : ∃ s, l.drop xi.toNat = s :: l.drop (xi + 1).toNat ∧ rdOf ByteArray.empty l xi = s ∧ s ∈ l := by
  obtain ⟨i, rfl⟩ := Int.eq_ofNat_of_zero_le h0
  have hi : i < l.length := by omega
  refine ⟨l[i]'hi, ?_, rdS l i hi, List.getElem_mem hi⟩
  rw [Int.toNat_natCast, show ((i : Int) + 1).toNat = i + 1 by omega]
  exact List.drop_eq_getElem_cons hi
set_option maxHeartbeats 4000000 in
set_option maxRecDepth 100000 in
theorem l9Pick_walk (A : Option Addr) (c n : Nat) (l : List ByteArray) (key : ByteArray) (hkey : key.size ≤ 1000) (hn : n = l.length) (hl : n ≤ 12) (hs : ∀ s, s ∈ l → s.size ≤ 1000) (w : World) (hr : Kd.C Kd.string w A n l) :
    Calls Tryd.prog 86 #[.slice A n c, .string key] w fun e w' => e = .returned (.string (bestL (scF key) l (⟨#[]⟩, -1)).1) ∧ Below w.heap.size w w' := by
  have HR := Aside0.mk hr
  have HN := Aside0.mk (And.intro hn (And.intro hl (And.intro hs hkey)))
  clear hr hn hl hs hkey
  go_enter Tryd.func86, Tryd.ntmps86
  go_wp2_with (go_at_call 83; refine (l4New_walk _).mono ?_; rintro e w1 ⟨g, rfl, hH, hB1⟩; have S0 := Aside0.mk (And.intro hH hB1); clear hH hB1)
  go_loopg [5, 6, 14] n (fun g1 vb vm vi wr => ∃ (xi : Int) (b : ByteArray) (m : Int), vi = .int .i64 xi ∧ vb = .string b ∧ vm = .int .i64 m ∧ Aside0 (0 ≤ xi ∧ xi ≤ n ∧ n - xi.toNat ≤ g1) ∧ Aside0 (Hok wr g ∧ Below w.heap.size w wr) ∧ Aside0 (bestL (scF key) (l.drop xi.toNat) (b, m) = bestL (scF key) l (⟨#[]⟩, -1)))
  case atStart => exact ⟨0, ⟨#[]⟩, -1, rfl, rfl, rfl, ⟨by omega, by omega, by simp⟩, S0, ⟨rfl⟩⟩
  case round =>
    clear S0
    obtain ⟨xi, b, m, rfl, rfl, rfl, X, S1, HO⟩ := hrel
    by_cases hlt : xi < (n : Int)
    · have p1 : 0 ≤ xi := X.out.1
      have ra : IntKind.i64.wrap (xi + 1) = xi + 1 := by rw [IntKind.wrap_i64]; have := HN.out.2.1; omega
      obtain ⟨ad, rfl, hcell⟩ := Kd.at_string (Kd.C_below HR.out S1.out.2) xi p1 hlt
      obtain ⟨s, hd, hs, hmem⟩ := rdS_D l xi p1 (by have := HN.out.1; omega)
      rw [hs] at hcell
      have hsc := fun W hH => l9Score_walk s key (HN.out.2.2.1 s hmem) HN.out.2.2.2 g W hH
      obtain ⟨v, hv⟩ : ∃ v, v = scF key s := ⟨_, rfl⟩
      have hv2 : scN s key = v := hv.symm
      rw [hv2] at hsc
      have HV := Aside0.mk (And.intro hd (And.intro hv HO.out))
      clear hd hs hmem hv hv2 HO
      by_cases hgt : v > m
      · have hgd : decide (v > m) = true := decide_eq_true hgt
        go_wp2_with (go_at_call 82; refine (hsc _ S1.out.1).mono ?_; rintro e w2 ⟨rfl, hB2⟩; have HB2 := Aside0.mk hB2; clear hB2)
        go_roundg (n - (xi + 1).toNat)
        case measure => have := X.out.2.2; omega
        case rel =>
          refine ⟨xi + 1, s, v, by first | rfl | rw [ra], rfl, rfl, ⟨by omega, by omega, Nat.le_refl _⟩, ⟨S1.out.1.below HB2.out, S1.out.2.trans (HB2.out.mono S1.out.2.size)⟩, ⟨?_⟩⟩
          obtain ⟨h1, h2, h3⟩ := HV.out
          rw [h1, bestL, ← h2, if_pos (show m < v from hgt)] at h3
          exact h3
      · have hgd : decide (v > m) = false := decide_eq_false hgt
        go_wp2_with (go_at_call 82; refine (hsc _ S1.out.1).mono ?_; rintro e w2 ⟨rfl, hB2⟩; have HB2 := Aside0.mk hB2; clear hB2)
        go_roundg (n - (xi + 1).toNat)
        case measure => have := X.out.2.2; omega
        case rel =>
          refine ⟨xi + 1, b, m, by first | rfl | rw [ra], rfl, rfl, ⟨by omega, by omega, Nat.le_refl _⟩, ⟨S1.out.1.below HB2.out, S1.out.2.trans (HB2.out.mono S1.out.2.size)⟩, ⟨?_⟩⟩
          obtain ⟨h1, h2, h3⟩ := HV.out
          rw [h1, bestL, ← h2, if_neg (show ¬ m < v by omega)] at h3
          exact h3
    · go_wp2
      go_ret
      have e : l.drop xi.toNat = [] := List.drop_eq_nil_of_le (by have := HN.out.1; have := X.out.1; omega)
      have h3 := HO.out
      rw [e] at h3
      exact ⟨by rw [← h3]; rfl, S1.out.2⟩
set_option maxHeartbeats 2000000 in
set_option maxRecDepth 100000 in
theorem sPick_dead (A : Option Addr) (c n : Nat) (key : ByteArray) (w : World)
    (hlive : Calls Tryd.prog 17 #[.slice A n c] w fun e w' => e = .returned (.bool false) ∧ Drawn0 w w') :
    Calls Tryd.prog 44 #[.slice A n c, .string key] w (PickPost w ⟨#[]⟩ false) := by
  go_enter Tryd.func44, Tryd.ntmps44
  go_wp2_with (go_at_call 17; refine hlive.mono ?_; rintro e w1 ⟨rfl, ⟨nd, rfl⟩⟩)
  go_ret2
  exact ⟨rfl, pw_below_drewN (Below.refl _ _) _⟩
set_option maxHeartbeats 2000000 in
set_option maxRecDepth 100000 in
theorem sPick_empty (A : Option Addr) (c : Nat) (key : ByteArray) (w : World)
    (hlive : Calls Tryd.prog 17 #[.slice A 0 c] w fun e w' => e = .returned (.bool true) ∧ Drawn0 w w') :
    Calls Tryd.prog 44 #[.slice A 0 c, .string key] w (PickPost w ⟨#[]⟩ false) := by
  go_enter Tryd.func44, Tryd.ntmps44
  go_wp2_with (go_at_call 17; refine hlive.mono ?_; rintro e w1 ⟨rfl, ⟨nd, rfl⟩⟩)
  go_ret2
  exact ⟨rfl, pw_below_drewN (Below.refl _ _) _⟩
set_option maxHeartbeats 2000000 in
set_option maxRecDepth 100000 in
theorem sPick_long (A : Option Addr) (c n : Nat) (key : ByteArray) (hn : 0 < n) (hk : 100 < key.size) (w : World)
    (hlive : Calls Tryd.prog 17 #[.slice A n c] w fun e w' => e = .returned (.bool true) ∧ Drawn0 w w') :
    Calls Tryd.prog 44 #[.slice A n c, .string key] w (PickPost w ⟨#[]⟩ false) := by
  have hn0 : ¬ (n : Int) = 0 := by omega
  have hn1 : ((n : Int) == 0) = false := beq_eq_false_iff_ne.mpr hn0
  have hk1 : (key.size : Int) > 100 := by omega
  have hk2 : decide ((key.size : Int) > 100) = true := decide_eq_true hk1
  clear hn hk
  go_enter Tryd.func44, Tryd.ntmps44
  go_wp2_with (go_at_call 17; refine hlive.mono ?_; rintro e w1 ⟨rfl, ⟨nd, rfl⟩⟩)
  go_ret2
  exact ⟨rfl, pw_below_drewN (Below.refl _ _) _⟩
set_option maxHeartbeats 2000000 in
set_option maxRecDepth 100000 in
theorem sPick_done (A : Option Addr) (c n : Nat) (key : ByteArray) (r : ByteArray) (h0 : 0 < n) (hk : key.size ≤ 100) (w : World)
    (hlive : Calls Tryd.prog 17 #[.slice A n c] w fun e w' => e = .returned (.bool true) ∧ Drawn0 w w')
    (hpick : ∀ W, Below w.heap.size w W → Calls Tryd.prog 86 #[.slice A n c, .string key] W fun e w' => e = .returned (.string r) ∧ Below W.heap.size W w') :
    Calls Tryd.prog 44 #[.slice A n c, .string key] w (PickPost w r true) := by
  have hn0 : ¬ (n : Int) = 0 := by omega
  have hn1 : ((n : Int) == 0) = false := beq_eq_false_iff_ne.mpr hn0
  have hk1 : ¬ (key.size : Int) > 100 := by omega
  have hk2 : decide ((key.size : Int) > 100) = false := decide_eq_false hk1
  clear h0 hk
  go_enter Tryd.func44, Tryd.ntmps44
  go_wp2_with (first
    | (go_at_call 17; refine hlive.mono ?_; rintro e w1 ⟨rfl, ⟨nd, rfl⟩⟩; have HB1 := Lib.hid (pw_below_drewN (Below.refl w.heap.size w) nd))
    | (go_at_call 86; refine (hpick _ HB1.out).mono ?_; rintro e w3 ⟨rfl, hB2⟩; have HB2 := Lib.hid hB2; clear hB2))
  go_ret2
  exact ⟨rfl, HB1.out.trans (HB2.out.mono HB1.out.size)⟩
theorem sPick_calls (A : Option Addr) (c : Nat) (l : List ByteArray) (key : ByteArray) (r1 : ByteArray) (r2 : Bool) (w : World) (hr : Kd.C Kd.string w A l.length l) (hc : l.length ≤ c) (h : pickA l key = some (r1, r2)) :
    Calls Tryd.prog 44 #[.slice A l.length c, .string key] w (PickPost w r1 r2) := by
  unfold pickA at h
  by_cases hok : okT l = true
  · rw [if_pos hok] at h
    obtain ⟨hl, hs⟩ := (okT_iff l).mp hok
    have hlive := spec_GoodLive.calls KK A c l (liveS l) w hr hc (live_spec KK l hl hs (by decide))
    by_cases hno : liveS l = false ∨ l.length = 0 ∨ 100 < key.size
    · rw [if_pos hno] at h
      injection h with h
      injection h with e1 e2
      subst e1; subst e2
      cases hlv : liveS l with
      | false => rw [hlv] at hlive; exact sPick_dead A c l.length key w hlive
      | true =>
        rw [hlv] at hlive
        by_cases h0 : l.length = 0
        · rw [h0] at hlive ⊢; exact sPick_empty A c key w hlive
        · refine sPick_long A c l.length key (by omega) ?_ w hlive
          rcases hno with q | q | q
          · rw [hlv] at q; cases q
          · exact absurd q h0
          · exact q
    · rw [if_neg hno] at h
      injection h with h
      injection h with e1 e2
      subst e1; subst e2
      have hlv : liveS l = true := by
        cases q : liveS l with
        | true => rfl
        | false => exact absurd (.inl q) hno
      rw [hlv] at hlive
      have h0 : 0 < l.length := by omega
      have hk : key.size ≤ 100 := by omega
      obtain ⟨h12, hs12⟩ := liveS_sizes l hlv
      refine sPick_done A c l.length key _ h0 hk w hlive (fun W hB => ?_)
      rw [← best_rk0 (scF key) (fun x => (scN_range x key).1) ⟨#[]⟩ l h0]
      exact l9Pick_walk A c l.length l key (by omega) rfl h12 (fun s hq => by have := hs12 s hq; omega) W (Kd.C_below hr hB)
  · rw [if_neg hok] at h; cases h
end Go.Proofs.YtnghcnkffbjddaaDoorV.Aes
