/- The program's GoodHeader: slices.ContainsFunc over a slice of numbers with a function literal that captures nothing. Conditions: the slice has at most 1048576 numbers. -/
import Derived.Test.YtlohefjigggjiaaPImplVx1
import Derived.Shelf.Abstract
namespace Go.Proofs.YtlohefjigggjiaaV.Aes
open Go.RowKit Go.Proofs.YtlohefjigggjiaaV.PrintWords Go.Proofs.YtlohefjigggjiaaV.PrintLast Go.Proofs.YtlohefjigggjiaaV.PrintMore Go.Proofs.YtlohefjigggjiaaV.Mem
set_option linter.unusedVariables false
set_option linter.unusedSimpArgs false

theorem in_at (n lo hi : Int) (b : Bool) (hb : b = (decide (lo ≤ n) && decide (n ≤ hi))) (w : World) : Calls Try.prog 72 #[.int .i64 n, .int .i64 lo, .int .i64 hi] w fun e w' => e = .returned (.bool b) ∧ w = w' := by
  by_cases h0 : lo ≤ n
  · by_cases h1 : n ≤ hi
    · have : b = true := by rw [hb]; simp [h0, h1]
      rw [this]
      clear hb
      go_enter Try.func72, Try.ntmps72
      go_wp2
      go_ret
      exact ⟨rfl, rfl⟩
    · have : b = false := by rw [hb]; simp [h1]
      rw [this]
      clear hb
      go_enter Try.func72, Try.ntmps72
      go_wp2
      go_ret
      exact ⟨rfl, rfl⟩
  · have : b = false := by rw [hb]; simp [h0]
    rw [this]
    clear hb
    go_enter Try.func72, Try.ntmps72
    go_wp2
    go_ret
    exact ⟨rfl, rfl⟩
def badV (n : Int) : Bool := !(decide (0 ≤ n) && decide (n ≤ 4294967295))
theorem clo_walk (n : Int) (b : Bool) (hb : b = badV n) (w : World) : Calls Try.prog 76 #[.int .i64 n] w fun e w' => e = .returned (.bool b) ∧ w = w' := by
  obtain ⟨c, hc⟩ : ∃ c, c = (decide (0 ≤ n) && decide (n ≤ 4294967295)) := ⟨_, rfl⟩
  have hin := in_at n 0 4294967295 c hc
  have hbc : b = !c := by rw [hb, badV, hc]
  clear hb hc
  rw [hbc]
  go_enter Try.func76, Try.ntmps76
  go_wp2_with (go_at_call 72; refine (hin _).mono ?_; rintro e w1 ⟨rfl, rfl⟩)
  go_ret
  exact ⟨rfl, rfl⟩
theorem any_hit (l : List Int) (kk : Nat) (h : kk < l.length) (hb : badV (rd l (kk : Int)) = true) : l.any badV = true := by
  rw [List.any_eq_true]
  refine ⟨l[kk], List.getElem_mem h, ?_⟩
  have e : rd l (kk : Int) = l[kk] := by simp [rd, List.getD_eq_getElem?_getD, List.getElem?_eq_getElem h]
  rw [← e]; exact hb
theorem any_none (l : List Int) (hb : ∀ j, j < l.length → badV (rd l (j : Int)) = false) : l.any badV = false := by
  rw [List.any_eq_false]
  intro x hx
  obtain ⟨j, hj, rfl⟩ := List.getElem_of_mem hx
  have e : rd l (j : Int) = l[j] := by simp [rd, List.getD_eq_getElem?_getD, List.getElem?_eq_getElem hj]
  rw [← e, hb j hj]; simp
set_option maxHeartbeats 2000000 in
theorem index_walk (A : Option Addr) (c n : Nat) (l : List Int) (w : World) (hn0 : n = l.length) (hr : Kd.C (Kd.int .i64) w A n l) (hl : n ≤ 1048576) :
    Calls Try.prog 105 #[.slice A n c, .func (.func 76) #[] #[]] w fun e w' => (∃ i : Int, e = .returned (.int .i64 i) ∧ decide (i ≥ 0) = l.any badV) ∧ w = w' := by
  have hn : Aside0 (n = l.length) := ⟨hn0⟩
  clear hn0
  go_enter Try.func105, Try.ntmps105
  go_wp2
  go_loopg [5, 8] n (fun gg _ s8 wr => ∃ kk : Nat, kk ≤ n ∧ n - kk ≤ gg ∧ s8 = .int .i64 kk ∧ w = wr ∧ Aside0 (∀ j, j < kk → badV (rd l (j : Int)) = false))
  case atStart => exact ⟨0, Nat.zero_le _, by omega, rfl, rfl, ⟨fun j hj => absurd hj (Nat.not_lt_zero _)⟩⟩
  case round =>
    obtain ⟨kk, hkk, hg, rfl, rfl, AA⟩ := hrel
    by_cases hlt : kk < n
    · have hltz : (kk : Int) < (n : Int) := by omega
      obtain ⟨ad, rfl, hcell⟩ := Kd.at_int hr (kk : Int) (by omega) hltz
      rw [Int.toNat_natCast] at hcell
      obtain ⟨y, hy⟩ : ∃ y, y = rd l (kk : Int) := ⟨_, rfl⟩
      rw [← hy] at hcell
      obtain ⟨q, hq⟩ : ∃ q, q = badV y := ⟨_, rfl⟩
      have hcall := clo_walk y q hq w
      have Y : Aside0 (q = badV (rd l (kk : Int))) := ⟨by rw [hq, hy]⟩
      clear hq hy hr
      cases q with
      | true =>
        go_wp2_with (go_at_call 76; refine hcall.mono ?_; rintro e w' ⟨rfl, rfl⟩)
        go_ret
        refine ⟨⟨_, rfl, ?_⟩, rfl⟩
        rw [any_hit l kk (by have := hn.out; omega) Y.out.symm]
        simp
      | false =>
        go_wp2_with (go_at_call 76; refine hcall.mono ?_; rintro e w' ⟨rfl, rfl⟩)
        go_roundg (n - (kk + 1))
        case measure => omega
        case rel =>
          refine ⟨kk + 1, by omega, by omega, ?_, rfl, ⟨fun j hj => ?_⟩⟩
          · first | rfl | (simp; done)
          · by_cases hjk : j = kk
            · rw [hjk]; exact Y.out.symm
            · exact AA.out j (by omega)
    · have hltz : ¬ (kk : Int) < (n : Int) := by omega
      have hnk : kk = n := by omega
      have D : Aside0 (kk = n) := ⟨hnk⟩
      clear hnk hr
      go_wp2
      go_ret
      refine ⟨⟨_, rfl, ?_⟩, rfl⟩
      rw [any_none l (fun j hj => AA.out j (by have := hn.out; have := D.out; omega))]
      simp
set_option maxHeartbeats 2000000 in
theorem contains_walk (A : Option Addr) (c n : Nat) (l : List Int) (b : Bool) (hb : b = l.any badV) (w : World) (hn : n = l.length) (hr : Kd.C (Kd.int .i64) w A n l) (hl : n ≤ 1048576) :
    Calls Try.prog 75 #[.slice A n c, .func (.func 76) #[] #[]] w fun e w' => e = .returned (.bool b) ∧ w = w' := by
  have hix := index_walk A c n l w hn hr hl
  rw [← hb] at hix
  clear hb hn hr hl
  go_enter Try.func75, Try.ntmps75
  go_wp2_with (go_at_call 105; refine hix.mono ?_; rintro e w' ⟨⟨i, rfl, hi⟩, rfl⟩)
  go_ret
  exact ⟨by rw [← hi]; rfl, rfl⟩
end Go.Proofs.YtlohefjigggjiaaV.Aes
