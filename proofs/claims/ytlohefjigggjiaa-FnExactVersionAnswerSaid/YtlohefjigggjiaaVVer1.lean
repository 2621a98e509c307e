/- The function literal of VersionAnswer in slices.ContainsFunc; slices.Clone at numbers. Conditions: at most 1048576 numbers. -/
import Derived.Test.YtlohefjigggjiaaVHdr3
import Derived.WalkSpells
namespace Go.Proofs.YtlohefjigggjiaaV.Aes
open Go.RowKit Go.Proofs.YtlohefjigggjiaaV.PrintWords Go.Proofs.YtlohefjigggjiaaV.PrintLast Go.Proofs.YtlohefjigggjiaaV.PrintMore Go.Proofs.YtlohefjigggjiaaV.Mem
set_option linter.unusedVariables false
set_option linter.unusedSimpArgs false

def badW (n : Int) : Bool := !(decide (1 ≤ n) && decide (n ≤ 4294967295))
theorem clo_walkW (n : Int) (b : Bool) (hb : b = badW n) (w : World) : Calls Try.prog 85 #[.int .i64 n] w fun e w' => e = .returned (.bool b) ∧ w = w' := by
  obtain ⟨c, hc⟩ : ∃ c, c = (decide (1 ≤ n) && decide (n ≤ 4294967295)) := ⟨_, rfl⟩
  have hin := ver_at n c hc
  have hbc : b = !c := by rw [hb, badW, hc]
  clear hb hc
  rw [hbc]
  go_enter Try.func85, Try.ntmps85
  go_wp2_with (go_at_call 74; refine (hin _).mono ?_; rintro e w1 ⟨rfl, rfl⟩)
  go_ret
  exact ⟨rfl, rfl⟩
theorem any_hitW (l : List Int) (kk : Nat) (h : kk < l.length) (hb : badW (rd l (kk : Int)) = true) : l.any badW = true := by
  rw [List.any_eq_true]
  refine ⟨l[kk], List.getElem_mem h, ?_⟩
  have e : rd l (kk : Int) = l[kk] := by simp [rd, List.getD_eq_getElem?_getD, List.getElem?_eq_getElem h]
  rw [← e]; exact hb
theorem any_noneW (l : List Int) (hb : ∀ j, j < l.length → badW (rd l (j : Int)) = false) : l.any badW = false := by
  rw [List.any_eq_false]
  intro x hx
  obtain ⟨j, hj, rfl⟩ := List.getElem_of_mem hx
  have e : rd l (j : Int) = l[j] := by simp [rd, List.getD_eq_getElem?_getD, List.getElem?_eq_getElem hj]
  rw [← e, hb j hj]; simp
set_option maxHeartbeats 2000000 in
theorem index_walkW (A : Option Addr) (c n : Nat) (l : List Int) (w : World) (hn0 : n = l.length) (hr : Kd.C (Kd.int .i64) w A n l) (hl : n ≤ 1048576) :
    Calls Try.prog 105 #[.slice A n c, .func (.func 85) #[] #[]] w fun e w' => (∃ i : Int, e = .returned (.int .i64 i) ∧ decide (i ≥ 0) = l.any badW) ∧ w = w' := by
  have hn : Aside0 (n = l.length) := ⟨hn0⟩
  clear hn0
  go_enter Try.func105, Try.ntmps105
  go_wp2
  go_loopg [5, 8] n (fun gg _ s8 wr => ∃ kk : Nat, kk ≤ n ∧ n - kk ≤ gg ∧ s8 = .int .i64 kk ∧ w = wr ∧ Aside0 (∀ j, j < kk → badW (rd l (j : Int)) = false))
  case atStart => exact ⟨0, Nat.zero_le _, by omega, rfl, rfl, ⟨fun j hj => absurd hj (Nat.not_lt_zero _)⟩⟩
  case round =>
    obtain ⟨kk, hkk, hg, rfl, rfl, AA⟩ := hrel
    by_cases hlt : kk < n
    · have hltz : (kk : Int) < (n : Int) := by omega
      obtain ⟨ad, rfl, hcell⟩ := Kd.at_int hr (kk : Int) (by omega) hltz
      rw [Int.toNat_natCast] at hcell
      obtain ⟨y, hy⟩ : ∃ y, y = rd l (kk : Int) := ⟨_, rfl⟩
      rw [← hy] at hcell
      obtain ⟨q, hq⟩ : ∃ q, q = badW y := ⟨_, rfl⟩
      have hcall := clo_walkW y q hq w
      have Y : Aside0 (q = badW (rd l (kk : Int))) := ⟨by rw [hq, hy]⟩
      clear hq hy hr
      cases q with
      | true =>
        go_wp2_with (go_at_call 85; refine hcall.mono ?_; rintro e w' ⟨rfl, rfl⟩)
        go_ret
        refine ⟨⟨_, rfl, ?_⟩, rfl⟩
        rw [any_hitW l kk (by have := hn.out; omega) Y.out.symm]
        simp
      | false =>
        go_wp2_with (go_at_call 85; refine hcall.mono ?_; rintro e w' ⟨rfl, rfl⟩)
        go_roundg (n - (kk + 1))
        case measure => omega
        case rel =>
          refine ⟨kk + 1, by omega, by omega, ?_, rfl, ⟨fun j hj => ?_⟩⟩
          · first | rfl | (simp; done)
          · by_cases hjk : j = kk
            · rw [hjk]; exact Y.out.symm
            · exact AA.out j (by omega)
    · have hltz : ¬ (kk : Int) < (n : Int) := by omega
      have hnk : kk = n := by omega
      have D : Aside0 (kk = n) := ⟨hnk⟩
      clear hnk hr
      go_wp2
      go_ret
      refine ⟨⟨_, rfl, ?_⟩, rfl⟩
      rw [any_noneW l (fun j hj => AA.out j (by have := hn.out; have := D.out; omega))]
      simp
set_option maxHeartbeats 2000000 in
theorem contains_walkW (A : Option Addr) (c n : Nat) (l : List Int) (b : Bool) (hb : b = l.any badW) (w : World) (hn : n = l.length) (hr : Kd.C (Kd.int .i64) w A n l) (hl : n ≤ 1048576) :
    Calls Try.prog 75 #[.slice A n c, .func (.func 85) #[] #[]] w fun e w' => e = .returned (.bool b) ∧ w = w' := by
  have hix := index_walkW A c n l w hn hr hl
  rw [← hb] at hix
  clear hb hn hr hl
  go_enter Try.func75, Try.ntmps75
  go_wp2_with (go_at_call 105; refine hix.mono ?_; rintro e w' ⟨⟨i, rfl, hi⟩, rfl⟩)
  go_ret
  exact ⟨by rw [← hi]; rfl, rfl⟩
set_option maxHeartbeats 2000000 in
set_option maxRecDepth 100000 in
theorem cloneI_walk (A : Option Addr) (c : Nat) (l : List Int) (w : World) (hr : Kd.C (Kd.int .i64) w A l.length l) (hl : l.length ≤ 1048576) (h1 : 0 < l.length) :
    Calls Try.prog 87 #[.slice A l.length c] w fun e w' => ∃ v : Value, e = .returned v ∧ Kd.R (Kd.int .i64) 3 w' w.heap.size (fun _ => True) v l ∧ Below w.heap.size w w' := by
  obtain ⟨ad, rfl, _⟩ := Kd.at_int hr 0 (by omega) (by omega)
  have q39 := fun (w : World) (a : Option Addr) (n c n' c' : Nat) => Lib.run_eql_slice_nil (P := Try.prog) w _ _ a n c n' c' Try.underlying39
  have HR := Aside0.mk hr
  have HL := Aside0.mk hl
  clear hr hl h1
  go_enter Try.func87, Try.ntmps87
  go_wp2_with (at_builtin; refine Kd.R_append_rows (Kd.int .i64) (w0 := w) w.heap.size rfl _ _ 39 3 (.int .i64 0) 8 rfl Try.underlying39 (by kernel_rfl) rfl (by decide) (by decide) _ [] l _ _ _ (fun _ => True) (fun _ => False) rfl rfl (Kd.R_of_own (ownsRowM.of (World.ownsRow_made w #[] 0 (Nat.le_refl _) (Nat.zero_le _) (by simp))) (fun _ _ => trivial)) (Kd.C_alloc HR.out _) (fun _ _ h => h) (fun _ h => h.elim) (fun _ _ => trivial) ((Below.refl _ _).alloc (Nat.le_refl _) _) (by simp) (by have := HL.out; simp only [List.length_nil]; omega) ?_; intro v1 w1 hR hB _ _; clear q39)
  go_ret
  exact ⟨v1, rfl, hR, hB⟩
end Go.Proofs.YtlohefjigggjiaaV.Aes
