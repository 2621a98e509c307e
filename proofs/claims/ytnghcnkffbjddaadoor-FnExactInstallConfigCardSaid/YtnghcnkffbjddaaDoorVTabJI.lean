/- The law InstallConfig tells true. Conditions: texts that fit a machine. -/
import Derived.Test.YtnghcnkffbjddaaDoorVLawI
namespace Go.Proofs.YtnghcnkffbjddaaDoorV.Aes
open Go.RowKit Go.Proofs.YtnghcnkffbjddaaDoorV.PrintWords Go.Proofs.YtnghcnkffbjddaaDoorV.PrintLast Go.Proofs.YtnghcnkffbjddaaDoorV.PrintMore Go.Proofs.YtnghcnkffbjddaaDoorV.Mem
set_option linter.unusedVariables false
set_option linter.unusedSimpArgs false

open Go.Maps Go.WideShapes Go.Proofs.YtnghcnkffbjddaaDoor.PImplM
theorem ins_small (s0 s1 s2 : Int) (ky : ByteArray) (fb : Bool) (E : List S68) (h : OkE E) : SmallE (insR s0 s1 s2 ky fb E) := by
  obtain ⟨h1, h2⟩ := ok_small h
  unfold insR
  cases hg : tabOk (E.map evM) with
  | false => rw [if_neg (by decide)]; exact ⟨by simp, fun y hy => by cases hy⟩
  | true =>
    rw [if_pos rfl]
    obtain ⟨h3, _, _⟩ := tab_facts hg
    unfold insE
    by_cases q : insC s0 s1 s2 ky E = 0
    · rw [if_pos q]
      have hp := insL_perm ltE (newE s0 s1 s2 ky fb) E
      refine ⟨by rw [hp.length_eq, List.length_append, List.length_singleton]; omega, fun y hy => ?_⟩
      rcases List.mem_append.mp (hp.mem_iff.mp hy) with q | q
      · exact h2 y q
      · rw [List.mem_singleton.mp q]; exact Nat.zero_le _
    · rw [if_neg q]; exact ⟨h1, h2⟩
set_option maxHeartbeats 4000000 in
set_option maxRecDepth 100000 in
theorem law_negI (A0 : Option Addr) (c0 n : Nat) (s0 s1 s2 : Int) (ky : ByteArray) (fb : Bool) (r r' : Int) (w : World) (hr0 : r < 0 ∨ ¬ r < 0 ∧ r' < 0)
    (hsz : ∀ W, Below w.heap.size w W → Calls Tryd.prog 27 #[.agg #[.slice A0 n c0], .int .i64 1048576] W fun e w' => e = .returned (.int .i64 r) ∧ Below W.heap.size W w')
    (hsc : ∀ W, Calls Tryd.prog 32 #[.agg #[.int .i64 s0, .int .i64 s1, .int .i64 s2, .string ky, .bool fb], .int .i64 r] W fun e w' => e = .returned (.int .i64 r') ∧ Below W.heap.size W w') :
    Calls Tryd.prog 8 #[.agg #[.slice A0 n c0], .agg #[.int .i64 s0, .int .i64 s1, .int .i64 s2, .string ky, .bool fb]] w fun e w' => e = .returned (.bool true) ∧ Below w.heap.size w w' := by
  have q1 : (w.alloc (.cells #[.slice A0 n c0] 33)).heap.size = w.heap.size + 1 := by simp
  have b1 := blk_alloc (heap_alloc_new w (.cells #[.slice A0 n c0] 33)) (.cells #[.int .i64 s0, .int .i64 s1, .int .i64 s2, .string ky, .bool fb] 43)
  have b2 := heap_alloc_new (w.alloc (.cells #[.slice A0 n c0] 33)) (.cells #[.int .i64 s0, .int .i64 s1, .int .i64 s2, .string ky, .bool fb] 43)
  rw [q1] at b2
  have ca := (blk_cell b1 0).trans rfl
  have hB0 : Below w.heap.size w ((w.alloc (.cells #[.slice A0 n c0] 33)).alloc (.cells #[.int .i64 s0, .int .i64 s1, .int .i64 s2, .string ky, .bool fb] 43)) := ((Below.refl _ _).alloc (Nat.le_refl _) _).alloc (by rw [q1]; omega) _
  have h1 := hsz _ hB0
  have H := Lib.hid hB0
  have HB := Lib.hid b2
  clear hsz hB0 b1 b2 q1
  by_cases h0 : r < 0
  · have hrd : decide (r < 0) = true := decide_eq_true h0
    clear h0 hr0
    go_enter Tryd.func8, Tryd.ntmps8
    go_wp2_with (go_at_call 27; refine h1.mono ?_; rintro e w1 ⟨rfl, hB1⟩; have HB1 := Lib.hid hB1; clear hB1 ca h1)
    go_ret
    exact ⟨by first | rfl | (simp; done), H.out.trans (HB1.out.mono H.out.size)⟩
  · have hrd : decide (r < 0) = false := decide_eq_false h0
    have hrd' : decide (r' < 0) = true := decide_eq_true (hr0.resolve_left h0).2
    clear h0 hr0
    go_enter Tryd.func8, Tryd.ntmps8
    go_wp2_with (first
      | (go_at_call 27; refine h1.mono ?_; rintro e w1 ⟨rfl, hB1⟩; have d0 := (blk_cell (blk_below HB.out hB1) 0).trans rfl; have d1 := (blk_cell (blk_below HB.out hB1) 1).trans rfl; have d2 := (blk_cell (blk_below HB.out hB1) 2).trans rfl; have d3 := (blk_cell (blk_below HB.out hB1) 3).trans rfl; have d4 := (blk_cell (blk_below HB.out hB1) 4).trans rfl; have HB1 := Lib.hid hB1; clear hB1 ca h1)
      | (go_at_call 32; refine (hsc _).mono ?_; rintro e w2 ⟨rfl, hB2⟩; have HB2 := Lib.hid hB2; clear hB2 d0 d1 d2 d3 d4))
    go_ret
    exact ⟨by first | rfl | (simp; done), H.out.trans ((HB1.out.trans (HB2.out.mono HB1.out.size)).mono H.out.size)⟩
theorem law_holds (A0 : Option Addr) (c0 : Nat) (l : List S104) (s0 s1 s2 : Int) (ky : ByteArray) (fb : Bool) (w : World) (hr : Kd.C k104 w A0 l.length l) (hc : l.length ≤ c0) (hwf : ∀ y ∈ l, wfE y) :
    Calls Tryd.prog 8 #[.agg #[.slice A0 l.length c0], .agg #[.int .i64 s0, .int .i64 s1, .int .i64 s2, .string ky, .bool fb]] w fun e w' => e = .returned (.bool true) ∧ Below w.heap.size w w' := by
  obtain ⟨r, hsz, hok⟩ := sz_is hr hc hwf
  obtain ⟨r', hr'⟩ : ∃ r', laws_szIdConfig.f s0 s1 s2 ky fb r = some r' := by
    unfold laws_szIdConfig.f
    split
    · exact ⟨_, rfl⟩
    · exact ⟨_, rfl⟩
  have hsc := fun W => laws_szIdConfig.calls s0 s1 s2 ky fb r r' W hr'
  by_cases h0 : r < 0
  · exact law_negI A0 c0 l.length s0 s1 s2 ky fb r r' w (.inl h0) hsz hsc
  · by_cases h1' : r' < 0
    · exact law_negI A0 c0 l.length s0 s1 s2 ky fb r r' w (.inr ⟨h0, h1'⟩) hsz hsc
    · obtain ⟨h1, h2⟩ := hok h0
      have hE : OkE (l.map cvE) := ok_of h1 h2
      obtain ⟨mt, hmt⟩ := mt_all
      have hs := ok_small hE
      exact law_walkI A0 c0 l.length s0 s1 s2 ky fb (l.map cvE) (insR s0 s1 s2 ky fb (l.map cvE)) (insK s0 s1 s2 ky (l.map cvE)) r r' w mt hmt hs (ins_small s0 s1 s2 ky fb _ hE) (eq_is hs) (eq_is (ins_small s0 s1 s2 ky fb _ hE)) h0 h1' hsz hsc
        (fun W => laws_toIdConfig.calls s0 s1 s2 ky fb s0 s1 s2 ky fb W rfl) (to_is hr hc h1 h2) (fun A c W hC hcl => sInst_walk A c s0 s1 s2 ky fb (l.map cvE) W hC hcl hE) (fun A c W hC hcl => inst_calls A c s0 s1 s2 ky fb (l.map cvE) W hC hcl hE)
end Go.Proofs.YtnghcnkffbjddaaDoorV.Aes
