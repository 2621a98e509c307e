/- The law RemoveConfig tells true. Conditions: texts that fit a machine. -/
import Derived.Test.YtnghcnkffbjddaaDoorVTabVR
import Derived.Test.YtnghcnkffbjddaaDoorVLawR
namespace Go.Proofs.YtnghcnkffbjddaaDoorV.Aes
open Go.RowKit Go.Proofs.YtnghcnkffbjddaaDoorV.PrintWords Go.Proofs.YtnghcnkffbjddaaDoorV.PrintLast Go.Proofs.YtnghcnkffbjddaaDoorV.PrintMore Go.Proofs.YtnghcnkffbjddaaDoorV.Mem
set_option linter.unusedVariables false
set_option linter.unusedSimpArgs false

open Go.Maps Go.WideShapes Go.Proofs.YtnghcnkffbjddaaDoor.PImplM
set_option maxHeartbeats 4000000 in
set_option maxRecDepth 100000 in
theorem law_neg (A0 : Option Addr) (c0 n : Nat) (slot r : Int) (w : World) (hr0 : r < 0)
    (hsz : ∀ W, Below w.heap.size w W → Calls Tryd.prog 27 #[.agg #[.slice A0 n c0], .int .i64 1048576] W fun e w' => e = .returned (.int .i64 r) ∧ Below W.heap.size W w') :
    Calls Tryd.prog 9 #[.agg #[.slice A0 n c0], .int .i64 slot] w fun e w' => e = .returned (.bool true) ∧ Below w.heap.size w w' := by
  have hrd : decide (r < 0) = true := decide_eq_true hr0
  have hbx := heap_alloc_new w (.cells #[.slice A0 n c0] 33)
  have ca := (blk_cell hbx 0).trans rfl
  have hB0 : Below w.heap.size w (w.alloc (.cells #[.slice A0 n c0] 33)) := (Below.refl _ _).alloc (Nat.le_refl _) _
  have h1 := hsz _ hB0
  have H := Lib.hid hB0
  clear hsz hbx hB0 hr0
  go_enter Tryd.func9, Tryd.ntmps9
  go_wp2_with (go_at_call 27; refine h1.mono ?_; rintro e w1 ⟨rfl, hB1⟩; have HB1 := Lib.hid hB1; clear hB1 ca h1)
  go_ret
  exact ⟨by first | rfl | (simp; done), H.out.trans (HB1.out.mono H.out.size)⟩
theorem law_holds (A0 : Option Addr) (c0 : Nat) (l : List S104) (slot : Int) (w : World) (hr : Kd.C k104 w A0 l.length l) (hc : l.length ≤ c0) (hwf : ∀ y ∈ l, wfE y) :
    Calls Tryd.prog 9 #[.agg #[.slice A0 l.length c0], .int .i64 slot] w fun e w' => e = .returned (.bool true) ∧ Below w.heap.size w w' := by
  obtain ⟨r, hsz, hok⟩ := sz_is hr hc hwf
  by_cases h0 : r < 0
  · exact law_neg A0 c0 l.length slot r w h0 hsz
  · obtain ⟨h1, h2⟩ := hok h0
    have hE : OkE (l.map cvE) := ok_of h1 h2
    obtain ⟨mt, hmt⟩ := mt_all
    have hs := ok_small hE
    refine law_walk A0 c0 l.length slot (l.map cvE) (remR slot (l.map cvE)) (remK slot (l.map cvE)) r w mt hmt hs (rem_small slot _ hE) (eq_is hs) (eq_is (rem_small slot _ hE)) h0 hsz (to_is hr hc h1 h2) (fun A c W hC hcl => ?_) (fun A c W hC hcl => ?_)
    · refine (spec_RemoveConfig.calls 1048577 A c (l.map cvE) slot _ _ W hC hcl (sRem_tells slot _ hE)).mono ?_
      rintro e w' ⟨v, rfl, hN, hB⟩
      obtain ⟨A', c', rfl, hl, hC'⟩ := Kd.N_reads hN
      exact ⟨A', c', rfl, hl, hC', hB⟩
    · exact rem_calls A c slot (l.map cvE) _ _ W hC hcl (remA_is slot _ hE)
end Go.Proofs.YtnghcnkffbjddaaDoorV.Aes
