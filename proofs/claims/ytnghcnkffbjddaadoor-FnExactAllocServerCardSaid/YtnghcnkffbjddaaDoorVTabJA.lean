/- The law AllocServer tells true. Conditions: texts that fit a machine. -/
import Derived.Test.YtnghcnkffbjddaaDoorVTabVA
import Derived.Test.YtnghcnkffbjddaaDoorVLawA
namespace Go.Proofs.YtnghcnkffbjddaaDoorV.Aes
open Go.RowKit Go.Proofs.YtnghcnkffbjddaaDoorV.PrintWords Go.Proofs.YtnghcnkffbjddaaDoorV.PrintLast Go.Proofs.YtnghcnkffbjddaaDoorV.PrintMore Go.Proofs.YtnghcnkffbjddaaDoorV.Mem
set_option linter.unusedVariables false
set_option linter.unusedSimpArgs false

open Go.Maps Go.WideShapes Go.Proofs.YtnghcnkffbjddaaDoor.PImplM
theorem alC1_len {sid sbk : ByteArray} {x : S68} (h : alC1 sid sbk x = 0) : x.f1.length < 12 := by
  unfold alC1 at h
  by_cases h1 : (sid.size : Int) = x.f0.f1
  · rw [if_pos h1] at h
    by_cases h2 : (prs x.f1).any (hitA sid sbk) = true
    · rw [if_pos h2] at h; omega
    · rw [if_neg h2] at h
      by_cases h3 : 12 ≤ x.f1.length
      · rw [if_pos h3] at h; omega
      · omega
  · rw [if_neg h1] at h; omega
theorem al_small (slot : Int) (sid sbk : ByteArray) (E : List S68) (h : OkE E) : SmallE (alR slot sid sbk E) := by
  obtain ⟨h1, h2⟩ := ok_small h
  unfold alR
  cases hg : tabOk (E.map evM) with
  | false => rw [if_neg (by decide)]; exact ⟨by simp, fun y hy => by cases hy⟩
  | true =>
    rw [if_pos rfl]
    unfold alE
    by_cases q : alC slot sid sbk E = 0
    · rw [if_pos q]
      refine ⟨by rw [List.length_set]; exact h1, fun y hy => ?_⟩
      rcases List.mem_or_eq_of_mem_set hy with hy | rfl
      · exact h2 y hy
      · have h0 : alC1 sid sbk (E.getD (idxOf slot (E.map evM)).toNat z68) = 0 := by
          unfold alC at q
          by_cases c1 : goodS sbk = true
          · rw [if_pos c1] at q
            by_cases c2 : idxOf slot (E.map evM) < 0
            · rw [if_pos c2] at q; omega
            · rw [if_neg c2] at q; exact q
          · rw [if_neg c1] at q; omega
        have hl := alC1_len h0
        show (insL ltA _ _).length ≤ 1048576
        rw [(insL_perm ltA _ _).length_eq, List.length_append, List.length_singleton]
        omega
    · rw [if_neg q]; exact ⟨h1, h2⟩
set_option maxHeartbeats 4000000 in
set_option maxRecDepth 100000 in
theorem law_negA (A0 : Option Addr) (c0 n : Nat) (slot : Int) (sid sbk : ByteArray) (r : Int) (w : World) (hr0 : 1048576 < sid.size ∨ 1048576 < sbk.size ∨ r < 0)
    (hsz : ∀ W, Below w.heap.size w W → Calls Tryd.prog 27 #[.agg #[.slice A0 n c0], .int .i64 1048576] W fun e w' => e = .returned (.int .i64 r) ∧ Below W.heap.size W w') :
    Calls Tryd.prog 10 #[.agg #[.slice A0 n c0], .int .i64 slot, .string sid, .string sbk] w fun e w' => e = .returned (.bool true) ∧ Below w.heap.size w w' := by
  have hbx := heap_alloc_new w (.cells #[.slice A0 n c0] 33)
  have ca := (blk_cell hbx 0).trans rfl
  have hB0 : Below w.heap.size w (w.alloc (.cells #[.slice A0 n c0] 33)) := (Below.refl _ _).alloc (Nat.le_refl _) _
  have h1 := hsz _ hB0
  have H := Lib.hid hB0
  clear hsz hbx hB0
  by_cases i1 : 1048576 < sid.size
  · have hs1 : decide ((sid.size : Int) > 1048576) = true := decide_eq_true (by omega)
    have hs2 : decide ((1048576 : Int) < (sid.size : Int)) = true := decide_eq_true (by omega)
    clear hr0 i1
    go_enter Tryd.func10, Tryd.ntmps10
    go_wp2
    go_ret
    exact ⟨by first | rfl | (simp; done), H.out⟩
  have hs1 : decide ((sid.size : Int) > 1048576) = false := decide_eq_false (by omega)
  have hs2 : decide ((1048576 : Int) < (sid.size : Int)) = false := decide_eq_false (by omega)
  by_cases i2 : 1048576 < sbk.size
  · have hb1 : decide ((sbk.size : Int) > 1048576) = true := decide_eq_true (by omega)
    have hb2 : decide ((1048576 : Int) < (sbk.size : Int)) = true := decide_eq_true (by omega)
    clear hr0 i1 i2
    go_enter Tryd.func10, Tryd.ntmps10
    go_wp2
    go_ret
    exact ⟨by first | rfl | (simp; done), H.out⟩
  have hb1 : decide ((sbk.size : Int) > 1048576) = false := decide_eq_false (by omega)
  have hb2 : decide ((1048576 : Int) < (sbk.size : Int)) = false := decide_eq_false (by omega)
  have hrd : decide (r < 0) = true := decide_eq_true (by omega)
  clear hr0 i1 i2
  go_enter Tryd.func10, Tryd.ntmps10
  go_wp2_with (go_at_call 27; refine h1.mono ?_; rintro e w1 ⟨rfl, hB1⟩; have HB1 := Lib.hid hB1; clear hB1 ca h1)
  go_ret
  exact ⟨by first | rfl | (simp; done), H.out.trans (HB1.out.mono H.out.size)⟩
theorem law_holds (A0 : Option Addr) (c0 : Nat) (l : List S104) (slot : Int) (sid sbk : ByteArray) (w : World) (hr : Kd.C k104 w A0 l.length l) (hc : l.length ≤ c0) (hwf : ∀ y ∈ l, wfE y) (hid : sid.size ≤ 9223372036854775807) (hbk : sbk.size ≤ 9223372036854775807) :
    Calls Tryd.prog 10 #[.agg #[.slice A0 l.length c0], .int .i64 slot, .string sid, .string sbk] w fun e w' => e = .returned (.bool true) ∧ Below w.heap.size w w' := by
  obtain ⟨r, hsz, hok⟩ := sz_is hr hc hwf
  by_cases hn : 1048576 < sid.size ∨ 1048576 < sbk.size ∨ r < 0
  · exact law_negA A0 c0 l.length slot sid sbk r w hn hsz
  · have h0 : ¬ r < 0 := fun q => hn (.inr (.inr q))
    have hi : sid.size ≤ 1048576 := Nat.le_of_not_lt (fun q => hn (.inl q))
    have hb : sbk.size ≤ 1048576 := Nat.le_of_not_lt (fun q => hn (.inr (.inl q)))
    obtain ⟨h1, h2⟩ := hok h0
    have hE : OkE (l.map cvE) := ok_of h1 h2
    obtain ⟨mt, hmt⟩ := mt_all
    have hs := ok_small hE
    exact law_walkA A0 c0 l.length slot sid sbk (l.map cvE) (alR slot sid sbk (l.map cvE)) (alK slot sid sbk (l.map cvE)) r w mt hmt hs (al_small slot sid sbk _ hE) (eq_is hs) (eq_is (al_small slot sid sbk _ hE)) h0 hi hb hsz (to_is hr hc h1 h2)
      (fun A c W hC hcl => sAl_walk A c slot sid sbk (l.map cvE) W hC hcl hE hi hb) (fun A c W hC hcl => al_calls A c slot sid sbk (l.map cvE) W hC hcl hE hi hb)
end Go.Proofs.YtnghcnkffbjddaaDoorV.Aes
