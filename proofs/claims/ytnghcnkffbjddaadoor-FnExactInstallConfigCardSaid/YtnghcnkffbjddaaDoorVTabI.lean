/- impl.InstallConfig and its function, walked. Conditions: a good table. -/
import Derived.Test.YtnghcnkffbjddaaDoorVTabS
import Derived.Test.YtnghcnkffbjddaaDoorVTab8I
import Derived.Test.YtnghcnkffbjddaaDoorVTabM
import Derived.Deep.Cut
namespace Go.Proofs.YtnghcnkffbjddaaDoorV.Aes
open Go.RowKit Go.Proofs.YtnghcnkffbjddaaDoorV.PrintWords Go.Proofs.YtnghcnkffbjddaaDoorV.PrintLast Go.Proofs.YtnghcnkffbjddaaDoorV.PrintMore Go.Proofs.YtnghcnkffbjddaaDoorV.Mem
set_option linter.unusedVariables false
set_option linter.unusedSimpArgs false

open Go.Maps Go.WideShapes Go.Proofs.YtnghcnkffbjddaaDoor.PImplM
def CfgObj (s0 s1 s2 : Int) (ky : ByteArray) (fb : Bool) : Obj := .cells #[.int .i64 s0, .int .i64 s1, .int .i64 s2, .string ky, .bool fb] 47 (0, 0)
def newE (s0 s1 s2 : Int) (ky : ByteArray) (fb : Bool) : S68 := ⟨⟨s0, s1, s2, ky, fb⟩, [], 0⟩
theorem new_M (w : World) (base : Nat) (ok : Nat → Prop) (s0 s1 s2 : Int) (ky : ByteArray) (fb : Bool) : k68.M w base ok (newE s0 s1 s2 ky fb) [(.int .i64 s0), (.int .i64 s1), (.int .i64 s2), (.string ky), (.bool fb), (.slice none 0 0), (.int .i64 0)] :=
  k68_mkM w base ok (newE s0 s1 s2 ky fb) (Kd.R_nil _ _ _ _ _)
theorem info68a : (Tryd.prog.info? 68).map (fun i => (i.zero, i.size, i.bytes)) = some (some (.agg #[(.int .i64 0), (.int .i64 0), (.int .i64 0), (.string ⟨#[]⟩), (.bool false), (.slice none 0 0), (.int .i64 0)]), 7, 80) := by kernel_rfl
def insC (s0 s1 s2 : Int) (ky : ByteArray) (E : List S68) : Int := if cfgB s0 s1 s2 ky = true ∧ inB 0 2 s0 = true then (if idxOf s0 (E.map evM) < 0 then 0 else 3) else 1
def insE (s0 s1 s2 : Int) (ky : ByteArray) (fb : Bool) (E : List S68) : List S68 := if insC s0 s1 s2 ky E = 0 then insL ltE (newE s0 s1 s2 ky fb) E else E
set_option maxHeartbeats 4000000 in
set_option maxRecDepth 100000 in
theorem inst_do (s0 s1 s2 : Int) (ky : ByteArray) (fb : Bool) (cb : Nat) (E : List S68) (w : World) (hcb : w.heap[cb]? = some (CfgObj s0 s1 s2 ky fb)) (hE : tabOk (E.map evM) = true) : DoIsI w ⟨cb, 0, none⟩ E (insE s0 s1 s2 ky fb E) (insC s0 s1 s2 ky E) := by
  intro B W p v hB hwB hBW hBp hp hS
  obtain ⟨hE3, hEp, hEg⟩ := tab_facts hE
  obtain ⟨A, cc, rfl, hcl, hC⟩ := Kd.S_reads hS
  have hlen : (E.map evM).length = E.length := List.length_map ..
  have hcw := blk_below hcb hB
  have hgc := fun W' => Go.Proofs.YtnghcnkffbjddaaDoor.PImplG.impl_GoodConfig.calls s0 s1 s2 ky fb (cfgB s0 s1 s2 ky) W' (cfg_tells s0 s1 s2 ky fb)
  have hin := fun W' => Go.Proofs.YtnghcnkffbjddaaDoor.PImplG.impl_in.calls s0 0 2 (inB 0 2 s0) W' (in_tells s0 0 2)
  have hent := fun (W' : World) (hp' : W'.heap[p]? = some (T1 (.slice A E.length cc))) (hB' : Below W.heap.size W W') => entry_walk ⟨p, 0, none⟩ s0 A cc (E.map evM) W' (by rw [hlen]; exact (blk_cell hp' 0).trans rfl) (by rw [hlen]; exact c_ent (Kd.C_below hC hB')) (by omega)
  have l0 := (blk_cell hcw 0).trans rfl
  have l1 := (blk_cell hcw 1).trans rfl
  have l2 := (blk_cell hcw 2).trans rfl
  have l3 := (blk_cell hcw 3).trans rfl
  have l4 := (blk_cell hcw 4).trans rfl
  have H := Lib.hid (And.intro hp (And.intro hcw (And.intro hS (And.intro hBW (And.intro hcl hBp)))))
  have HE := Lib.hid (And.intro hE3 (And.intro hEp hEg))
  have HCB := Lib.hid (Nat.lt_of_lt_of_le (blk_lt hcb) hwB)
  obtain ⟨g1, hg1⟩ : ∃ q, q = cfgB s0 s1 s2 ky := ⟨_, rfl⟩
  obtain ⟨g2, hg2⟩ : ∃ q, q = inB 0 2 s0 := ⟨_, rfl⟩
  obtain ⟨ix, hix⟩ : ∃ q, q = idxOf s0 (E.map evM) := ⟨_, rfl⟩
  have hcode : insC s0 s1 s2 ky E = if g1 = true ∧ g2 = true then (if ix < 0 then 0 else 3) else 1 := by rw [hg1, hg2, hix]; rfl
  have HIX := Lib.hid hix
  rw [← hg1] at hgc
  rw [← hg2] at hin
  rw [← hix] at hent
  clear hp hcw hS hBW hcl hBp hB hwB hcb hE hE3 hEp hEg hC hg1 hg2 hix
  unfold insE
  rw [hcode]
  clear hcode
  cases g1 with
  | false =>
    rw [if_neg (by simp), if_neg (by decide)]
    go_enter Tryd.func66, Tryd.ntmps66
    go_wp2_with (first | (go_at_call 67; refine (hgc _).mono ?_; rintro e w1 ⟨rfl, hB1⟩; have q1 := blk_below H.out.1 hB1; have r1 := blk_below H.out.2.1 hB1; have HQ1 := Lib.hid (And.intro q1 (And.intro r1 hB1)); have m0 := (blk_cell r1 0).trans rfl; clear hB1 q1 r1 l0 l1 l2 l3 l4))
    go_ret
    exact ⟨rfl, HQ1.out.2.2.mono H.out.2.2.2.1, _, HQ1.out.1, Kd.S_below H.out.2.2.1 HQ1.out.2.2⟩
  | true =>
  cases g2 with
  | false =>
    rw [if_neg (by simp), if_neg (by decide)]
    go_enter Tryd.func66, Tryd.ntmps66
    go_wp2_with (first | (go_at_call 67; refine (hgc _).mono ?_; rintro e w1 ⟨rfl, hB1⟩; have q1 := blk_below H.out.1 hB1; have r1 := blk_below H.out.2.1 hB1; have HQ1 := Lib.hid (And.intro q1 (And.intro r1 hB1)); have m0 := (blk_cell r1 0).trans rfl; clear hB1 q1 r1 l0 l1 l2 l3 l4) | (go_at_call 49; refine (hin _).mono ?_; rintro e w2 ⟨rfl, hD2⟩; have hB2 := hD2.below; have q2 := blk_below HQ1.out.1 hB2; have r2 := blk_below HQ1.out.2.1 hB2; have HQ2 := Lib.hid (And.intro q2 (And.intro r2 (HQ1.out.2.2.trans (hB2.mono HQ1.out.2.2.size)))); have n0 := (blk_cell r2 0).trans rfl; clear hB2 hD2 q2 r2 m0))
    go_ret
    exact ⟨rfl, HQ2.out.2.2.mono H.out.2.2.2.1, _, HQ2.out.1, Kd.S_below H.out.2.2.1 HQ2.out.2.2⟩
  | true =>
  rw [if_pos (by decide)]
  by_cases hi : ix < 0
  · rw [if_pos hi, if_pos rfl]
    have hia : decide (0 ≤ ix) = false := decide_eq_false (by omega)
    have hib : decide (ix ≥ 0) = false := decide_eq_false (by omega)
    have HI := Lib.hid hi
    clear hi
    go_enter Tryd.func66, Tryd.ntmps66
    go_upto_region 5 with (first | (go_at_call 67; refine (hgc _).mono ?_; rintro e w1 ⟨rfl, hB1⟩; have q1 := blk_below H.out.1 hB1; have r1 := blk_below H.out.2.1 hB1; have HQ1 := Lib.hid (And.intro q1 (And.intro r1 hB1)); have m0 := (blk_cell r1 0).trans rfl; clear hB1 q1 r1 l0 l1 l2 l3 l4) | (go_at_call 49; refine (hin _).mono ?_; rintro e w2 ⟨rfl, hD2⟩; have hB2 := hD2.below; have q2 := blk_below HQ1.out.1 hB2; have r2 := blk_below HQ1.out.2.1 hB2; have HQ2 := Lib.hid (And.intro q2 (And.intro r2 (HQ1.out.2.2.trans (hB2.mono HQ1.out.2.2.size)))); have n0 := (blk_cell r2 0).trans rfl; clear hB2 hD2 q2 r2 m0) | (go_at_call 68; refine (hent _ HQ2.out.1 HQ2.out.2.2).mono ?_; rintro e w3 ⟨rfl, hB3⟩; have q3 := blk_below HQ2.out.1 hB3; have r3 := blk_below HQ2.out.2.1 hB3; have HQ3 := Lib.hid (And.intro q3 (And.intro r3 (HQ2.out.2.2.trans (hB3.mono HQ2.out.2.2.size)))); clear hB3 q3 r3 n0))
    have HW : Hid (w3.drew.heap[p]? = some (T1 (.slice A E.length cc)) ∧ w3.drew.heap[cb]? = some (CfgObj s0 s1 s2 ky fb)) := Lib.hid ⟨blk_drew HQ3.out.1, blk_drew HQ3.out.2.1⟩
    have HS : Hid (sEnt w3.drew B (fun k => k ≠ p) (.slice A E.length cc) E) := Lib.hid (Kd.S_drew (Kd.S_below H.out.2.2.1 HQ3.out.2.2))
    have HB : Hid (Below B W w3.drew) := Lib.hid (below_drew1 (HQ3.out.2.2.mono H.out.2.2.2.1))
    have HBB := Lib.hid (And.intro H.out.2.2.2.1 (And.intro HCB.out H.out.2.2.2.2.2))
    clear HQ3 HQ2 HQ1
    unfold CfgObj at HW
    obtain ⟨n4, hn4⟩ : ∃ q, q = (E ++ [newE s0 s1 s2 ky fb]).length := ⟨_, rfl⟩
    have HN4 := Lib.hid hn4
    clear hn4
    refine start_ (n := 12) (S := fun w' => w'.cell? ⟨p, 0, none⟩ = some (.slice A E.length cc) ∧ w'.cell? ⟨cb, 0, none⟩ = some (.int .i64 s0) ∧ w'.cell? ⟨cb, 1, none⟩ = some (.int .i64 s1) ∧ w'.cell? ⟨cb, 2, none⟩ = some (.int .i64 s2) ∧ w'.cell? ⟨cb, 3, none⟩ = some (.string ky) ∧ w'.cell? ⟨cb, 4, none⟩ = some (.bool fb)) (ds := [11]) #[false, false, false, false, false, false, false, false, false, false, false, false] (by kernel_rfl) rfl rfl ⟨(blk_cell HW.out.1 0).trans rfl, (blk_cell HW.out.2 0).trans rfl, (blk_cell HW.out.2 1).trans rfl, (blk_cell HW.out.2 2).trans rfl, (blk_cell HW.out.2 3).trans rfl, (blk_cell HW.out.2 4).trans rfl⟩ (fun hHeld => ?_)
    refine pure_ (i := 0) (N := some 20) (v := ?_) (a' := ?_) #[true, false, false, false, false, false, false, false, false, false, false, false] rfl rfl (by kernel_rfl) (fun _ _ _ h => h) (Or.inl ⟨by rfl, ?_⟩) ?_ ?_
    rotate_left
    · intro w'
      go_simp
      with_reducible rfl
    rotate_left
    · simp only [Act.put, List.setIfInBounds_toArray, List.set_cons_zero, List.set_cons_succ, i64_w, i32_w]
      rfl
    refine pure_ (i := 1) (N := some 21) (v := ?_) (a' := ?_) #[true, true, false, false, false, false, false, false, false, false, false, false] rfl rfl (by kernel_rfl) (fun _ _ _ h => h) (Or.inl ⟨by rfl, ?_⟩) ?_ ?_
    rotate_left
    · intro w'
      go_simp
      with_reducible rfl
    rotate_left
    · simp only [Act.put, List.setIfInBounds_toArray, List.set_cons_zero, List.set_cons_succ, i64_w, i32_w]
      rfl
    refine pure_ (i := 2) (N := some 22) (v := ?_) (a' := ?_) #[true, true, true, false, false, false, false, false, false, false, false, false] rfl rfl (by kernel_rfl) (fun _ _ _ h => h) (Or.inl ⟨by rfl, ?_⟩) ?_ ?_
    rotate_left
    · intro w'
      go_simp
      with_reducible rfl
    rotate_left
    · simp only [Act.put, List.setIfInBounds_toArray, List.set_cons_zero, List.set_cons_succ, i64_w, i32_w]
      rfl
    refine pure_ (i := 3) (N := some 23) (v := ?_) (a' := ?_) #[true, true, true, true, false, false, false, false, false, false, false, false] rfl rfl (by kernel_rfl) (fun _ _ _ h => h) (Or.inl ⟨by rfl, ?_⟩) ?_ ?_
    rotate_left
    · intro w'
      go_simp
      with_reducible rfl
    rotate_left
    · simp only [Act.put, List.setIfInBounds_toArray, List.set_cons_zero, List.set_cons_succ, i64_w, i32_w]
      rfl
    refine take_ (i := 4) (N := some 24) (v := ?_) (a' := ?_) #[true, true, true, true, true, false, false, false, false, false, false, false] rfl rfl (by kernel_rfl) (fun _ _ _ h => h) (Or.inl ⟨by rfl, ?_⟩) hHeld ?_ ?_
    rotate_left
    · rintro w' ⟨s0, s1, s2, s3, s4, s5⟩
      go_simp
      with_reducible rfl
    rotate_left
    · simp only [Act.put, List.setIfInBounds_toArray, List.set_cons_zero, List.set_cons_succ, i64_w, i32_w]
      rfl
    refine take_ (i := 5) (N := some 25) (v := ?_) (a' := ?_) #[true, true, true, true, true, true, false, false, false, false, false, false] rfl rfl (by kernel_rfl) (fun _ _ _ h => h) (Or.inl ⟨by rfl, ?_⟩) hHeld ?_ ?_
    rotate_left
    · rintro w' ⟨s0, s1, s2, s3, s4, s5⟩
      go_simp
      with_reducible rfl
    rotate_left
    · simp only [Act.put, List.setIfInBounds_toArray, List.set_cons_zero, List.set_cons_succ, i64_w, i32_w]
      rfl
    refine pure_ (i := 6) (N := some 26) (v := ?_) (a' := ?_) #[true, true, true, true, true, true, true, false, false, false, false, false] rfl rfl (by kernel_rfl) (fun _ _ _ h => h) (Or.inl ⟨by rfl, ?_⟩) ?_ ?_
    rotate_left
    · intro w'
      go_simp
      with_reducible rfl
    rotate_left
    · simp only [Act.put, List.setIfInBounds_toArray, List.set_cons_zero, List.set_cons_succ, i64_w, i32_w]
      rfl
    refine one_ (i := 7) (N := some 27) #[true, true, true, true, true, true, true, true, false, false, false, false] rfl rfl (by kernel_rfl) (by decide) (fun K hK => ?_)
    refine value_ (w1 := ?_) (v := ?_) (by rfl) rfl ?_ ?_
    rotate_left 2
    · go_simp
      constructor
      · rfl
      · rfl
    refine hK.out _ _ ⟨(blk_cell (blk_alloc HW.out.1 _) 0).trans rfl, (blk_cell (blk_alloc HW.out.2 _) 0).trans rfl, (blk_cell (blk_alloc HW.out.2 _) 1).trans rfl, (blk_cell (blk_alloc HW.out.2 _) 2).trans rfl, (blk_cell (blk_alloc HW.out.2 _) 3).trans rfl, (blk_cell (blk_alloc HW.out.2 _) 4).trans rfl⟩ (fun hHeld => ?_)
    clear hK K
    refine norm_ (a' := ?_) ?_ ?_
    rotate_left
    · show Act.put _ (some 27) _ = _
      simp only [Act.put, List.setIfInBounds_toArray, List.set_cons_zero, List.set_cons_succ, i64_w, i32_w]
      rfl
    refine one_ (i := 8) (N := some 28) #[true, true, true, true, true, true, true, true, true, false, false, false] rfl rfl (by kernel_rfl) (by decide) (fun K hK => ?_)
    refine Kd.S_append_step k68 (w0 := W) B (by rfl) (.tmp 24) (.tmp 27) 36 68 (.agg #[(.int .i64 0), (.int .i64 0), (.int .i64 0), (.string ⟨#[]⟩), (.bool false), (.slice none 0 0), (.int .i64 0)]) 80 rfl Tryd.underlying36 info68a rfl (by decide) (by decide) (.slice A E.length cc) E (newE s0 s1 s2 ky fb) [(.int .i64 s0), (.int .i64 s1), (.int .i64 s2), (.string ky), (.bool fb), (.slice none 0 0), (.int .i64 0)] (fun k => k ≠ p) (fun _ => False) rfl rfl (new_M _ _ _ s0 s1 s2 ky fb) (fun _ h => h.elim) (fun k hk he => by have := blk_lt HW.out.1; omega) (Kd.S_mono HS.out (fun k hk => ⟨hk, fun h => h⟩)) HB.out (by have := HB.out.size; have := HBB.out.1; omega) (by have := HE.out.1; omega) ?_
    intro v1 w2 hS2 hB2 hg2 hat2
    obtain ⟨A1, c1, e1⟩ := Kd.S_slice hS2
    rw [← HN4.out] at e1
    subst e1
    have hbase := Kd.S_base HS.out
    have hp2 := blk_grown HW.out.1 hg2 (Kd.S_away HS.out (fun k hk => hk))
    have hc2 := blk_grown HW.out.2 hg2 (fun he => by have h1 := hbase cb he.symm; have h2 := HBB.out.2.1; omega)
    have HS2 := Lib.hid hS2
    have HB2 := Lib.hid hB2
    have HW2 := Lib.hid (And.intro hp2 hc2)
    clear hS2 hB2 hg2 hat2 hbase hp2 hc2
    refine hK.out _ _ ⟨(blk_cell HW2.out.1 0).trans rfl, (blk_cell HW2.out.2 0).trans rfl, (blk_cell HW2.out.2 1).trans rfl, (blk_cell HW2.out.2 2).trans rfl, (blk_cell HW2.out.2 3).trans rfl, (blk_cell HW2.out.2 4).trans rfl⟩ (fun hHeld => ?_)
    clear hK K
    refine norm_ (a' := ?_) ?_ ?_
    rotate_left
    · show Act.put _ (some 28) _ = _
      simp only [Act.put, List.setIfInBounds_toArray, List.set_cons_zero, List.set_cons_succ, i64_w, i32_w]
      rfl
    refine pure_ (i := 9) (N := some 29) (v := ?_) (a' := ?_) #[true, true, true, true, true, true, true, true, true, true, false, false] rfl rfl (by kernel_rfl) (fun _ _ _ h => h) (Or.inl ⟨by rfl, ?_⟩) ?_ ?_
    rotate_left
    · intro w'
      go_simp
      with_reducible rfl
    rotate_left
    · simp only [Act.put, List.setIfInBounds_toArray, List.set_cons_zero, List.set_cons_succ, i64_w, i32_w]
      rfl
    refine pure_ (i := 10) (N := some 30) (v := ?_) (a' := ?_) #[true, true, true, true, true, true, true, true, true, true, true, false] rfl rfl (by kernel_rfl) (fun _ _ _ h => h) (Or.inl ⟨by rfl, ?_⟩) ?_ ?_
    rotate_left
    · intro w'
      go_simp
      with_reducible rfl
    rotate_left
    · simp only [Act.put, List.setIfInBounds_toArray, List.set_cons_zero, List.set_cons_succ, i64_w, i32_w]
      rfl
    refine last_ (i := 11) (N := none) #[true, true, true, true, true, true, true, true, true, true, true, true] rfl rfl (by kernel_rfl) (by decide) (fun K hK => ?_)
    have hs1 : w2.cell? ⟨p, 0, none⟩ = some (.slice A E.length cc) := (blk_cell HW2.out.1 0).trans rfl
    have hf1 := blk_frozen HW2.out.1 0
    refine skip_ (w1 := ?_) (by rfl) rfl ?_ ?_
    rotate_left
    · go_simp
      rfl
    refine hK.out _ _ ?_
    clear hK K
    refine done_ (by kernel_rfl) ?_
    have hS3 : sEnt (w2.setCell ⟨p, 0, none⟩ (.slice A1 n4 c1)) B (fun k => k ≠ p) (.slice A1 n4 c1) (E ++ [newE s0 s1 s2 ky fb]) := Kd.S_far HS2.out (p := ⟨p, 0, none⟩) (fun k hk => hk) _
    have hp3 : (w2.setCell ⟨p, 0, none⟩ (.slice A1 n4 c1)).heap[p]? = some (T1 (.slice A1 n4 c1)) := blk_put HW2.out.1 0 _ rfl
    have hB3 : Below B W (w2.setCell ⟨p, 0, none⟩ (.slice A1 n4 c1)) := Below.setCell (p := ⟨p, 0, none⟩) HB2.out HBB.out.2.2 _
    clear hs1 hf1
    generalize w2.setCell ⟨p, 0, none⟩ (.slice A1 n4 c1) = w4 at hS3 hp3 hB3 ⊢
    obtain ⟨g, cap, ev, hbg, _, _⟩ := Kd.S_form hS3 (by simp)
    injection ev with ea el ec
    subst ea; subst ec
    clear el
    have hgp : g ≠ p := (Kd.S_R hS3).1 g rfl
    have hln : n4 ≤ 12 := by have := HE.out.1; rw [HN4.out, List.length_append, List.length_singleton]; omega
    have hsort := sortE_walk B g n4 c1 (fun k => k ≠ p) _ w4 hS3 hln
    have t3 := (blk_cell hp3 0).trans rfl
    have H4 := Lib.hid (And.intro hp3 (And.intro hB3 (And.intro hgp hbg)))
    have hres : ∀ xs', xs'.Perm (E ++ [newE s0 s1 s2 ky fb]) → (∀ i j (hi : i < j) (hj : j < xs'.length), ltE xs'[j] (xs'[i]'(by omega)) = false) → xs' = insL ltE (newE s0 s1 s2 ky fb) E := fun xs' h1 h2 =>
      sorted_ins ltE ltE_asy ltE_tr h1 h2 HE.out.2.1 (fun x hx => by
        have hn : x.f0.f0 ≠ s0 := idx_none (by rw [← HIX.out]; exact HI.out) x hx
        show decide (x.f0.f0 < s0) = true ∨ decide (s0 < x.f0.f0) = true
        rw [decide_eq_true_iff, decide_eq_true_iff]; omega)
    have HRES := Lib.hid hres
    clear hS3 hp3 hB3 hgp hbg hln hres
    go_wp2_with (first | (go_at_call 69; refine hsort.mono ?_; rintro e w5 ⟨rfl, hg5, xs', hperm, hsrt, hS5⟩; have H5 := Lib.hid (And.intro hg5 (And.intro hperm (And.intro hsrt hS5))); clear hg5 hperm hsrt hS5 t3))
    go_ret
    have hxs := HRES.out _ H5.out.2.1 H5.out.2.2.1
    have hS5 := H5.out.2.2.2
    rw [hxs] at hS5
    refine ⟨rfl, H4.out.2.1.trans ?_, _, blk_grown H4.out.1 H5.out.1 (fun he => H4.out.2.2.1 (by injection he with he; exact he.symm)), hS5⟩
    exact ⟨H5.out.1.os, H5.out.1.tape, H5.out.1.output, H5.out.1.size, fun k hk => H5.out.1.block k (Nat.lt_of_lt_of_le hk (Nat.le_trans HBB.out.1 H4.out.2.1.size)) (fun he => by injection he with he; have := H4.out.2.2.2; omega)⟩
  · rw [if_neg hi, if_neg (by decide)]
    have hia : decide (0 ≤ ix) = true := decide_eq_true (by omega)
    have hib : decide (ix ≥ 0) = true := decide_eq_true (by omega)
    clear hi
    go_enter Tryd.func66, Tryd.ntmps66
    go_wp2_with (first | (go_at_call 67; refine (hgc _).mono ?_; rintro e w1 ⟨rfl, hB1⟩; have q1 := blk_below H.out.1 hB1; have r1 := blk_below H.out.2.1 hB1; have HQ1 := Lib.hid (And.intro q1 (And.intro r1 hB1)); have m0 := (blk_cell r1 0).trans rfl; clear hB1 q1 r1 l0 l1 l2 l3 l4) | (go_at_call 49; refine (hin _).mono ?_; rintro e w2 ⟨rfl, hD2⟩; have hB2 := hD2.below; have q2 := blk_below HQ1.out.1 hB2; have r2 := blk_below HQ1.out.2.1 hB2; have HQ2 := Lib.hid (And.intro q2 (And.intro r2 (HQ1.out.2.2.trans (hB2.mono HQ1.out.2.2.size)))); have n0 := (blk_cell r2 0).trans rfl; clear hB2 hD2 q2 r2 m0) | (go_at_call 68; refine (hent _ HQ2.out.1 HQ2.out.2.2).mono ?_; rintro e w3 ⟨rfl, hB3⟩; have q3 := blk_below HQ2.out.1 hB3; have r3 := blk_below HQ2.out.2.1 hB3; have HQ3 := Lib.hid (And.intro q3 (And.intro r3 (HQ2.out.2.2.trans (hB3.mono HQ2.out.2.2.size)))); clear hB3 q3 r3 n0))
    go_ret
    exact ⟨rfl, HQ3.out.2.2.mono H.out.2.2.2.1, _, HQ3.out.1, Kd.S_below H.out.2.2.1 HQ3.out.2.2⟩
end Go.Proofs.YtnghcnkffbjddaaDoorV.Aes
