/- impl.InstallConfig, walked whole; rows of entries told by their cells. Conditions: the sizes that okTab names. -/
import Derived.Test.YtnghcnkffbjddaaDoorVTabI
import Derived.Test.YtnghcnkffbjddaaDoorVTab11
namespace Go.Proofs.YtnghcnkffbjddaaDoorV.Aes
open Go.RowKit Go.Proofs.YtnghcnkffbjddaaDoorV.PrintWords Go.Proofs.YtnghcnkffbjddaaDoorV.PrintLast Go.Proofs.YtnghcnkffbjddaaDoorV.PrintMore Go.Proofs.YtnghcnkffbjddaaDoorV.Mem
set_option linter.unusedVariables false
set_option linter.unusedSimpArgs false

open Go.Maps Go.WideShapes Go.Proofs.YtnghcnkffbjddaaDoor.PImplM
set_option maxHeartbeats 4000000 in
set_option maxRecDepth 100000 in
theorem inst_top (A : Option Addr) (c n : Nat) (s0 s1 s2 : Int) (ky : ByteArray) (fb : Bool) (R : List S68) (code : Int) (w : World)
    (hch : ∀ W cb, Below w.heap.size w W → w.heap.size + 3 ≤ W.heap.size → W.heap[cb]? = some (CfgObj s0 s1 s2 ky fb) → Calls Tryd.prog 65 #[.agg #[.slice A n c], ClVI ⟨cb, 0, none⟩] W (ChPost W R code)) :
    Calls Tryd.prog 35 #[.agg #[.slice A n c], .agg #[.int .i64 s0, .int .i64 s1, .int .i64 s2, .string ky, .bool fb]] w (ChPost w R code) := by
  have b1 := heap_alloc_new w (T1 (.slice A n c))
  have q1 : (w.alloc (T1 (.slice A n c))).heap.size = w.heap.size + 1 := by simp
  have b2 := heap_alloc_new (w.alloc (T1 (.slice A n c))) (CfgObj s0 s1 s2 ky fb)
  rw [q1] at b2
  have q2 : ((w.alloc (T1 (.slice A n c))).alloc (CfgObj s0 s1 s2 ky fb)).heap.size = w.heap.size + 2 := by simp
  have b3 := heap_alloc_new ((w.alloc (T1 (.slice A n c))).alloc (CfgObj s0 s1 s2 ky fb)) (T1 (.slice none 0 0))
  rw [q2] at b3
  have q3 : (((w.alloc (T1 (.slice A n c))).alloc (CfgObj s0 s1 s2 ky fb)).alloc (T1 (.slice none 0 0))).heap.size = w.heap.size + 3 := by simp
  have hB : Below w.heap.size w (((w.alloc (T1 (.slice A n c))).alloc (CfgObj s0 s1 s2 ky fb)).alloc (T1 (.slice none 0 0))) := (((Below.refl _ _).alloc (Nat.le_refl _) _).alloc (by rw [q1]; omega) _).alloc (by rw [q2]; omega) _
  have l1 := (blk_cell (blk_alloc (blk_alloc b1 (CfgObj s0 s1 s2 ky fb)) (T1 (.slice none 0 0))) 0).trans rfl
  have hcall := hch _ (w.heap.size + 1) hB (by rw [q3]; exact Nat.le_refl _) (blk_alloc b2 (T1 (.slice none 0 0)))
  have H := Lib.hid (And.intro b3 (And.intro q3 hB))
  unfold ClVI at hcall
  unfold T1 CfgObj at l1 H hcall
  clear b1 b2 b3 q1 q2 q3 hB hch
  go_enter Tryd.func35, Tryd.ntmps35
  go_wp2_with (go_at_call 65; refine hcall.mono ?_; rintro e w3 ⟨v, rfl, hS, hB3⟩; obtain ⟨Aw, cw, ev⟩ := Kd.S_slice hS; subst ev; have q2 := blk_below H.out.1 hB3; have q := (blk_cell q2 0).trans rfl; have qf := blk_frozen q2 0; have Q2 := Lib.hid q2; have HB3 := Lib.hid hB3; have HS := Lib.hid hS; clear hB3 hS l1 q2)
  have h3 := H.out.2.1
  refine bodyPost_ret (results_cell_tmp rfl _ _ (w.heap.size + 2) 38 #[.slice Aw R.length cw] (0, 0) _ rfl (blk_put Q2.out 0 _ rfl) Tryd.underlying38 rfl (by kernel_rfl)) rfl ?_
  refine ⟨_, rfl, ?_, below_set (H.out.2.2.trans (HB3.out.mono (by omega))) (by omega)⟩
  exact Kd.S_lower (Kd.S_mono (Kd.S_far (Kd.S_bound HS.out) (p := ⟨w.heap.size + 2, 0, none⟩) (fun k hk => by have h2 := hk.2.1; show k ≠ w.heap.size + 2; omega) _) (fun _ _ => trivial)) (by omega)
def insK (s0 s1 s2 : Int) (ky : ByteArray) (E : List S68) : Int := if tabOk (E.map evM) = true then insC s0 s1 s2 ky E else 1
def insR (s0 s1 s2 : Int) (ky : ByteArray) (fb : Bool) (E : List S68) : List S68 := if tabOk (E.map evM) = true then insE s0 s1 s2 ky fb E else []
theorem ok_calls {A : Option Addr} {c : Nat} {E : List S68} {w : World} (hr : Kd.C k68 w A E.length E) (hc : E.length ≤ c) (hok : okTab (E.map evM) = true) :
    (∀ W, Below w.heap.size w W → Calls Tryd.prog 30 #[.agg #[.slice A E.length c]] W fun e w' => e = .returned (.bool (tabOk (E.map evM))) ∧ Below W.heap.size W w') ∧
      ∀ W, Below w.heap.size w W → Calls Tryd.prog 96 #[.agg #[.slice A E.length c]] W fun e w' => ∃ v : Value, e = .returned (.agg #[v]) ∧ sEnt w' W.heap.size (fun _ => True) v E ∧ Below W.heap.size W w' := by
  obtain ⟨h1, h2⟩ := (okTab_iff _).mp hok
  have hlen : (E.map evM).length = E.length := List.length_map ..
  rw [hlen] at h1
  have hw : ∀ y, y ∈ E → y.f1.length ≤ 1048576 := fun y hy => by
    have := (h2 (evM y) (List.mem_map.mpr ⟨y, hy, rfl⟩)).1
    have e : (evM y).L.length = y.f1.length := List.length_map ..
    omega
  refine ⟨fun W hW => ?_, fun W hW => impl_cloneTable.calls 1048577 A c E E W (Kd.C_below hr hW) hc (clone_tells 1048577 E h1 hw (by omega))⟩
  have q := tableA_calls A c (E.map evM) (tabOk (E.map evM)) W (by rw [hlen]; exact c_ent (Kd.C_below hr hW)) (by unfold tableA; rw [if_pos hok])
  rw [hlen] at q
  exact q
theorem inst_calls (A : Option Addr) (c : Nat) (s0 s1 s2 : Int) (ky : ByteArray) (fb : Bool) (E : List S68) (w : World) (hr : Kd.C k68 w A E.length E) (hc : E.length ≤ c) (hok : okTab (E.map evM) = true) :
    Calls Tryd.prog 35 #[.agg #[.slice A E.length c], .agg #[.int .i64 s0, .int .i64 s1, .int .i64 s2, .string ky, .bool fb]] w (ChPost w (insR s0 s1 s2 ky fb E) (insK s0 s1 s2 ky E)) := by
  obtain ⟨hgood, hclone⟩ := ok_calls hr hc hok
  unfold insR insK
  refine inst_top A c E.length s0 s1 s2 ky fb _ _ w (fun W cb hB hsz hcb => ?_)
  cases hg : tabOk (E.map evM) with
  | false =>
    rw [if_neg (by decide), if_neg (by decide)]
    rw [hg] at hgood
    exact ch_badI A c E.length ⟨cb, 0, none⟩ W (fun W2 hW2 => hgood W2 (hB.trans (hW2.mono hB.size)))
  | true =>
    rw [if_pos rfl, if_pos rfl]
    rw [hg] at hgood
    refine ch_goI A c E.length ⟨cb, 0, none⟩ E (insE s0 s1 s2 ky fb E) (insE s0 s1 s2 ky fb E) (insC s0 s1 s2 ky E) W ?_ (fun W2 hW2 => hgood W2 (hB.trans (hW2.mono hB.size))) (fun W2 hW2 => hclone W2 (hB.trans (hW2.mono hB.size))) (inst_do s0 s1 s2 ky fb cb E W hcb hg)
    unfold insE
    by_cases q : insC s0 s1 s2 ky E = 0
    · rw [if_pos q, if_pos q]
    · rw [if_neg q, if_neg q]
theorem of_rows {w : World} {A : Option Addr} {n : Nat} (zs : List (S68 × List Value)) (h : (Kd.raw 7).C w A n (zs.map (fun z => z.2))) (hK : ∀ z ∈ zs, k68.K w z.1 z.2) : Kd.C k68 w A n (zs.map (fun z => z.1)) := by
  refine ⟨by have := h.1; rw [List.length_map] at this ⊢; exact this, h.2.1, fun h0 => ?_⟩
  obtain ⟨ad, ea, hc⟩ := h.2.2 h0
  refine ⟨ad, ea, fun j p hp => ?_⟩
  rw [List.getElem?_map] at hp
  obtain ⟨z, hz, rfl⟩ := Option.map_eq_some_iff.mp hp
  obtain ⟨c, c1, c2, c3⟩ := hc j z.2 (by rw [List.getElem?_map, hz]; rfl)
  have e : c = z.2 := c2.1
  subst e
  exact ⟨z.2, c1, hK z (List.mem_of_getElem? hz), c3⟩
/-- Where an element stands that is put in its place. -/
theorem insL_at {β : Type} (lt : β → β → Bool) (z : β) : ∀ (l : List β) (k : Nat), k ≤ l.length → (∀ j (h : j < l.length), j < k → lt l[j] z = true) → (∀ h : k < l.length, lt l[k] z = false) → insL lt z l = l.take k ++ z :: l.drop k
  | [], k, hk, _, _ => by
    obtain rfl : k = 0 := by simpa using hk
    rfl
  | x :: l, 0, _, _, h2 => by
    have := h2 (by simp)
    rw [insL_cons, if_neg (by rw [show lt x z = false from this]; decide)]; rfl
  | x :: l, k + 1, hk, h1, h2 => by
    rw [insL_cons, if_pos (show lt x z = true from h1 0 (by simp) (by omega)), insL_at lt z l k (by simpa using hk) (fun j h hj => h1 (j + 1) (by simpa using h) (by omega)) (fun h => h2 (by simpa using h))]; rfl
end Go.Proofs.YtnghcnkffbjddaaDoorV.Aes
