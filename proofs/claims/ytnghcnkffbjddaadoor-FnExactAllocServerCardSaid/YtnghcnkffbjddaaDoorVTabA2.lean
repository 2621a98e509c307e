/- impl.AllocServer, walked whole. Conditions: the sizes that okTab names; texts of at most 1048576 bytes. -/
import Derived.Test.YtnghcnkffbjddaaDoorVTabA
import Derived.Test.YtnghcnkffbjddaaDoorVTab11
namespace Go.Proofs.YtnghcnkffbjddaaDoorV.Aes
open Go.RowKit Go.Proofs.YtnghcnkffbjddaaDoorV.PrintWords Go.Proofs.YtnghcnkffbjddaaDoorV.PrintLast Go.Proofs.YtnghcnkffbjddaaDoorV.PrintMore Go.Proofs.YtnghcnkffbjddaaDoorV.Mem
set_option linter.unusedVariables false
set_option linter.unusedSimpArgs false

open Go.Maps Go.WideShapes Go.Proofs.YtnghcnkffbjddaaDoor.PImplM
set_option maxHeartbeats 4000000 in
set_option maxRecDepth 100000 in
theorem al_top (A : Option Addr) (c n : Nat) (slot : Int) (sid sbk : ByteArray) (R : List S68) (code : Int) (w : World)
    (hch : ∀ W s1 s2 s3, Below w.heap.size w W → W.cell? s1 = some (.int .i64 slot) → W.cell? s2 = some (.string sbk) → W.cell? s3 = some (.string sid) → w.heap.size + 5 ≤ W.heap.size → Calls Tryd.prog 65 #[.agg #[.slice A n c], ClVA s1 s2 s3] W (ChPost W R code)) :
    Calls Tryd.prog 41 #[.agg #[.slice A n c], .int .i64 slot, .string sid, .string sbk] w (ChPost w R code) := by
  obtain ⟨o1, ho1⟩ : ∃ q : Obj, q = T1 (.slice A n c) := ⟨_, rfl⟩
  obtain ⟨o2, ho2⟩ : ∃ q : Obj, q = .cells #[.int .i64 slot] 3 := ⟨_, rfl⟩
  obtain ⟨o3, ho3⟩ : ∃ q : Obj, q = .cells #[.string sid] 9 := ⟨_, rfl⟩
  obtain ⟨o4, ho4⟩ : ∃ q : Obj, q = .cells #[.string sbk] 9 := ⟨_, rfl⟩
  obtain ⟨o5, ho5⟩ : ∃ q : Obj, q = T1 (.slice none 0 0) := ⟨_, rfl⟩
  have z1 : (w.alloc o1).heap.size = w.heap.size + 1 := by simp
  have z2 : ((w.alloc o1).alloc o2).heap.size = w.heap.size + 2 := by simp
  have z3 : (((w.alloc o1).alloc o2).alloc o3).heap.size = w.heap.size + 3 := by simp
  have z4 : ((((w.alloc o1).alloc o2).alloc o3).alloc o4).heap.size = w.heap.size + 4 := by simp
  have z5 : (((((w.alloc o1).alloc o2).alloc o3).alloc o4).alloc o5).heap.size = w.heap.size + 5 := by simp
  have b1 := blk_alloc (blk_alloc (blk_alloc (blk_alloc (heap_alloc_new w o1) o2) o3) o4) o5
  have b2 := heap_alloc_new (w.alloc o1) o2
  have b3 := heap_alloc_new ((w.alloc o1).alloc o2) o3
  have b4 := heap_alloc_new (((w.alloc o1).alloc o2).alloc o3) o4
  have b5 := heap_alloc_new ((((w.alloc o1).alloc o2).alloc o3).alloc o4) o5
  rw [z1] at b2
  rw [z2] at b3
  rw [z3] at b4
  rw [z4] at b5
  have b2' := blk_alloc (blk_alloc (blk_alloc b2 o3) o4) o5
  have b3' := blk_alloc (blk_alloc b3 o4) o5
  have b4' := blk_alloc b4 o5
  have hB : Below w.heap.size w (((((w.alloc o1).alloc o2).alloc o3).alloc o4).alloc o5) := (((((Below.refl _ _).alloc (Nat.le_refl _) _).alloc (by rw [z1]; omega) _).alloc (by rw [z2]; omega) _).alloc (by rw [z3]; omega) _).alloc (by rw [z4]; omega) _
  subst ho1 ho2 ho3 ho4 ho5
  have l1 := (blk_cell b1 0).trans rfl
  have hcall := hch _ ⟨w.heap.size + 1, 0, none⟩ ⟨w.heap.size + 3, 0, none⟩ ⟨w.heap.size + 2, 0, none⟩ hB ((blk_cell b2' 0).trans rfl) ((blk_cell b4' 0).trans rfl) ((blk_cell b3' 0).trans rfl) (by rw [z5]; exact Nat.le_refl _)
  have H := Lib.hid (And.intro b5 (And.intro z5 hB))
  unfold ClVA at hcall
  unfold T1 at l1 H hcall
  clear b1 b2 b3 b4 b5 b2' b3' b4' z1 z2 z3 z4 z5 hB hch
  go_enter Tryd.func41, Tryd.ntmps41
  go_wp2_with (go_at_call 65; refine hcall.mono ?_; rintro e w3 ⟨v, rfl, hS, hB3⟩; obtain ⟨Aw, cw, ev⟩ := Kd.S_slice hS; subst ev; have q2 := blk_below H.out.1 hB3; have q := (blk_cell q2 0).trans rfl; have qf := blk_frozen q2 0; have Q2 := Lib.hid q2; have HB3 := Lib.hid hB3; have HS := Lib.hid hS; clear hB3 hS l1 q2)
  have h3 := H.out.2.1
  refine bodyPost_ret (results_cell_tmp rfl _ _ (w.heap.size + 4) 38 #[.slice Aw R.length cw] (0, 0) _ rfl (blk_put Q2.out 0 _ rfl) Tryd.underlying38 rfl (by kernel_rfl)) rfl ?_
  refine ⟨_, rfl, ?_, below_set (H.out.2.2.trans (HB3.out.mono (by omega))) (by omega)⟩
  exact Kd.S_lower (Kd.S_mono (Kd.S_far (Kd.S_bound HS.out) (p := ⟨w.heap.size + 4, 0, none⟩) (fun k hk => by have h2 := hk.2.1; show k ≠ w.heap.size + 4; omega) _) (fun _ _ => trivial)) (by omega)
def alK (slot : Int) (sid sbk : ByteArray) (E : List S68) : Int := if tabOk (E.map evM) = true then alC slot sid sbk E else 1
def alR (slot : Int) (sid sbk : ByteArray) (E : List S68) : List S68 := if tabOk (E.map evM) = true then alE slot sid sbk E else []
theorem ok_callsA {A : Option Addr} {c : Nat} {E : List S68} {w : World} (hr : Kd.C k68 w A E.length E) (hc : E.length ≤ c) (hok : okTab (E.map evM) = true) :
    (∀ W, Below w.heap.size w W → Calls Tryd.prog 30 #[.agg #[.slice A E.length c]] W fun e w' => e = .returned (.bool (tabOk (E.map evM))) ∧ Below W.heap.size W w') ∧
      ∀ W, Below w.heap.size w W → Calls Tryd.prog 96 #[.agg #[.slice A E.length c]] W fun e w' => ∃ v : Value, e = .returned (.agg #[v]) ∧ sEnt w' W.heap.size (fun _ => True) v E ∧ Below W.heap.size W w' := by
  obtain ⟨h1, h2⟩ := (okTab_iff _).mp hok
  have hlen : (E.map evM).length = E.length := List.length_map ..
  rw [hlen] at h1
  have hw : ∀ y, y ∈ E → y.f1.length ≤ 1048576 := fun y hy => by
    have := (h2 (evM y) (List.mem_map.mpr ⟨y, hy, rfl⟩)).1
    have e : (evM y).L.length = y.f1.length := List.length_map ..
    omega
  refine ⟨fun W hW => ?_, fun W hW => impl_cloneTable.calls 1048577 A c E E W (Kd.C_below hr hW) hc (clone_tells 1048577 E h1 hw (by omega))⟩
  have q := tableA_calls A c (E.map evM) (tabOk (E.map evM)) W (by rw [hlen]; exact c_ent (Kd.C_below hr hW)) (by unfold tableA; rw [if_pos hok])
  rw [hlen] at q
  exact q
theorem al_calls (A : Option Addr) (c : Nat) (slot : Int) (sid sbk : ByteArray) (E : List S68) (w : World) (hr : Kd.C k68 w A E.length E) (hc : E.length ≤ c) (hok : okTab (E.map evM) = true) (hid : sid.size ≤ 1048576) (hbk : sbk.size ≤ 1048576) :
    Calls Tryd.prog 41 #[.agg #[.slice A E.length c], .int .i64 slot, .string sid, .string sbk] w (ChPost w (alR slot sid sbk E) (alK slot sid sbk E)) := by
  obtain ⟨hgood, hclone⟩ := ok_callsA hr hc hok
  unfold alR alK
  refine al_top A c E.length slot sid sbk _ _ w (fun W s1 s2 s3 hB h1 h2 h3 hsz => ?_)
  cases hg : tabOk (E.map evM) with
  | false =>
    rw [if_neg (by decide), if_neg (by decide)]
    rw [hg] at hgood
    exact ch_badA A c E.length s1 s2 s3 W (fun W2 hW2 => hgood W2 (hB.trans (hW2.mono hB.size)))
  | true =>
    rw [if_pos rfl, if_pos rfl]
    rw [hg] at hgood
    refine ch_goA A c E.length s1 s2 s3 E (alE slot sid sbk E) (alE slot sid sbk E) (alC slot sid sbk E) W ?_ (fun W2 hW2 => hgood W2 (hB.trans (hW2.mono hB.size))) (fun W2 hW2 => hclone W2 (hB.trans (hW2.mono hB.size))) (al_do slot sid sbk s1 s2 s3 E W h1 h2 h3 hbk hid hg)
    unfold alE
    by_cases q : alC slot sid sbk E = 0
    · rw [if_pos q, if_pos q]
    · rw [if_neg q, if_neg q]
end Go.Proofs.YtnghcnkffbjddaaDoorV.Aes
