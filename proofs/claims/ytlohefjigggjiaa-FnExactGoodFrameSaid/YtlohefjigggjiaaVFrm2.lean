/- (*impl.Frame).named walked. Conditions: none. -/
import Derived.Test.YtlohefjigggjiaaVFrm1
import Derived.Test.YtlohefjigggjiaaPImplFx1
import Derived.Deep.RegionHeld3
import Derived.Lib.Hide
import Derived.Deep.CutBlock
import Derived.Deep.Cut
namespace Go.Proofs.YtlohefjigggjiaaV.Aes
open Go.RowKit Go.Proofs.YtlohefjigggjiaaV.PrintWords Go.Proofs.YtlohefjigggjiaaV.PrintLast Go.Proofs.YtlohefjigggjiaaV.PrintMore Go.Proofs.YtlohefjigggjiaaV.Mem
set_option linter.unusedVariables false
set_option linter.unusedSimpArgs false

open Go.Maps Go.Proofs.Ytlohefjigggjiaa.PImplF
set_option maxRecDepth 100000 in
/-- What a look-up in the map of shapes tells: the shape's parts, in whatever world that holds the map. -/
theorem look_walk (w : World) (b : Nat) (k : Int) (hw : (Lit.int .i64 k).wf = true) (ho : w.ownsMap Try.prog 3 shapeElem b 15 shapesD) :
    ∃ num dt, (∀ W, W.ownsMap Try.prog 3 shapeElem b 15 shapesD → (Instr.lookup 123 (.map (some b)) (.int .i64 k) true).run Try.prog W = .ok (.tuple #[.agg #[.int .i64 num, .bool dt], .bool (Maps.has shapesD (.int .i64 k))]) W) ∧
      shapesD.atKey (.int .i64 k) (shapeD 0 false) = shapeD num dt := by
  have hk : keyOf Try.prog 3 (.int .i64 k) = some (.int .i64 k) := keyOf_int_mk Try.underlying3 hw
  obtain ⟨v, ps, _, hv⟩ := ho.look_ok keyI Try.underlying123 (zeroShape w) (shapeElem_mk 0 false) hk
  obtain ⟨num, dt, rfl, hz⟩ := shapeElem_inv hv
  injection hz with hz1 hz2
  refine ⟨num, dt, fun W hW => ?_, hz1⟩
  obtain ⟨v', ps', hrun, hv'⟩ := hW.look_ok keyI Try.underlying123 (zeroShape _) (shapeElem_mk 0 false) hk
  obtain ⟨num', dt', rfl, hz'⟩ := shapeElem_inv hv'
  injection hz' with hz1' _
  rw [hz1] at hz1'
  unfold shapeD at hz1'
  simp at hz1'
  rw [hrun, hz1'.1, hz1'.2]
theorem new_kept {w w1 : World} {o : Obj} (hB : Below (w.alloc o).drew.heap.size (w.alloc o).drew w1) : w1.heap[w.heap.size]? = some o :=
  (hB.block w.heap.size (by simp)).trans (heap_alloc_new w o)
def TopCut (g : Nat) (k a b c : Int) (fin : Bool) (data : ByteArray) (A : Option Addr) (n cap : Nat) (w : World) (v3 v4 : Value) (wc : World) : Prop :=
  ∃ sb num dt, v3 = .pointer (some ⟨sb, 0, none⟩) ∧ v4 = .bool (Maps.has shapesD (.int .i64 k)) ∧ wc.heap[sb]? = some (.cells #[.int .i64 num, .bool dt] 121 (0, 0)) ∧
    wc.heap[g]? = some (.cells #[.int .i64 k, .int .i64 a, .int .i64 b, .int .i64 c, .bool fin, .string data, .slice A n cap] 55 (0, 0)) ∧ w.heap.size ≤ sb ∧ Below w.heap.size w wc ∧
    shapesD.atKey (.int .i64 k) (shapeD 0 false) = shapeD num dt
def okI (x : Int) : Bool := decide (0 ≤ x) && decide (x ≤ 4611686018427387903)
theorem in_at (n lo hi : Int) (b : Bool) (hb : b = (decide (lo ≤ n) && decide (n ≤ hi))) (w : World) : Calls Try.prog 72 #[.int .i64 n, .int .i64 lo, .int .i64 hi] w fun e w' => e = .returned (.bool b) ∧ w = w' := by
  by_cases h0 : lo ≤ n
  · by_cases h1 : n ≤ hi
    · have : b = true := by rw [hb]; simp [h0, h1]
      rw [this]
      clear hb
      go_enter Try.func72, Try.ntmps72
      go_wp2
      go_ret
      exact ⟨rfl, rfl⟩
    · have : b = false := by rw [hb]; simp [h1]
      rw [this]
      clear hb
      go_enter Try.func72, Try.ntmps72
      go_wp2
      go_ret
      exact ⟨rfl, rfl⟩
  · have : b = false := by rw [hb]; simp [h0]
    rw [this]
    clear hb
    go_enter Try.func72, Try.ntmps72
    go_wp2
    go_ret
    exact ⟨rfl, rfl⟩
theorem isv_at (n : Int) (b : Bool) (hb : b = okI n) (w : World) : Calls Try.prog 54 #[.int .i64 n] w fun e w' => e = .returned (.bool b) ∧ w = w' := by
  have hin := in_at n 0 4611686018427387903 b hb
  clear hb
  go_enter Try.func54, Try.ntmps54
  go_wp2_with (go_at_call 72; refine (hin _).mono ?_; rintro e w1 ⟨rfl, rfl⟩)
  go_ret
  exact ⟨rfl, rfl⟩
section
variable {g : Nat} {k a b c : Int} {fin : Bool} {data : ByteArray} {A : Option Addr} {n cap : Nat} {w w1 : World} {num : Int} {dt : Bool}
theorem top_a (hB : Below w.drew.heap.size w.drew w1) (hg : w.heap[g]? = some (.cells #[.int .i64 k, .int .i64 a, .int .i64 b, .int .i64 c, .bool fin, .string data, .slice A n cap] 55 (0, 0)))
    (hat : shapesD.atKey (.int .i64 k) (shapeD 0 false) = shapeD num dt) :
    TopCut g k a b c fin data A n cap w (.pointer (some ⟨w1.heap.size, 0, none⟩)) (.bool (Maps.has shapesD (.int .i64 k))) (w1.alloc (.cells #[.int .i64 num, .bool dt] 121)) := by
  have hB' : Below w.heap.size w w1 := (below_drew1 (Below.refl w.heap.size w)).trans hB
  exact ⟨w1.heap.size, num, dt, rfl, rfl, blk_new w1 _, blk_alloc (blk_below hg hB') _, hB'.size, below_alloc hB' _, hat⟩
theorem top_b (hB : Below (w.alloc (.cells #[.int .i64 0, .bool false] 121)).drew.heap.size (w.alloc (.cells #[.int .i64 0, .bool false] 121)).drew w1)
    (hg : w.heap[g]? = some (.cells #[.int .i64 k, .int .i64 a, .int .i64 b, .int .i64 c, .bool fin, .string data, .slice A n cap] 55 (0, 0)))
    (hat : shapesD.atKey (.int .i64 k) (shapeD 0 false) = shapeD num dt) :
    TopCut g k a b c fin data A n cap w (.pointer (some ⟨w.heap.size, 0, none⟩)) (.bool (Maps.has shapesD (.int .i64 k))) ((w1.setCell ⟨w.heap.size, 0, none⟩ (.int .i64 num)).setCell ⟨w.heap.size, 1, none⟩ (.bool dt)) := by
  have h0 : Below w.heap.size w (w.alloc (.cells #[.int .i64 0, .bool false] 121)).drew := below_drew1 (below_alloc (Below.refl w.heap.size w) _)
  have hB' : Below w.heap.size w w1 := h0.trans (hB.mono h0.size)
  have hlt := blk_lt hg
  have hq := new_kept hB
  refine ⟨w.heap.size, num, dt, rfl, rfl, blk_put (blk_put hq 0 _ rfl) 1 _ rfl, ?_, Nat.le_refl _, below_set (below_set hB' (Nat.le_refl _)) (Nat.le_refl _), hat⟩
  rw [Below.heap_setCell _ _ _ _ (show g ≠ w.heap.size by omega), Below.heap_setCell _ _ _ _ (show g ≠ w.heap.size by omega)]
  exact blk_below hg hB'
end
def badAt (num : Int) (i : Nat) (x : Int) : Bool := !okI x || (decide (num ≤ (i : Int)) && x != 0)
def badTop (k : Int) (fin : Bool) (data : ByteArray) (n : Nat) (dt ok : Bool) : Bool :=
  if ok = true then (if data.size > 200 then true else if dt = false ∧ data.toList ≠ ([] : List UInt8) then true else if fin = true ∧ k ≠ 8 then true else if 0 < n ∧ k ≠ 2 then true else false) else true
def namedF (k a b c : Int) (fin : Bool) (data : ByteArray) (n : Nat) (num : Int) (dt ok : Bool) : Bool :=
  !(badTop k fin data n dt ok) && (!(badAt num 0 a) && (!(badAt num 1 b) && !(badAt num 2 c)))
def NamedPost (k a b c : Int) (fin : Bool) (data : ByteArray) (n : Nat) (w : World) (e : Ending) (w' : World) : Prop :=
  ∃ num dt, shapesD.atKey (.int .i64 k) (shapeD 0 false) = shapeD num dt ∧ e = .returned (.bool (namedF k a b c fin data n num dt (Maps.has shapesD (.int .i64 k)))) ∧ Below w.heap.size w w'
set_option maxHeartbeats 4000000 in
set_option maxRecDepth 100000 in
theorem named_top (g : Nat) (k a b c : Int) (fin : Bool) (data : ByteArray) (A : Option Addr) (n cap : Nat) (w : World) (hw : (Lit.int .i64 k).wf = true)
    (hg : w.heap[g]? = some (.cells #[.int .i64 k, .int .i64 a, .int .i64 b, .int .i64 c, .bool fin, .string data, .slice A n cap] 55 (0, 0))) :
    Calls Try.prog 81 #[.pointer (some ⟨g, 0, none⟩)] w (NamedPost k a b c fin data n w) := by
  have c0 : w.cell? ⟨g, 0, none⟩ = some (.int .i64 k) := (blk7 hg).1
  have hlt := blk_lt hg
  have hm1 : g ≠ w.heap.size := by omega
  have hm2 : w.heap.size ≠ g := Ne.symm hm1
  have HG := Lib.hid hg
  have HW := Lib.hid hw
  clear hg hw
  go_enter Try.func81, Try.ntmps81
  go_upto_region 1 with (fail)
  go_cut [3, 4] (fun v3 v4 wc => TopCut g k a b c fin data A n cap w v3 v4 wc)
  case first =>
    go_region_held3 (fun W => W.cell? ⟨g, 0, none⟩ = some (.int .i64 k)) (first | exact c0 | exact k0 | go_keep) (first
      | (go_at_call 107; refine (shapes_walk _).mono ?_; rintro e w1 ⟨mb, rfl, hom, hB⟩; obtain ⟨num, dt, hlook, hat⟩ := look_walk w1 mb k HW.out hom; have l0 := hlook w1 hom; have lA := fun o => hlook (w1.alloc o) (hom.alloc o); clear hlook; have HA := Lib.hid hat; clear hat; have k0 : w1.cell? ⟨g, 0, none⟩ = some (.int .i64 k) := (pw_cell_below hB (by first | exact c0 | (go_simp; done))); (try (have hq := new_kept hB; obtain ⟨q0, q1, q2, q3⟩ := blk2 hq; have HQ := Lib.hid hq; clear hq)); have hn1 : g ≠ w1.heap.size := (by have := hB.size; simp at this; omega); have hn2 : w1.heap.size ≠ g := Ne.symm hn1; have HBB := Lib.hid hB; clear hB))
    all_goals (try go_wp2_with fail)
    all_goals go_meet
    all_goals first | exact top_a HBB.out HG.out HA.out | exact top_b HBB.out HG.out HA.out
  case rest =>
    obtain ⟨sb, num, dt, rfl, rfl, hsb, hg, hge, hB, hat⟩ := hcut
    have HOK : ∃ ok, ok = Maps.has shapesD (.int .i64 k) := ⟨_, rfl⟩
    obtain ⟨ok, hok⟩ := HOK
    rw [← hok]
    have HS := Lib.hid (And.intro hsb (And.intro hg (And.intro hge (And.intro hB hat))))
    have HOKH := Lib.hid hok
    clear hsb hg hge hB hat hok c0 hm1 hm2 hlt HW HG
    have fin_ : ∀ r : Bool, r = namedF k a b c fin data n num dt ok → ∀ W', Below w.heap.size w W' → NamedPost k a b c fin data n w (.returned (.bool r)) W' := fun r hr W' hW' => ⟨num, dt, HS.out.2.2.2.2, by rw [hr, HOKH.out], hW'⟩
    obtain ⟨d0, d1, d2, d3, d4, d5, d6, e0, e1, e2, e3, e4, e5, e6⟩ := blk7 HS.out.2.1
    obtain ⟨s0, s1, r0, r1⟩ := blk2 HS.out.1
    go_upto_region 2 with (fail)
    go_cut [65] (fun v65 wx => v65 = .bool (badTop k fin data n dt ok) ∧ wx = wc)
    case first =>
      cases ok with
      | false =>
        go_wp2
        go_meet
        exact ⟨rfl, rfl⟩
      | true =>
        by_cases h1 : data.size > 200
        · have HT := Lib.hid (show badTop k fin data n dt true = true by unfold badTop; rw [if_pos rfl, if_pos h1])
          have h1a : decide (200 < (data.size : Int)) = true := by simp; omega
          have h1b : decide (((data.size : Nat) : Int) > 200) = true := by simp; omega
          clear h1
          go_wp2
          go_meet
          exact ⟨congrArg Value.bool HT.out.symm, rfl⟩
        have h1a : decide (200 < (data.size : Int)) = false := by simp; omega
        have h1b : decide (((data.size : Nat) : Int) > 200) = false := by simp; omega
        have H1 := Lib.hid h1
        clear h1
        by_cases h2 : dt = false ∧ data.toList ≠ ([] : List UInt8)
        · have HT := Lib.hid (show badTop k fin data n dt true = true by unfold badTop; rw [if_pos rfl, if_neg H1.out, if_pos h2])
          obtain ⟨rfl, h2⟩ := h2
          have h2b : (data.toList == ([] : List UInt8)) = false := beq_eq_false_iff_ne.mpr h2
          have h2c : (data.toList != ([] : List UInt8)) = true := bne_iff_ne.mpr h2
          clear h2
          go_wp2
          go_meet
          exact ⟨congrArg Value.bool HT.out.symm, rfl⟩
        have H2 := Lib.hid h2
        by_cases h3 : fin = true ∧ k ≠ 8
        · have HT := Lib.hid (show badTop k fin data n dt true = true by unfold badTop; rw [if_pos rfl, if_neg H1.out, if_neg H2.out, if_pos h3])
          obtain ⟨rfl, h3⟩ := h3
          have h3b : (k == 8) = false := beq_eq_false_iff_ne.mpr h3
          have h3c : (k != 8) = true := bne_iff_ne.mpr h3
          clear h3
          cases dt with
          | true =>
            clear h2
            go_wp2
            go_meet
            exact ⟨congrArg Value.bool HT.out.symm, rfl⟩
          | false =>
            have he : data.toList = ([] : List UInt8) := Decidable.byContradiction fun q => h2 ⟨rfl, q⟩
            have h2b : (data.toList == ([] : List UInt8)) = true := beq_iff_eq.mpr he
            have h2c : (data.toList != ([] : List UInt8)) = false := bne_eq_false_iff_eq.mpr he
            clear h2 he
            go_wp2
            go_meet
            exact ⟨congrArg Value.bool HT.out.symm, rfl⟩
        have H3 := Lib.hid h3
        have hd : dt = true ∨ (dt = false ∧ data.toList = ([] : List UInt8)) := by
          cases dt with
          | true => exact .inl rfl
          | false => exact .inr ⟨rfl, Decidable.byContradiction fun q => h2 ⟨rfl, q⟩⟩
        have hf : fin = false ∨ (fin = true ∧ k = 8) := by
          cases fin with
          | false => exact .inl rfl
          | true => exact .inr ⟨rfl, Decidable.byContradiction fun q => h3 ⟨rfl, q⟩⟩
        clear h2 h3
        by_cases h4 : 0 < n ∧ k ≠ 2
        · have HT := Lib.hid (show badTop k fin data n dt true = true by unfold badTop; rw [if_pos rfl, if_neg H1.out, if_neg H2.out, if_neg H3.out, if_pos h4])
          obtain ⟨h4, h5⟩ := h4
          have h5b : (k == 2) = false := beq_eq_false_iff_ne.mpr h5
          have h5c : (k != 2) = true := bne_iff_ne.mpr h5
          have h4a : decide (0 < (n : Int)) = true := by simp; omega
          have h4b : decide (((n : Nat) : Int) > 0) = true := by simp; omega
          have h4c : decide (0 < n) = true := by simp; omega
          clear h4 h5
          rcases hd with hd | ⟨hd, he⟩
          · subst hd
            rcases hf with hf | ⟨hf, h8⟩
            · subst hf
              go_wp2
              go_meet
              exact ⟨congrArg Value.bool HT.out.symm, rfl⟩
            · subst hf
              have h8b : (k == 8) = true := beq_iff_eq.mpr h8
              have h8c : (k != 8) = false := bne_eq_false_iff_eq.mpr h8
              clear h8
              go_wp2
              go_meet
              exact ⟨congrArg Value.bool HT.out.symm, rfl⟩
          · subst hd
            have h2b : (data.toList == ([] : List UInt8)) = true := beq_iff_eq.mpr he
            have h2c : (data.toList != ([] : List UInt8)) = false := bne_eq_false_iff_eq.mpr he
            clear he
            rcases hf with hf | ⟨hf, h8⟩
            · subst hf
              go_wp2
              go_meet
              exact ⟨congrArg Value.bool HT.out.symm, rfl⟩
            · subst hf
              have h8b : (k == 8) = true := beq_iff_eq.mpr h8
              have h8c : (k != 8) = false := bne_eq_false_iff_eq.mpr h8
              clear h8
              go_wp2
              go_meet
              exact ⟨congrArg Value.bool HT.out.symm, rfl⟩
        have HT := Lib.hid (show badTop k fin data n dt true = false by unfold badTop; rw [if_pos rfl, if_neg H1.out, if_neg H2.out, if_neg H3.out, if_neg h4])
        have h5 : n = 0 ∨ (0 < n ∧ k = 2) := by
          rcases Nat.eq_zero_or_pos n with q | q
          · exact .inl q
          · exact .inr ⟨q, Decidable.byContradiction fun z => h4 ⟨q, z⟩⟩
        clear h4
        rcases hd with hd | ⟨hd, he⟩
        · subst hd
          rcases hf with hf | ⟨hf, h8⟩
          · subst hf
            rcases h5 with h5 | ⟨h5, h6⟩
            · have h4a : decide (0 < (n : Int)) = false := by simp; omega
              have h4b : decide (((n : Nat) : Int) > 0) = false := by simp; omega
              have h4c : decide (0 < n) = false := by simp; omega
              clear h5
              go_wp2
              go_meet
              exact ⟨congrArg Value.bool HT.out.symm, rfl⟩
            · have h4a : decide (0 < (n : Int)) = true := by simp; omega
              have h4b : decide (((n : Nat) : Int) > 0) = true := by simp; omega
              have h4c : decide (0 < n) = true := by simp; omega
              have h6b : (k == 2) = true := beq_iff_eq.mpr h6
              have h6c : (k != 2) = false := bne_eq_false_iff_eq.mpr h6
              clear h5 h6
              go_wp2
              go_meet
              exact ⟨congrArg Value.bool HT.out.symm, rfl⟩
          · subst hf
            have h8b : (k == 8) = true := beq_iff_eq.mpr h8
            have h8c : (k != 8) = false := bne_eq_false_iff_eq.mpr h8
            clear h8
            rcases h5 with h5 | ⟨h5, h6⟩
            · have h4a : decide (0 < (n : Int)) = false := by simp; omega
              have h4b : decide (((n : Nat) : Int) > 0) = false := by simp; omega
              have h4c : decide (0 < n) = false := by simp; omega
              clear h5
              go_wp2
              go_meet
              exact ⟨congrArg Value.bool HT.out.symm, rfl⟩
            · have h4a : decide (0 < (n : Int)) = true := by simp; omega
              have h4b : decide (((n : Nat) : Int) > 0) = true := by simp; omega
              have h4c : decide (0 < n) = true := by simp; omega
              have h6b : (k == 2) = true := beq_iff_eq.mpr h6
              have h6c : (k != 2) = false := bne_eq_false_iff_eq.mpr h6
              clear h5 h6
              go_wp2
              go_meet
              exact ⟨congrArg Value.bool HT.out.symm, rfl⟩
        · subst hd
          have h2b : (data.toList == ([] : List UInt8)) = true := beq_iff_eq.mpr he
          have h2c : (data.toList != ([] : List UInt8)) = false := bne_eq_false_iff_eq.mpr he
          clear he
          rcases hf with hf | ⟨hf, h8⟩
          · subst hf
            rcases h5 with h5 | ⟨h5, h6⟩
            · have h4a : decide (0 < (n : Int)) = false := by simp; omega
              have h4b : decide (((n : Nat) : Int) > 0) = false := by simp; omega
              have h4c : decide (0 < n) = false := by simp; omega
              clear h5
              go_wp2
              go_meet
              exact ⟨congrArg Value.bool HT.out.symm, rfl⟩
            · have h4a : decide (0 < (n : Int)) = true := by simp; omega
              have h4b : decide (((n : Nat) : Int) > 0) = true := by simp; omega
              have h4c : decide (0 < n) = true := by simp; omega
              have h6b : (k == 2) = true := beq_iff_eq.mpr h6
              have h6c : (k != 2) = false := bne_eq_false_iff_eq.mpr h6
              clear h5 h6
              go_wp2
              go_meet
              exact ⟨congrArg Value.bool HT.out.symm, rfl⟩
          · subst hf
            have h8b : (k == 8) = true := beq_iff_eq.mpr h8
            have h8c : (k != 8) = false := bne_eq_false_iff_eq.mpr h8
            clear h8
            rcases h5 with h5 | ⟨h5, h6⟩
            · have h4a : decide (0 < (n : Int)) = false := by simp; omega
              have h4b : decide (((n : Nat) : Int) > 0) = false := by simp; omega
              have h4c : decide (0 < n) = false := by simp; omega
              clear h5
              go_wp2
              go_meet
              exact ⟨congrArg Value.bool HT.out.symm, rfl⟩
            · have h4a : decide (0 < (n : Int)) = true := by simp; omega
              have h4b : decide (((n : Nat) : Int) > 0) = true := by simp; omega
              have h4c : decide (0 < n) = true := by simp; omega
              have h6b : (k == 2) = true := beq_iff_eq.mpr h6
              have h6c : (k != 2) = false := bne_eq_false_iff_eq.mpr h6
              clear h5 h6
              go_wp2
              go_meet
              exact ⟨congrArg Value.bool HT.out.symm, rfl⟩
    case rest =>
      obtain ⟨rfl, rfl⟩ := hcut
      obtain ⟨bt, hbt⟩ : ∃ bt, bt = badTop k fin data n dt ok := ⟨_, rfl⟩
      rw [← hbt]
      have HT := Lib.hid hbt
      clear hbt
      cases bt with
      | true =>
        go_wp2
        go_ret
        exact fin_ false (by unfold namedF; rw [← HT.out]; rfl) _ HS.out.2.2.2.1
      | false =>
        go_upto_region 4 with (fail)
        go_region_held3 (fun W => W.cell? ⟨g, 1, none⟩ = some (.int .i64 a) ∧ W.cell? ⟨g, 2, none⟩ = some (.int .i64 b) ∧ W.cell? ⟨g, 3, none⟩ = some (.int .i64 c)) (first | exact ⟨d1, d2, d3⟩ | go_keep) (fail)
        go_wp2_with fail
        obtain ⟨q0, q1, q2, _, _, _⟩ := blk3 (blk_drew (blk_new wc (.cells #[.int .i64 a, .int .i64 b, .int .i64 c] 3)))
        obtain ⟨t0, _, _, _⟩ := blk2 (blk_drew (blk_alloc HS.out.1 (.cells #[.int .i64 a, .int .i64 b, .int .i64 c] 3)))
        have HB1 := Lib.hid (below_drew1 (below_alloc HS.out.2.2.2.1 (.cells #[.int .i64 a, .int .i64 b, .int .i64 c] 3)))
        clear d0 d1 d2 d3 d4 d5 d6 e0 e1 e2 e3 e4 e5 e6 s0 s1 r0 r1
        generalize (wc.alloc (.cells #[.int .i64 a, .int .i64 b, .int .i64 c] 3)).drew = W1 at q0 q1 q2 t0 HB1 ⊢
        generalize wc.heap.size = ab at q0 q1 q2 ⊢
        go_loopg [5, 6, 80] 3 (fun gg _ _ v80 wr => ∃ kk : Nat, kk ≤ 3 ∧ 3 - kk ≤ gg ∧ v80 = .int .i64 kk ∧ W1 = wr ∧ Aside0 (∀ j, j < kk → badAt num j (rd [a, b, c] (j : Int)) = false))
        case atStart => exact ⟨0, by omega, by omega, rfl, rfl, ⟨fun j hj => absurd hj (Nat.not_lt_zero _)⟩⟩
        case round =>
          obtain ⟨kk, hkk, hg, rfl, rfl, AA⟩ := hrel
          by_cases hlt : kk < 3
          · have hcell : W1.cell? ⟨ab, kk, none⟩ = some (.int .i64 (rd [a, b, c] (kk : Int))) := by
              rcases kk with _ | _ | _ | kk
              · exact q0
              · exact q1
              · exact q2
              · omega
            have hltz : (kk : Int) < 3 := by omega
            obtain ⟨x, hx⟩ : ∃ x, x = rd [a, b, c] (kk : Int) := ⟨_, rfl⟩
            rw [← hx] at hcell
            have HX := Lib.hid hx
            clear hx q0 q1 q2
            obtain ⟨q, hq⟩ : ∃ q, q = okI x := ⟨_, rfl⟩
            have hcall := isv_at x q hq W1
            have HQ := Lib.hid hq
            clear hq
            have bad_ : badAt num kk x = true → false = namedF k a b c fin data n num dt ok := fun h => by
              rw [HX.out] at h
              unfold namedF
              rw [← HT.out]
              rcases kk with _ | _ | _ | kk
              · rw [show badAt num 0 a = true from h]; rfl
              · rw [show badAt num 1 b = true from h]; simp
              · rw [show badAt num 2 c = true from h]; simp
              · omega
            have good_ : badAt num kk x = false → ∀ j, j < kk + 1 → badAt num j (rd [a, b, c] (j : Int)) = false := fun h j hj => by
              by_cases e : j = kk
              · rw [e, ← HX.out]; exact h
              · exact AA.out j (by omega)
            have BAD := Lib.hid bad_
            have GOOD := Lib.hid good_
            clear bad_ good_
            cases q with
            | false =>
              go_wp2_with (go_at_call 54; refine hcall.mono ?_; rintro e w' ⟨rfl, rfl⟩)
              go_ret
              exact fin_ false (BAD.out (by unfold badAt; rw [← HQ.out]; rfl)) _ HB1.out
            | true =>
              by_cases hn : num ≤ (kk : Int)
              · have hn1 : decide (num ≤ (kk : Int)) = true := decide_eq_true hn
                have hn2 : decide ((kk : Int) ≥ num) = true := decide_eq_true hn
                by_cases h0 : x = 0
                · have h0b : (x == 0) = true := beq_iff_eq.mpr h0
                  have h0c : (x != 0) = false := bne_eq_false_iff_eq.mpr h0
                  have OK := Lib.hid (show badAt num kk x = false by unfold badAt; rw [← HQ.out, hn1, h0c]; rfl)
                  clear hn h0
                  go_wp2_with (go_at_call 54; refine hcall.mono ?_; rintro e w' ⟨rfl, rfl⟩)
                  go_roundg (3 - (kk + 1))
                  case measure => omega
                  case rel => exact ⟨kk + 1, by omega, by omega, by first | rfl | (simp; done), rfl, ⟨GOOD.out OK.out⟩⟩
                · have h0b : (x == 0) = false := beq_eq_false_iff_ne.mpr h0
                  have h0c : (x != 0) = true := bne_iff_ne.mpr h0
                  have OK := Lib.hid (show badAt num kk x = true by unfold badAt; rw [← HQ.out, hn1, h0c]; rfl)
                  clear hn h0
                  go_wp2_with (go_at_call 54; refine hcall.mono ?_; rintro e w' ⟨rfl, rfl⟩)
                  go_ret
                  exact fin_ false (BAD.out OK.out) _ HB1.out
              · have hn1 : decide (num ≤ (kk : Int)) = false := decide_eq_false hn
                have hn2 : decide ((kk : Int) ≥ num) = false := decide_eq_false hn
                have OK := Lib.hid (show badAt num kk x = false by unfold badAt; rw [← HQ.out, hn1]; rfl)
                clear hn
                go_wp2_with (go_at_call 54; refine hcall.mono ?_; rintro e w' ⟨rfl, rfl⟩)
                go_roundg (3 - (kk + 1))
                case measure => omega
                case rel => exact ⟨kk + 1, by omega, by omega, by first | rfl | (simp; done), rfl, ⟨GOOD.out OK.out⟩⟩
          · have hltz : ¬ (kk : Int) < 3 := by omega
            have hk3 : kk = 3 := by omega
            have HK := Lib.hid hk3
            clear hk3 q0 q1 q2
            go_wp2
            go_ret
            refine fin_ true ?_ _ HB1.out
            have h0 := AA.out 0 (by have := HK.out; omega)
            have h1 := AA.out 1 (by have := HK.out; omega)
            have h2 := AA.out 2 (by have := HK.out; omega)
            unfold namedF
            rw [← HT.out, show badAt num 0 a = false from h0, show badAt num 1 b = false from h1, show badAt num 2 c = false from h2]
            rfl
end Go.Proofs.YtlohefjigggjiaaV.Aes
