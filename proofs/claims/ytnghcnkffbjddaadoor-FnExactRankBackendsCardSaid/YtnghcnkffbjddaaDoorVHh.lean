/- impl's hashFrom, walked: a state, a block of 64 bytes and the rounds' words give a new row: what the plain hash tells. Conditions: the state reads as eight words, the rounds' words as sixty-four. -/
import Derived.Test.YtnghcnkffbjddaaDoorVHx
import Derived.StillTailTactics
import Derived.Lib.Hide
import Derived.Laws.Rows
import Derived.Deep.WholeRow
import Derived.Deep.QuietTactic
import Derived.BigQuiet
import Derived.IntWalk
import Derived.Laws.Cover3
import Derived.Deep.CutBlock
import Derived.Deep.Cut
namespace Go.Proofs.YtnghcnkffbjddaaDoorV.Aes
open Go.RowKit Go.Proofs.YtnghcnkffbjddaaDoorV.PrintWords Go.Proofs.YtnghcnkffbjddaaDoorV.PrintLast Go.Proofs.YtnghcnkffbjddaaDoorV.PrintMore Go.Proofs.YtnghcnkffbjddaaDoorV.Mem
set_option linter.unusedVariables false
set_option linter.unusedSimpArgs false

theorem zero66 (wx : World) : (zeroValue 193).run Tryd.prog wx = .ok (.agg (u32s (List.replicate 64 0))) wx := by kernel_rfl
theorem build66 (wx : World) : (Instr.build 193 #[]).run Tryd.prog wx = .ok (.agg (u32s (List.replicate 64 0))) wx := by kernel_rfl
theorem store66 (wx : World) (Z : Array Value) (hZ : Z = u32s (List.replicate 64 0)) : (storeCells ⟨wx.heap.size, 0, none⟩ Z.toList 0).run Tryd.prog (wx.alloc (.cells Z 193)) = .ok () (wx.alloc (.cells Z 193)) := by
  subst hZ
  exact run_storeCells_new wx 193 _ _ (by kernel_rfl) rfl (by kernel_rfl)
theorem Aw.setRow {w : World} {g : Nat} {t : TypeId} {l l' : List Int} (h : Aw w g t l) : Aw (w.setRow g (u32s l')) g t l' := setRow_heap w g _ _ t (0, 0) h
theorem below_setRow {B g : Nat} {w w' : World} (h : Below B w w') (hg : B ≤ g) (cs : Array Value) : Below B w (w'.setRow g cs) := by
  refine ⟨h.os, h.tape, h.output, ?_, fun k hk => ?_⟩
  · show _ ≤ (w'.heap.modify g _).size
    rw [Array.size_modify]; exact h.size
  · rw [← h.block k hk]
    show (w'.heap.modify g _)[k]? = _
    rw [Array.getElem?_modify, if_neg (by omega)]
theorem gate_store {P : Program} {ops : Array Oper} {rest : List Oper} {o : Oper} {a : Act} {Q : Exit → Act → World → Prop} {W : World} {ty : TypeId} {x y : Operand} (_ho : o.op = .store ty x y) (h : wpList P ops Q (o :: rest) a W) : wpList P ops Q (o :: rest) a W := h
theorem built8 (c0 c1 c2 c3 c4 c5 c6 c7 : Int) : Tryd.prog.built 195 [(0, .int .u32 c0), (1, .int .u32 c1), (2, .int .u32 c2), (3, .int .u32 c3), (4, .int .u32 c4), (5, .int .u32 c5), (6, .int .u32 c6), (7, .int .u32 c7)] = some #[.int .u32 c0, .int .u32 c1, .int .u32 c2, .int .u32 c3, .int .u32 c4, .int .u32 c5, .int .u32 c6, .int .u32 c7] := by kernel_rfl
theorem wpList_build8 {ops : Array Oper} {rest : List Oper} {o : Oper} {a : Act} {w : World} {Q : Exit → Act → World → Prop} (hg : o.guard = none) (t0 t1 t2 t3 t4 t5 t6 t7 : Operand) (ho : o.op = .build 195 #[(0, t0), (1, t1), (2, t2), (3, t3), (4, t4), (5, t5), (6, t6), (7, t7)]) (c0 c1 c2 c3 c4 c5 c6 c7 : Int)
    (h0 : a.eval t0 = .int .u32 c0) (h1 : a.eval t1 = .int .u32 c1) (h2 : a.eval t2 = .int .u32 c2) (h3 : a.eval t3 = .int .u32 c3) (h4 : a.eval t4 = .int .u32 c4) (h5 : a.eval t5 = .int .u32 c5) (h6 : a.eval t6 = .int .u32 c6) (h7 : a.eval t7 = .int .u32 c7)
    (h : wpList Tryd.prog ops Q rest (a.put o.dst (.agg #[.int .u32 c0, .int .u32 c1, .int .u32 c2, .int .u32 c3, .int .u32 c4, .int .u32 c5, .int .u32 c6, .int .u32 c7])) w) : wpList Tryd.prog ops Q (o :: rest) a w := by
  have e : (#[(0, t0), (1, t1), (2, t2), (3, t3), (4, t4), (5, t5), (6, t6), (7, t7)].map fun (p : Nat × Operand) => (p.1, a.eval p.2)).toList = [(0, .int .u32 c0), (1, .int .u32 c1), (2, .int .u32 c2), (3, .int .u32 c3), (4, .int .u32 c4), (5, .int .u32 c5), (6, .int .u32 c6), (7, .int .u32 c7)] := by
    simp only [List.map_toArray, List.map_cons, List.map_nil, h0, h1, h2, h3, h4, h5, h6, h7]
  have hb := built8 c0 c1 c2 c3 c4 c5 c6 c7
  rw [← e] at hb
  refine wpList_build hg _ _ ho (by rw [hb]; rfl) ?_
  rw [hb]
  exact h
theorem rnd0 (l : List Int) (h : l.length = 8) : l = [rd l 0, rd l 1, rd l 2, rd l 3, rd l 4, rd l 5, rd l 6, rd l 7] := by
  match l, h with
  | [a, b, c, d, e, f, g, i], _ => rfl
theorem load64 (wx : World) (g : Nat) (l : List Int) (hl : l.length = 64) (h : Aw wx g 193 l) : (loadCellsFrom ⟨g, 0, none⟩ 0 64 #[]).run Tryd.prog wx = .ok (u32s l) wx := by
  have := run_loadCells_list (P := Tryd.prog) wx ⟨g, 0, none⟩ (u32s l).toList (fun j v hv => by
    have hj : j < l.length := by
      have := (List.getElem?_eq_some_iff.mp hv).1
      simpa [u32s] using this
    have hadd : (⟨g, 0, none⟩ : Addr).add j = ⟨g, j, none⟩ := by unfold Addr.add; split <;> simp_all
    rw [hadd, h.cell hj]
    rw [← hv]
    simp [u32s, rd, List.getElem?_eq_getElem hj])
  have hsz : (u32s l).toList.length = 64 := by simp [u32s, hl]
  rw [hsz] at this
  simpa [loadCells] using this
theorem below_drewN' {B : Nat} {w w' : World} (h : Below B w w') (n : Nat) : Below B w (w'.drewN n) := ⟨h.os, h.tape, h.output, h.size, h.block⟩
theorem slice_str (b : ByteArray) (i j : Nat) (x y : Int) (hx : x = (i : Int)) (hy : y = (j : Int)) (hij : i ≤ j) (hj : j ≤ b.size) (wx : World) : (Instr.slice 9 (.string b) (some (.int .i64 x)) (some (.int .i64 y)) none).run Tryd.prog wx = .ok (.string (b.extract i j)) wx := by
  subst hx; subst hy
  go_simp
theorem sched_set (b : ByteArray) (i : Nat) (h : i < 64) (v : Int) (hv : v = nextW b (schedN b i) i) : (schedN b i ++ List.replicate (64 - i) 0).set i v = schedN b (i + 1) ++ List.replicate (64 - (i + 1)) 0 := by
  have hl := schedN_length b i
  rw [List.set_append_right _ _ (by omega), hl, Nat.sub_self, show 64 - i = (64 - (i + 1)) + 1 by omega, List.replicate_succ, List.set_cons_zero, schedN, hv, List.append_assoc]
  rfl
theorem sched_rd (b : ByteArray) (i m p : Nat) (h : p < i) : rd (schedN b i ++ List.replicate m 0) (p : Int) = rd (schedN b i) (p : Int) := rd_append _ _ _ (by rw [schedN_length]; exact h)
set_option maxHeartbeats 16000000 in
set_option maxRecDepth 100000 in
theorem hashFrom_walk (st ks : List Int) (b : ByteArray) (hst : st.length = 8) (hks : ks.length = 64) (hb : b.size = 64) (gs os cs gk ok ck : Nat) (w : World)
    (hS : ∀ i, i < 8 → w.cell? ⟨gs, os + i, none⟩ = some (.int .u32 (rd st (i : Int)))) (hsb : gs < w.heap.size)
    (hK : ∀ i, i < 64 → w.cell? ⟨gk, ok + i, none⟩ = some (.int .u32 (rd ks (i : Int)))) (hkb : gk < w.heap.size) :
    Calls Tryd.prog 154 #[.slice (some ⟨gs, os, none⟩) 8 cs, .string b, .slice (some ⟨gk, ok, none⟩) 64 ck] w (Words w (hashL st ks b)) := by
  obtain ⟨i0, hi, hz0, hz1, hz2⟩ := info_parts info46
  have hz := zero66
  have hbd := build66
  obtain ⟨Z, hZ⟩ : ∃ Z, Z = u32s (List.replicate 64 0) := ⟨_, rfl⟩
  have hsc := fun wx => store66 wx Z hZ
  rw [← hZ] at hz hbd
  have hZs : Z.size = 64 := by rw [hZ]; rfl
  have hA0 : Aw (w.alloc (.cells Z 193)) w.heap.size 193 (List.replicate 64 0) := by rw [hZ]; exact Aw.made w 193 _
  have HA0 := Lib.hid hA0
  have Hst := Lib.hid hst
  have Hks := Lib.hid hks
  have hbs : b.size ≤ 64 ∧ 64 ≤ b.size := by omega
  clear hZ hA0 hst hks hb
  go_enter Tryd.func154, Tryd.ntmps154
  go_wp2
  go_loopw [22] (fun v wr => ∃ i : Nat, i ≤ 64 ∧ v = .int .i64 (i : Int) ∧ Aw wr w.heap.size 193 (schedN b i ++ List.replicate (64 - i) 0) ∧ Below w.heap.size w wr)
    (fun v _ => 64 - (intOf v).toNat)
  case atStart => exact ⟨0, by omega, rfl, HA0.out, (Below.refl _ _).alloc (Nat.le_refl _) _⟩
  case round =>
    obtain ⟨i, hi64, rfl, hA, hB⟩ := hrel
    have hll : (schedN b i ++ List.replicate (64 - i) 0).length = 64 := by rw [List.length_append, schedN_length, List.length_replicate]; omega
    by_cases h64 : i < 64
    · have h64i : (i : Int) < 64 := by omega
      have hci : wr.cell? ⟨w.heap.size, i, none⟩ = some (.int .u32 (rd (schedN b i ++ List.replicate (64 - i) 0) (i : Int))) := hA.cell (by rw [hll]; exact h64)
      have hfi : wr.frozen? ⟨w.heap.size, i, none⟩ = false := hA.frozen
      by_cases h16 : i < 16
      · have h16i : (i : Int) < 16 := by omega
        have hnw := num_walk (b.extract (4 * i) (4 * i + 4)) (by rw [ByteArray.size_extract]; omega)
        have hv : nextW b (schedN b i) i = (bigN (bytesOf (b.extract (4 * i) (4 * i + 4))) 0 % 18446744073709551616) % 4294967296 := by
          unfold nextW
          rw [if_pos h16]
          omega
        obtain ⟨V, hV⟩ : ∃ V, V = bigN (bytesOf (b.extract (4 * i) (4 * i + 4))) 0 % 18446744073709551616 := ⟨_, rfl⟩
        rw [← hV] at hnw hv
        clear hV
        have hset := sched_set b i h64 (V % 4294967296) hv.symm
        have Hset := Lib.hid hset
        have hs1 : 4 * i + 4 ≤ b.size := by omega
        have hs1i : 4 * (i : Int) + 4 ≤ (b.size : Int) := by omega
        have hA2 := fun (n : Nat) => Aw.set (i := i) (x := V % 4294967296) (show Aw (wr.drewN n) _ _ _ from hA)
        have hsl := slice_str b (4 * i) (4 * i + 4) (4 * (i : Int)) (4 * (i : Int) + 4) (by omega) (by omega) (by omega) hs1
        clear hv hset hs1 hs1i
        go_wp2_with (go_at_call 111; refine (hnw _).mono ?_; rintro e w' ⟨rfl, ⟨nd, rfl⟩⟩)
        exact ⟨⟨i + 1, by omega, by go_num, by rw [← Hset.out]; exact hA2 nd, (below_drewN' hB nd).setCell (Nat.le_refl _) _⟩, by simp [intOf]; omega⟩
      · have h16i : ¬ (i : Int) < 16 := by omega
        obtain ⟨p, hp⟩ : ∃ p, p + 16 = i := ⟨i - 16, by omega⟩
        obtain ⟨p1, hp1⟩ : ∃ p1, p1 + 15 = i := ⟨i - 15, by omega⟩
        obtain ⟨p9, hp9⟩ : ∃ p9, p9 + 7 = i := ⟨i - 7, by omega⟩
        obtain ⟨p14, hp14⟩ : ∃ p14, p14 + 2 = i := ⟨i - 2, by omega⟩
        have hv : nextW b (schedN b i) i = (((rd (schedN b i) (p : Int) + sg0 (rd (schedN b i) (p1 : Int))) % 4294967296 + rd (schedN b i) (p9 : Int)) % 4294967296 + sg1 (rd (schedN b i) (p14 : Int))) % 4294967296 := by
          unfold nextW
          rw [if_neg h16, show i - 16 = p by omega, show i - 15 = p1 by omega, show i - 7 = p9 by omega, show i - 2 = p14 by omega]
        have c0 : wr.cell? ⟨w.heap.size, p, none⟩ = some (.int .u32 (rd (schedN b i) (p : Int))) := by rw [hA.cell (by omega), sched_rd _ _ _ _ (by omega)]
        have c1 : wr.cell? ⟨w.heap.size, p1, none⟩ = some (.int .u32 (rd (schedN b i) (p1 : Int))) := by rw [hA.cell (by omega), sched_rd _ _ _ _ (by omega)]
        have c9 : wr.cell? ⟨w.heap.size, p9, none⟩ = some (.int .u32 (rd (schedN b i) (p9 : Int))) := by rw [hA.cell (by omega), sched_rd _ _ _ _ (by omega)]
        have c14 : wr.cell? ⟨w.heap.size, p14, none⟩ = some (.int .u32 (rd (schedN b i) (p14 : Int))) := by rw [hA.cell (by omega), sched_rd _ _ _ _ (by omega)]
        obtain ⟨x0, hx0⟩ : ∃ x, x = rd (schedN b i) (p : Int) := ⟨_, rfl⟩
        obtain ⟨x1, hx1⟩ : ∃ x, x = rd (schedN b i) (p1 : Int) := ⟨_, rfl⟩
        obtain ⟨x9, hx9⟩ : ∃ x, x = rd (schedN b i) (p9 : Int) := ⟨_, rfl⟩
        obtain ⟨x14, hx14⟩ : ∃ x, x = rd (schedN b i) (p14 : Int) := ⟨_, rfl⟩
        rw [← hx0] at c0 hv
        rw [← hx1] at c1 hv
        rw [← hx9] at c9 hv
        rw [← hx14] at c14 hv
        have hset := sched_set b i h64 ((x0 + sg0 x1 + x9 + sg1 x14) % 4294967296) (by rw [hv]; omega)
        have Hset := Lib.hid hset
        have e1 : IntKind.i64.wrap ((i : Int) - 15) = (p1 : Int) := by rw [IntWalk.i64_in _ (by omega)]; omega
        have e2 : IntKind.i64.wrap ((i : Int) - 2) = (p14 : Int) := by rw [IntWalk.i64_in _ (by omega)]; omega
        have e3 : IntKind.i64.wrap ((i : Int) - 16) = (p : Int) := by rw [IntWalk.i64_in _ (by omega)]; omega
        have e4 : IntKind.i64.wrap ((i : Int) - 7) = (p9 : Int) := by rw [IntWalk.i64_in _ (by omega)]; omega
        have q0 : (p : Int) < 64 := by omega
        have q1 : (p1 : Int) < 64 := by omega
        have q9 : (p9 : Int) < 64 := by omega
        have q14 : (p14 : Int) < 64 := by omega
        clear hv hset hp hp1 hp9 hp14 hx0 hx1 hx9 hx14
        go_wp2
        go_quiet (fail)
        go_wp2
        have hA1 : Aw (wr.drewN nq) _ _ _ := hA
        have hB1 := below_drewN' hB nq
        have d0 : (wr.drewN nq).cell? ⟨w.heap.size, p, none⟩ = some (.int .u32 x0) := c0
        have d9 : (wr.drewN nq).cell? ⟨w.heap.size, p9, none⟩ = some (.int .u32 x9) := c9
        have di : (wr.drewN nq).cell? ⟨w.heap.size, i, none⟩ = some (.int .u32 (rd (schedN b i ++ List.replicate (64 - i) 0) (i : Int))) := hci
        have df : (wr.drewN nq).frozen? ⟨w.heap.size, i, none⟩ = false := hfi
        obtain ⟨W, hW⟩ : ∃ W, W = wr.drewN nq := ⟨_, rfl⟩
        rw [← hW] at hA1 hB1 d0 d9 di df ⊢
        clear hW hA hB c0 c1 c9 c14 hci hfi e1 e2 q1 q14
        have hA2 : Aw (W.setCell _ _).drew _ _ _ := Aw.set (i := i) (x := (x0 + sg0 x1 + x9 + sg1 x14) % 4294967296) hA1
        refine wp_region_still_tail 29 (by kernel_rfl) (by kernel_rfl) ?_
        simp only [List.take_succ_cons, List.take_zero, List.drop_succ_cons, List.drop_zero]
        iterate 6 still_step
        still_call (still7 x1 _)
        still_step
        still_call (still18 x1 _)
        iterate 11 still_step
        still_call (still17 x14 _)
        still_step
        still_call (still19 x14 _)
        iterate 6 still_step
        refine wpStill_nil ?_
        change wpList _ _ _ _ _ W.drew
        clear hA1
        go_wp2
        exact ⟨⟨i + 1, by omega, by go_num, by rw [← Hset.out]; exact hA2, below_drewN' (hB1.setCell (Nat.le_refl _) _) 1⟩, by simp [intOf]; omega⟩
    · have hi0 : i = 64 := by omega
      subst hi0
      have hAW : Aw wr w.heap.size 193 (schedN b n64) := by
        have h := hA
        simp only [Nat.sub_self, List.replicate_zero, List.append_nil] at h
        exact h
      have hwl : (schedN b n64).length = 64 := schedN_length b 64
      obtain ⟨ws, hws⟩ : ∃ ws, ws = schedN b n64 := ⟨_, rfl⟩
      rw [← hws] at hAW hwl
      have Hws := Lib.hid hws
      clear hA hll hws h64
      have e0 : wr.cell? ⟨gs, os, none⟩ = some (.int .u32 (rd st 0)) := by rw [hB.cell (by simpa using hsb)]; exact hS 0 (by decide)
      have e1 : wr.cell? ⟨gs, os + 1, none⟩ = some (.int .u32 (rd st 1)) := by rw [hB.cell (by simpa using hsb)]; exact hS 1 (by decide)
      have e2 : wr.cell? ⟨gs, os + 2, none⟩ = some (.int .u32 (rd st 2)) := by rw [hB.cell (by simpa using hsb)]; exact hS 2 (by decide)
      have e3 : wr.cell? ⟨gs, os + 3, none⟩ = some (.int .u32 (rd st 3)) := by rw [hB.cell (by simpa using hsb)]; exact hS 3 (by decide)
      have e4 : wr.cell? ⟨gs, os + 4, none⟩ = some (.int .u32 (rd st 4)) := by rw [hB.cell (by simpa using hsb)]; exact hS 4 (by decide)
      have e5 : wr.cell? ⟨gs, os + 5, none⟩ = some (.int .u32 (rd st 5)) := by rw [hB.cell (by simpa using hsb)]; exact hS 5 (by decide)
      have e6 : wr.cell? ⟨gs, os + 6, none⟩ = some (.int .u32 (rd st 6)) := by rw [hB.cell (by simpa using hsb)]; exact hS 6 (by decide)
      have e7 : wr.cell? ⟨gs, os + 7, none⟩ = some (.int .u32 (rd st 7)) := by rw [hB.cell (by simpa using hsb)]; exact hS 7 (by decide)
      have hat : ∀ wx, (Instr.arrayAt 195 (.slice (some ⟨gs, os, none⟩) 8 cs)).run Tryd.prog wx = .ok (.pointer (some ⟨gs, os, none⟩)) wx := fun wx => run_arrayAt wx 195 _ 8 _ 8 cs Tryd.underlying195 (by decide)
      have HK := Lib.hid hK
      have HS := Lib.hid hS
      clear hK hS
      have hA1 := hAW.alloc (.cells #[.int .u32 (rd st 0), .int .u32 (rd st 1), .int .u32 (rd st 2), .int .u32 (rd st 3), .int .u32 (rd st 4), .int .u32 (rd st 5), .int .u32 (rd st 6), .int .u32 (rd st 7)] 195)
      have hsz : (Tryd.prog.info? 193).map (·.size) = some (u32s ws).size := by
        rw [show (u32s ws).size = 64 by simp [u32s, hwl]]
        kernel_rfl
      have hA1' : (wr.alloc (.cells #[.int .u32 (rd st 0), .int .u32 (rd st 1), .int .u32 (rd st 2), .int .u32 (rd st 3), .int .u32 (rd st 4), .int .u32 (rd st 5), .int .u32 (rd st 6), .int .u32 (rd st 7)] 195)).heap[w.heap.size]? = some (.cells (u32s ws) 193 (0, 0)) := hA1
      have HA1 := Lib.hid hA1'
      clear hA1 hA1'
      go_upto_region 11 with (simp only [hat])
      go_step
      refine wpList_load_row (ty := 193) (x := .tmp 7) (g := w.heap.size) (t := 193) (cs := u32s ws) (fr := (0, 0)) rfl rfl rfl _ HA1.out Tryd.underlying193 rfl hsz ?_
      clear hat e0 e1 e2 e3 e4 e5 e6 e7 hsz
      have hx0 := rnd0 st Hst.out
      have hS0 := Aw.made wr 195 st
      rw [show u32s st = #[.int .u32 (rd st 0), .int .u32 (rd st 1), .int .u32 (rd st 2), .int .u32 (rd st 3), .int .u32 (rd st 4), .int .u32 (rd st 5), .int .u32 (rd st 6), .int .u32 (rd st 7)] by rw [hx0]; rfl] at hS0
      have hB1 := hB.alloc hB.size (.cells #[.int .u32 (rd st 0), .int .u32 (rd st 1), .int .u32 (rd st 2), .int .u32 (rd st 3), .int .u32 (rd st 4), .int .u32 (rd st 5), .int .u32 (rd st 6), .int .u32 (rd st 7)] 195)
      have hwg : w.heap.size < wr.heap.size := hAW.lt
      obtain ⟨G, hG⟩ : ∃ G, G = wr.heap.size := ⟨_, rfl⟩
      rw [← hG] at hS0 hwg ⊢
      obtain ⟨w2, hw2⟩ : ∃ w2, w2 = wr.alloc (.cells #[.int .u32 (rd st 0), .int .u32 (rd st 1), .int .u32 (rd st 2), .int .u32 (rd st 3), .int .u32 (rd st 4), .int .u32 (rd st 5), .int .u32 (rd st 6), .int .u32 (rd st 7)] 195) := ⟨_, rfl⟩
      rw [← hw2] at hS0 hB1 ⊢
      clear hw2 hG HA1 hAW hB hx0
      have hix := index64 ws hwl
      go_wp2
      go_loopw [80] (fun v wx => ∃ j : Nat, j ≤ 64 ∧ v = .int .i64 (j : Int) ∧ Aw wx G 195 (rndN ks ws st j) ∧ Below w.heap.size w wx) (fun v _ => 64 - (intOf v).toNat)
      case atStart => exact ⟨0, by omega, rfl, hS0, hB1⟩
      case round =>
        clear hS0 hB1
        obtain ⟨j, hj, rfl, hS, hB⟩ := hrel
        have hsl := rndN_length ks ws st Hst.out j
        by_cases hj64 : j < 64
        · have hj64i : (j : Int) < 64 := by omega
          have hck : wr.cell? ⟨gk, ok + j, none⟩ = some (.int .u32 (rd ks (j : Int))) := by rw [hB.cell (by simpa using hkb)]; exact HK.out j hj64
          have hixj := hix j hj64
          have hnx : rndN ks ws st (j + 1) = rnd (rndN ks ws st j) (rd ks (j : Int)) (rd ws (j : Int)) := rfl
          obtain ⟨s, hs⟩ : ∃ s, s = rndN ks ws st j := ⟨_, rfl⟩
          obtain ⟨kk, hkk⟩ : ∃ kk, kk = rd ks (j : Int) := ⟨_, rfl⟩
          obtain ⟨xx, hxx⟩ : ∃ xx, xx = rd ws (j : Int) := ⟨_, rfl⟩
          rw [← hs] at hS hsl hnx
          rw [← hkk] at hck hnx
          rw [← hxx] at hixj hnx
          have Hnx := Lib.hid hnx
          clear hs hkk hxx hnx hix
          have a0 : wr.cell? ⟨G, 0, none⟩ = some (.int .u32 (rd s 0)) := hS.cell (i := 0) (by omega)
          have a1 : wr.cell? ⟨G, 1, none⟩ = some (.int .u32 (rd s 1)) := hS.cell (i := 1) (by omega)
          have a2 : wr.cell? ⟨G, 2, none⟩ = some (.int .u32 (rd s 2)) := hS.cell (i := 2) (by omega)
          have a3 : wr.cell? ⟨G, 3, none⟩ = some (.int .u32 (rd s 3)) := hS.cell (i := 3) (by omega)
          have a4 : wr.cell? ⟨G, 4, none⟩ = some (.int .u32 (rd s 4)) := hS.cell (i := 4) (by omega)
          have a5 : wr.cell? ⟨G, 5, none⟩ = some (.int .u32 (rd s 5)) := hS.cell (i := 5) (by omega)
          have a6 : wr.cell? ⟨G, 6, none⟩ = some (.int .u32 (rd s 6)) := hS.cell (i := 6) (by omega)
          have a7 : wr.cell? ⟨G, 7, none⟩ = some (.int .u32 (rd s 7)) := hS.cell (i := 7) (by omega)
          have Hsl := Lib.hid hsl
          clear hsl
          go_wp2
          go_quiet (fail)
          go_wp2
          obtain ⟨W, hW⟩ : ∃ W, W = wr.drewN nq := ⟨_, rfl⟩
          have hS1 : Aw (wr.drewN nq) _ _ _ := hS
          have hB1 := below_drewN' hB nq
          have b1 : (wr.drewN nq).cell? ⟨G, 1, none⟩ = some (.int .u32 (rd s 1)) := a1
          have b2 : (wr.drewN nq).cell? ⟨G, 2, none⟩ = some (.int .u32 (rd s 2)) := a2
          have b5 : (wr.drewN nq).cell? ⟨G, 5, none⟩ = some (.int .u32 (rd s 5)) := a5
          have b6 : (wr.drewN nq).cell? ⟨G, 6, none⟩ = some (.int .u32 (rd s 6)) := a6
          have b7 : (wr.drewN nq).cell? ⟨G, 7, none⟩ = some (.int .u32 (rd s 7)) := a7
          have bk : (wr.drewN nq).cell? ⟨gk, ok + j, none⟩ = some (.int .u32 kk) := hck
          rw [← hW] at hS1 hB1 b1 b2 b5 b6 b7 bk ⊢
          clear hW hS hB a0 a1 a2 a3 a4 a5 a6 a7 hck hixj
          refine wp_region_still_lit (by kernel_rfl) (by kernel_rfl) ?_
          iterate 3 still_step
          still_call (still6 (rd s 4) _)
          still_step
          still_call (still11 (rd s 4) _)
          iterate 2 still_step
          still_call (still25 (rd s 4) _)
          iterate 21 still_step
          refine wpStill_nil ?_
          have hT1 : IntKind.u32.wrap (IntKind.u32.wrap (IntKind.u32.wrap (IntKind.u32.wrap (rd s 7 + Go.bits .xor .u32 (Go.bits .xor .u32 (ror (rd s 4) 6) (ror (rd s 4) 11)) (ror (rd s 4) 25)) + Go.bits .xor .u32 (Go.bits .and .u32 (rd s 4) (rd s 5)) (Go.bits .and .u32 (Go.bits .xor .u32 (if IntKind.u32.signed = true then -1 else IntKind.u32.max) (rd s 4)) (rd s 6))) + kk) + xx) = T1 s kk xx := by
            simp only [u32_mod]
            rfl
          rw [hT1]
          clear hT1 b5 b6 b7 bk
          obtain ⟨v1, hv1⟩ : ∃ v1, v1 = T1 s kk xx := ⟨_, rfl⟩
          rw [← hv1]
          have Hv1 := Lib.hid hv1
          clear hv1
          have hS2 : Aw W.drew _ _ _ := hS1
          have hB2 := below_drewN' hB1 1
          have d1 : W.drew.cell? ⟨G, 1, none⟩ = some (.int .u32 (rd s 1)) := b1
          have d2 : W.drew.cell? ⟨G, 2, none⟩ = some (.int .u32 (rd s 2)) := b2
          change Exit.then _ _ _ _ W.drew
          change Below _ _ W.drew at hB2
          obtain ⟨W2, hW2⟩ : ∃ W2, W2 = W.drew := ⟨_, rfl⟩
          rw [← hW2] at hS2 hB2 d1 d2 ⊢
          clear hW2 hS1 hB1 b1 b2
          go_wp2
          refine wp_region_still_lit (by kernel_rfl) (by kernel_rfl) ?_
          still_step
          still_call (still2 (rd s 0) _)
          still_step
          still_call (still13 (rd s 0) _)
          iterate 2 still_step
          still_call (still22 (rd s 0) _)
          iterate 18 still_step
          refine wpStill_nil ?_
          have hT2 : IntKind.u32.wrap (Go.bits .xor .u32 (Go.bits .xor .u32 (ror (rd s 0) 2) (ror (rd s 0) 13)) (ror (rd s 0) 22) + Go.bits .xor .u32 (Go.bits .xor .u32 (Go.bits .and .u32 (rd s 0) (rd s 1)) (Go.bits .and .u32 (rd s 0) (rd s 2))) (Go.bits .and .u32 (rd s 1) (rd s 2))) = T2 s := by
            simp only [u32_mod]
            rfl
          rw [hT2]
          clear hT2 d1 d2
          obtain ⟨v2, hv2⟩ : ∃ v2, v2 = T2 s := ⟨_, rfl⟩
          rw [← hv2]
          have Hv2 := Lib.hid hv2
          clear hv2
          have hS3 : Aw W2.drew _ _ _ := hS2
          have hB3 := below_drewN' hB2 1
          change Exit.then _ _ _ _ W2.drew
          change Below _ _ W2.drew at hB3
          obtain ⟨W3, hW3⟩ : ∃ W3, W3 = W2.drew := ⟨_, rfl⟩
          rw [← hW3] at hS3 hB3 ⊢
          clear hW3 hS2 hB2
          have hsl := Hsl.out
          have a0 : W3.cell? ⟨G, 0, none⟩ = some (.int .u32 (rd s 0)) := hS3.cell (i := 0) (by omega)
          have a1 : W3.cell? ⟨G, 1, none⟩ = some (.int .u32 (rd s 1)) := hS3.cell (i := 1) (by omega)
          have a2 : W3.cell? ⟨G, 2, none⟩ = some (.int .u32 (rd s 2)) := hS3.cell (i := 2) (by omega)
          have a3 : W3.cell? ⟨G, 3, none⟩ = some (.int .u32 (rd s 3)) := hS3.cell (i := 3) (by omega)
          have a4 : W3.cell? ⟨G, 4, none⟩ = some (.int .u32 (rd s 4)) := hS3.cell (i := 4) (by omega)
          have a5 : W3.cell? ⟨G, 5, none⟩ = some (.int .u32 (rd s 5)) := hS3.cell (i := 5) (by omega)
          have a6 : W3.cell? ⟨G, 6, none⟩ = some (.int .u32 (rd s 6)) := hS3.cell (i := 6) (by omega)
          have hosz : (u32s s).size = 8 := by simp [u32s, hsl]
          have hS4 : Aw (W3.setRow G (u32s (rnd s kk xx))) G 195 (rnd s kk xx) := hS3.setRow
          have hrn : u32s (rnd s kk xx) = #[.int .u32 ((v1 + v2) % 4294967296), .int .u32 (rd s 0), .int .u32 (rd s 1), .int .u32 (rd s 2), .int .u32 ((rd s 3 + v1) % 4294967296), .int .u32 (rd s 4), .int .u32 (rd s 5), .int .u32 (rd s 6)] := by rw [Hv1.out, Hv2.out]; rfl
          rw [hrn] at hS4
          have hB4 := below_setRow hB3 (g := G) (by omega) #[.int .u32 ((v1 + v2) % 4294967296), .int .u32 (rd s 0), .int .u32 (rd s 1), .int .u32 (rd s 2), .int .u32 ((rd s 3 + v1) % 4294967296), .int .u32 (rd s 4), .int .u32 (rd s 5), .int .u32 (rd s 6)]
          have hS3' : W3.heap[G]? = some (.cells (u32s s) 195 (0, 0)) := hS3
          have HS3 := Lib.hid hS3'
          have Hosz := Lib.hid hosz
          have HS4 := Lib.hid hS4
          clear hsl hosz hS3 hS3' hrn hS4
          go_upto_region 17 with (fail)
          go_step
          clear h
          iterate 19 (refine wpList_step (fun K hK => ?_); go_simp; refine hK _ _ ?_; clear hK K)
          refine wpList_build8 rfl _ _ _ _ _ _ _ _ rfl ((v1 + v2) % 4294967296) (rd s 0) (rd s 1) (rd s 2) ((rd s 3 + v1) % 4294967296) (rd s 4) (rd s 5) (rd s 6) rfl rfl rfl rfl rfl rfl rfl rfl ?_
          refine wpList_store_row rfl 195 (.tmp 11) (.tmp 160) rfl G #[.int .u32 ((v1 + v2) % 4294967296), .int .u32 (rd s 0), .int .u32 (rd s 1), .int .u32 (rd s 2), .int .u32 ((rd s 3 + v1) % 4294967296), .int .u32 (rd s 4), .int .u32 (rd s 5), .int .u32 (rd s 6)] rfl rfl 195 _ HS3.out (by kernel_rfl) Hosz.out (by kernel_rfl) ?_
          go_simp
          obtain ⟨W4, hW4⟩ : ∃ W4, W4 = W3.setRow G #[.int .u32 ((v1 + v2) % 4294967296), .int .u32 (rd s 0), .int .u32 (rd s 1), .int .u32 (rd s 2), .int .u32 ((rd s 3 + v1) % 4294967296), .int .u32 (rd s 4), .int .u32 (rd s 5), .int .u32 (rd s 6)] := ⟨_, rfl⟩
          rw [← hW4] at HS4 hB4 ⊢
          clear hW4 HS3 Hosz hB3 a0 a1 a2 a3 a4 a5 a6
          go_wp2
          exact ⟨⟨j + 1, by omega, by go_num, by rw [Hnx.out]; exact HS4.out, hB4⟩, by simp [intOf]; omega⟩
        · obtain rfl : j = n64 := by show j = 64; omega
          have hj64i : ¬ ((n64 : Nat) : Int) < 64 := by decide
          have a0 : wr.cell? ⟨G, 0, none⟩ = some (.int .u32 (rd (rndN ks ws st n64) 0)) := hS.cell (i := 0) (by omega)
          have a1 : wr.cell? ⟨G, 1, none⟩ = some (.int .u32 (rd (rndN ks ws st n64) 1)) := hS.cell (i := 1) (by omega)
          have a2 : wr.cell? ⟨G, 2, none⟩ = some (.int .u32 (rd (rndN ks ws st n64) 2)) := hS.cell (i := 2) (by omega)
          have a3 : wr.cell? ⟨G, 3, none⟩ = some (.int .u32 (rd (rndN ks ws st n64) 3)) := hS.cell (i := 3) (by omega)
          have a4 : wr.cell? ⟨G, 4, none⟩ = some (.int .u32 (rd (rndN ks ws st n64) 4)) := hS.cell (i := 4) (by omega)
          have a5 : wr.cell? ⟨G, 5, none⟩ = some (.int .u32 (rd (rndN ks ws st n64) 5)) := hS.cell (i := 5) (by omega)
          have a6 : wr.cell? ⟨G, 6, none⟩ = some (.int .u32 (rd (rndN ks ws st n64) 6)) := hS.cell (i := 6) (by omega)
          have a7 : wr.cell? ⟨G, 7, none⟩ = some (.int .u32 (rd (rndN ks ws st n64) 7)) := hS.cell (i := 7) (by omega)
          have hRk : ∀ k, k < 8 → (hashL st ks b).getD k 0 = (rd st (k : Int) + rd (rndN ks ws st n64) (k : Int)) % 4294967296 := by
            intro k hk
            have h1 : (hashL st ks b).getD k 0 = rd (hashL st ks b) (k : Int) := by simp [rd]
            rw [h1, hashL, rd_tab _ _ _ hk, ← Hws.out, Int.add_comm]
          have hRl := hashL_length st ks b
          obtain ⟨R, hR⟩ : ∃ R, R = hashL st ks b := ⟨_, rfl⟩
          rw [← hR] at hRk hRl
          have HR0 := Lib.hid hR
          have hGl := hS.lt
          obtain ⟨s, hs⟩ : ∃ s, s = rndN ks ws st n64 := ⟨_, rfl⟩
          rw [← hs] at a0 a1 a2 a3 a4 a5 a6 a7 hRk hsl
          have hx8 := index8 s hsl
          rw [show u32s s = #[.int .u32 (rd s 0), .int .u32 (rd s 1), .int .u32 (rd s 2), .int .u32 (rd s 3), .int .u32 (rd s 4), .int .u32 (rd s 5), .int .u32 (rd s 6), .int .u32 (rd s 7)] by rw [rnd0 s hsl]; rfl] at hx8
          have HR := Lib.hid hRk
          have HRl := Lib.hid hRl
          have Hx8 := Lib.hid hx8
          clear hR hs hRk hRl hx8 hS hsl hix
          have hown0 : (wr.alloc (.cells #[] 145)).ownsRow w.heap.size 145 1 (.slice (some ⟨wr.heap.size, 0, none⟩) 0 0) 0 (nums .u32 (R.take 0)) := World.ownsRow_lit wr #[] 0 hB.size (by decide) rfl
          have hB0 := hB.alloc hB.size (.cells #[] 145)
          go_wp2
          clear a0 a1 a2 a3 a4 a5 a6 a7
          go_loopw [18, 164] (fun u y wx => ∃ (k : Nat) (A : Option Addr) (cap : Nat), k ≤ 8 ∧ y = .int .i64 (k : Int) ∧ u = .slice A k cap ∧ wx.ownsRow w.heap.size 145 1 (.slice A k cap) k (nums .u32 (R.take k)) ∧ Below w.heap.size w wx) (fun _ y _ => 8 - (intOf y).toNat)
          case atStart => exact ⟨0, _, _, by omega, rfl, rfl, hown0, hB0⟩
          case round =>
            clear hown0 hB0 hB
            obtain ⟨k, A, cap, hk, rfl, rfl, hown, hB⟩ := hrel
            by_cases hk8 : k < 8
            · have hki : (k : Int) < 8 := by omega
              have hst : wr.cell? ⟨gs, os + k, none⟩ = some (.int .u32 (rd st (k : Int))) := by rw [hB.cell (by simpa using hsb)]; exact HS.out k hk8
              have hxk := Hx8.out k hk8
              have hRk := HR.out k hk8
              have hc3 : k + 1 ≤ maxLen := by unfold maxLen; omega
              have hc4 : (k + 1) * 4 ≤ 140737488355328 := by omega
              obtain ⟨x, hx⟩ : ∃ x, x = rd st (k : Int) := ⟨_, rfl⟩
              obtain ⟨y, hy⟩ : ∃ y, y = rd s (k : Int) := ⟨_, rfl⟩
              rw [← hx] at hst hRk
              rw [← hy] at hxk hRk
              have HRk := Lib.hid hRk
              clear hx hy hRk
              go_wp2_with (at_builtin; refine wpList_append_own _ rfl _ _ 118 rfl w.heap.size 145 i0 (.int .u32 0) 1 4 Tryd.underlying118 hi hz0 hz1 hz2 rfl (by decide) _ _ _ rfl (hown.alloc _) ⟨wr.heap.size, 0, none⟩ 1 1 [.int .u32 ((x + y) % 4294967296)] rfl rfl (cell_lit1 wr _ _) (one_lit rfl) hc3 hc4 (Nat.le_trans hB.size (le_alloc wr _)) ?_)
              intro v' w2 hown' hgrow _
              rw [← HRk.out, nums_take R k (by rw [HRl.out]; exact hk8)] at hown'
              obtain ⟨A', cap', rfl⟩ := own_slice hown'
              have hB2 := below_row hB hown hgrow
              clear hown hgrow hB hst hxk
              go_wp2
              exact ⟨⟨k + 1, A', cap', by omega, by go_num, rfl, hown', hB2⟩, by simp [intOf]; omega⟩
            · obtain rfl : k = 8 := by omega
              have hl := HRl.out
              have ht : R.take 8 = R := List.take_of_length_le (by omega)
              rw [ht] at hown
              go_wp2
              go_ret
              rw [← HR0.out]
              exact ⟨A, cap, by rw [hl]; rfl, by rw [hl]; exact hown, hB⟩
end Go.Proofs.YtnghcnkffbjddaaDoorV.Aes
