/- spec.GoodTable, walked over its entries. Conditions: texts of at most 1048576 bytes, at most 1048576 entries and servers each. -/
import Derived.Test.YtnghcnkffbjddaaDoorVTab4
import Derived.Test.YtnghcnkffbjddaaDoorPSpecTx1
namespace Go.Proofs.YtnghcnkffbjddaaDoorV.Aes
open Go.RowKit Go.Proofs.YtnghcnkffbjddaaDoorV.PrintWords Go.Proofs.YtnghcnkffbjddaaDoorV.PrintLast Go.Proofs.YtnghcnkffbjddaaDoorV.PrintMore Go.Proofs.YtnghcnkffbjddaaDoorV.Mem
set_option linter.unusedVariables false
set_option linter.unusedSimpArgs false

open Go.Maps Go.WideShapes Go.Proofs.YtnghcnkffbjddaaDoor.PSpecT
theorem bt_byte (s : ByteArray) (i : Nat) (h : i < s.size) : bt s (i : Int) = ((s.data.toList[i]'(by simpa using h)).toNat : Int) := by
  simp [bt, h]
  rfl
theorem l1In_tells (x lo hi : Int) : spec_l1In.f x lo hi = some (decide (lo ≤ x) && decide (x ≤ hi)) := in_both x lo hi
theorem spec_loop (s : ByteArray) (hs : s.size ≤ 1048576) : ∀ (m k i : Nat), s.size = i + m → m < k → spec_l8Backend.l0 k s (i : Int) = some ((s.data.toList.drop i).all okB && (decide (1 ≤ s.size) && decide (s.size ≤ 12)))
  | 0, k, i, hd, hk => by
    obtain ⟨k, rfl⟩ : ∃ m, k = m + 1 := ⟨k - 1, by omega⟩
    rw [spec_l8Backend.l0, if_neg (by omega), List.drop_eq_nil_of_le (by simp; omega), l1In_tells, size_dec]
    simp
  | m + 1, k, i, hd, hk => by
    obtain ⟨k, rfl⟩ : ∃ m, k = m + 1 := ⟨k - 1, by omega⟩
    have hi : i < s.size := by omega
    have hl : i < s.data.toList.length := by simpa using hi
    have e : wrap64 ((i : Int) + 1) = ((i + 1 : Nat) : Int) := by unfold wrap64; omega
    rw [spec_l8Backend.l0, if_pos (by omega), if_pos (by omega), bt_byte s i hi, e, List.drop_eq_getElem_cons hl, List.all_cons]
    have ih := spec_loop s hs m k (i + 1) (by omega) (by omega)
    rw [ih]
    generalize (s.data.toList[i]'hl) = b
    unfold okB
    by_cases h1 : 97 ≤ b.toNat
    · rw [if_pos (by omega)]
      by_cases h2 : b.toNat ≤ 122
      · rw [if_pos (by omega)]; simp [h1, h2]
      · have h3 : ¬ b.toNat ≤ 57 := by omega
        rw [if_neg (by omega), if_pos (by omega), if_neg (by omega)]
        simp [h2, h3]
    · rw [if_neg (by omega)]
      by_cases h2 : 48 ≤ b.toNat
      · rw [if_pos (by omega)]
        by_cases h3 : b.toNat ≤ 57
        · rw [if_pos (by omega)]; simp [h2, h3]
        · rw [if_neg (by omega)]; simp [h1, h3]
      · rw [if_neg (by omega)]; simp [h1, h2]
theorem spec_good (k : Nat) (s : ByteArray) (hs : s.size ≤ 1048576) (hk : s.size < k) : spec_l8Backend.f k s = some (goodS s) := by
  have := spec_loop s hs s.size k 0 (by omega) hk
  unfold spec_l8Backend.f goodS
  rw [Bool.and_comm]
  simpa using this
theorem scfg_tells (s0 s1 s2 : Int) (ky : ByteArray) (fb : Bool) : spec_GoodConfig.f s0 s1 s2 ky fb = some (cfgB s0 s1 s2 ky) := cfg_tells s0 s1 s2 ky fb
theorem calls_below {f : FuncId} {args : Array Value} {w : World} {v : Value} (h : Calls Tryd.prog f args w fun e w' => e = .returned v ∧ Drawn0 w w') : Calls Tryd.prog f args w fun e w' => e = .returned v ∧ Below w.heap.size w w' := h.mono fun e w' q => ⟨q.1, by obtain ⟨nd, rfl⟩ := q.2; exact pw_below_drewN (Below.refl _ _) _⟩
def riseB (E : List Ent) (i : Nat) : Bool := decide (i = 0) || decide ((E.getD (i - 1) zE).s0 < (E.getD i zE).s0)
def e1B (E : List Ent) (i : Nat) : Bool := (cfgB (E.getD i zE).s0 (E.getD i zE).s1 (E.getD i zE).s2 (E.getD i zE).ky && (inB 0 2 (E.getD i zE).s0 && (decide ((E.getD i zE).L.length ≤ 12) && inB 0 1000000000 (E.getD i zE).nx))) && riseB E i
theorem ent_parts (E : List Ent) (i : Nat) : entAt E i = ((List.range (E.getD i zE).L.length).all (srvAt (E.getD i zE).s1 (E.getD i zE).L) && e1B E i) := by
  unfold entAt goodE e1B riseB
  rw [Bool.and_assoc]
theorem ent_no1 (E : List Ent) (i : Nat) (h : e1B E i = false) : entAt E i = false := by rw [ent_parts, h, Bool.and_false]
theorem ent_no2 (E : List Ent) (i k : Nat) (hk : k < (E.getD i zE).L.length) (h : srvAt (E.getD i zE).s1 (E.getD i zE).L k = false) : entAt E i = false := by
  have : (List.range (E.getD i zE).L.length).all (srvAt (E.getD i zE).s1 (E.getD i zE).L) = false := by
    rw [List.all_eq_false]
    exact ⟨k, List.mem_range.mpr hk, by rw [h]; decide⟩
  rw [ent_parts, this]; rfl
theorem ent_yes (E : List Ent) (i : Nat) (h1 : e1B E i = true) (h2 : ∀ k, k < (E.getD i zE).L.length → srvAt (E.getD i zE).s1 (E.getD i zE).L k = true) : entAt E i = true := by
  have : (List.range (E.getD i zE).L.length).all (srvAt (E.getD i zE).s1 (E.getD i zE).L) = true := List.all_eq_true.mpr fun k hk => h2 k (List.mem_range.mp hk)
  rw [ent_parts, this, h1]; rfl
/-- A server's own checks, without the look at the elder ones. -/
def e2B (s1 : Int) (L : List (ByteArray × ByteArray)) (k : Nat) : Bool := decide (((L.getD k zP).1.size : Int) = s1) && ((decide (k = 0) || Op.bytesLess (L.getD (k - 1) zP).1.toList (L.getD k zP).1.toList) && goodS (L.getD k zP).2)
theorem srv_parts (s1 : Int) (L : List (ByteArray × ByteArray)) (k : Nat) : srvAt s1 L k = (e2B s1 L k && !(memS ((L.take k).map (fun x => x.2)) (L.getD k zP).2)) := by
  unfold srvAt e2B
  simp only [Bool.and_assoc]
theorem mem_take (L : List (ByteArray × ByteArray)) (k j : Nat) (hk : k ≤ L.length) (hj : j < k) : (L.getD j zP).2 ∈ (L.take k).map (fun x => x.2) := by
  have hl : j < L.length := by omega
  have e : L.getD j zP = L[j]'hl := by rw [List.getD_eq_getElem?_getD, List.getElem?_eq_getElem hl]; rfl
  rw [e, List.mem_map]
  refine ⟨L[j]'hl, ?_, rfl⟩
  have hlt : j < (L.take k).length := by rw [List.length_take]; omega
  have : (L.take k)[j]'hlt = L[j]'hl := List.getElem_take ..
  rw [← this]; exact List.getElem_mem hlt
theorem srv_hit (s1 : Int) (L : List (ByteArray × ByteArray)) (k j : Nat) (hk : k ≤ L.length) (hj : j < k) (h : (L.getD j zP).2.toList = (L.getD k zP).2.toList) : srvAt s1 L k = false := by
  rw [srv_parts, (memS_iff _ _).mpr, Bool.not_true, Bool.and_false]
  have e : (L.getD j zP).2 = (L.getD k zP).2 := by
    rw [Lib.toList_data, Lib.toList_data] at h
    generalize (L.getD j zP).2 = a at h
    generalize (L.getD k zP).2 = b at h
    cases a; cases b; congr 1; exact Array.ext' h
  rw [← e]
  exact mem_take L k j hk hj
theorem srv_miss (s1 : Int) (L : List (ByteArray × ByteArray)) (k : Nat) (h2 : e2B s1 L k = true) (h : ∀ j, j < k → ¬ (L.getD j zP).2.toList = (L.getD k zP).2.toList) : srvAt s1 L k = true := by
  have hm : memS ((L.take k).map (fun x => x.2)) (L.getD k zP).2 = false := by
    cases q : memS ((L.take k).map (fun x => x.2)) (L.getD k zP).2 with
    | false => rfl
    | true =>
      have q := (memS_iff _ _).mp q
      obtain ⟨p, hp, e⟩ := List.mem_map.mp q
      obtain ⟨j, hj, rfl⟩ := List.getElem_of_mem hp
      have hjk : j < k := by rw [List.length_take] at hj; omega
      have hjl : j < L.length := by rw [List.length_take] at hj; omega
      refine absurd ?_ (h j hjk)
      have e2 : L.getD j zP = (L.take k)[j]'hj := by rw [List.getD_eq_getElem?_getD, List.getElem?_eq_getElem hjl, List.getElem_take]; rfl
      rw [e2, e]
  rw [srv_parts, h2, hm]; rfl
theorem info71t : (Tryd.prog.info? 71).map (fun i => (i.zero, i.size, i.bytes)) = some (some (.agg #[.string ⟨#[]⟩, .string ⟨#[]⟩]), 2, 32) := by kernel_rfl
theorem ent_at5 {W : World} {A : Option Addr} {n : Nat} {E : List Ent} (h : ReadsRow (entK W) 7 W A n E) (i : Int) (h0 : 0 ≤ i) (h1 : i < n) : ∃ ad A5 c5, A = some ad ∧ W.cell? (ad.add (i.toNat * 7)) = some (.int .i64 (E.getD i.toNat zE).s0) ∧ W.cell? ⟨(ad.add (i.toNat * 7)).block, (ad.add (i.toNat * 7)).off + 1, none⟩ = some (.int .i64 (E.getD i.toNat zE).s1) ∧ W.cell? ⟨(ad.add (i.toNat * 7)).block, (ad.add (i.toNat * 7)).off + 2, none⟩ = some (.int .i64 (E.getD i.toNat zE).s2) ∧ W.cell? ⟨(ad.add (i.toNat * 7)).block, (ad.add (i.toNat * 7)).off + 3, none⟩ = some (.string (E.getD i.toNat zE).ky) ∧ W.cell? ⟨(ad.add (i.toNat * 7)).block, (ad.add (i.toNat * 7)).off + 4, none⟩ = some (.bool (E.getD i.toNat zE).fb) ∧ W.cell? ⟨(ad.add (i.toNat * 7)).block, (ad.add (i.toNat * 7)).off + 5, none⟩ = some (.slice A5 (E.getD i.toNat zE).L.length c5) ∧ W.cell? ⟨(ad.add (i.toNat * 7)).block, (ad.add (i.toNat * 7)).off + 6, none⟩ = some (.int .i64 (E.getD i.toNat zE).nx) ∧ (E.getD i.toNat zE).L.length ≤ c5 ∧ ReadsRow prK 2 W A5 (E.getD i.toNat zE).L.length (E.getD i.toNat zE).L := by
  obtain ⟨ad, c, e, _, hK, hc0⟩ := h.get_ zE i h0 h1
  obtain ⟨A5, c5, rfl, h5, hr⟩ := hK
  exact ⟨ad, A5, c5, e, hc0 0 _ rfl, by rw [← add_field _ _ 1 (by omega)]; exact hc0 1 _ rfl, by rw [← add_field _ _ 2 (by omega)]; exact hc0 2 _ rfl, by rw [← add_field _ _ 3 (by omega)]; exact hc0 3 _ rfl, by rw [← add_field _ _ 4 (by omega)]; exact hc0 4 _ rfl, by rw [← add_field _ _ 5 (by omega)]; exact hc0 5 _ rfl, by rw [← add_field _ _ 6 (by omega)]; exact hc0 6 _ rfl, h5, hr⟩
set_option maxHeartbeats 40000000 in
set_option maxRecDepth 100000 in
theorem stable_table (A : Option Addr) (c : Nat) (E : List Ent) (w : World) (hr : ReadsRow (entK w) 7 w A E.length E) (hn : E.length ≤ 1048576) (hs : ∀ x, x ∈ E → okE x) :
    Calls Tryd.prog 28 #[.agg #[.slice A E.length c]] w fun e' w' => e' = .returned (.bool (tabOk E)) ∧ Below w.heap.size w w' := by
  have mixed : Tryd.prog.follows .mixedOrders = true := by kernel_rfl
  have HR := Aside0.mk hr
  have HN := Aside0.mk hn
  have HS := Aside0.mk hs
  clear hr hn hs
  go_enter Tryd.func28, Tryd.ntmps28
  have hbx : (w.alloc (TabCells A E.length c)).heap[w.heap.size]? = some (TabCells A E.length c) := heap_alloc_new w _
  have lx0 := (blk_cell hbx 0).trans rfl
  have S0 : Aside0 ((w.alloc (TabCells A E.length c)).heap[w.heap.size]? = some (TabCells A E.length c) ∧ Below w.heap.size w (w.alloc (TabCells A E.length c))) := ⟨hbx, (Below.refl _ _).alloc (Nat.le_refl _) _⟩
  clear hbx
  unfold TabCells at lx0
  go_wp2
  clear lx0
  obtain ⟨gt, hgt⟩ : ∃ g, g = w.heap.size := ⟨_, rfl⟩
  have S0' : Aside0 ((w.alloc (TabCells A E.length c)).heap[gt]? = some (TabCells A E.length c) ∧ Below w.heap.size w (w.alloc (TabCells A E.length c))) := ⟨by rw [hgt]; exact S0.out.1, S0.out.2⟩
  clear S0
  have S0 := S0'
  clear S0'
  rw [← hgt]
  have HGT := Aside0.mk hgt
  clear hgt
  go_loopg [12] E.length (fun g1 vi wr => ∃ xi : Int, vi = .int .i64 xi ∧ Aside0 (0 ≤ xi ∧ xi ≤ E.length ∧ E.length - xi.toNat ≤ g1) ∧ Aside0 (wr.heap[gt]? = some (TabCells A E.length c) ∧ Below w.heap.size w wr) ∧ Aside0 (∀ j, j < xi.toNat → entAt E j = true))
  case atStart => exact ⟨0, rfl, ⟨by omega, by omega, by simp⟩, S0, ⟨fun j hj => absurd hj (Nat.not_lt_zero _)⟩⟩
  case round =>
    clear S0
    obtain ⟨xi, rfl, X, S1, HALL⟩ := hrel
    have p1 : 0 ≤ xi := X.out.1
    by_cases hlt : xi < (E.length : Int)
    · have ra : IntKind.i64.wrap (xi + 1) = xi + 1 := by rw [IntKind.wrap_i64]; have := HN.out; omega
      obtain ⟨ad, A5, c5, rfl, hx0, hx1, hx2, hx3, hx4, hx5, hx6, hl5, hrr⟩ := ent_at5 HR.out xi p1 hlt
      have hx0 := pw_cell_below S1.out.2 hx0
      have hx1 := pw_cell_below S1.out.2 hx1
      have hx2 := pw_cell_below S1.out.2 hx2
      have hx3 := pw_cell_below S1.out.2 hx3
      have hx4 := pw_cell_below S1.out.2 hx4
      have hx5 := pw_cell_below S1.out.2 hx5
      have hx6 := pw_cell_below S1.out.2 hx6
      have hmem : E.getD xi.toNat zE ∈ E := by
        rw [List.getD_eq_getElem?_getD, List.getElem?_eq_getElem (show xi.toNat < E.length by omega)]; exact List.getElem_mem _
      have HOK := Aside0.mk (HS.out _ hmem)
      obtain ⟨x, hx⟩ : ∃ x, x = E.getD xi.toNat zE := ⟨_, rfl⟩
      rw [← hx] at hx0 hx1 hx2 hx3 hx4 hx5 hx6 hrr HOK hl5
      have HX := Aside0.mk hx
      have HRX := Aside0.mk hrr
      have HL5 := Aside0.mk hl5
      clear hx hmem hrr hl5
      go_upto_region 4 with ((with_reducible refine gate_dst (N := 4) rfl ?_); refine box_event ?hg (N := 4) ?hd (cs := #[.int .i64 0, .int .i64 0, .int .i64 0, .string (⟨#[]⟩ : ByteArray), .bool false, .slice none 0 0, .int .i64 0]) (t := 68) ?hr ?_; (case hd => rfl); (case hg => rfl); (case hr => first | (go_simp; done) | (go_simp; rfl)); intro w3g hgb w3 hbox hb3; have BX := Aside0.mk hbox; have B3 := Aside0.mk hb3; have GBH := Aside0.mk hgb; have hcz0 := (blk_cell hbox 0).trans rfl; have hfz0 := blk_frozen hbox 0; have hcz1 := (blk_cell hbox 1).trans rfl; have hfz1 := blk_frozen hbox 1; have hcz2 := (blk_cell hbox 2).trans rfl; have hfz2 := blk_frozen hbox 2; have hcz3 := (blk_cell hbox 3).trans rfl; have hfz3 := blk_frozen hbox 3; have hcz4 := (blk_cell hbox 4).trans rfl; have hfz4 := blk_frozen hbox 4; have hcz5 := (blk_cell hbox 5).trans rfl; have hfz5 := blk_frozen hbox 5; have hcz6 := (blk_cell hbox 6).trans rfl; have hfz6 := blk_frozen hbox 6; clear hbox hb3 hgb)
      have S4 : Aside0 ((((((((w3.setCell ⟨w3g, 0, none⟩ (.int .i64 x.s0)).setCell ⟨w3g, 1, none⟩ (.int .i64 x.s1)).setCell ⟨w3g, 2, none⟩ (.int .i64 x.s2)).setCell ⟨w3g, 3, none⟩ (.string x.ky)).setCell ⟨w3g, 4, none⟩ (.bool x.fb)).setCell ⟨w3g, 5, none⟩ (.slice A5 x.L.length c5)).setCell ⟨w3g, 6, none⟩ (.int .i64 x.nx)).heap[w3g]? = some (EntCells x A5 c5) ∧ (((((((w3.setCell ⟨w3g, 0, none⟩ (.int .i64 x.s0)).setCell ⟨w3g, 1, none⟩ (.int .i64 x.s1)).setCell ⟨w3g, 2, none⟩ (.int .i64 x.s2)).setCell ⟨w3g, 3, none⟩ (.string x.ky)).setCell ⟨w3g, 4, none⟩ (.bool x.fb)).setCell ⟨w3g, 5, none⟩ (.slice A5 x.L.length c5)).setCell ⟨w3g, 6, none⟩ (.int .i64 x.nx)).heap[gt]? = some (TabCells (some ad) E.length c) ∧ Below w.heap.size w (((((((w3.setCell ⟨w3g, 0, none⟩ (.int .i64 x.s0)).setCell ⟨w3g, 1, none⟩ (.int .i64 x.s1)).setCell ⟨w3g, 2, none⟩ (.int .i64 x.s2)).setCell ⟨w3g, 3, none⟩ (.string x.ky)).setCell ⟨w3g, 4, none⟩ (.bool x.fb)).setCell ⟨w3g, 5, none⟩ (.slice A5 x.L.length c5)).setCell ⟨w3g, 6, none⟩ (.int .i64 x.nx))) := by
        have hb4 : Below wr.heap.size wr (((((((w3.setCell ⟨w3g, 0, none⟩ (.int .i64 x.s0)).setCell ⟨w3g, 1, none⟩ (.int .i64 x.s1)).setCell ⟨w3g, 2, none⟩ (.int .i64 x.s2)).setCell ⟨w3g, 3, none⟩ (.string x.ky)).setCell ⟨w3g, 4, none⟩ (.bool x.fb)).setCell ⟨w3g, 5, none⟩ (.slice A5 x.L.length c5)).setCell ⟨w3g, 6, none⟩ (.int .i64 x.nx)) := (below_set (below_set (below_set (below_set (below_set (below_set (below_set B3.out (by rw [GBH.out]; exact Nat.le_refl _)) (by rw [GBH.out]; exact Nat.le_refl _)) (by rw [GBH.out]; exact Nat.le_refl _)) (by rw [GBH.out]; exact Nat.le_refl _)) (by rw [GBH.out]; exact Nat.le_refl _)) (by rw [GBH.out]; exact Nat.le_refl _)) (by rw [GBH.out]; exact Nat.le_refl _))
        exact ⟨(blk_put (blk_put (blk_put (blk_put (blk_put (blk_put (blk_put BX.out 0 _ rfl) 1 _ rfl) 2 _ rfl) 3 _ rfl) 4 _ rfl) 5 _ rfl) 6 _ rfl), blk_below S1.out.1 hb4, S1.out.2.trans (hb4.mono S1.out.2.size)⟩
      clear hcz0 hfz0 hcz1 hfz1 hcz2 hfz2 hcz3 hfz3 hcz4 hfz4 hcz5 hfz5 hcz6 hfz6 BX B3 GBH hx0 hx1 hx2 hx3 hx4 hx5 hx6 S1
      generalize (((((((w3.setCell ⟨w3g, 0, none⟩ (.int .i64 x.s0)).setCell ⟨w3g, 1, none⟩ (.int .i64 x.s1)).setCell ⟨w3g, 2, none⟩ (.int .i64 x.s2)).setCell ⟨w3g, 3, none⟩ (.string x.ky)).setCell ⟨w3g, 4, none⟩ (.bool x.fb)).setCell ⟨w3g, 5, none⟩ (.slice A5 x.L.length c5)).setCell ⟨w3g, 6, none⟩ (.int .i64 x.nx)) = w4 at S4 ⊢
      obtain ⟨gb, hgbe⟩ : ∃ g, g = w3g := ⟨_, rfl⟩
      rw [← hgbe] at S4 ⊢
      clear hgbe
      go_cut [57] (fun v57 wc => v57 = .bool (!(e1B E xi.toNat)) ∧ Aside0 (wc.heap[gb]? = some (EntCells x A5 c5) ∧ wc.heap[gt]? = some (TabCells (some ad) E.length c) ∧ Below w.heap.size w wc))
      case first =>
        have HCF := Aside0.mk (fun W => spec_GoodConfig.calls x.s0 x.s1 x.s2 x.ky x.fb (cfgB x.s0 x.s1 x.s2 x.ky) W (scfg_tells x.s0 x.s1 x.s2 x.ky x.fb))
        have HI0 := Aside0.mk (fun W => calls_below (spec_l1In.calls x.s0 0 2 (inB 0 2 x.s0) W (l1In_tells x.s0 0 2)))
        have HI4 := Aside0.mk (fun W => calls_below (spec_l1In.calls x.nx 0 1000000000 (inB 0 1000000000 x.nx) W (l1In_tells x.nx 0 1000000000)))
        cases hc1 : cfgB x.s0 x.s1 x.s2 x.ky with
        | false =>
          rw [hc1] at HCF
          have hval : Aside0 (e1B E xi.toNat = false) := ⟨by unfold e1B riseB; rw [← HX.out]; rw [hc1]; simp⟩
          have lq0 := fun d os => cell_regrown ((blk_cell S4.out.1 0).trans rfl) d os
          have lq1 := fun d os => cell_regrown ((blk_cell S4.out.1 1).trans rfl) d os
          have lq2 := fun d os => cell_regrown ((blk_cell S4.out.1 2).trans rfl) d os
          have lq3 := fun d os => cell_regrown ((blk_cell S4.out.1 3).trans rfl) d os
          have lq4 := fun d os => cell_regrown ((blk_cell S4.out.1 4).trans rfl) d os
          have lq5 := fun d os => cell_regrown ((blk_cell S4.out.1 5).trans rfl) d os
          have lq6 := fun d os => cell_regrown ((blk_cell S4.out.1 6).trans rfl) d os
          have lt0 := fun d os => cell_regrown ((blk_cell S4.out.2.1 0).trans rfl) d os
          have hcf := fun d os => Calls.regrown_of (HCF.out (Go.Sort.grow (redrawn w4 d) os))
          have hi0 := fun d os => Calls.regrown_of (HI0.out (Go.Sort.grow (redrawn w4 d) os))
          have hi4 := fun d os => Calls.regrown_of (HI4.out (Go.Sort.grow (redrawn w4 d) os))
          refine wp_region_quiet_below (by assumption) (by kernel_rfl) ?_
          repeat (refine (wpQuiet_step (fun K hK => ?_) : _); go_simp; first | (refine hK _ ?_; clear hK K) | (apply Exists.intro; refine ⟨fun _ => ?_, hK _ ?_⟩; (first | (go_at_call 58; with_reducible exact hcf _ _) | (go_at_call 59; with_reducible exact hi0 _ _) | (go_at_call 59; with_reducible exact hi4 _ _)); clear hK K))
          refine wpQuiet_nil ?_
          intro _ hw'
          obtain ⟨⟨dq, osq⟩, hw''⟩ := hw'
          subst hw''
          have hbq := below_regrown w4 dq osq
          have S5 : Aside0 ((Go.Sort.grow (redrawn w4 dq) osq).heap[gb]? = some (EntCells x A5 c5) ∧ (Go.Sort.grow (redrawn w4 dq) osq).heap[gt]? = some (TabCells (some ad) E.length c) ∧ Below w.heap.size w (Go.Sort.grow (redrawn w4 dq) osq)) := ⟨blk_below S4.out.1 hbq, blk_below S4.out.2.1 hbq, S4.out.2.2.trans (hbq.mono S4.out.2.2.size)⟩
          clear lq0 lq1 lq2 lq3 lq4 lq5 lq6 lt0 hcf hi0 hi4 hbq
          generalize Go.Sort.grow (redrawn w4 dq) osq = w5 at S5 ⊢
          go_wp2
          go_meet
          exact ⟨by rw [hval.out]; rfl, S5⟩
        | true =>
          rw [hc1] at HCF
          cases hc2 : inB 0 2 x.s0 with
          | false =>
            rw [hc2] at HI0
            have hval : Aside0 (e1B E xi.toNat = false) := ⟨by unfold e1B riseB; rw [← HX.out]; rw [hc1, hc2]; simp⟩
            have lq0 := fun d os => cell_regrown ((blk_cell S4.out.1 0).trans rfl) d os
            have lq1 := fun d os => cell_regrown ((blk_cell S4.out.1 1).trans rfl) d os
            have lq2 := fun d os => cell_regrown ((blk_cell S4.out.1 2).trans rfl) d os
            have lq3 := fun d os => cell_regrown ((blk_cell S4.out.1 3).trans rfl) d os
            have lq4 := fun d os => cell_regrown ((blk_cell S4.out.1 4).trans rfl) d os
            have lq5 := fun d os => cell_regrown ((blk_cell S4.out.1 5).trans rfl) d os
            have lq6 := fun d os => cell_regrown ((blk_cell S4.out.1 6).trans rfl) d os
            have lt0 := fun d os => cell_regrown ((blk_cell S4.out.2.1 0).trans rfl) d os
            have hcf := fun d os => Calls.regrown_of (HCF.out (Go.Sort.grow (redrawn w4 d) os))
            have hi0 := fun d os => Calls.regrown_of (HI0.out (Go.Sort.grow (redrawn w4 d) os))
            have hi4 := fun d os => Calls.regrown_of (HI4.out (Go.Sort.grow (redrawn w4 d) os))
            refine wp_region_quiet_below (by assumption) (by kernel_rfl) ?_
            repeat (refine (wpQuiet_step (fun K hK => ?_) : _); go_simp; first | (refine hK _ ?_; clear hK K) | (apply Exists.intro; refine ⟨fun _ => ?_, hK _ ?_⟩; (first | (go_at_call 58; with_reducible exact hcf _ _) | (go_at_call 59; with_reducible exact hi0 _ _) | (go_at_call 59; with_reducible exact hi4 _ _)); clear hK K))
            refine wpQuiet_nil ?_
            intro _ hw'
            obtain ⟨⟨dq, osq⟩, hw''⟩ := hw'
            subst hw''
            have hbq := below_regrown w4 dq osq
            have S5 : Aside0 ((Go.Sort.grow (redrawn w4 dq) osq).heap[gb]? = some (EntCells x A5 c5) ∧ (Go.Sort.grow (redrawn w4 dq) osq).heap[gt]? = some (TabCells (some ad) E.length c) ∧ Below w.heap.size w (Go.Sort.grow (redrawn w4 dq) osq)) := ⟨blk_below S4.out.1 hbq, blk_below S4.out.2.1 hbq, S4.out.2.2.trans (hbq.mono S4.out.2.2.size)⟩
            clear lq0 lq1 lq2 lq3 lq4 lq5 lq6 lt0 hcf hi0 hi4 hbq
            generalize Go.Sort.grow (redrawn w4 dq) osq = w5 at S5 ⊢
            go_wp2
            go_meet
            exact ⟨by rw [hval.out]; rfl, S5⟩
          | true =>
            rw [hc2] at HI0
            by_cases hc3 : x.L.length ≤ 12
            · have hc3a : decide ((x.L.length : Int) > 12) = false := decide_eq_false (by omega)
              have hc3b : decide ((12 : Int) < (x.L.length : Int)) = false := decide_eq_false (by omega)
              have HC3 : Aside0 (decide (x.L.length ≤ 12) = true) := ⟨decide_eq_true hc3⟩
              clear hc3
              cases hc4 : inB 0 1000000000 x.nx with
              | false =>
                rw [hc4] at HI4
                have hval : Aside0 (e1B E xi.toNat = false) := ⟨by unfold e1B riseB; rw [← HX.out]; rw [hc1, hc2, hc4]; simp⟩
                have lq0 := fun d os => cell_regrown ((blk_cell S4.out.1 0).trans rfl) d os
                have lq1 := fun d os => cell_regrown ((blk_cell S4.out.1 1).trans rfl) d os
                have lq2 := fun d os => cell_regrown ((blk_cell S4.out.1 2).trans rfl) d os
                have lq3 := fun d os => cell_regrown ((blk_cell S4.out.1 3).trans rfl) d os
                have lq4 := fun d os => cell_regrown ((blk_cell S4.out.1 4).trans rfl) d os
                have lq5 := fun d os => cell_regrown ((blk_cell S4.out.1 5).trans rfl) d os
                have lq6 := fun d os => cell_regrown ((blk_cell S4.out.1 6).trans rfl) d os
                have lt0 := fun d os => cell_regrown ((blk_cell S4.out.2.1 0).trans rfl) d os
                have hcf := fun d os => Calls.regrown_of (HCF.out (Go.Sort.grow (redrawn w4 d) os))
                have hi0 := fun d os => Calls.regrown_of (HI0.out (Go.Sort.grow (redrawn w4 d) os))
                have hi4 := fun d os => Calls.regrown_of (HI4.out (Go.Sort.grow (redrawn w4 d) os))
                refine wp_region_quiet_below (by assumption) (by kernel_rfl) ?_
                repeat (refine (wpQuiet_step (fun K hK => ?_) : _); go_simp; first | (refine hK _ ?_; clear hK K) | (apply Exists.intro; refine ⟨fun _ => ?_, hK _ ?_⟩; (first | (go_at_call 58; with_reducible exact hcf _ _) | (go_at_call 59; with_reducible exact hi0 _ _) | (go_at_call 59; with_reducible exact hi4 _ _)); clear hK K))
                refine wpQuiet_nil ?_
                intro _ hw'
                obtain ⟨⟨dq, osq⟩, hw''⟩ := hw'
                subst hw''
                have hbq := below_regrown w4 dq osq
                have S5 : Aside0 ((Go.Sort.grow (redrawn w4 dq) osq).heap[gb]? = some (EntCells x A5 c5) ∧ (Go.Sort.grow (redrawn w4 dq) osq).heap[gt]? = some (TabCells (some ad) E.length c) ∧ Below w.heap.size w (Go.Sort.grow (redrawn w4 dq) osq)) := ⟨blk_below S4.out.1 hbq, blk_below S4.out.2.1 hbq, S4.out.2.2.trans (hbq.mono S4.out.2.2.size)⟩
                clear lq0 lq1 lq2 lq3 lq4 lq5 lq6 lt0 hcf hi0 hi4 hbq
                generalize Go.Sort.grow (redrawn w4 dq) osq = w5 at S5 ⊢
                go_wp2
                go_meet
                exact ⟨by rw [hval.out]; rfl, S5⟩
              | true =>
                rw [hc4] at HI4
                by_cases h2 : xi > 0
                · have h2a : decide (0 < xi) = true := decide_eq_true h2
                  obtain ⟨ji, hji⟩ : ∃ j : Int, j = xi - 1 := ⟨_, rfl⟩
                  have hjw : IntKind.i64.wrap (xi - 1) = ji := by rw [hji, IntKind.wrap_i64]; have := HN.out; omega
                  have hj0 : 0 ≤ ji := by omega
                  have hj1 : ji < (E.length : Int) := by omega
                  obtain ⟨ad', _, _, e', hp0, _⟩ := ent_at (ent_below HR.out S4.out.2.2) ji hj0 hj1
                  obtain rfl : ad = ad' := by injection e'
                  clear e'
                  obtain ⟨pv, hpv⟩ : ∃ pv, pv = (E.getD ji.toNat zE).s0 := ⟨_, rfl⟩
                  rw [← hpv] at hp0
                  have HPc := Aside0.mk hp0
                  have HPV : Aside0 ((E.getD (xi.toNat - 1) zE).s0 = pv) := ⟨by rw [hpv, show ji.toNat = xi.toNat - 1 by omega]⟩
                  have h0d : Aside0 (decide (xi.toNat = 0) = false) := ⟨decide_eq_false (by omega)⟩
                  clear hp0 hpv hji
                  by_cases h3 : pv ≥ x.s0
                  · have h3a : decide (pv ≥ x.s0) = true := decide_eq_true h3
                    have h3b : Aside0 (decide (pv < x.s0) = false) := ⟨decide_eq_false (by omega)⟩
                    clear h3
                    have hval : Aside0 (e1B E xi.toNat = false) := ⟨by unfold e1B riseB; rw [← HX.out]; rw [hc1, hc2, HC3.out, hc4, HPV.out, h0d.out, h3b.out]; simp⟩
                    have lq0 := fun d os => cell_regrown ((blk_cell S4.out.1 0).trans rfl) d os
                    have lq1 := fun d os => cell_regrown ((blk_cell S4.out.1 1).trans rfl) d os
                    have lq2 := fun d os => cell_regrown ((blk_cell S4.out.1 2).trans rfl) d os
                    have lq3 := fun d os => cell_regrown ((blk_cell S4.out.1 3).trans rfl) d os
                    have lq4 := fun d os => cell_regrown ((blk_cell S4.out.1 4).trans rfl) d os
                    have lq5 := fun d os => cell_regrown ((blk_cell S4.out.1 5).trans rfl) d os
                    have lq6 := fun d os => cell_regrown ((blk_cell S4.out.1 6).trans rfl) d os
                    have lt0 := fun d os => cell_regrown ((blk_cell S4.out.2.1 0).trans rfl) d os
                    have hcf := fun d os => Calls.regrown_of (HCF.out (Go.Sort.grow (redrawn w4 d) os))
                    have hi0 := fun d os => Calls.regrown_of (HI0.out (Go.Sort.grow (redrawn w4 d) os))
                    have hi4 := fun d os => Calls.regrown_of (HI4.out (Go.Sort.grow (redrawn w4 d) os))
                    have lc0 := fun d os => cell_regrown (HPc.out) d os
                    refine wp_region_quiet_below (by assumption) (by kernel_rfl) ?_
                    repeat (refine (wpQuiet_step (fun K hK => ?_) : _); go_simp; first | (refine hK _ ?_; clear hK K) | (apply Exists.intro; refine ⟨fun _ => ?_, hK _ ?_⟩; (first | (go_at_call 58; with_reducible exact hcf _ _) | (go_at_call 59; with_reducible exact hi0 _ _) | (go_at_call 59; with_reducible exact hi4 _ _)); clear hK K))
                    refine wpQuiet_nil ?_
                    intro _ hw'
                    obtain ⟨⟨dq, osq⟩, hw''⟩ := hw'
                    subst hw''
                    have hbq := below_regrown w4 dq osq
                    have S5 : Aside0 ((Go.Sort.grow (redrawn w4 dq) osq).heap[gb]? = some (EntCells x A5 c5) ∧ (Go.Sort.grow (redrawn w4 dq) osq).heap[gt]? = some (TabCells (some ad) E.length c) ∧ Below w.heap.size w (Go.Sort.grow (redrawn w4 dq) osq)) := ⟨blk_below S4.out.1 hbq, blk_below S4.out.2.1 hbq, S4.out.2.2.trans (hbq.mono S4.out.2.2.size)⟩
                    clear lq0 lq1 lq2 lq3 lq4 lq5 lq6 lt0 hcf hi0 hi4 lc0 hbq
                    generalize Go.Sort.grow (redrawn w4 dq) osq = w5 at S5 ⊢
                    go_wp2
                    go_meet
                    exact ⟨by rw [hval.out]; rfl, S5⟩
                  · have h3a : decide (pv ≥ x.s0) = false := decide_eq_false h3
                    have h3b : Aside0 (decide (pv < x.s0) = true) := ⟨decide_eq_true (by omega)⟩
                    clear h3
                    have hval : Aside0 (e1B E xi.toNat = true) := ⟨by unfold e1B riseB; rw [← HX.out]; rw [hc1, hc2, HC3.out, hc4, HPV.out, h0d.out, h3b.out]; simp⟩
                    have lq0 := fun d os => cell_regrown ((blk_cell S4.out.1 0).trans rfl) d os
                    have lq1 := fun d os => cell_regrown ((blk_cell S4.out.1 1).trans rfl) d os
                    have lq2 := fun d os => cell_regrown ((blk_cell S4.out.1 2).trans rfl) d os
                    have lq3 := fun d os => cell_regrown ((blk_cell S4.out.1 3).trans rfl) d os
                    have lq4 := fun d os => cell_regrown ((blk_cell S4.out.1 4).trans rfl) d os
                    have lq5 := fun d os => cell_regrown ((blk_cell S4.out.1 5).trans rfl) d os
                    have lq6 := fun d os => cell_regrown ((blk_cell S4.out.1 6).trans rfl) d os
                    have lt0 := fun d os => cell_regrown ((blk_cell S4.out.2.1 0).trans rfl) d os
                    have hcf := fun d os => Calls.regrown_of (HCF.out (Go.Sort.grow (redrawn w4 d) os))
                    have hi0 := fun d os => Calls.regrown_of (HI0.out (Go.Sort.grow (redrawn w4 d) os))
                    have hi4 := fun d os => Calls.regrown_of (HI4.out (Go.Sort.grow (redrawn w4 d) os))
                    have lc0 := fun d os => cell_regrown (HPc.out) d os
                    refine wp_region_quiet_below (by assumption) (by kernel_rfl) ?_
                    repeat (refine (wpQuiet_step (fun K hK => ?_) : _); go_simp; first | (refine hK _ ?_; clear hK K) | (apply Exists.intro; refine ⟨fun _ => ?_, hK _ ?_⟩; (first | (go_at_call 58; with_reducible exact hcf _ _) | (go_at_call 59; with_reducible exact hi0 _ _) | (go_at_call 59; with_reducible exact hi4 _ _)); clear hK K))
                    refine wpQuiet_nil ?_
                    intro _ hw'
                    obtain ⟨⟨dq, osq⟩, hw''⟩ := hw'
                    subst hw''
                    have hbq := below_regrown w4 dq osq
                    have S5 : Aside0 ((Go.Sort.grow (redrawn w4 dq) osq).heap[gb]? = some (EntCells x A5 c5) ∧ (Go.Sort.grow (redrawn w4 dq) osq).heap[gt]? = some (TabCells (some ad) E.length c) ∧ Below w.heap.size w (Go.Sort.grow (redrawn w4 dq) osq)) := ⟨blk_below S4.out.1 hbq, blk_below S4.out.2.1 hbq, S4.out.2.2.trans (hbq.mono S4.out.2.2.size)⟩
                    clear lq0 lq1 lq2 lq3 lq4 lq5 lq6 lt0 hcf hi0 hi4 lc0 hbq
                    generalize Go.Sort.grow (redrawn w4 dq) osq = w5 at S5 ⊢
                    go_wp2
                    go_meet
                    exact ⟨by rw [hval.out]; rfl, S5⟩
                · have h2a : decide (0 < xi) = false := decide_eq_false h2
                  have h0d : Aside0 (decide (xi.toNat = 0) = true) := ⟨decide_eq_true (by omega)⟩
                  have hval : Aside0 (e1B E xi.toNat = true) := ⟨by unfold e1B riseB; rw [← HX.out]; rw [hc1, hc2, HC3.out, hc4, h0d.out]; simp⟩
                  have lq0 := fun d os => cell_regrown ((blk_cell S4.out.1 0).trans rfl) d os
                  have lq1 := fun d os => cell_regrown ((blk_cell S4.out.1 1).trans rfl) d os
                  have lq2 := fun d os => cell_regrown ((blk_cell S4.out.1 2).trans rfl) d os
                  have lq3 := fun d os => cell_regrown ((blk_cell S4.out.1 3).trans rfl) d os
                  have lq4 := fun d os => cell_regrown ((blk_cell S4.out.1 4).trans rfl) d os
                  have lq5 := fun d os => cell_regrown ((blk_cell S4.out.1 5).trans rfl) d os
                  have lq6 := fun d os => cell_regrown ((blk_cell S4.out.1 6).trans rfl) d os
                  have lt0 := fun d os => cell_regrown ((blk_cell S4.out.2.1 0).trans rfl) d os
                  have hcf := fun d os => Calls.regrown_of (HCF.out (Go.Sort.grow (redrawn w4 d) os))
                  have hi0 := fun d os => Calls.regrown_of (HI0.out (Go.Sort.grow (redrawn w4 d) os))
                  have hi4 := fun d os => Calls.regrown_of (HI4.out (Go.Sort.grow (redrawn w4 d) os))
                  refine wp_region_quiet_below (by assumption) (by kernel_rfl) ?_
                  repeat (refine (wpQuiet_step (fun K hK => ?_) : _); go_simp; first | (refine hK _ ?_; clear hK K) | (apply Exists.intro; refine ⟨fun _ => ?_, hK _ ?_⟩; (first | (go_at_call 58; with_reducible exact hcf _ _) | (go_at_call 59; with_reducible exact hi0 _ _) | (go_at_call 59; with_reducible exact hi4 _ _)); clear hK K))
                  refine wpQuiet_nil ?_
                  intro _ hw'
                  obtain ⟨⟨dq, osq⟩, hw''⟩ := hw'
                  subst hw''
                  have hbq := below_regrown w4 dq osq
                  have S5 : Aside0 ((Go.Sort.grow (redrawn w4 dq) osq).heap[gb]? = some (EntCells x A5 c5) ∧ (Go.Sort.grow (redrawn w4 dq) osq).heap[gt]? = some (TabCells (some ad) E.length c) ∧ Below w.heap.size w (Go.Sort.grow (redrawn w4 dq) osq)) := ⟨blk_below S4.out.1 hbq, blk_below S4.out.2.1 hbq, S4.out.2.2.trans (hbq.mono S4.out.2.2.size)⟩
                  clear lq0 lq1 lq2 lq3 lq4 lq5 lq6 lt0 hcf hi0 hi4 hbq
                  generalize Go.Sort.grow (redrawn w4 dq) osq = w5 at S5 ⊢
                  go_wp2
                  go_meet
                  exact ⟨by rw [hval.out]; rfl, S5⟩
            · have hc3a : decide ((x.L.length : Int) > 12) = true := decide_eq_true (by omega)
              have hc3b : decide ((12 : Int) < (x.L.length : Int)) = true := decide_eq_true (by omega)
              have HC3 : Aside0 (decide (x.L.length ≤ 12) = false) := ⟨decide_eq_false hc3⟩
              clear hc3
              have hval : Aside0 (e1B E xi.toNat = false) := ⟨by unfold e1B riseB; rw [← HX.out]; rw [hc1, hc2, HC3.out]; simp⟩
              have lq0 := fun d os => cell_regrown ((blk_cell S4.out.1 0).trans rfl) d os
              have lq1 := fun d os => cell_regrown ((blk_cell S4.out.1 1).trans rfl) d os
              have lq2 := fun d os => cell_regrown ((blk_cell S4.out.1 2).trans rfl) d os
              have lq3 := fun d os => cell_regrown ((blk_cell S4.out.1 3).trans rfl) d os
              have lq4 := fun d os => cell_regrown ((blk_cell S4.out.1 4).trans rfl) d os
              have lq5 := fun d os => cell_regrown ((blk_cell S4.out.1 5).trans rfl) d os
              have lq6 := fun d os => cell_regrown ((blk_cell S4.out.1 6).trans rfl) d os
              have lt0 := fun d os => cell_regrown ((blk_cell S4.out.2.1 0).trans rfl) d os
              have hcf := fun d os => Calls.regrown_of (HCF.out (Go.Sort.grow (redrawn w4 d) os))
              have hi0 := fun d os => Calls.regrown_of (HI0.out (Go.Sort.grow (redrawn w4 d) os))
              have hi4 := fun d os => Calls.regrown_of (HI4.out (Go.Sort.grow (redrawn w4 d) os))
              refine wp_region_quiet_below (by assumption) (by kernel_rfl) ?_
              repeat (refine (wpQuiet_step (fun K hK => ?_) : _); go_simp; first | (refine hK _ ?_; clear hK K) | (apply Exists.intro; refine ⟨fun _ => ?_, hK _ ?_⟩; (first | (go_at_call 58; with_reducible exact hcf _ _) | (go_at_call 59; with_reducible exact hi0 _ _) | (go_at_call 59; with_reducible exact hi4 _ _)); clear hK K))
              refine wpQuiet_nil ?_
              intro _ hw'
              obtain ⟨⟨dq, osq⟩, hw''⟩ := hw'
              subst hw''
              have hbq := below_regrown w4 dq osq
              have S5 : Aside0 ((Go.Sort.grow (redrawn w4 dq) osq).heap[gb]? = some (EntCells x A5 c5) ∧ (Go.Sort.grow (redrawn w4 dq) osq).heap[gt]? = some (TabCells (some ad) E.length c) ∧ Below w.heap.size w (Go.Sort.grow (redrawn w4 dq) osq)) := ⟨blk_below S4.out.1 hbq, blk_below S4.out.2.1 hbq, S4.out.2.2.trans (hbq.mono S4.out.2.2.size)⟩
              clear lq0 lq1 lq2 lq3 lq4 lq5 lq6 lt0 hcf hi0 hi4 hbq
              generalize Go.Sort.grow (redrawn w4 dq) osq = w5 at S5 ⊢
              go_wp2
              go_meet
              exact ⟨by rw [hval.out]; rfl, S5⟩
      case rest =>
        obtain ⟨rfl, S5⟩ := hcut
        clear S4
        cases he1 : e1B E xi.toNat with
        | false =>
          have HNO := Aside0.mk (tab_no E xi.toNat (by omega) (ent_no1 E xi.toNat he1))
          go_wp2
          go_ret
          exact ⟨by rw [HNO.out]; first | rfl | (simp; done), S5.out.2.2⟩
        | true =>
          have HE1 := Aside0.mk he1
          have lb5 := (blk_cell S5.out.1 5).trans rfl
          go_wp2
          clear lb5
          go_loopg [61] x.L.length (fun g2 vk wr2 => ∃ xk : Int, vk = .int .i64 xk ∧ Aside0 (0 ≤ xk ∧ xk ≤ x.L.length ∧ x.L.length - xk.toNat ≤ g2) ∧ Aside0 (wr2.heap[gb]? = some (EntCells x A5 c5) ∧ wr2.heap[gt]? = some (TabCells (some ad) E.length c) ∧ Below w.heap.size w wr2) ∧ Aside0 (∀ j, j < xk.toNat → srvAt x.s1 x.L j = true))
          case atStart => exact ⟨0, rfl, ⟨by omega, by omega, by simp⟩, S5, ⟨fun j hj => absurd hj (Nat.not_lt_zero _)⟩⟩
          case round =>
            clear S5
            obtain ⟨xk, rfl, XK, SK, HALK⟩ := hrel
            have pk1 : 0 ≤ xk := XK.out.1
            by_cases hltk : xk < (x.L.length : Int)
            · have rk : IntKind.i64.wrap (xk + 1) = xk + 1 := by rw [IntKind.wrap_i64]; have := HOK.out.1; omega
              obtain ⟨ad5, rfl, hy0, hy1⟩ := pr_at (pr_below HRX.out SK.out.2.2) xk pk1 hltk
              obtain ⟨id, hid⟩ : ∃ id, id = (x.L.getD xk.toNat zP).1 := ⟨_, rfl⟩
              obtain ⟨be, hbe⟩ : ∃ be, be = (x.L.getD xk.toNat zP).2 := ⟨_, rfl⟩
              rw [← hid] at hy0
              rw [← hbe] at hy1
              have hmemk : x.L.getD xk.toNat zP ∈ x.L := by
                rw [List.getD_eq_getElem?_getD, List.getElem?_eq_getElem (show xk.toNat < x.L.length by omega)]; exact List.getElem_mem _
              have HBZ : Aside0 (be.size ≤ 1048576) := ⟨by rw [hbe]; exact (HOK.out.2 _ hmemk).2⟩
              have HID := Aside0.mk hid
              have HBE := Aside0.mk hbe
              clear hid hbe hmemk
              go_upto_region 9 with ((with_reducible refine gate_dst (N := 6) rfl ?_); refine box_event ?hg (N := 6) ?hd (cs := #[.string (⟨#[]⟩ : ByteArray), .string (⟨#[]⟩ : ByteArray)]) (t := 71) ?hr ?_; (case hd => rfl); (case hg => rfl); (case hr => first | (go_simp; done) | (go_simp; rfl)); intro w6g hgb w6 hbox hb3; have BX := Aside0.mk hbox; have B3 := Aside0.mk hb3; have GBH := Aside0.mk hgb; have hcz0 := (blk_cell hbox 0).trans rfl; have hfz0 := blk_frozen hbox 0; have hcz1 := (blk_cell hbox 1).trans rfl; have hfz1 := blk_frozen hbox 1; clear hbox hb3 hgb)
              have S7 : Aside0 (((w6.setCell ⟨w6g, 0, none⟩ (.string id)).setCell ⟨w6g, 1, none⟩ (.string be)).heap[w6g]? = some (SrvCells (id, be)) ∧ ((w6.setCell ⟨w6g, 0, none⟩ (.string id)).setCell ⟨w6g, 1, none⟩ (.string be)).heap[gb]? = some (EntCells x (some ad5) c5) ∧ ((w6.setCell ⟨w6g, 0, none⟩ (.string id)).setCell ⟨w6g, 1, none⟩ (.string be)).heap[gt]? = some (TabCells (some ad) E.length c) ∧ Below w.heap.size w ((w6.setCell ⟨w6g, 0, none⟩ (.string id)).setCell ⟨w6g, 1, none⟩ (.string be))) := by
                have hb4 : Below wr.heap.size wr ((w6.setCell ⟨w6g, 0, none⟩ (.string id)).setCell ⟨w6g, 1, none⟩ (.string be)) := (below_set (below_set B3.out (by rw [GBH.out]; exact Nat.le_refl _)) (by rw [GBH.out]; exact Nat.le_refl _))
                exact ⟨(blk_put (blk_put BX.out 0 _ rfl) 1 _ rfl), blk_below SK.out.1 hb4, blk_below SK.out.2.1 hb4, SK.out.2.2.trans (hb4.mono SK.out.2.2.size)⟩
              clear hcz0 hfz0 hcz1 hfz1 BX B3 GBH hy0 hy1 SK
              generalize ((w6.setCell ⟨w6g, 0, none⟩ (.string id)).setCell ⟨w6g, 1, none⟩ (.string be)) = w7 at S7 ⊢
              obtain ⟨ga, hgae⟩ : ∃ g, g = w6g := ⟨_, rfl⟩
              rw [← hgae] at S7 ⊢
              clear hgae
              go_cut [94] (fun v94 wc => v94 = .bool (!(e2B x.s1 x.L xk.toNat)) ∧ Aside0 (wc.heap[ga]? = some (SrvCells (id, be)) ∧ wc.heap[gb]? = some (EntCells x (some ad5) c5) ∧ wc.heap[gt]? = some (TabCells (some ad) E.length c) ∧ Below w.heap.size w wc))
              case first =>
                have HGD := Aside0.mk (fun W => calls_below (spec_l8Backend.calls 1048577 be (goodS be) W (spec_good 1048577 be HBZ.out (by have := HBZ.out; omega))))
                by_cases h1 : (id.size : Int) = x.s1
                · have h1a : ((id.size : Int) == x.s1) = true := beq_iff_eq.mpr h1
                  have h1b : ((id.size : Int) != x.s1) = false := bne_eq_false_iff_eq.mpr h1
                  have H1 : Aside0 (decide ((id.size : Int) = x.s1) = true) := ⟨decide_eq_true h1⟩
                  clear h1
                  cases hgs : goodS be with
                  | false =>
                    rw [hgs] at HGD
                    have hval : Aside0 (e2B x.s1 x.L xk.toNat = false) := ⟨by unfold e2B; rw [← HBE.out, ← HID.out]; rw [hgs]; simp⟩
                    have la0 := fun d os => cell_regrown ((blk_cell S7.out.1 0).trans rfl) d os
                    have la1 := fun d os => cell_regrown ((blk_cell S7.out.1 1).trans rfl) d os
                    have lb1 := fun d os => cell_regrown ((blk_cell S7.out.2.1 1).trans rfl) d os
                    have lb5 := fun d os => cell_regrown ((blk_cell S7.out.2.1 5).trans rfl) d os
                    have hgd := fun d os => Calls.regrown_of (HGD.out (Go.Sort.grow (redrawn w7 d) os))
                    refine wp_region_quiet_below (by assumption) (by kernel_rfl) ?_
                    repeat (refine (wpQuiet_step (fun K hK => ?_) : _); go_simp; first | (refine hK _ ?_; clear hK K) | (apply Exists.intro; refine ⟨fun _ => ?_, hK _ ?_⟩; (first | (go_at_call 48; with_reducible exact hgd _ _)); clear hK K))
                    refine wpQuiet_nil ?_
                    intro _ hw'
                    obtain ⟨⟨dq, osq⟩, hw''⟩ := hw'
                    subst hw''
                    have hbq := below_regrown w7 dq osq
                    have S5 : Aside0 ((Go.Sort.grow (redrawn w7 dq) osq).heap[ga]? = some (SrvCells (id, be)) ∧ (Go.Sort.grow (redrawn w7 dq) osq).heap[gb]? = some (EntCells x (some ad5) c5) ∧ (Go.Sort.grow (redrawn w7 dq) osq).heap[gt]? = some (TabCells (some ad) E.length c) ∧ Below w.heap.size w (Go.Sort.grow (redrawn w7 dq) osq)) := ⟨blk_below S7.out.1 hbq, blk_below S7.out.2.1 hbq, blk_below S7.out.2.2.1 hbq, S7.out.2.2.2.trans (hbq.mono S7.out.2.2.2.size)⟩
                    clear la0 la1 lb1 lb5 hgd hbq
                    generalize Go.Sort.grow (redrawn w7 dq) osq = w5 at S5 ⊢
                    go_wp2
                    go_meet
                    exact ⟨by rw [hval.out]; rfl, S5⟩
                  | true =>
                    rw [hgs] at HGD
                    by_cases h2 : xk > 0
                    · have h2a : decide (0 < xk) = true := decide_eq_true h2
                      obtain ⟨jk, hjk⟩ : ∃ j : Int, j = xk - 1 := ⟨_, rfl⟩
                      have hjkw : IntKind.i64.wrap (xk - 1) = jk := by rw [hjk, IntKind.wrap_i64]; have := HOK.out.1; omega
                      have hjk0 : 0 ≤ jk := by omega
                      have hjk1 : jk < (x.L.length : Int) := by omega
                      obtain ⟨ad', e', hp0, _⟩ := pr_at (pr_below HRX.out S7.out.2.2.2) jk hjk0 hjk1
                      obtain rfl : ad5 = ad' := by injection e'
                      clear e'
                      obtain ⟨pv, hpv⟩ : ∃ pv, pv = (x.L.getD jk.toNat zP).1 := ⟨_, rfl⟩
                      rw [← hpv] at hp0
                      have HPk := Aside0.mk hp0
                      have HPV : Aside0 ((x.L.getD (xk.toNat - 1) zP).1 = pv) := ⟨by rw [hpv, show jk.toNat = xk.toNat - 1 by omega]⟩
                      have h0d : Aside0 (decide (xk.toNat = 0) = false) := ⟨decide_eq_false (by omega)⟩
                      clear hp0 hpv hjk
                      cases h3 : Op.bytesLess pv.toList id.toList with
                      | false =>
                        have hval : Aside0 (e2B x.s1 x.L xk.toNat = false) := ⟨by unfold e2B; rw [← HBE.out, ← HID.out]; rw [HPV.out, h3, h0d.out]; simp⟩
                        have la0 := fun d os => cell_regrown ((blk_cell S7.out.1 0).trans rfl) d os
                        have la1 := fun d os => cell_regrown ((blk_cell S7.out.1 1).trans rfl) d os
                        have lb1 := fun d os => cell_regrown ((blk_cell S7.out.2.1 1).trans rfl) d os
                        have lb5 := fun d os => cell_regrown ((blk_cell S7.out.2.1 5).trans rfl) d os
                        have hgd := fun d os => Calls.regrown_of (HGD.out (Go.Sort.grow (redrawn w7 d) os))
                        have lc0 := fun d os => cell_regrown (HPk.out) d os
                        refine wp_region_quiet_below (by assumption) (by kernel_rfl) ?_
                        repeat (refine (wpQuiet_step (fun K hK => ?_) : _); go_simp; first | (refine hK _ ?_; clear hK K) | (apply Exists.intro; refine ⟨fun _ => ?_, hK _ ?_⟩; (first | (go_at_call 48; with_reducible exact hgd _ _)); clear hK K))
                        refine wpQuiet_nil ?_
                        intro _ hw'
                        obtain ⟨⟨dq, osq⟩, hw''⟩ := hw'
                        subst hw''
                        have hbq := below_regrown w7 dq osq
                        have S5 : Aside0 ((Go.Sort.grow (redrawn w7 dq) osq).heap[ga]? = some (SrvCells (id, be)) ∧ (Go.Sort.grow (redrawn w7 dq) osq).heap[gb]? = some (EntCells x (some ad5) c5) ∧ (Go.Sort.grow (redrawn w7 dq) osq).heap[gt]? = some (TabCells (some ad) E.length c) ∧ Below w.heap.size w (Go.Sort.grow (redrawn w7 dq) osq)) := ⟨blk_below S7.out.1 hbq, blk_below S7.out.2.1 hbq, blk_below S7.out.2.2.1 hbq, S7.out.2.2.2.trans (hbq.mono S7.out.2.2.2.size)⟩
                        clear la0 la1 lb1 lb5 hgd lc0 hbq
                        generalize Go.Sort.grow (redrawn w7 dq) osq = w5 at S5 ⊢
                        go_wp2
                        go_meet
                        exact ⟨by rw [hval.out]; rfl, S5⟩
                      | true =>
                        have hval : Aside0 (e2B x.s1 x.L xk.toNat = true) := ⟨by unfold e2B; rw [← HBE.out, ← HID.out]; rw [H1.out, HPV.out, h3, hgs]; simp⟩
                        have la0 := fun d os => cell_regrown ((blk_cell S7.out.1 0).trans rfl) d os
                        have la1 := fun d os => cell_regrown ((blk_cell S7.out.1 1).trans rfl) d os
                        have lb1 := fun d os => cell_regrown ((blk_cell S7.out.2.1 1).trans rfl) d os
                        have lb5 := fun d os => cell_regrown ((blk_cell S7.out.2.1 5).trans rfl) d os
                        have hgd := fun d os => Calls.regrown_of (HGD.out (Go.Sort.grow (redrawn w7 d) os))
                        have lc0 := fun d os => cell_regrown (HPk.out) d os
                        refine wp_region_quiet_below (by assumption) (by kernel_rfl) ?_
                        repeat (refine (wpQuiet_step (fun K hK => ?_) : _); go_simp; first | (refine hK _ ?_; clear hK K) | (apply Exists.intro; refine ⟨fun _ => ?_, hK _ ?_⟩; (first | (go_at_call 48; with_reducible exact hgd _ _)); clear hK K))
                        refine wpQuiet_nil ?_
                        intro _ hw'
                        obtain ⟨⟨dq, osq⟩, hw''⟩ := hw'
                        subst hw''
                        have hbq := below_regrown w7 dq osq
                        have S5 : Aside0 ((Go.Sort.grow (redrawn w7 dq) osq).heap[ga]? = some (SrvCells (id, be)) ∧ (Go.Sort.grow (redrawn w7 dq) osq).heap[gb]? = some (EntCells x (some ad5) c5) ∧ (Go.Sort.grow (redrawn w7 dq) osq).heap[gt]? = some (TabCells (some ad) E.length c) ∧ Below w.heap.size w (Go.Sort.grow (redrawn w7 dq) osq)) := ⟨blk_below S7.out.1 hbq, blk_below S7.out.2.1 hbq, blk_below S7.out.2.2.1 hbq, S7.out.2.2.2.trans (hbq.mono S7.out.2.2.2.size)⟩
                        clear la0 la1 lb1 lb5 hgd lc0 hbq
                        generalize Go.Sort.grow (redrawn w7 dq) osq = w5 at S5 ⊢
                        go_wp2
                        go_meet
                        exact ⟨by rw [hval.out]; rfl, S5⟩
                    · have h2a : decide (0 < xk) = false := decide_eq_false h2
                      have h0d : Aside0 (decide (xk.toNat = 0) = true) := ⟨decide_eq_true (by omega)⟩
                      have hval : Aside0 (e2B x.s1 x.L xk.toNat = true) := ⟨by unfold e2B; rw [← HBE.out, ← HID.out]; rw [H1.out, h0d.out, hgs]; simp⟩
                      have la0 := fun d os => cell_regrown ((blk_cell S7.out.1 0).trans rfl) d os
                      have la1 := fun d os => cell_regrown ((blk_cell S7.out.1 1).trans rfl) d os
                      have lb1 := fun d os => cell_regrown ((blk_cell S7.out.2.1 1).trans rfl) d os
                      have lb5 := fun d os => cell_regrown ((blk_cell S7.out.2.1 5).trans rfl) d os
                      have hgd := fun d os => Calls.regrown_of (HGD.out (Go.Sort.grow (redrawn w7 d) os))
                      refine wp_region_quiet_below (by assumption) (by kernel_rfl) ?_
                      repeat (refine (wpQuiet_step (fun K hK => ?_) : _); go_simp; first | (refine hK _ ?_; clear hK K) | (apply Exists.intro; refine ⟨fun _ => ?_, hK _ ?_⟩; (first | (go_at_call 48; with_reducible exact hgd _ _)); clear hK K))
                      refine wpQuiet_nil ?_
                      intro _ hw'
                      obtain ⟨⟨dq, osq⟩, hw''⟩ := hw'
                      subst hw''
                      have hbq := below_regrown w7 dq osq
                      have S5 : Aside0 ((Go.Sort.grow (redrawn w7 dq) osq).heap[ga]? = some (SrvCells (id, be)) ∧ (Go.Sort.grow (redrawn w7 dq) osq).heap[gb]? = some (EntCells x (some ad5) c5) ∧ (Go.Sort.grow (redrawn w7 dq) osq).heap[gt]? = some (TabCells (some ad) E.length c) ∧ Below w.heap.size w (Go.Sort.grow (redrawn w7 dq) osq)) := ⟨blk_below S7.out.1 hbq, blk_below S7.out.2.1 hbq, blk_below S7.out.2.2.1 hbq, S7.out.2.2.2.trans (hbq.mono S7.out.2.2.2.size)⟩
                      clear la0 la1 lb1 lb5 hgd hbq
                      generalize Go.Sort.grow (redrawn w7 dq) osq = w5 at S5 ⊢
                      go_wp2
                      go_meet
                      exact ⟨by rw [hval.out]; rfl, S5⟩
                · have h1a : ((id.size : Int) == x.s1) = false := beq_eq_false_iff_ne.mpr h1
                  have h1b : ((id.size : Int) != x.s1) = true := bne_iff_ne.mpr h1
                  have H1 : Aside0 (decide ((id.size : Int) = x.s1) = false) := ⟨decide_eq_false h1⟩
                  clear h1
                  have hval : Aside0 (e2B x.s1 x.L xk.toNat = false) := ⟨by unfold e2B; rw [← HBE.out, ← HID.out]; rw [H1.out]; rfl⟩
                  have la0 := fun d os => cell_regrown ((blk_cell S7.out.1 0).trans rfl) d os
                  have la1 := fun d os => cell_regrown ((blk_cell S7.out.1 1).trans rfl) d os
                  have lb1 := fun d os => cell_regrown ((blk_cell S7.out.2.1 1).trans rfl) d os
                  have lb5 := fun d os => cell_regrown ((blk_cell S7.out.2.1 5).trans rfl) d os
                  have hgd := fun d os => Calls.regrown_of (HGD.out (Go.Sort.grow (redrawn w7 d) os))
                  refine wp_region_quiet_below (by assumption) (by kernel_rfl) ?_
                  repeat (refine (wpQuiet_step (fun K hK => ?_) : _); go_simp; first | (refine hK _ ?_; clear hK K) | (apply Exists.intro; refine ⟨fun _ => ?_, hK _ ?_⟩; (first | (go_at_call 48; with_reducible exact hgd _ _)); clear hK K))
                  refine wpQuiet_nil ?_
                  intro _ hw'
                  obtain ⟨⟨dq, osq⟩, hw''⟩ := hw'
                  subst hw''
                  have hbq := below_regrown w7 dq osq
                  have S5 : Aside0 ((Go.Sort.grow (redrawn w7 dq) osq).heap[ga]? = some (SrvCells (id, be)) ∧ (Go.Sort.grow (redrawn w7 dq) osq).heap[gb]? = some (EntCells x (some ad5) c5) ∧ (Go.Sort.grow (redrawn w7 dq) osq).heap[gt]? = some (TabCells (some ad) E.length c) ∧ Below w.heap.size w (Go.Sort.grow (redrawn w7 dq) osq)) := ⟨blk_below S7.out.1 hbq, blk_below S7.out.2.1 hbq, blk_below S7.out.2.2.1 hbq, S7.out.2.2.2.trans (hbq.mono S7.out.2.2.2.size)⟩
                  clear la0 la1 lb1 lb5 hgd hbq
                  generalize Go.Sort.grow (redrawn w7 dq) osq = w5 at S5 ⊢
                  go_wp2
                  go_meet
                  exact ⟨by rw [hval.out]; rfl, S5⟩
              case rest =>
                obtain ⟨rfl, S8⟩ := hcut
                clear S7
                cases he2 : e2B x.s1 x.L xk.toNat with
                | false =>
                  have hsv : srvAt x.s1 x.L xk.toNat = false := by rw [srv_parts, he2]; rfl
                  have HNO : Aside0 (tabOk E = false) := ⟨tab_no E xi.toNat (by omega) (ent_no2 E xi.toNat xk.toNat (by rw [← HX.out]; omega) (by rw [← HX.out]; exact hsv))⟩
                  clear hsv
                  go_wp2
                  go_ret
                  exact ⟨by rw [HNO.out]; first | rfl | (simp; done), S8.out.2.2.2⟩
                | true =>
                  have HE2 := Aside0.mk he2
                  have lb5 := (blk_cell S8.out.2.1 5).trans rfl
                  obtain ⟨i0, hi0, _, _, _⟩ := info_parts info71t
                  have hcut72 := cut_to (P := Tryd.prog) 66 71 .i64 Tryd.underlying66 hi0 (some ad5) x.L.length c5 xk pk1 (by omega) HL5.out
                  go_wp2
                  clear lb5 hcut72 hi0
                  go_loopg [100] xk.toNat (fun g3 vj wr3 => ∃ yj : Int, vj = .int .i64 yj ∧ Aside0 (0 ≤ yj ∧ yj ≤ xk.toNat ∧ xk.toNat - yj.toNat ≤ g3) ∧ Aside0 (wr3.heap[ga]? = some (SrvCells (id, be)) ∧ wr3.heap[gb]? = some (EntCells x (some ad5) c5) ∧ wr3.heap[gt]? = some (TabCells (some ad) E.length c) ∧ Below w.heap.size w wr3) ∧ Aside0 (∀ j, j < yj.toNat → ¬ (x.L.getD j zP).2.toList = be.toList))
                  case atStart => exact ⟨0, rfl, ⟨by omega, by omega, by simp⟩, S8, ⟨fun j hj => absurd hj (Nat.not_lt_zero _)⟩⟩
                  case round =>
                    clear S8
                    obtain ⟨yj, rfl, YJ, SJ, HALJ⟩ := hrel
                    have pj1 : 0 ≤ yj := YJ.out.1
                    by_cases hltj : yj < xk
                    · have hltj2 : yj < ((xk.toNat : Nat) : Int) := by omega
                      have hltj3 : yj < max xk 0 := by omega
                      have rj : IntKind.i64.wrap (yj + 1) = yj + 1 := by rw [IntKind.wrap_i64]; have := HOK.out.1; omega
                      obtain ⟨ad', e', hz0, hz1⟩ := pr_at (pr_below HRX.out SJ.out.2.2.2) yj pj1 (by omega)
                      obtain rfl : ad5 = ad' := by injection e'
                      clear e'
                      obtain ⟨oid, hoid⟩ : ∃ o, o = (x.L.getD yj.toNat zP).1 := ⟨_, rfl⟩
                      obtain ⟨obe, hobe⟩ : ∃ o, o = (x.L.getD yj.toNat zP).2 := ⟨_, rfl⟩
                      rw [← hoid] at hz0
                      rw [← hobe] at hz1
                      have HOB := Aside0.mk hobe
                      have lz1 := (blk_cell SJ.out.1 1).trans rfl
                      clear hoid hobe
                      by_cases heq : obe.toList = be.toList
                      · have heqa : (obe.toList == be.toList) = true := beq_iff_eq.mpr heq
                        have HNO : Aside0 (tabOk E = false) := ⟨tab_no E xi.toNat (by omega) (ent_no2 E xi.toNat xk.toNat (by rw [← HX.out]; omega) (by rw [← HX.out]; exact srv_hit x.s1 x.L xk.toNat yj.toNat (by omega) (by omega) (by rw [← HOB.out, ← HBE.out]; exact heq)))⟩
                        have HQ := Aside0.mk heq
                        clear heq
                        go_wp2_with ((with_reducible refine gate_dst (N := 8) rfl ?_); refine box_event ?hg (N := 8) ?hd (cs := #[.string (⟨#[]⟩ : ByteArray), .string (⟨#[]⟩ : ByteArray)]) (t := 71) ?hr ?_; (case hd => rfl); (case hg => rfl); (case hr => first | (go_simp; done) | (go_simp; rfl)); intro w8g hgb w8 hbox hb3; have BX := Aside0.mk hbox; have B3 := Aside0.mk hb3; have GBH := Aside0.mk hgb; have hcz0 := (blk_cell hbox 0).trans rfl; have hfz0 := blk_frozen hbox 0; have hcz1 := (blk_cell hbox 1).trans rfl; have hfz1 := blk_frozen hbox 1; have hne1 : ga ≠ w8g := Nat.ne_of_lt (by rw [hgb]; exact block_lt_of_cell lz1); have hne2 : w8g ≠ ga := Ne.symm hne1; have lz2 := pw_cell_below hb3 lz1; clear lz1 hbox hb3 hgb)
                        go_ret
                        exact ⟨by rw [HNO.out]; first | rfl | (simp; done), SJ.out.2.2.2.trans ((below_set (below_set B3.out (by rw [GBH.out]; exact Nat.le_refl _)) (by rw [GBH.out]; exact Nat.le_refl _)).mono SJ.out.2.2.2.size)⟩
                      · have heqa : (obe.toList == be.toList) = false := beq_eq_false_iff_ne.mpr heq
                        have HQ := Aside0.mk heq
                        clear heq
                        go_wp2_with ((with_reducible refine gate_dst (N := 8) rfl ?_); refine box_event ?hg (N := 8) ?hd (cs := #[.string (⟨#[]⟩ : ByteArray), .string (⟨#[]⟩ : ByteArray)]) (t := 71) ?hr ?_; (case hd => rfl); (case hg => rfl); (case hr => first | (go_simp; done) | (go_simp; rfl)); intro w8g hgb w8 hbox hb3; have BX := Aside0.mk hbox; have B3 := Aside0.mk hb3; have GBH := Aside0.mk hgb; have hcz0 := (blk_cell hbox 0).trans rfl; have hfz0 := blk_frozen hbox 0; have hcz1 := (blk_cell hbox 1).trans rfl; have hfz1 := blk_frozen hbox 1; have hne1 : ga ≠ w8g := Nat.ne_of_lt (by rw [hgb]; exact block_lt_of_cell lz1); have hne2 : w8g ≠ ga := Ne.symm hne1; have lz2 := pw_cell_below hb3 lz1; clear lz1 hbox hb3 hgb)
                        have S9 : Aside0 (((w8.setCell ⟨w8g, 0, none⟩ (.string oid)).setCell ⟨w8g, 1, none⟩ (.string obe)).heap[ga]? = some (SrvCells (id, be)) ∧ ((w8.setCell ⟨w8g, 0, none⟩ (.string oid)).setCell ⟨w8g, 1, none⟩ (.string obe)).heap[gb]? = some (EntCells x (some ad5) c5) ∧ ((w8.setCell ⟨w8g, 0, none⟩ (.string oid)).setCell ⟨w8g, 1, none⟩ (.string obe)).heap[gt]? = some (TabCells (some ad) E.length c) ∧ Below w.heap.size w ((w8.setCell ⟨w8g, 0, none⟩ (.string oid)).setCell ⟨w8g, 1, none⟩ (.string obe))) := by
                          have hb4 : Below wr.heap.size wr ((w8.setCell ⟨w8g, 0, none⟩ (.string oid)).setCell ⟨w8g, 1, none⟩ (.string obe)) := (below_set (below_set B3.out (by rw [GBH.out]; exact Nat.le_refl _)) (by rw [GBH.out]; exact Nat.le_refl _))
                          exact ⟨blk_below SJ.out.1 hb4, blk_below SJ.out.2.1 hb4, blk_below SJ.out.2.2.1 hb4, SJ.out.2.2.2.trans (hb4.mono SJ.out.2.2.2.size)⟩
                        go_roundg (xk.toNat - (yj + 1).toNat)
                        case measure => have := YJ.out.2.2; omega
                        case rel =>
                          refine ⟨yj + 1, by first | rfl | rw [rj], ⟨by omega, by omega, Nat.le_refl _⟩, S9, ⟨fun j hj => ?_⟩⟩
                          by_cases hjy : j < yj.toNat
                          · exact HALJ.out j hjy
                          · obtain rfl : j = yj.toNat := by omega
                            rw [← HOB.out]; exact HQ.out
                    · have hltj2 : ¬ yj < ((xk.toNat : Nat) : Int) := by omega
                      have hltj3 : ¬ yj < max xk 0 := by omega
                      go_wp2
                      go_roundg (x.L.length - (xk + 1).toNat)
                      case measure => have := XK.out.2.2; omega
                      case rel =>
                        have hsv : srvAt x.s1 x.L xk.toNat = true := srv_miss x.s1 x.L xk.toNat HE2.out (fun j hj => by rw [← HBE.out]; exact HALJ.out j (by have := YJ.out.2.1; omega))
                        refine ⟨xk + 1, by first | rfl | rw [rk], ⟨by omega, by omega, Nat.le_refl _⟩, ⟨SJ.out.2.1, SJ.out.2.2.1, SJ.out.2.2.2⟩, ⟨fun j hj => ?_⟩⟩
                        by_cases hjx : j < xk.toNat
                        · exact HALK.out j hjx
                        · obtain rfl : j = xk.toNat := by omega
                          exact hsv
            · go_wp2
              go_roundg (E.length - (xi + 1).toNat)
              case measure => have := X.out.2.2; omega
              case rel =>
                have hen : entAt E xi.toNat = true := ent_yes E xi.toNat HE1.out (fun k hk => by rw [← HX.out] at hk ⊢; exact HALK.out k (by have := XK.out.2.1; omega))
                refine ⟨xi + 1, by first | rfl | rw [ra], ⟨by omega, by omega, Nat.le_refl _⟩, ⟨SK.out.2.1, SK.out.2.2⟩, ⟨fun j hj => ?_⟩⟩
                by_cases hjx : j < xi.toNat
                · exact HALL.out j hjx
                · obtain rfl : j = xi.toNat := by omega
                  exact hen
    · have hx : xi = (E.length : Int) := by have := X.out.2.1; omega
      have hge := tab_all E (fun i hi => HALL.out i (by omega))
      have d0 := (blk_cell S1.out.1 0).trans rfl
      have SB := Aside0.mk S1.out.2
      have HGE := Aside0.mk hge
      clear S1 HALL hge
      by_cases h3 : E.length ≤ 3
      · have h3a : decide ((E.length : Int) ≤ 3) = true := decide_eq_true (by omega)
        go_wp2
        go_ret
        exact ⟨by rw [HGE.out, decide_eq_true h3]; first | rfl | (simp; done) | (simp [*]; done), SB.out⟩
      · have h3a : decide ((E.length : Int) ≤ 3) = false := decide_eq_false (by omega)
        go_wp2
        go_ret
        exact ⟨by rw [HGE.out, decide_eq_false h3]; first | rfl | (simp; done) | (simp [*]; done), SB.out⟩
theorem stableA_calls (A : Option Addr) (c : Nat) (E : List Ent) (r : Bool) (w : World) (hr : ReadsRow (entK w) 7 w A E.length E) (h : tableA E = some r) :
    Calls Tryd.prog 28 #[.agg #[.slice A E.length c]] w fun e' w' => e' = .returned (.bool r) ∧ Below w.heap.size w w' := by
  unfold tableA at h
  by_cases hok : okTab E = true
  · rw [if_pos hok] at h
    injection h with h
    subst h
    obtain ⟨h1, h2⟩ := (okTab_iff E).mp hok
    exact stable_table A c E w hr h1 h2
  · rw [if_neg hok] at h; cases h
end Go.Proofs.YtnghcnkffbjddaaDoorV.Aes
