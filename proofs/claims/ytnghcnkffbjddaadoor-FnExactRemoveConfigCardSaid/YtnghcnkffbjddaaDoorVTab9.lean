/- slices.Delete of one entry, on a row of the call's own. Conditions: those that the theorem names. -/
import Derived.Test.YtnghcnkffbjddaaDoorVTab8
import Derived.Lib.SliceRun
import Derived.Laws.IdiomCopy
namespace Go.Proofs.YtnghcnkffbjddaaDoorV.Aes
open Go.RowKit Go.Proofs.YtnghcnkffbjddaaDoorV.PrintWords Go.Proofs.YtnghcnkffbjddaaDoorV.PrintLast Go.Proofs.YtnghcnkffbjddaaDoorV.PrintMore Go.Proofs.YtnghcnkffbjddaaDoorV.Mem
set_option linter.unusedVariables false
set_option linter.unusedSimpArgs false

open Go.Maps Go.WideShapes Go.Proofs.YtnghcnkffbjddaaDoor.PImplM
theorem setCells_other (g k : Nat) (hk : k ≠ g) : ∀ (vs : List Value) (o : Nat) (w : World), (w.setCells g o vs).heap[k]? = w.heap[k]?
  | [], _, _ => rfl
  | v :: r, o, w => by
    show ((w.setCell ⟨g, o, none⟩ v).setCells g (o + 1) r).heap[k]? = w.heap[k]?
    rw [setCells_other g k hk r (o + 1) _]
    exact Below.heap_setCell w ⟨g, o, none⟩ v k hk
theorem setCells_below {B g : Nat} {W : World} (hg : B ≤ g) : ∀ (vs : List Value) (o : Nat) (w : World), Below B W w → Below B W (w.setCells g o vs)
  | [], _, _, h => h
  | v :: r, o, w, h => setCells_below hg r (o + 1) _ (Below.setCell (p := ⟨g, o, none⟩) h hg v)
/-- What lies behind a row's end is none of the row. -/
theorem S_tail {α : Type} {d : Kd α} {e : Nat} {w w2 : World} {base g n c : Nat} {ok : Nat → Prop} {xs : List α} (h : Kd.S d e w base ok (.slice (some ⟨g, 0, none⟩) n c) xs) (hother : ∀ k, k ≠ g → w2.heap[k]? = w.heap[k]?)
    (hrow : ∀ cur, RowAt w g cur e → cur.size = c * d.sz → ∃ cur', RowAt w2 g cur' e ∧ cur'.size = cur.size ∧ cur'.toList.take (n * d.sz) = cur.toList.take (n * d.sz)) : Kd.S d e w2 base ok (.slice (some ⟨g, 0, none⟩) n c) xs := by
  obtain ⟨f, h0, inner, ho, hr⟩ := h
  obtain ⟨hlen, hcase⟩ := ho
  rcases hcase with ⟨hv, _⟩ | ⟨g', cap, cur, hv, hb, hh, h1, h2, h3, h4⟩
  · cases hv
  · injection hv with ha hn hcc
    injection ha with ha
    injection ha with ha _ _
    subst ha; subst hcc
    obtain ⟨cur', q1, q2, q3⟩ := hrow cur hh h3
    refine ⟨f, h0, inner, ⟨hlen, .inr ⟨g, c, cur', by rw [← hn], hb, q1, h1, h2, by rw [q2]; exact h3, ?_⟩⟩, hr.imp_ (fun p cs hp => (Kd.tag f d).M_move (fun k hk => hother k (fun ek => hk.2 (by rw [ek]; rfl))) hp)⟩
    rw [← hn] at h4 ⊢
    exact q3.trans h4
def zsE : List Value := [.int .i64 0, .int .i64 0, .int .i64 0, .string ⟨#[]⟩, .bool false, .slice none 0 0, .int .i64 0]
theorem zeroE (w : World) : (zeroValue 68).run Tryd.prog w = .ok (.agg zsE.toArray) w := by kernel_rfl
theorem zeroE_cells : (Builtin.zeroCells (Value.agg #[.int .i64 0, .int .i64 0, .int .i64 0, .string ⟨#[]⟩, .bool false, .slice none 0 0, .int .i64 0]).cells 1).toList = zsE := by kernel_rfl
theorem clear_last (w : World) (g o c' : Nat) (hc : ∀ j, j < 7 → (w.cell? ⟨g, o + j, none⟩).isSome = true) (hf : ∀ j, j < 7 → w.frozen? ⟨g, o + j, none⟩ = false) (ty : TypeId) :
    (Builtin.clear_ #[36] ty #[.slice (some ⟨g, o, none⟩) 1 c']).run Tryd.prog w = .ok (.tuple #[]) (w.setCells g o zsE) := by
  have hst := run_storeCells_cells (P := Tryd.prog) g o zsE 0 w (fun j hj => by rw [Nat.add_zero]; exact hc j hj) (fun j hj => by rw [Nat.add_zero]; exact hf j hj) (by intro v hv; simp only [zsE, List.mem_cons, List.not_mem_nil, or_false] at hv; rcases hv with rfl | rfl | rfl | rfl | rfl | rfl | rfl <;> rfl)
  simp only [Nat.add_zero] at hst
  simp [Builtin.clear_, run_underlying Tryd.underlying36, zeroE, zeroE_cells, hst]
theorem info68s : (Tryd.prog.info? 68).map (·.size) = some 7 := by kernel_rfl
set_option maxHeartbeats 4000000 in
set_option maxRecDepth 100000 in
theorem del_walk (B g n c kn : Nat) (ok : Nat → Prop) (E : List S68) (W : World) (hS : sEnt W B ok (.slice (some ⟨g, 0, none⟩) n c) E) (hk : kn < n) (hn : n ≤ 1048576) (hc : n ≤ c) (hB : B ≤ W.heap.size) :
    Calls Tryd.prog 75 #[.slice (some ⟨g, 0, none⟩) n c, .int .i64 (kn : Int), .int .i64 ((kn : Int) + 1)] W fun e w' =>
      e = .returned (.slice (some ⟨g, 0, none⟩) (n - 1) c) ∧ sEnt w' B ok (.slice (some ⟨g, 0, none⟩) (n - 1) c) (E.eraseIdx kn) ∧ Below B W w' ∧ (∀ k, k < W.heap.size → k ≠ g → w'.heap[k]? = W.heap[k]?) := by
  have hne : ((kn : Int) == (kn : Int) + 1) = false := beq_eq_false_iff_ne.mpr (by omega)
  have HS := Lib.hid hS
  have HK := Lib.hid hk
  have HBS := Lib.hid hB
  have HN := Lib.hid (And.intro hn hc)
  obtain ⟨i0, hi0, hsz⟩ := Option.map_eq_some_iff.1 info68s
  clear hS hB
  go_enter Tryd.func75, Tryd.ntmps75
  go_upto_region 5 with fail
  obtain ⟨kp, hkp⟩ : ∃ x : Int, x = (kn : Int) + 1 := ⟨_, rfl⟩
  have hkt : kp.toNat = kn + 1 := by omega
  have hc1 := cut_to (P := Tryd.prog) 36 68 .i64 Tryd.underlying36 hi0 (some ⟨g, 0, none⟩) n c (kn : Int) (by omega) (by have := HK.out; omega) HN.out.2
  have hc2 := cut_from (P := Tryd.prog) 36 68 .i64 Tryd.underlying36 hi0 7 hsz (some ⟨g, 0, none⟩) n c kp (by omega) (by have := HK.out; omega)
  rw [hkt] at hc2
  rw [Int.toNat_natCast] at hc1
  obtain ⟨A', hA'⟩ : ∃ A', A' = (if c = kn + 1 then (some (⟨g, 0, none⟩ : Addr)) else (some (⟨g, 0, none⟩ : Addr)).map (·.add ((kn + 1) * 7))) := ⟨_, rfl⟩
  rw [← hA'] at hc2
  have HA := Lib.hid hA'
  rw [← hkp]
  have HKP := Lib.hid hkp
  clear hA' hkt hkp
  refine start_ (n := 8) (S := (fun _ => True)) (ds := []) #[false, false, false, false, false, false, false, false] (by kernel_rfl) rfl rfl trivial (fun hHeld => ?_)
  refine pure_ (i := 0) (N := some 20) (v := ?_) (a' := ?_) #[true, false, false, false, false, false, false, false] rfl rfl (by kernel_rfl) (fun _ _ _ h => h) (Or.inl ⟨by rfl, ?_⟩) ?_ ?_
  rotate_left
  · intro w'; go_simp; with_reducible rfl
  rotate_left
  · simp only [Act.put, List.setIfInBounds_toArray, List.set_cons_zero, List.set_cons_succ, i64_w, i32_w]; rfl
  refine pure_ (i := 1) (N := some 21) (v := ?_) (a' := ?_) #[true, true, false, false, false, false, false, false] rfl rfl (by kernel_rfl) (fun _ _ _ h => h) (Or.inl ⟨by rfl, ?_⟩) ?_ ?_
  rotate_left
  · intro w'; go_simp; with_reducible rfl
  rotate_left
  · simp only [Act.put, List.setIfInBounds_toArray, List.set_cons_zero, List.set_cons_succ, i64_w, i32_w]; rfl
  refine pure_ (i := 2) (N := some 22) (v := ?_) (a' := ?_) #[true, true, true, false, false, false, false, false] rfl rfl (by kernel_rfl) (fun _ _ _ h => h) (Or.inl ⟨by rfl, ?_⟩) ?_ ?_
  rotate_left
  · intro w'; go_simp; with_reducible rfl
  rotate_left
  · simp only [Act.put, List.setIfInBounds_toArray, List.set_cons_zero, List.set_cons_succ, i64_w, i32_w]; rfl
  refine pure_ (i := 3) (N := some 23) (v := ?_) (a' := ?_) #[true, true, true, true, false, false, false, false] rfl rfl (by kernel_rfl) (fun _ _ _ h => h) (Or.inl ⟨by rfl, ?_⟩) ?_ ?_
  rotate_left
  · intro w'; go_simp; with_reducible rfl
  rotate_left
  · simp only [Act.put, List.setIfInBounds_toArray, List.set_cons_zero, List.set_cons_succ, i64_w, i32_w]; rfl
  refine pure_ (i := 4) (N := some 24) (v := ?_) (a' := ?_) #[true, true, true, true, true, false, false, false] rfl rfl (by kernel_rfl) (fun _ _ _ h => h) (Or.inl ⟨by rfl, ?_⟩) ?_ ?_
  rotate_left
  · intro w'; go_simp; with_reducible rfl
  rotate_left
  · simp only [Act.put, List.setIfInBounds_toArray, List.set_cons_zero, List.set_cons_succ, i64_w, i32_w]; rfl
  refine pure_ (i := 5) (N := some 25) (v := ?_) (a' := ?_) #[true, true, true, true, true, true, false, false] rfl rfl (by kernel_rfl) (fun _ _ _ h => h) (Or.inl ⟨by rfl, ?_⟩) ?_ ?_
  rotate_left
  · intro w'; go_simp; with_reducible rfl
  rotate_left
  · simp only [Act.put, List.setIfInBounds_toArray, List.set_cons_zero, List.set_cons_succ, i64_w, i32_w]; rfl
  refine one_ (i := 6) (N := some 26) #[true, true, true, true, true, true, true, false] rfl rfl (by kernel_rfl) (by decide) (fun K hK => ?_)
  refine Kd.S_delete_step k68 (w0 := W) B (by rfl) (.tmp 22) (.tmp 25) 36 68 rfl Tryd.underlying36 info68s (g := g) (n := n) (c := c) (k := kn) (xs := E) (ok := ok) rfl rfl HA.out rfl (Kd.S_drew HS.out) HK.out (below_drew1 (Below.refl _ _)) HBS.out ?_
  intro w1 hS1 hB1 hg1
  have S1 := Lib.hid (And.intro hS1 (And.intro hB1 hg1))
  clear hS1 hB1 hg1
  refine hK.out _ _ (trivial) (fun hHeld => ?_)
  clear hK K
  refine pure_ (i := 7) (N := some 0) (v := ?_) (a' := ?_) #[true, true, true, true, true, true, true, true] rfl rfl (by kernel_rfl) (fun _ _ _ h => h) (Or.inl ⟨by rfl, ?_⟩) ?_ ?_
  rotate_left
  · intro w'; go_simp; with_reducible rfl
  rotate_left
  · simp only [Act.put, List.setIfInBounds_toArray, List.set_cons_zero, List.set_cons_succ, i64_w, i32_w]; rfl
  refine done_ (by kernel_rfl) ?_
  clear hc1 hc2
  have hgB : B ≤ g := Kd.S_base S1.out.1 g rfl
  have hcl : ∃ w2, (∀ ty, (Builtin.clear_ #[36] ty #[.slice (some ⟨g, (n - 1) * 7, none⟩) (n - (n - 1)) (c - (n - 1))]).run Tryd.prog w1 = .ok (.tuple #[]) w2) ∧ sEnt w2 B ok (.slice (some ⟨g, 0, none⟩) (n - 1) c) (E.eraseIdx kn) ∧ Below B W w2 ∧ (∀ k, k < W.heap.size → k ≠ g → w2.heap[k]? = W.heap[k]?) := by
    have hk := HK.out
    have hcn := HN.out.2
    have e1 : n - (n - 1) = 1 := by omega
    obtain ⟨inner, hlen, hcase⟩ := Kd.S_own S1.out.1
    rcases hcase with ⟨hv, _⟩ | ⟨g', cap, cur, hv, hb, hh, h1, h2, h3, h4⟩
    · cases hv
    · injection hv with ha hn2 hcc
      injection ha with ha
      injection ha with ha _ _
      subst ha; subst hcc
      have h3' : cur.size = c * 7 := h3
      refine ⟨w1.setCells g ((n - 1) * 7) zsE, fun ty => ?_, ?_, setCells_below hgB _ _ _ S1.out.2.1, fun k hk1 hk2 => ?_⟩
      · rw [e1]
        refine clear_last w1 g ((n - 1) * 7) _ (fun j hj => ?_) (fun j hj => ?_) ty
        · rw [hh.cell, Array.getElem?_eq_getElem (by omega)]; rfl
        · exact hh.frozen _ (by omega)
      · refine S_tail S1.out.1 (fun k hk => setCells_other g k hk _ _ _) (fun cur2 hh2 hs2 => ?_)
        have hs2' : cur2.size = c * 7 := hs2
        obtain ⟨cur', q1, q2, q3⟩ := RowAt.sets zsE ((n - 1) * 7) w1 cur2 hh2 (by show (n - 1) * 7 + 7 ≤ cur2.size; omega)
        refine ⟨cur', q1, q2, ?_⟩
        show cur'.toList.take ((n - 1) * 7) = cur2.toList.take ((n - 1) * 7)
        rw [q3, List.append_assoc, List.take_append_of_le_length (by rw [List.length_take, Array.length_toList]; omega), List.take_take, Nat.min_self]
      · rw [setCells_other g k hk2]
        exact S1.out.2.2.block k hk1 (fun q => hk2 (Option.some.inj q))
  obtain ⟨w2, hcl, hS2, hB2, hO2⟩ := hcl
  have S2 := Lib.hid (And.intro hS2 (And.intro hB2 hO2))
  clear hS2 hB2 hO2
  go_wp2
  go_ret
  exact ⟨rfl, S2.out.1, S2.out.2.1, S2.out.2.2⟩
end Go.Proofs.YtnghcnkffbjddaaDoorV.Aes
