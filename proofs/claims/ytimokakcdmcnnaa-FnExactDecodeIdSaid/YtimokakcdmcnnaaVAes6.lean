/- Shared lemmas and walks of the AES laws of this seat. -/
import Derived.Test.YtimokakcdmcnnaaVAes5
namespace Go.Proofs.YtimokakcdmcnnaaV.Aes
open Go.RowKit Go.Proofs.YtimokakcdmcnnaaV.PrintWords Go.Proofs.YtimokakcdmcnnaaV.PrintLast Go.Proofs.YtimokakcdmcnnaaV.PrintMore Go.Proofs.YtimokakcdmcnnaaV.Mem
set_option linter.unusedVariables false
set_option linter.unusedSimpArgs false

section
variable {P : Program} {w : World}
/-- An append at a step of a region that draws its order, onto a row of the call's own that may bear a mark. -/
theorem step_append_M {ops : Array Oper} {o : Oper} {a : Act} {K : Act → World → Prop} {Q : Exit → Act → World → Prop} {E : Prop} (hgd : o.guard = none) (s x : Operand) (t : TypeId)
    (ho : o.op = .call { callee := .builtin .append, args := #[s, x], argTypes := #[t, t] })
    (base : Nat) (e : TypeId) (i : TypeInfo) (z : Value) (size bytes : Nat) (ht : P.underlying t = some (.slice e)) (hi : P.info? e = some i) (hz : i.zero = some z)
    (hsize : i.size = size) (hby : i.bytes = bytes) (hzs : z.cells.size = size) (hsz : 0 < size)
    (v : Value) (n : Nat) (xs : List Value) (hs : a.eval s = v) (hown : ownsRowM w base e size v n xs)
    (ad : Addr) (m c : Nat) (news : List Value) (hx : a.eval x = .slice (some ad) m c) (hl : news.length = m * size) (hnews : ∀ j u, news[j]? = some u → w.cell? (ad.add j) = some u) (h1 : ∀ u ∈ news, u.oneCell' = true)
    (hm : 0 < m) (h63 : n + m ≤ maxLen) (hbytes : (n + m) * bytes ≤ 140737488355328) (hbase : base ≤ w.heap.size)
    (h : ∀ g cap w', ownsRowM w' base e size (.slice (some ⟨g, 0, none⟩) (n + m) cap) (n + m) (xs ++ news) → w.grownBy w' v.ownBlock → (v.ownBlock = some g ∨ w.heap.size ≤ g) → g < w'.heap.size → K (a.put o.dst (.slice (some ⟨g, 0, none⟩) (n + m) cap)) w') :
    if Region.wanted o (yielded ops a.tmps) = true then Oper.wp P o a w K Q else E := by
  have hw : Region.wanted o (yielded ops a.tmps) = true := by simp [Region.wanted, hgd]
  rw [if_pos hw]
  obtain ⟨v', w', hr, h2, h3, h4, h5⟩ := run_append_own_atM (P := P) w base t o.type e i z size bytes ht hi hz hsize hby hzs hsz v n xs hown ad m c news hl hnews h1 h63 hbytes hbase
  obtain ⟨g, cap, rfl, hg1, hg2⟩ := h2.form (by omega)
  unfold Oper.wp execOp
  simp only [ho, resolve, invoke, builtin, Sem.run_bind, Sem.run_pure, Result.andThen_ok, List.map_toArray, List.map_cons, List.map_nil, hs, hx, hr]
  refine h g cap w' h2 h3 ?_ hg2
  simp only [Value.ownBlock] at h5
  rcases h5 with h5 | h5
  · exact .inl h5.symm
  · injection h5 with h5; exact .inr (by omega)
end
def u8v (l : List Int) : List Value := l.map fun n => Value.int .u8 n
/-- A cipher under way: block g holds the box's pointer and the keys so far, a row of the call's own. -/
structure Kst (w : World) (B g gb gk cap len : Nat) (bx ks : List Int) : Prop where
  c0 : w.cell? ⟨g, 0, none⟩ = some (.pointer (some ⟨gb, 0, none⟩))
  c1 : w.cell? ⟨g, 1, none⟩ = some (.slice (some ⟨gk, 0, none⟩) len cap)
  fz : w.frozen? ⟨g, 1, none⟩ = false
  row : ownsRowM w B 5 1 (.slice (some ⟨gk, 0, none⟩) len cap) len (u8v ks)
  box : At w gb 51 bx
  ng : gk ≠ g
  nb : gk ≠ gb
  nc : gb ≠ g
  lt : g < w.heap.size
  ltk : gk < w.heap.size
variable {w w' : World} {B g gb gk cap len : Nat} {bx ks : List Int}
theorem Kst.kl (h : Kst w B g gb gk cap len bx ks) : ks.length = len := by
  have := h.row.1
  simpa [u8v] using this
theorem Kst.key (h : Kst w B g gb gk cap len bx ks) (i : Nat) (hi : i < len) : w.cell? ⟨gk, i, none⟩ = some (.int .u8 (rd ks (i : Int))) := by
  have hl := h.kl
  have hil : i < ks.length := by omega
  have := h.row.cells (g := gk) rfl i (.int .u8 (rd ks (i : Int))) (by simp [u8v, rd, List.getD_eq_getElem?_getD, List.getElem?_eq_getElem hil])
  rwa [Addr.add_mid, Nat.zero_add] at this
theorem own_same {v : Value} {n : Nat} {xs : List Value} {e : TypeId} {sz : Nat} (h : ownsRowM w B e sz v n xs) (hs : ∀ k, v.ownBlock = some k → w'.heap[k]? = w.heap[k]?) : ownsRowM w' B e sz v n xs := by
  refine ⟨h.1, ?_⟩
  rcases h.2 with hn | ⟨g, cap, cur, rfl, hb, hgg, rest⟩
  · exact .inl hn
  · exact .inr ⟨g, cap, cur, rfl, hb, hgg.of_heap (hs g rfl), rest⟩
/-- What leaves the three blocks alone leaves all of it. -/
theorem Kst.same (h : Kst w B g gb gk cap len bx ks) (s1 : w'.heap[g]? = w.heap[g]?) (s2 : w'.heap[gb]? = w.heap[gb]?) (s3 : w'.heap[gk]? = w.heap[gk]?) (sz : w.heap.size ≤ w'.heap.size) : Kst w' B g gb gk cap len bx ks := by
  have e1 : ∀ o, w'.cell? ⟨g, o, none⟩ = w.cell? ⟨g, o, none⟩ := fun o => by simp only [World.cell?, s1]
  have e2 : ∀ o, w'.frozen? ⟨g, o, none⟩ = w.frozen? ⟨g, o, none⟩ := fun o => by simp only [World.frozen?, s1]
  refine ⟨by rw [e1]; exact h.c0, by rw [e1]; exact h.c1, by rw [e2]; exact h.fz, own_same h.row (fun k hk => ?_), ?_, h.ng, h.nb, h.nc, Nat.lt_of_lt_of_le h.lt sz, Nat.lt_of_lt_of_le h.ltk sz⟩
  · simp only [Value.ownBlock, Option.some.injEq] at hk; subst hk; exact s3
  · obtain ⟨fz, hh, hf⟩ := h.box
    exact ⟨fz, by rw [s2]; exact hh, hf⟩
theorem Kst.drew (h : Kst w B g gb gk cap len bx ks) (n : Nat) : Kst (w.drewN n) B g gb gk cap len bx ks := h.same rfl rfl rfl (Nat.le_refl _)
theorem Kst.alloc (h : Kst w B g gb gk cap len bx ks) (o : Obj) : Kst (w.alloc o) B g gb gk cap len bx ks :=
  h.same (Below.heap_alloc w o g h.lt) (Below.heap_alloc w o gb h.box.lt) (Below.heap_alloc w o gk h.ltk) (by simp)
theorem Kst.other (h : Kst w B g gb gk cap len bx ks) (a : Addr) (v : Value) (n1 : g ≠ a.block) (n2 : gb ≠ a.block) (n3 : gk ≠ a.block) : Kst (w.setCell a v) B g gb gk cap len bx ks :=
  h.same (Below.heap_setCell w a v g n1) (Below.heap_setCell w a v gb n2) (Below.heap_setCell w a v gk n3) (by simp)
theorem frozen_setCell (w : World) (a : Addr) (v : Value) (p : Nat) (o : Nat) : (w.setCell a v).frozen? ⟨p, o, none⟩ = w.frozen? ⟨p, o, none⟩ := by
  by_cases h : p = a.block
  · subst h
    unfold World.frozen? World.setCell
    simp only [Array.getElem?_modify, if_true]
    cases w.heap[a.block]? with
    | none => rfl
    | some o => cases o <;> rfl
  · unfold World.frozen?
    rw [Below.heap_setCell w a v p h]
/-- One key more. -/
theorem Kst.grow (h : Kst w B g gb gk cap len bx ks) (x : Int) (g2 cap2 : Nat) (hr : ownsRowM w' B 5 1 (.slice (some ⟨g2, 0, none⟩) (len + 1) cap2) (len + 1) (u8v (ks ++ [x]))) (hg : w.grownBy w' (some gk)) (h2 : gk = g2 ∨ w.heap.size ≤ g2) (h3 : g2 < w'.heap.size) :
    Kst (w'.setCell ⟨g, 1, none⟩ (.slice (some ⟨g2, 0, none⟩) (len + 1) cap2)) B g gb g2 cap2 (len + 1) bx (ks ++ [x]) := by
  have s1 : w'.heap[g]? = w.heap[g]? := hg.block g h.lt (by simp; exact fun e => h.ng e.symm)
  have s2 : w'.heap[gb]? = w.heap[gb]? := hg.block gb h.box.lt (by simp; exact fun e => h.nb e.symm)
  have n1 : g2 ≠ g := by rcases h2 with e | e; { rw [← e]; exact h.ng }; { have := h.lt; omega }
  have n2 : g2 ≠ gb := by rcases h2 with e | e; { rw [← e]; exact h.nb }; { have := h.box.lt; omega }
  have e1 : ∀ o, w'.cell? ⟨g, o, none⟩ = w.cell? ⟨g, o, none⟩ := fun o => by simp only [World.cell?, s1]
  have e2 : w'.frozen? ⟨g, 1, none⟩ = false := by simp only [World.frozen?, s1]; exact h.fz
  have hin : (w'.cell? ⟨g, 1, none⟩).isSome = true := by rw [e1, h.c1]; rfl
  have sz : w.heap.size ≤ w'.heap.size := hg.size
  refine ⟨?_, ?_, by rw [frozen_setCell]; exact e2, own_same hr (fun k hk => ?_), ?_, n1, n2, h.nc, ?_, by simpa using h3⟩
  · rw [World.cell?_setCell_other w' ⟨g, 1, none⟩ ⟨g, 0, none⟩ _ (by simp), e1]; exact h.c0
  · exact World.cell?_setCell_same' _ _ _ hin
  · simp only [Value.ownBlock, Option.some.injEq] at hk; subst hk
    exact Below.heap_setCell w' _ _ _ n1
  · obtain ⟨fz, hh, hf⟩ := h.box
    exact ⟨fz, by rw [Below.heap_setCell w' _ _ _ h.nc, s2]; exact hh, hf⟩
  · have := h.lt; simp; omega
end Go.Proofs.YtimokakcdmcnnaaV.Aes
