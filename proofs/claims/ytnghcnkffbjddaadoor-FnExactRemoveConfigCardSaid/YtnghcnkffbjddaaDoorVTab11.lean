/- The program's RemoveConfig: what it tells, in one. Conditions: the sizes that okTab names. -/
import Derived.Test.YtnghcnkffbjddaaDoorVTab10
namespace Go.Proofs.YtnghcnkffbjddaaDoorV.Aes
open Go.RowKit Go.Proofs.YtnghcnkffbjddaaDoorV.PrintWords Go.Proofs.YtnghcnkffbjddaaDoorV.PrintLast Go.Proofs.YtnghcnkffbjddaaDoorV.PrintMore Go.Proofs.YtnghcnkffbjddaaDoorV.Mem
set_option linter.unusedVariables false
set_option linter.unusedSimpArgs false

open Go.Maps Go.WideShapes Go.Proofs.YtnghcnkffbjddaaDoor.PImplM
theorem rdM (l : List S68) (i : Nat) (h : i < l.length) : rd_T68 l (i : Int) = l[i]'h := by
  unfold rd_T68
  rw [Int.toNat_natCast, List.getD_eq_getElem?_getD, List.getElem?_eq_getElem h]; rfl
theorem clone_loop (l : List S68) (hl : l.length ≤ 1048576) (hw : ∀ y, y ∈ l → y.f1.length ≤ 1048576) : ∀ (m k i : Nat), l.length = i + m → m < k → impl_cloneTable.l0 k l (l.length : Int) (i : Int) (l.take i) = some l
  | 0, k, i, hd, hk => by
    obtain ⟨k, rfl⟩ : ∃ m, k = m + 1 := ⟨k - 1, by omega⟩
    rw [impl_cloneTable.l0, if_neg (by omega), List.take_of_length_le (by omega)]
  | m + 1, k, i, hd, hk => by
    obtain ⟨k, rfl⟩ : ∃ m, k = m + 1 := ⟨k - 1, by omega⟩
    have hi : i < l.length := by omega
    have e : wrap64 ((i : Int) + 1) = ((i + 1 : Nat) : Int) := by unfold wrap64; omega
    have h1 := hw _ (List.getElem_mem hi)
    rw [impl_cloneTable.l0, if_pos (by omega), if_pos (by omega), if_pos (by omega), rdM l i hi, impl_Alloc.f, if_pos h1]
    simp only [Option.bind_some]
    rw [if_pos (by rw [List.length_take]; omega), e]
    have ht : l.take i ++ [(⟨(⟨(l[i]'hi).f0.f0, (l[i]'hi).f0.f1, (l[i]'hi).f0.f2, (l[i]'hi).f0.f3, (l[i]'hi).f0.f4⟩ : S47), (l[i]'hi).f1, (l[i]'hi).f2⟩ : S68)] = l.take (i + 1) := by
      rw [List.take_succ_eq_append_getElem hi]
    rw [ht]
    exact clone_loop l hl hw m k (i + 1) (by omega) (by omega)
theorem clone_tells (k : Nat) (l : List S68) (hl : l.length ≤ 1048576) (hw : ∀ y, y ∈ l → y.f1.length ≤ 1048576) (hk : l.length < k) : impl_cloneTable.f k l = some l := clone_loop l hl hw l.length k 0 (by omega) hk
def remA (slot : Int) (E : List S68) : Option (List S68 × Int) :=
  if okTab (E.map evM) = true then some (if tabOk (E.map evM) = true then (remE slot E, remC slot E) else ([], 1)) else none
theorem rem_calls (A : Option Addr) (c : Nat) (slot : Int) (E : List S68) (r1 : List S68) (r2 : Int) (w : World) (hr : Kd.C k68 w A E.length E) (hc : E.length ≤ c) (h : remA slot E = some (r1, r2)) :
    Calls Tryd.prog 39 #[.agg #[.slice A E.length c], .int .i64 slot] w (ChPost w r1 r2) := by
  unfold remA at h
  by_cases hok : okTab (E.map evM) = true
  · rw [if_pos hok] at h
    injection h with h
    obtain ⟨h1, h2⟩ := (okTab_iff _).mp hok
    have hlen : (E.map evM).length = E.length := List.length_map ..
    rw [hlen] at h1
    have hw : ∀ y, y ∈ E → y.f1.length ≤ 1048576 := fun y hy => by
      have := (h2 (evM y) (List.mem_map.mpr ⟨y, hy, rfl⟩)).1
      have e : (evM y).L.length = y.f1.length := List.length_map ..
      omega
    have hgood : ∀ W, Below w.heap.size w W → Calls Tryd.prog 30 #[.agg #[.slice A E.length c]] W fun e w' => e = .returned (.bool (tabOk (E.map evM))) ∧ Below W.heap.size W w' := fun W hW => by
      have q := tableA_calls A c (E.map evM) (tabOk (E.map evM)) W (by rw [hlen]; exact c_ent (Kd.C_below hr hW)) (by unfold tableA; rw [if_pos hok])
      rw [hlen] at q
      exact q
    have hclone : ∀ W, Below w.heap.size w W → Calls Tryd.prog 96 #[.agg #[.slice A E.length c]] W fun e w' => ∃ v : Value, e = .returned (.agg #[v]) ∧ sEnt w' W.heap.size (fun _ => True) v E ∧ Below W.heap.size W w' := fun W hW =>
      impl_cloneTable.calls 1048577 A c E E W (Kd.C_below hr hW) hc (clone_tells 1048577 E h1 hw (by omega))
    refine rem_top A c E.length slot r1 r2 w (fun W sb hB hsz hsb => ?_)
    cases hg : tabOk (E.map evM) with
    | false =>
      rw [hg, if_neg (by decide)] at h
      injection h with e1 e2
      subst e1; subst e2
      rw [hg] at hgood
      exact ch_bad A c E.length sb W (fun W2 hW2 => hgood W2 (hB.trans (hW2.mono hB.size)))
    | true =>
      rw [hg, if_pos rfl] at h
      injection h with e1 e2
      subst e1; subst e2
      rw [hg] at hgood
      refine ch_go A c E.length sb E (remE slot E) (remE slot E) (remC slot E) W ?_ (fun W2 hW2 => hgood W2 (hB.trans (hW2.mono hB.size))) (fun W2 hW2 => hclone W2 (hB.trans (hW2.mono hB.size))) (rem_do slot sb E W hsb h1)
      unfold remE remC
      by_cases q : idxOf slot (E.map evM) < 0
      · rw [if_pos q, if_pos q, if_neg (by decide)]
      · rw [if_neg q, if_neg q, if_pos rfl]
  · rw [if_neg hok] at h; cases h
end Go.Proofs.YtnghcnkffbjddaaDoorV.Aes
