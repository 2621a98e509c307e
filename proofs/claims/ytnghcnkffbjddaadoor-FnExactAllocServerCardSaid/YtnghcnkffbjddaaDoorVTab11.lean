/- The program's RemoveConfig: what it tells, in one. Conditions: the sizes that okTab names. -/
import Derived.Test.YtnghcnkffbjddaaDoorVTab10
namespace Go.Proofs.YtnghcnkffbjddaaDoorV.Aes
open Go.RowKit Go.Proofs.YtnghcnkffbjddaaDoorV.PrintWords Go.Proofs.YtnghcnkffbjddaaDoorV.PrintLast Go.Proofs.YtnghcnkffbjddaaDoorV.PrintMore Go.Proofs.YtnghcnkffbjddaaDoorV.Mem
set_option linter.unusedVariables false
set_option linter.unusedSimpArgs false

open Go.Maps Go.WideShapes Go.Proofs.YtnghcnkffbjddaaDoor.PImplM
theorem rdM (l : List S68) (i : Nat) (h : i < l.length) : rd_T68 l (i : Int) = l[i]'h := by
  unfold rd_T68
  rw [Int.toNat_natCast, List.getD_eq_getElem?_getD, List.getElem?_eq_getElem h]; rfl
theorem clone_loop (l : List S68) (hl : l.length ≤ 1048576) (hw : ∀ y, y ∈ l → y.f1.length ≤ 1048576) : ∀ (m k i : Nat), l.length = i + m → m < k → impl_cloneTable.l0 k l (l.length : Int) (i : Int) (l.take i) = some l
  | 0, k, i, hd, hk => by
    obtain ⟨k, rfl⟩ : ∃ m, k = m + 1 := ⟨k - 1, by omega⟩
    rw [impl_cloneTable.l0, if_neg (by omega), List.take_of_length_le (by omega)]
  | m + 1, k, i, hd, hk => by
    obtain ⟨k, rfl⟩ : ∃ m, k = m + 1 := ⟨k - 1, by omega⟩
    have hi : i < l.length := by omega
    have e : wrap64 ((i : Int) + 1) = ((i + 1 : Nat) : Int) := by unfold wrap64; omega
    have h1 := hw _ (List.getElem_mem hi)
    rw [impl_cloneTable.l0, if_pos (by omega), if_pos (by omega), if_pos (by omega), rdM l i hi, impl_Alloc.f, if_pos h1]
    simp only [Option.bind_some]
    rw [if_pos (by rw [List.length_take]; omega), e]
    have ht : l.take i ++ [(⟨(⟨(l[i]'hi).f0.f0, (l[i]'hi).f0.f1, (l[i]'hi).f0.f2, (l[i]'hi).f0.f3, (l[i]'hi).f0.f4⟩ : S47), (l[i]'hi).f1, (l[i]'hi).f2⟩ : S68)] = l.take (i + 1) := by
      rw [List.take_succ_eq_append_getElem hi]
    rw [ht]
    exact clone_loop l hl hw m k (i + 1) (by omega) (by omega)
theorem clone_tells (k : Nat) (l : List S68) (hl : l.length ≤ 1048576) (hw : ∀ y, y ∈ l → y.f1.length ≤ 1048576) (hk : l.length < k) : impl_cloneTable.f k l = some l := clone_loop l hl hw l.length k 0 (by omega) hk
end Go.Proofs.YtnghcnkffbjddaaDoorV.Aes
