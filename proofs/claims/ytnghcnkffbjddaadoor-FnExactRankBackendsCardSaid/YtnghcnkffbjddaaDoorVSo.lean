/- The program's ScoreOf and the reference's: both tell the same. Conditions: a backend of at most 1048576 bytes. -/
import Derived.Test.YtnghcnkffbjddaaDoorVSco
import Derived.Test.YtnghcnkffbjddaaDoorPImplDx1
import Derived.Test.YtnghcnkffbjddaaDoorPSpecOx1
namespace Go.Proofs.YtnghcnkffbjddaaDoorV.Aes
open Go.RowKit Go.Proofs.YtnghcnkffbjddaaDoorV.PrintWords Go.Proofs.YtnghcnkffbjddaaDoorV.PrintLast Go.Proofs.YtnghcnkffbjddaaDoorV.PrintMore Go.Proofs.YtnghcnkffbjddaaDoorV.Mem
set_option linter.unusedVariables false
set_option linter.unusedSimpArgs false

open Go.Proofs.YtnghcnkffbjddaaDoor.PImplD Go.Proofs.YtnghcnkffbjddaaDoor.PSpecO
def okB (b : UInt8) : Bool := (decide (97 ≤ b.toNat) && decide (b.toNat ≤ 122)) || (decide (48 ≤ b.toNat) && decide (b.toNat ≤ 57))
def goodS (s : ByteArray) : Bool := (decide (1 ≤ s.size) && decide (s.size ≤ 12)) && s.data.toList.all okB
def cutL : List UInt8 := [97, 98, 99, 100, 101, 102, 103, 104, 105, 106, 107, 108, 109, 110, 111, 112, 113, 114, 115, 116, 117, 118, 119, 120, 121, 122, 48, 49, 50, 51, 52, 53, 54, 55, 56, 57]
theorem cut_ok (b : UInt8) : cutL.contains b = okB b := by
  have h : ∀ n : Fin 256, cutL.contains (UInt8.ofNat n) = okB (UInt8.ofNat n) := by decide +kernel
  have hb : b = UInt8.ofNat b.toNat := by simp
  rw [hb]
  exact h ⟨b.toNat, b.toNat_lt⟩
theorem drop_all (p : UInt8 → Bool) : ∀ l : List UInt8, (l.dropWhile p = []) ↔ l.all p = true
  | [] => by simp
  | x :: l => by
    rw [List.dropWhile_cons, List.all_cons]
    cases hx : p x with
    | true => rw [if_pos rfl, drop_all p l]; simp
    | false => rw [if_neg (by decide)]; simp
theorem trim_empty (l : List UInt8) : (Lib.trimS l cutL == ([] : List UInt8)) = l.all okB := by
  have e : (fun b => cutL.contains b) = okB := funext cut_ok
  unfold Lib.trimS Lib.trimLeftS Lib.trimRightS
  rw [e]
  rw [Bool.eq_iff_iff, beq_iff_eq, drop_all]
  constructor
  · intro h
    rw [List.all_reverse] at h
    by_cases hn : l.reverse.dropWhile okB = []
    · rw [drop_all, List.all_reverse] at hn; exact hn
    · exfalso
      have h1 := List.head_dropWhile_not okB (w := hn)
      rw [List.all_eq_true] at h
      have h2 := h _ (List.head_mem hn)
      rw [h1] at h2
      cases h2
  · intro h
    have : l.reverse.dropWhile okB = [] := by rw [drop_all, List.all_reverse]; exact h
    rw [this]; rfl
theorem bt_byte (s : ByteArray) (i : Nat) (h : i < s.size) : bt s (i : Int) = ((s.data.toList[i]'(by simpa using h)).toNat : Int) := by
  simp [bt, h]
  rfl
theorem in_both (x lo hi : Int) : impl_in.f x lo hi = some (decide (lo ≤ x) && decide (x ≤ hi)) := by
  unfold impl_in.f
  by_cases h : x ≥ lo
  · rw [if_pos h]
    have h' : lo ≤ x := h
    simp [h']
  · rw [if_neg h]
    have h' : ¬ lo ≤ x := h
    simp [h']
theorem l1In_tells (x lo hi : Int) : spec_l1In.f x lo hi = some (decide (lo ≤ x) && decide (x ≤ hi)) := in_both x lo hi
theorem size_dec (n : Nat) : (decide ((1 : Int) ≤ (n : Int)) && decide ((n : Int) ≤ 12)) = (decide (1 ≤ n) && decide (n ≤ 12)) := by
  congr 1
  · exact decide_eq_decide.mpr (by omega)
  · exact decide_eq_decide.mpr (by omega)
theorem impl_good (s : ByteArray) (hs : s.size ≤ 9223372036854775807) : impl_GoodBackend.f s = some (goodS s) := by
  unfold impl_GoodBackend.f goodS
  rw [in_both, size_dec]
  simp only [Option.bind_some]
  cases hb : (decide (1 ≤ s.size) && decide (s.size ≤ 12)) with
  | false => rw [if_neg (by decide), Bool.false_and]
  | true =>
    rw [if_pos rfl, Bool.true_and]
    unfold impl_over.f strings_Trim.f
    rw [if_pos hs, if_pos (by decide), if_pos (by decide +kernel)]
    simp only [Option.bind_some]
    rw [Lib.toList_data]
    exact congrArg some (trim_empty s.data.toList)
theorem spec_loop (s : ByteArray) (hs : s.size ≤ 1048576) : ∀ (m k i : Nat), s.size = i + m → m < k → spec_l8Backend.l0 k s (i : Int) = some ((s.data.toList.drop i).all okB && (decide (1 ≤ s.size) && decide (s.size ≤ 12)))
  | 0, k, i, hd, hk => by
    obtain ⟨k, rfl⟩ : ∃ m, k = m + 1 := ⟨k - 1, by omega⟩
    rw [spec_l8Backend.l0, if_neg (by omega), List.drop_eq_nil_of_le (by simp; omega), l1In_tells, size_dec]
    simp
  | m + 1, k, i, hd, hk => by
    obtain ⟨k, rfl⟩ : ∃ m, k = m + 1 := ⟨k - 1, by omega⟩
    have hi : i < s.size := by omega
    have hl : i < s.data.toList.length := by simpa using hi
    have e : wrap64 ((i : Int) + 1) = ((i + 1 : Nat) : Int) := by unfold wrap64; omega
    rw [spec_l8Backend.l0, if_pos (by omega), if_pos (by omega), bt_byte s i hi, e, List.drop_eq_getElem_cons hl, List.all_cons]
    have ih := spec_loop s hs m k (i + 1) (by omega) (by omega)
    rw [ih]
    generalize (s.data.toList[i]'hl) = b
    unfold okB
    by_cases h1 : 97 ≤ b.toNat
    · rw [if_pos (by omega)]
      by_cases h2 : b.toNat ≤ 122
      · rw [if_pos (by omega)]; simp [h1, h2]
      · have h3 : ¬ b.toNat ≤ 57 := by omega
        rw [if_neg (by omega), if_pos (by omega), if_neg (by omega)]
        simp [h2, h3]
    · rw [if_neg (by omega)]
      by_cases h2 : 48 ≤ b.toNat
      · rw [if_pos (by omega)]
        by_cases h3 : b.toNat ≤ 57
        · rw [if_pos (by omega)]; simp [h2, h3]
        · rw [if_neg (by omega)]; simp [h1, h3]
      · rw [if_neg (by omega)]; simp [h1, h2]
theorem spec_good (k : Nat) (s : ByteArray) (hs : s.size ≤ 1048576) (hk : s.size < k) : spec_l8Backend.f k s = some (goodS s) := by
  have := spec_loop s hs s.size k 0 (by omega) hk
  unfold spec_l8Backend.f goodS
  rw [Bool.and_comm]
  simpa using this
end Go.Proofs.YtnghcnkffbjddaaDoorV.Aes
