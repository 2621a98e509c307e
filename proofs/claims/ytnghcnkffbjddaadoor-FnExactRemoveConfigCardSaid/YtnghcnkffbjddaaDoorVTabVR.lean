/- The reference's RemoveConfig tells what the program's tells. Conditions: a table of the sizes that okTab names. -/
import Derived.Test.YtnghcnkffbjddaaDoorVTabJ
namespace Go.Proofs.YtnghcnkffbjddaaDoorV.Aes
open Go.RowKit Go.Proofs.YtnghcnkffbjddaaDoorV.PrintWords Go.Proofs.YtnghcnkffbjddaaDoorV.PrintLast Go.Proofs.YtnghcnkffbjddaaDoorV.PrintMore Go.Proofs.YtnghcnkffbjddaaDoorV.Mem
set_option linter.unusedVariables false
set_option linter.unusedSimpArgs false

open Go.Proofs.YtnghcnkffbjddaaDoor.PImplM
def remR (slot : Int) (E : List S68) : List S68 := if tabOk (E.map evM) = true then remE slot E else []
def remK (slot : Int) (E : List S68) : Int := if tabOk (E.map evM) = true then remC slot E else 1
theorem sRem_tells (slot : Int) (E : List S68) (h : OkE E) : spec_RemoveConfig.f 1048577 E slot = some (remR slot E, remK slot E) := by
  obtain ⟨h1, h2⟩ := ok_small h
  unfold spec_RemoveConfig.f remR remK
  rw [good_tells h]
  simp only [Option.bind_some]
  cases hg : tabOk (E.map evM) with
  | false => rw [if_neg (by decide), if_neg (by decide), if_neg (by decide)]
  | true =>
    rw [if_pos rfl, if_pos rfl, if_pos rfl, own_tells 1048577 E h1 h2 (by omega)]
    simp only [Option.bind_some]
    rw [at_tells 1048577 slot E h1 (by omega)]
    simp only [Option.bind_some]
    unfold remE remC
    by_cases q : idxOf slot (E.map evM) < 0
    · rw [if_pos q, if_pos q, if_pos q]
    · rw [if_neg q, if_neg q, if_neg q]
      obtain ⟨i, hi, hil⟩ := idx_lt slot (E.map evM) q
      rw [List.length_map] at hil
      rw [hi, Int.toNat_natCast]
      have e : wrap64 ((i : Int) + 1) = ((i + 1 : Nat) : Int) := by unfold wrap64; omega
      rw [if_pos (by omega), if_pos (by omega)]
      have ht : (([] : List S68) ++ E.take i).length < 1759218604441 := by simp only [List.nil_append, List.length_take]; omega
      rw [if_pos (by simp only [List.length_nil, List.length_take]; omega)]
      rw [e, if_pos (by omega), if_pos (by omega), Int.toNat_natCast, if_pos (by simp only [List.nil_append, List.length_take, List.length_drop]; omega), List.nil_append, ← List.eraseIdx_eq_take_drop_succ]
theorem remA_is (slot : Int) (E : List S68) (h : OkE E) : remA slot E = some (remR slot E, remK slot E) := by
  unfold remA remR remK
  rw [if_pos (show okTab (E.map evM) = true from h)]
  cases hg : tabOk (E.map evM) with
  | false => rw [if_neg (by decide), if_neg (by decide), if_neg (by decide)]
  | true => rw [if_pos rfl, if_pos rfl, if_pos rfl]
theorem rem_small (slot : Int) (E : List S68) (h : OkE E) : SmallE (remR slot E) := by
  obtain ⟨h1, h2⟩ := ok_small h
  unfold remR remE
  split
  · split
    · exact ⟨h1, h2⟩
    · exact ⟨by rw [List.length_eraseIdx]; split <;> omega, fun y hy => h2 y (List.mem_of_mem_eraseIdx hy)⟩
  · exact ⟨by simp, fun y hy => by cases hy⟩
end Go.Proofs.YtnghcnkffbjddaaDoorV.Aes
