/- What the laws over tables share: marks, copies, comparisons. Conditions: those that each theorem names. -/
import Derived.Test.YtnghcnkffbjddaaDoorVTabV
import Derived.Test.YtnghcnkffbjddaaDoorVTabQ
import Derived.Test.YtnghcnkffbjddaaDoorVTabH
namespace Go.Proofs.YtnghcnkffbjddaaDoorV.Aes
open Go.RowKit Go.Proofs.YtnghcnkffbjddaaDoorV.PrintWords Go.Proofs.YtnghcnkffbjddaaDoorV.PrintLast Go.Proofs.YtnghcnkffbjddaaDoorV.PrintMore Go.Proofs.YtnghcnkffbjddaaDoorV.Mem
set_option linter.unusedVariables false
set_option linter.unusedSimpArgs false

open Go.Maps Go.WideShapes Go.Proofs.YtnghcnkffbjddaaDoor.PImplM
theorem nums_one (x : Int) : (strOfNums [x]).size = 1 := by simp [strOfNums]; rfl
theorem mt_loop : ∀ (d : Nat) (x : Int) (y : ByteArray), 0 ≤ x → x < (10 : Int) ^ d → x ≤ 4611686018427387904 → y.size + d ≤ 1000 → ∃ r, ∀ k, d < k → laws_markText.l0 k x y = some r
  | 0, x, y, h0, h1, hx, hy => by
    refine ⟨(⟨#[109]⟩ : ByteArray) ++ y, fun k hk => ?_⟩
    obtain ⟨k, rfl⟩ : ∃ m, k = m + 1 := ⟨k - 1, by omega⟩
    rw [laws_markText.l0, if_neg (by simp at h1; omega), if_pos (by omega)]
  | d + 1, x, y, h0, h1, hx, hy => by
    by_cases h : x > 0
    · have e : wrap64 (Int.tdiv x 10) = x / 10 := by
        rw [Int.tdiv_eq_ediv_of_nonneg h0]
        unfold wrap64; omega
      have h10 : x / 10 < (10 : Int) ^ d := by
        rw [Int.pow_succ] at h1
        exact Int.ediv_lt_of_lt_mul (by decide) h1
      obtain ⟨r, hr⟩ := mt_loop d (x / 10) (strOfNums [(wrap64 (48 + (Int.tmod x 10))) % 256] ++ y) (by omega) h10 (by omega) (by rw [ByteArray.size_append, nums_one]; omega)
      refine ⟨r, fun k hk => ?_⟩
      obtain ⟨k, rfl⟩ : ∃ m, k = m + 1 := ⟨k - 1, by omega⟩
      rw [laws_markText.l0, if_pos h]
      simp only [Option.bind_some]
      rw [if_pos (by rw [nums_one]; omega), e]
      exact hr k (by omega)
    · refine ⟨(⟨#[109]⟩ : ByteArray) ++ y, fun k hk => ?_⟩
      obtain ⟨k, rfl⟩ : ∃ m, k = m + 1 := ⟨k - 1, by omega⟩
      rw [laws_markText.l0, if_neg h, if_pos (by omega)]
theorem mt_any (x : Int) (h0 : 1 ≤ x) (h1 : x ≤ 1000000000000000) : ∃ r, laws_markText.f 40 x = some r := by
  obtain ⟨r, hr⟩ := mt_loop 16 x (⟨#[]⟩ : ByteArray) (by omega) (by omega) (by omega) (by decide)
  refine ⟨r, ?_⟩
  unfold laws_markText.f
  rw [if_neg (by omega)]
  exact hr 40 (by omega)
theorem mt_all : ∃ mt : Int → ByteArray, MarkT mt := by
  refine ⟨fun x => if h : 1 ≤ x ∧ x ≤ 1000000000000000 then (mt_any x h.1 h.2).choose else (⟨#[]⟩ : ByteArray), fun x h0 h1 => ?_⟩
  dsimp only
  rw [dif_pos ⟨h0, h1⟩]
  exact (mt_any x h0 h1).choose_spec
def SmallE (l : List S68) : Prop := l.length ≤ 1048576 ∧ ∀ x ∈ l, x.f1.length ≤ 1048576
def EqIs (l : List S68) : Prop := ∀ (A A' : Option Addr) (c c' : Nat) (W : World), Kd.C k68 W A l.length l → l.length ≤ c → Kd.C k68 W A' l.length l → l.length ≤ c' →
    Calls Tryd.prog 31 #[.agg #[.slice A l.length c], .agg #[.slice A' l.length c']] W fun e w' => e = .returned (.bool true) ∧ Below W.heap.size W w'
theorem eq_is {l : List S68} (h : SmallE l) : EqIs l := fun A A' c c' W h1 h2 h3 h4 =>
  laws_eqTable.calls 3145731 A c l A' c' l true W h1 h2 h3 h4 (eqT 3145731 l h.1 h.2 (by decide))
def SpPost (w : World) (r : List S68) (code : Int) (e : Ending) (w' : World) : Prop :=
  ∃ A c, e = .returned (.tuple #[.agg #[.slice A r.length c], .int .i64 code]) ∧ r.length ≤ c ∧ Kd.C k68 w' A r.length r ∧ Below w.heap.size w w'
theorem S_C {W : World} {base : Nat} {ok : Nat → Prop} {A : Option Addr} {c n : Nat} {l : List S68} (h : Kd.S k68 68 W base ok (.slice A n c) l) : Kd.C k68 W A n l ∧ n ≤ c := ⟨by rw [(Kd.S_reads' h).1]; exact (Kd.S_reads' h).2.2, (Kd.S_reads' h).2.1⟩
theorem arg_len {w : World} {A0 : Option Addr} {l : List S104} (hr : Kd.C k104 w A0 l.length l) : ∀ y ∈ l, y.f1.length ≤ 9223372036854775807 := by
  intro y hy
  obtain ⟨j, hj, rfl⟩ := List.getElem_of_mem hy
  obtain ⟨ad, _, hc⟩ := hr.2.2 (by omega)
  obtain ⟨cs, _, hK, _⟩ := hc j l[j] (List.getElem?_eq_getElem hj)
  obtain ⟨A5, c5, _, _, h5⟩ := k104_open hK
  exact h5.2.1
theorem ok_of {l : List S104} (h1 : l.length ≤ 1048576) (h2 : ∀ y ∈ l, okS4 y) : OkE (l.map cvE) := by
  unfold OkE
  rw [okTab_iff]
  refine ⟨by rw [List.length_map, List.length_map]; exact h1, fun e he => ?_⟩
  obtain ⟨y, hy, rfl⟩ := List.mem_map.mp he
  obtain ⟨x, hx, rfl⟩ := List.mem_map.mp hy
  obtain ⟨q1, q2⟩ := h2 x hx
  refine ⟨?_, fun p hp => ?_⟩
  · show ((x.f1.map cvA).map (fun y => (y.f0, y.f1))).length ≤ 1048576
    rw [List.length_map, List.length_map]; exact q1
  · obtain ⟨z, hz, rfl⟩ := List.mem_map.mp hp
    obtain ⟨t, ht, rfl⟩ := List.mem_map.mp hz
    exact q2 t ht
theorem to_is {w : World} {A0 : Option Addr} {c0 : Nat} {l : List S104} (hr : Kd.C k104 w A0 l.length l) (hc : l.length ≤ c0) (h1 : l.length ≤ 1048576) (h2 : ∀ y ∈ l, okS4 y) (W : World) (hW : Below w.heap.size w W) :
    Calls Tryd.prog 29 #[.agg #[.slice A0 l.length c0]] W fun e w' => ∃ v : Value, e = .returned (.agg #[v]) ∧ sEnt w' W.heap.size (fun _ => True) v (l.map cvE) ∧ Below W.heap.size W w' :=
  laws_toTable.calls 3145731 A0 c0 l (l.map cvE) W (Kd.C_below hr hW) hc (toT 3145731 l h1 (fun y hy => (h2 y hy).1) (by decide))
theorem sz_is {w : World} {A0 : Option Addr} {c0 : Nat} {l : List S104} (hr : Kd.C k104 w A0 l.length l) (hc : l.length ≤ c0) (hwf : ∀ y ∈ l, wfE y) :
    ∃ r : Int, (∀ W, Below w.heap.size w W → Calls Tryd.prog 27 #[.agg #[.slice A0 l.length c0], .int .i64 1048576] W fun e w' => e = .returned (.int .i64 r) ∧ Below W.heap.size W w') ∧ (¬ r < 0 → l.length ≤ 1048576 ∧ ∀ y ∈ l, okS4 y) := by
  obtain ⟨r, h, h2⟩ := szT 3145731 l hr.2.1 (fun y hy => ⟨hwf y hy, arg_len hr y hy⟩) (by decide)
  exact ⟨r, fun W hW => laws_szTable.calls 3145731 A0 c0 l 1048576 r W (Kd.C_below hr hW) hc h, h2⟩
end Go.Proofs.YtnghcnkffbjddaaDoorV.Aes
