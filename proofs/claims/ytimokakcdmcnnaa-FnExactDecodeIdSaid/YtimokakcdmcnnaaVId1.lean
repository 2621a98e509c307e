import Derived.Test.YtimokakcdmcnnaaVFour5
import Derived.Test.YtimokakcdmcnnaaPImplEx1
/- Shared lemmas and walks of the AES laws of this seat. -/
namespace Go.Proofs.YtimokakcdmcnnaaV.Aes
open Go.RowKit Go.Proofs.YtimokakcdmcnnaaV.PrintWords Go.Proofs.YtimokakcdmcnnaaV.PrintLast Go.Proofs.YtimokakcdmcnnaaV.PrintMore Go.Proofs.YtimokakcdmcnnaaV.Mem
set_option linter.unusedVariables false
set_option linter.unusedSimpArgs false

def Ok4 (key s : ByteArray) : Prop := key.size = 16 ∧ 5 ≤ s.size ∧ s.size ≤ 19
instance (key s : ByteArray) : Decidable (Ok4 key s) := by unfold Ok4; infer_instance
end Go.Proofs.YtimokakcdmcnnaaV.Aes
/- Shared lemmas and walks of the AES laws of this seat. -/
namespace Go.Proofs.YtimokakcdmcnnaaV.Aes
open Go.RowKit Go.Proofs.YtimokakcdmcnnaaV.PrintWords Go.Proofs.YtimokakcdmcnnaaV.PrintLast Go.Proofs.YtimokakcdmcnnaaV.PrintMore Go.Proofs.YtimokakcdmcnnaaV.Mem
set_option linter.unusedVariables false
set_option linter.unusedSimpArgs false

open Go.Proofs.Ytimokakcdmcnnaa.PImplE
/-- A config that is right; how its ids are made; the body of an id. -/
def GoodC (a b c : Int) (k : ByteArray) : Prop := (0 ≤ a ∧ a ≤ 6) ∧ (1 ≤ b ∧ b ≤ 15) ∧ (4 ≤ c ∧ c ≤ 18) ∧ b + c ≤ 19 ∧ (k.size = 0 ∨ k.size = 16)
instance (a b c : Int) (k : ByteArray) : Decidable (GoodC a b c k) := by unfold GoodC; infer_instance
theorem no_bytes (k : ByteArray) : k.toList = [] ↔ k.size = 0 := by
  rw [ByteArray.toList_eq]
  constructor
  · intro h
    have : k.data.toList.length = 0 := by rw [h]; rfl
    exact this
  · intro h
    exact List.eq_nil_of_length_eq_zero h
theorem good_told (a b c : Int) (k : ByteArray) (t : Bool) : impl_GoodConfig.f a b c k t = some (decide (GoodC a b c k)) := by
  unfold impl_GoodConfig.f impl_in.f impl_isKey.f
  by_cases h1 : 0 ≤ a
  · rw [if_pos h1, Option.bind_some]
    by_cases h2 : a ≤ 6
    · rw [decide_eq_true h2, if_pos rfl]
      by_cases h3 : 1 ≤ b
      · rw [if_pos h3, Option.bind_some]
        by_cases h4 : b ≤ 15
        · rw [decide_eq_true h4, if_pos rfl]
          by_cases h5 : 4 ≤ c
          · rw [if_pos h5, Option.bind_some]
            by_cases h6 : c ≤ 18
            · rw [decide_eq_true h6, if_pos rfl]
              have e : wrap64 (b + c) = b + c := by unfold wrap64; omega
              rw [e]
              by_cases h7 : b + c ≤ 19
              · rw [if_pos h7]
                by_cases h8 : k.size = 0
                · rw [if_pos ((no_bytes k).2 h8)]
                  congr 1
                  exact (decide_eq_true (show GoodC a b c k from ⟨⟨h1, h2⟩, ⟨h3, h4⟩, ⟨h5, h6⟩, h7, .inl h8⟩)).symm
                · rw [if_neg (fun e => h8 ((no_bytes k).1 e)), Option.bind_some]
                  congr 1
                  by_cases h9 : k.size = 16
                  · rw [decide_eq_true (show GoodC a b c k from ⟨⟨h1, h2⟩, ⟨h3, h4⟩, ⟨h5, h6⟩, h7, .inr h9⟩), h9]
                    rfl
                  · rw [decide_eq_false (show ¬ GoodC a b c k from fun h => h.2.2.2.2.elim h8 h9)]
                    simp; omega
              · rw [if_neg h7]
                congr 1
                exact (decide_eq_false (fun h : GoodC a b c k => h7 h.2.2.2.1)).symm
            · rw [decide_eq_false h6, if_neg (by decide)]
              congr 1
              exact (decide_eq_false (fun h : GoodC a b c k => h6 h.2.2.1.2)).symm
          · rw [if_neg h5, Option.bind_some, if_neg (by decide)]
            congr 1
            exact (decide_eq_false (fun h : GoodC a b c k => h5 h.2.2.1.1)).symm
        · rw [decide_eq_false h4, if_neg (by decide)]
          congr 1
          exact (decide_eq_false (fun h : GoodC a b c k => h4 h.2.1.2)).symm
      · rw [if_neg h3, Option.bind_some, if_neg (by decide)]
        congr 1
        exact (decide_eq_false (fun h : GoodC a b c k => h3 h.2.1.1)).symm
    · rw [decide_eq_false h2, if_neg (by decide)]
      congr 1
      exact (decide_eq_false (fun h : GoodC a b c k => h2 h.1.2)).symm
  · rw [if_neg h1, Option.bind_some, if_neg (by decide)]
    congr 1
    exact (decide_eq_false (fun h : GoodC a b c k => h1 h.1.1)).symm
theorem good_walk (a b c : Int) (k : ByteArray) (t : Bool) (w : World) : Calls Try.prog 79 #[.agg #[.int .i64 a, .int .i64 b, .int .i64 c, .string k, .bool t]] w fun e w' => e = .returned (.bool (decide (GoodC a b c k))) ∧ Below w.heap.size w w' :=
  impl_GoodConfig.calls a b c k t _ w (good_told a b c k t)
def kindN (b c : Int) (k : ByteArray) : Int := if k.size = 0 then 0 else if b + c = 16 then 1 else 2
theorem kind_told (a b c : Int) (k : ByteArray) (t : Bool) (hb : 0 ≤ b ∧ b ≤ 100) (hc : 0 ≤ c ∧ c ≤ 100) : impl_IdConfig_kind.f a b c k t = some (kindN b c k, a, b, c, k, t) := by
  have e : wrap64 (b + c) = b + c := by unfold wrap64; omega
  unfold impl_IdConfig_kind.f kindN
  rw [e]
  by_cases h : k.size = 0
  · rw [if_pos ((no_bytes k).2 h), if_pos h]
  · rw [if_neg (fun e => h ((no_bytes k).1 e)), if_neg h]
    split <;> rfl
def EncOk (a b c : Int) (k s n : ByteArray) (sp : Int) : Prop := GoodC a b c k ∧ (s.size : Int) = b ∧ (n.size : Int) = c ∧ 0 ≤ sp ∧ sp ≤ 31
instance (a b c : Int) (k s n : ByteArray) (sp : Int) : Decidable (EncOk a b c k s n sp) := by unfold EncOk; infer_instance
theorem cells37 {w0 W : World} {g : Nat} {a b c : Int} {k : ByteArray} {t : Bool} (h : IsS37 w0 W g a b c k t) : W.cell? ⟨g, 0, none⟩ = some (.int .i64 a) ∧ W.cell? ⟨g, 1, none⟩ = some (.int .i64 b) ∧ W.cell? ⟨g, 2, none⟩ = some (.int .i64 c) ∧ W.cell? ⟨g, 3, none⟩ = some (.string k) ∧ W.cell? ⟨g, 4, none⟩ = some (.bool t) := by
  refine ⟨?_, ?_, ?_, ?_, ?_⟩ <;> (simp only [World.cell?, h.1]; rfl)
theorem made37 (w : World) (a b c : Int) (k : ByteArray) (t : Bool) : IsS37 w (w.alloc (.cells #[.int .i64 a, .int .i64 b, .int .i64 c, .string k, .bool t] 37 (0, 0))) w.heap.size a b c k t := ⟨heap_alloc_new _ _, Nat.le_refl _⟩
theorem joinP_length (n h : Nat) (lr : List Int × List Int) (H : Lr n h lr) (hn : n = 2 * h - n % 2) (h0 : 0 < h) : (joinP n lr).length = n := by
  unfold joinP
  have l1 := H.l1
  have l2 := H.l2
  by_cases ho : n % 2 = 1
  · rw [if_pos ho, List.length_append, List.length_append, List.length_take, List.length_drop, List.length_singleton, l1, l2]; omega
  · rw [if_neg ho, List.length_append, l1, l2]; omega
theorem fourS_size (k s : ByteArray) (ps : List Nat) (h0 : 5 ≤ s.size) (hs : s.size ≤ 19) : (fourS k s ps).size = s.size := by
  unfold fourS
  rw [str_size]
  exact joinP_length s.size ((s.size + 1) / 2) _ (Lr.passes (by omega) k ps _ (Lr.cut s)) (by omega) (by omega)
end Go.Proofs.YtimokakcdmcnnaaV.Aes
