/- The reference's RoundWords, first words and HashFrom: what they tell. -/
import Derived.Test.YtnghcnkffbjddaaDoorVHk
import Derived.Test.YtnghcnkffbjddaaDoorVHr
import Derived.Test.YtnghcnkffbjddaaDoorPSpecWx1
namespace Go.Proofs.YtnghcnkffbjddaaDoorV.Aes
open Go.RowKit Go.Proofs.YtnghcnkffbjddaaDoorV.PrintWords Go.Proofs.YtnghcnkffbjddaaDoorV.PrintLast Go.Proofs.YtnghcnkffbjddaaDoorV.PrintMore Go.Proofs.YtnghcnkffbjddaaDoorV.Mem
set_option linter.unusedVariables false
set_option linter.unusedSimpArgs false

open Go.Proofs.YtnghcnkffbjddaaDoor.PSpecR Go.Proofs.YtnghcnkffbjddaaDoor.PSpecW
theorem ev_root3 (i : Nat) (h : i < 64) : Ev (fun k => Go.Proofs.YtnghcnkffbjddaaDoor.PSpecR.spec_l4Root.f k ((PL.getD i 0 : Nat) : Int) 3) (KW.getD i 0) := Ev.of (fun k => Go.Proofs.YtnghcnkffbjddaaDoor.PSpecR.spec_l4Root.mono _ _ k) (rootC i h)
theorem ev_root2 (i : Nat) (h : i < 8) : Ev (fun k => Go.Proofs.YtnghcnkffbjddaaDoor.PSpecR.spec_l4Root.f k ((PL.getD i 0 : Nat) : Int) 2) (HW.getD i 0) := Ev.of (fun k => Go.Proofs.YtnghcnkffbjddaaDoor.PSpecR.spec_l4Root.mono _ _ k) (rootS i h)
theorem words_l0 (pw : Int) (ps ws : List Int) (n : Nat) (hn : n ≤ 64) (hp : ps.length = n) (hw : ws.length = n) (hr : ∀ i, i < n → Ev (fun k => Go.Proofs.YtnghcnkffbjddaaDoor.PSpecR.spec_l4Root.f k (rd ps (i : Int)) pw) (ws.getD i 0)) : ∀ d i : Nat, i + d = n →
    Ev (fun k => spec_l4Words.l0 k pw (ws.take i) ps (n : Int) (i : Int)) ws
  | 0, i, h => by
    obtain rfl : i = n := by omega
    refine Ev.step (f := fun _ => some ws) (fun k => ?_) (Ev.now _)
    simp only [spec_l4Words.l0]
    rw [if_neg (by omega), List.take_of_length_le (by omega)]
  | d + 1, i, h => by
    have ih := words_l0 pw ps ws n hn hp hw hr d (i + 1) (by omega)
    have ht : ws.take (i + 1) = ws.take i ++ [ws.getD i 0] := by
      rw [List.take_succ_eq_append_getElem (by omega), List.getD_eq_getElem?_getD, List.getElem?_eq_getElem (by omega)]
      rfl
    rw [ht] at ih
    have h1 := Ev.bind (f := fun k t => spec_l4Words.l0 k pw (ws.take i ++ [t]) ps (n : Int) ((i + 1 : Nat) : Int)) (hr i (by omega)) ih
    refine Ev.step (fun k => ?_) h1
    simp only [spec_l4Words.l0]
    rw [if_pos (by omega), if_pos (by omega), if_pos (by omega), wrapS ((i : Int) + 1) ((i + 1 : Nat) : Int) (by omega) (by omega) (by omega)]
    refine congrArg _ (funext fun t => ?_)
    rw [if_pos (by rw [List.length_take]; omega)]
theorem pli_at (l : List Nat) (i : Nat) (h : i < l.length) : rd (l.map fun (q : Nat) => (q : Int)) (i : Int) = ((l.getD i 0 : Nat) : Int) := by
  rw [rd_at _ _ (by simpa using h), List.getElem_map, List.getD_eq_getElem?_getD, List.getElem?_eq_getElem h]
  rfl
theorem ev_words64 : Ev (fun k => spec_l4Words.f k 64 3) KW := by
  have hpl : pli 312 = PL.map fun (q : Nat) => (q : Int) := by unfold pli; rw [pl_312]
  have h := words_l0 3 (pli 312) KW 64 (by decide) (by rw [hpl]; rfl) rfl (fun i hi => by rw [hpl, pli_at PL i hi]; exact ev_root3 i hi) 64 0 rfl
  refine Ev.congr (fun k => ?_) h
  unfold spec_l4Words.f spec_l4Primes.f
  rw [if_pos rfl, Option.bind_some]
  have e : ((pli 312).length : Int) = (64 : Nat) := by rw [hpl]; rfl
  rw [e]
  rfl
theorem ev_words8 : Ev (fun k => spec_l4Words.f k 8 2) HW := by
  have hpl : pli 20 = (PL.take 8).map fun (q : Nat) => (q : Int) := by unfold pli; rw [pl_20]
  have hg : ∀ i, i < 8 → (PL.take 8).getD i 0 = PL.getD i 0 := by decide
  have h := words_l0 2 (pli 20) HW 8 (by decide) (by rw [hpl]; rfl) rfl (fun i hi => by rw [hpl, pli_at (PL.take 8) i hi, hg i hi]; exact ev_root2 i hi) 8 0 rfl
  refine Ev.congr (fun k => ?_) h
  unfold spec_l4Words.f spec_l4Primes.f
  rw [if_neg (by decide), if_pos rfl, Option.bind_some]
  have e : ((pli 20).length : Int) = (8 : Nat) := by rw [hpl]; rfl
  rw [e]
  rfl
theorem l4Words64_walk (w : World) : Calls Tryd.prog 110 #[.int .i64 64, .int .i64 3] w fun e w' => ∃ v0_ : Value, e = .returned (v0_) ∧ Kd.R (Kd.int .u32) 145 w' w.heap.size (fun _ => True) v0_ KW ∧ Below w.heap.size w w' := by
  obtain ⟨k, hk⟩ := ev_words64.rounds
  exact spec_l4Words.calls k _ _ _ w hk
theorem l4Words8_walk (w : World) : Calls Tryd.prog 110 #[.int .i64 8, .int .i64 2] w fun e w' => ∃ v0_ : Value, e = .returned (v0_) ∧ Kd.R (Kd.int .u32) 145 w' w.heap.size (fun _ => True) v0_ HW ∧ Below w.heap.size w w' := by
  obtain ⟨k, hk⟩ := ev_words8.rounds
  exact spec_l4Words.calls k _ _ _ w hk
end Go.Proofs.YtnghcnkffbjddaaDoorV.Aes
