/- The statement over numbers and lists that is left of the law FnExactHashFrom: the program's function and the reference's tell the same for all arguments. Conditions: none beyond the kinds' own bounds. -/
import Derived.Test.YtnkakkfjfjeaeaaPFnExactHashFromx2
set_option linter.unusedVariables false
set_option linter.unusedSimpArgs false
namespace Go.Proofs.Ytnkakkfjfjeaeaa.Pure
open Go.RowKit Go.Proofs.Ytnkakkfjfjeaeaa.PFnExactHashFrom Go.Proofs.YtnkakkfjfjeaeaaV.PrintWords Go.Proofs.YtnkakkfjfjeaeaaV.PrintLast

open Go.Proofs.YtnkakkfjfjeaeaaV.Aes
theorem ev_pos {α : Type} {c : Prop} [Decidable c] {g f : Nat → Option α} {r : α} (h : c) (h2 : Ev g r) : Ev (fun k => if c then g k else f k) r := Ev.congr (fun k => if_pos h) h2
theorem ev_neg {α : Type} {c : Prop} [Decidable c] {g f : Nat → Option α} {r : α} (h : ¬ c) (h2 : Ev f r) : Ev (fun k => if c then g k else f k) r := Ev.congr (fun k => if_neg h) h2
theorem ev_some {α β : Type} {x : Option α} {a : α} {f : Nat → α → Option β} {r : β} (h : x = some a) (h2 : Ev (fun k => f k a) r) : Ev (fun k => x.bind (f k)) r := Ev.congr (fun k => by rw [h]; rfl) h2
theorem eq_loop (l : List Int) (hl : l.length ≤ 1048576) : ∀ d i : Nat, i + d = l.length → Ev (fun k => laws_eqUint32S.l0 k l l (i : Int)) true
  | 0, i, h => by
    refine Ev.step (f := fun _ => some true) (fun k => ?_) (Ev.now _)
    simp only [laws_eqUint32S.l0]
    rw [if_neg (by omega)]
  | d + 1, i, h => by
    refine Ev.step (fun k => ?_) (eq_loop l hl d (i + 1) (by omega))
    simp only [laws_eqUint32S.l0]
    rw [if_pos (by omega), if_pos (by omega), if_pos (by omega), wrapS ((i : Int) + 1) ((i + 1 : Nat) : Int) (by omega) (by omega) (by omega)]
    rw [if_pos trivial]
theorem ev_eq (l : List Int) (hl : l.length ≤ 1048576) : Ev (fun k => laws_eqUint32S.f k l l) true := by
  refine Ev.congr (fun k => ?_) (eq_loop l hl l.length 0 (by omega))
  unfold laws_eqUint32S.f
  rw [if_pos rfl]
  rfl
theorem to_loop (l : List Int) (hl : l.length ≤ 1048576) : ∀ d i : Nat, i + d = l.length → Ev (fun k => laws_toUint32S.l0 k l ((tab l.length fun i => rd l (i : Int)).take i ++ (List.replicate l.length 0).drop i ++ []) (i : Int)) (tab l.length fun i => rd l (i : Int))
  | 0, i, h => by
    obtain rfl : i = l.length := by omega
    refine Ev.step (f := fun _ => some (tab l.length fun i => rd l (i : Int))) (fun k => ?_) (Ev.now _)
    simp only [laws_toUint32S.l0]
    rw [if_neg (by omega), tab_end _ _ _ _ (by rw [List.length_replicate]), List.append_nil]
  | d + 1, i, h => by
    refine Ev.step (fun k => ?_) (to_loop l hl d (i + 1) (by omega))
    simp only [laws_toUint32S.l0]
    rw [if_pos (by omega), if_pos (by omega), if_pos (by rw [tab_both _ _ _ _ (by rw [List.length_replicate]) i (by omega)]; simp; omega), wrapS ((i : Int) + 1) ((i + 1 : Nat) : Int) (by omega) (by omega) (by omega), Int.toNat_natCast]
    rw [tab_step l.length (fun i => rd l (i : Int)) (List.replicate l.length 0) [] (by rw [List.length_replicate]) i (by omega)]
theorem tab_self (l : List Int) : (tab l.length fun i => rd l (i : Int)) = l := by
  apply List.ext_getElem
  · rw [tab_length]
  · intro i h1 h2
    have := rd_tab l.length (fun i => rd l (i : Int)) i h2
    rw [rd_at _ _ h1] at this
    rw [this, rd_at _ _ h2]
theorem ev_to (l : List Int) (hl : l.length ≤ 1048576) : Ev (fun k => laws_toUint32S.f k l) l := by
  have h := to_loop l hl l.length 0 (by omega)
  rw [List.take_zero, List.drop_zero, List.nil_append, List.append_nil, tab_self] at h
  refine Ev.congr (fun k => ?_) h
  unfold laws_toUint32S.f
  rw [if_pos (by omega), Int.toNat_natCast, if_pos (by omega)]
  rfl
theorem mark_loop (l : List Int) (hl : l.length ≤ 1048576) : ∀ d i : Nat, i + d = l.length → Ev (fun k => laws_markUint32S.l0 k ((tab l.length fun i => ((i + 1 : Nat) : Int)).take i ++ l.drop i ++ []) ((i + 1 : Nat) : Int) (i : Int)) (((l.length + 1 : Nat) : Int), tab l.length fun i => ((i + 1 : Nat) : Int))
  | 0, i, h => by
    obtain rfl : i = l.length := by omega
    refine Ev.step (f := fun _ => some (((l.length + 1 : Nat) : Int), tab l.length fun i => ((i + 1 : Nat) : Int))) (fun k => ?_) (Ev.now _)
    simp only [laws_markUint32S.l0]
    rw [if_neg (by rw [tab_both _ _ _ _ rfl _ (Nat.le_refl _)]; simp), tab_end _ _ _ _ rfl, List.append_nil]
  | d + 1, i, h => by
    refine Ev.step (fun k => ?_) (mark_loop l hl d (i + 1) (by omega))
    simp only [laws_markUint32S.l0]
    have e1 : ((i + 1 : Nat) : Int) % 4294967296 = ((i + 1 : Nat) : Int) := by omega
    rw [if_pos (by rw [tab_both _ _ _ _ rfl i (by omega)]; simp; omega), if_pos (by omega), e1, wrapS ((i : Int) + 1) ((i + 1 : Nat) : Int) (by omega) (by omega) (by omega), wrapS (((i + 1 : Nat) : Int) + 1) ((i + 1 + 1 : Nat) : Int) (by omega) (by omega) (by omega), Int.toNat_natCast]
    rw [tab_step l.length (fun i => ((i + 1 : Nat) : Int)) l [] rfl i (by omega)]
theorem ev_mark (l : List Int) (hl : l.length ≤ 1048576) : Ev (fun k => laws_markUint32S.f k l 1) (((l.length + 1 : Nat) : Int), tab l.length fun i => ((i + 1 : Nat) : Int)) := by
  have h := mark_loop l hl l.length 0 (by omega)
  rw [List.take_zero, List.drop_zero, List.nil_append, List.append_nil] at h
  exact h
theorem held_loop (n : Nat) (hl : n ≤ 1048576) : ∀ d i : Nat, i + d = n → Ev (fun k => laws_heldUint32S.l0 k (tab n fun i => ((i + 1 : Nat) : Int)) ((i + 1 : Nat) : Int) (i : Int)) ((n + 1 : Nat) : Int)
  | 0, i, h => by
    obtain rfl : i = n := by omega
    refine Ev.step (f := fun _ => some ((i + 1 : Nat) : Int)) (fun k => ?_) (Ev.now _)
    simp only [laws_heldUint32S.l0]
    rw [if_neg (by rw [tab_length]; omega)]
  | d + 1, i, h => by
    refine Ev.step (fun k => ?_) (held_loop n hl d (i + 1) (by omega))
    simp only [laws_heldUint32S.l0]
    have e1 : ((i + 1 : Nat) : Int) % 4294967296 = ((i + 1 : Nat) : Int) := by omega
    rw [if_pos (by rw [tab_length]; omega), if_pos (by omega), e1, rd_tab n _ i (by omega), if_pos rfl, wrapS ((i : Int) + 1) ((i + 1 : Nat) : Int) (by omega) (by omega) (by omega), wrapS (((i + 1 : Nat) : Int) + 1) ((i + 1 + 1 : Nat) : Int) (by omega) (by omega) (by omega)]
theorem ev_held (n : Nat) (hl : n ≤ 1048576) : Ev (fun k => laws_heldUint32S.f k (tab n fun i => ((i + 1 : Nat) : Int)) 1) ((n + 1 : Nat) : Int) := held_loop n hl n 0 (by omega)
theorem FnExactHashFrom : laws_FnExactHashFrom.Pure := by
  intro l b _ _ _ _
  by_cases h1 : l.length ≤ 1048576
  · by_cases h2 : b.size ≤ 1048576
    · obtain ⟨r, hs⟩ : ∃ r, spec_HashFrom.f l b = some r := ⟨_, rfl⟩
      have hi : impl_HashFrom.f l b = some r := hs
      have hrl : r.1.length ≤ 1048576 := by
        have := Option.some.inj hs
        rw [← this]
        split
        · show (hashL _ _ _).length ≤ _
          rw [hashL_length]; decide
        · exact Nat.zero_le _
      have hne : (r.2 != r.2) = false := by simp
      have t2 : Ev (fun k => laws_FnExactHashFrom.j2 k (tab r.1.length fun i => ((i + 1 : Nat) : Int)) ((r.1.length + 1 : Nat) : Int) (r.2 != r.2)) true := by
        have h := Ev.bind (f := fun _ t => if t < 0 then some false else if t = ((r.1.length + 1 : Nat) : Int) then some true else some false) (ev_held r.1.length hrl) (r := true) (by rw [if_neg (by omega), if_pos rfl]; exact Ev.now _)
        refine Ev.step (fun k => ?_) h
        simp only [laws_FnExactHashFrom.j2]
        rw [if_neg (by rw [hne]; decide)]
      have t1 : Ev (fun k => laws_FnExactHashFrom.j1 k l b r.1 r.2 r.1 (r.2 != r.2)) true := by
        refine Ev.step (f := fun k => (laws_markUint32S.f k r.1 1).bind fun bt => (laws_heldUint32S.f k bt.2 1).bind fun t => if t < 0 then some false else if t = bt.1 then ((laws_toUint32S.f k l).bind fun t3 => (impl_HashFrom.f t3 b).bind fun b4 => (laws_eqUint32S.f k b4.1 r.1).bind fun t5 => if t5 = true then laws_FnExactHashFrom.j2 k bt.2 bt.1 (b4.2 != r.2) else laws_FnExactHashFrom.j2 k bt.2 bt.1 true) else some false) (fun k => ?_) ?_
        · simp only [laws_FnExactHashFrom.j1]
          rw [if_neg (by rw [hne]; decide)]
        · refine Ev.bind (ev_mark r.1 hrl) ?_
          refine Ev.bind (ev_held r.1.length hrl) ?_
          refine ev_neg (by show ¬ ((r.1.length + 1 : Nat) : Int) < 0; omega) (ev_pos rfl ?_)
          refine Ev.bind (ev_to l h1) ?_
          refine ev_some hi ?_
          refine Ev.bind (ev_eq r.1 hrl) ?_
          exact ev_pos rfl t2
      have t0 : Ev (fun k => laws_FnExactHashFrom.j0 k l b r.1 r.2 l r.1 r.2 (r.2 != r.2)) true := by
        refine Ev.step (f := fun k => (laws_toUint32S.f k l).bind fun t => (laws_eqUint32S.f k l t).bind fun t2 => if t2 = true then ((laws_markUint32S.f k l 1).bind fun bt => if bt.1 < 0 then laws_FnExactHashFrom.j1 k l b r.1 r.2 r.1 true else ((laws_eqUint32S.f k r.1 r.1).bind fun t3 => if t3 = true then laws_FnExactHashFrom.j1 k l b r.1 r.2 r.1 (r.2 != r.2) else laws_FnExactHashFrom.j1 k l b r.1 r.2 r.1 true)) else some false) (fun k => ?_) ?_
        · simp only [laws_FnExactHashFrom.j0]
          rw [if_neg (by rw [hne]; decide)]
        · refine Ev.bind (ev_to l h1) ?_
          refine Ev.bind (ev_eq l h1) ?_
          refine ev_pos rfl ?_
          refine Ev.bind (ev_mark l h1) ?_
          refine ev_neg (by show ¬ ((l.length + 1 : Nat) : Int) < 0; omega) ?_
          refine Ev.bind (ev_eq r.1 hrl) ?_
          exact ev_pos rfl t1
      have t : Ev (fun k => laws_FnExactHashFrom.f k l b) true := by
        refine Ev.congr (f := fun k => (laws_toUint32S.f k l).bind fun t => (spec_HashFrom.f t b).bind fun b1 => (laws_toUint32S.f k l).bind fun t2 => (impl_HashFrom.f t2 b).bind fun b2 => (laws_eqUint32S.f k b2.1 b1.1).bind fun t3 => if t3 = true then laws_FnExactHashFrom.j0 k l b b1.1 b1.2 t2 b2.1 b2.2 (b2.2 != b1.2) else laws_FnExactHashFrom.j0 k l b b1.1 b1.2 t2 b2.1 b2.2 true) (fun k => ?_) ?_
        · unfold laws_FnExactHashFrom.f
          rw [if_neg (by omega), if_neg (by omega)]
        · refine Ev.bind (ev_to l h1) ?_
          refine ev_some hs ?_
          refine Ev.bind (ev_to l h1) ?_
          refine ev_some hi ?_
          refine Ev.bind (ev_eq r.1 hrl) ?_
          exact ev_pos rfl t0
      exact t.rounds
    · exact ⟨0, by unfold laws_FnExactHashFrom.f; rw [if_neg (by omega), if_pos (by omega)]⟩
  · exact ⟨0, by unfold laws_FnExactHashFrom.f; rw [if_pos (by omega)]⟩

end Go.Proofs.Ytnkakkfjfjeaeaa.Pure
