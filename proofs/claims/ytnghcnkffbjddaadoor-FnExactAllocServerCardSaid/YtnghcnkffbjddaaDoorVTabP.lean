/- Plain lemmas: rows in order, an element put in its place; texts compared. Conditions: none. -/
import Derived.Test.YtnghcnkffbjddaaDoorVWb
namespace Go.Proofs.YtnghcnkffbjddaaDoorV.Aes
open Go.RowKit Go.Proofs.YtnghcnkffbjddaaDoorV.PrintWords Go.Proofs.YtnghcnkffbjddaaDoorV.PrintLast Go.Proofs.YtnghcnkffbjddaaDoorV.PrintMore Go.Proofs.YtnghcnkffbjddaaDoorV.Mem
set_option linter.unusedVariables false
set_option linter.unusedSimpArgs false

theorem perm_sorted_eq {α : Type} (R : α → α → Prop) (ha : ∀ a b, R a b → ¬ R b a) : ∀ (l1 l2 : List α), l1.Perm l2 → l1.Pairwise R → l2.Pairwise R → l1 = l2
  | [], l2, h, _, _ => (List.nil_perm.mp h).symm
  | a :: t1, [], h, _, _ => absurd h.length_eq (by simp)
  | a :: t1, b :: t2, h, h1, h2 => by
    have hab : a = b := by
      have m1 : a ∈ b :: t2 := h.mem_iff.mp List.mem_cons_self
      have m2 : b ∈ a :: t1 := h.mem_iff.mpr List.mem_cons_self
      rcases List.mem_cons.mp m1 with q | q
      · exact q
      · rcases List.mem_cons.mp m2 with r | r
        · exact r.symm
        · exact absurd ((List.pairwise_cons.mp h2).1 a q) (ha _ _ ((List.pairwise_cons.mp h1).1 b r))
    subst hab
    rw [perm_sorted_eq R ha t1 t2 ((List.perm_cons a).mp h) (List.pairwise_cons.mp h1).2 (List.pairwise_cons.mp h2).2]
theorem flat_chunk {β : Type} (s : Nat) : ∀ (l : List (List β)) (j : Nat) (h : j < l.length), (∀ x ∈ l, x.length = s) → (l.flatten.drop (j * s)).take s = l[j]
  | x :: l, 0, _, hs => by
    rw [Nat.zero_mul, List.drop_zero, List.flatten_cons, List.take_left' (hs x List.mem_cons_self)]; rfl
  | x :: l, j + 1, h, hs => by
    have hx := hs x List.mem_cons_self
    have e : (j + 1) * s = x.length + j * s := by rw [hx, Nat.add_mul]; omega
    rw [List.flatten_cons, e, List.drop_append, List.drop_eq_nil_of_le (by omega), List.nil_append, Nat.add_sub_cancel_left]
    exact flat_chunk s l j (by simpa using h) (fun y hy => hs y (List.mem_cons_of_mem _ hy))
theorem flat_len {β : Type} (s : Nat) : ∀ (l : List (List β)), (∀ x ∈ l, x.length = s) → l.flatten.length = l.length * s
  | [], _ => by simp
  | x :: l, hs => by
    rw [List.flatten_cons, List.length_append, hs x List.mem_cons_self, flat_len s l (fun y hy => hs y (List.mem_cons_of_mem _ hy)), List.length_cons, Nat.add_mul]; omega
theorem chunks_flat {β : Type} (s : Nat) (l : List β) : ∀ n, n * s ≤ l.length → ((List.range n).map (fun j => (l.drop (j * s)).take s)).flatten = l.take (n * s)
  | 0, _ => by simp
  | n + 1, h => by
    rw [List.range_succ, List.map_append, List.flatten_append, chunks_flat s l n (by rw [Nat.add_mul] at h; omega)]
    simp only [List.map_cons, List.map_nil, List.flatten_cons, List.flatten_nil, List.append_nil]
    rw [Nat.add_mul, Nat.one_mul, List.take_add]
theorem flat_get {β : Type} (s : Nat) (l : List (List β)) (hs : ∀ x ∈ l, x.length = s) (q r : Nat) (hq : q < l.length) (hr : r < s) : l.flatten[q * s + r]? = (l[q])[r]? := by
  rw [← flat_chunk s l q hq hs, List.getElem?_take_of_lt hr, List.getElem?_drop]
theorem sorted_is {β : Type} (lt : β → β → Bool) (hasy : ∀ a b, lt a b = true → lt b a = false) {d l t : List β} (hp : d.Perm l) (hs : ∀ i j (hi : i < j) (hj : j < d.length), lt d[j] (d[i]'(by omega)) = false)
    (hd : l.Pairwise (fun a b => lt a b = true ∨ lt b a = true)) (ht : t.Perm l) (hq : t.Pairwise (fun a b => lt a b = true)) : d = t := by
  refine perm_sorted_eq (fun a b => lt a b = true) (fun a b h1 h2 => by rw [hasy a b h1] at h2; cases h2) d t (hp.trans ht.symm) ?_ hq
  have hd2 := (hp.pairwise_iff (R := fun a b => lt a b = true ∨ lt b a = true) (fun h => h.symm)).mpr hd
  rw [List.pairwise_iff_getElem] at hd2 ⊢
  intro i j hi hj hij
  rcases hd2 i j hi hj hij with h | h
  · exact h
  · rw [hs i j hij hj] at h; cases h
/-- An element put in its place in a row in order. -/
def insL {β : Type} (lt : β → β → Bool) (z : β) (l : List β) : List β := l.takeWhile (fun x => lt x z) ++ z :: l.dropWhile (fun x => lt x z)
theorem insL_cons {β : Type} (lt : β → β → Bool) (z x : β) (l : List β) : insL lt z (x :: l) = if lt x z = true then x :: insL lt z l else z :: x :: l := by
  unfold insL
  by_cases h : lt x z = true
  · rw [if_pos h, List.takeWhile_cons, List.dropWhile_cons, if_pos h, if_pos h]; rfl
  · rw [if_neg h, List.takeWhile_cons, List.dropWhile_cons, if_neg h, if_neg h]; rfl
theorem insL_perm {β : Type} (lt : β → β → Bool) (z : β) : ∀ l : List β, (insL lt z l).Perm (l ++ [z])
  | [] => List.Perm.refl _
  | x :: l => by
    rw [insL_cons]
    split
    · exact (insL_perm lt z l).cons x
    · exact (List.perm_append_singleton z (x :: l)).symm
theorem insL_pair {β : Type} (lt : β → β → Bool) (htr : ∀ a b c, lt a b = true → lt b c = true → lt a c = true) (z : β) : ∀ l : List β, l.Pairwise (fun a b => lt a b = true) → (∀ x ∈ l, lt x z = true ∨ lt z x = true) → (insL lt z l).Pairwise (fun a b => lt a b = true)
  | [], _, _ => List.pairwise_singleton _ _
  | x :: l, h, hz => by
    rw [insL_cons]
    obtain ⟨h1, h2⟩ := List.pairwise_cons.mp h
    split
    · rename_i hx
      refine List.pairwise_cons.mpr ⟨fun y hy => ?_, insL_pair lt htr z l h2 (fun y hy => hz y (List.mem_cons_of_mem _ hy))⟩
      have := (insL_perm lt z l).mem_iff.mp hy
      rcases List.mem_append.mp this with q | q
      · exact h1 y q
      · rw [List.mem_singleton.mp q]; exact hx
    · rename_i hx
      have hzx : lt z x = true := (hz x List.mem_cons_self).resolve_left hx
      refine List.pairwise_cons.mpr ⟨fun y hy => ?_, h⟩
      rcases List.mem_cons.mp hy with rfl | q
      · exact hzx
      · exact htr _ _ _ hzx (h1 y q)
/-- What a sort leaves of a row in order with one element behind it. -/
theorem sorted_ins {β : Type} (lt : β → β → Bool) (hasy : ∀ a b, lt a b = true → lt b a = false) (htr : ∀ a b c, lt a b = true → lt b c = true → lt a c = true) {d l : List β} {z : β} (hp : d.Perm (l ++ [z])) (hs : ∀ i j (hi : i < j) (hj : j < d.length), lt d[j] (d[i]'(by omega)) = false)
    (hl : l.Pairwise (fun a b => lt a b = true)) (hz : ∀ x ∈ l, lt x z = true ∨ lt z x = true) : d = insL lt z l := by
  refine sorted_is lt hasy hp hs ?_ (insL_perm lt z l) (insL_pair lt htr z l hl hz)
  rw [List.pairwise_append]
  exact ⟨hl.imp (fun h => .inl h), List.pairwise_singleton _ _, fun a ha b hb => by rw [List.mem_singleton.mp hb]; exact hz a ha⟩
theorem bl_asy : ∀ a b : List UInt8, Op.bytesLess a b = true → Op.bytesLess b a = false
  | [], [], h => by simp [Op.bytesLess] at h
  | _ :: _, [], h => by simp [Op.bytesLess] at h
  | [], _ :: _, _ => by simp [Op.bytesLess]
  | a :: x, b :: y, h => by
    simp only [Op.bytesLess, Bool.or_eq_true, decide_eq_true_eq, Bool.and_eq_true, beq_iff_eq] at h
    simp only [Op.bytesLess, Bool.or_eq_false_iff, decide_eq_false_iff_not, Bool.and_eq_false_iff, beq_eq_false_iff_ne]
    rcases h with h | ⟨rfl, h⟩
    · exact ⟨UInt8.lt_asymm h, .inl (fun e => by subst e; exact UInt8.lt_irrefl _ h)⟩
    · exact ⟨UInt8.lt_irrefl _, .inr (bl_asy x y h)⟩
theorem bl_tr : ∀ a b c : List UInt8, Op.bytesLess a b = true → Op.bytesLess b c = true → Op.bytesLess a c = true
  | _, _, [], _, h => by simp [Op.bytesLess] at h
  | _, [], _ :: _, h, _ => by simp [Op.bytesLess] at h
  | [], _ :: _, _ :: _, _, _ => by simp [Op.bytesLess]
  | a :: x, b :: y, c :: z, h1, h2 => by
    simp only [Op.bytesLess, Bool.or_eq_true, decide_eq_true_eq, Bool.and_eq_true, beq_iff_eq] at h1 h2 ⊢
    rcases h1 with h1 | ⟨rfl, h1⟩
    · rcases h2 with h2 | ⟨rfl, h2⟩
      · exact .inl (UInt8.lt_trans h1 h2)
      · exact .inl h1
    · rcases h2 with h2 | ⟨rfl, h2⟩
      · exact .inl h2
      · exact .inr ⟨rfl, bl_tr x y z h1 h2⟩
theorem bl_tot : ∀ a b : List UInt8, a ≠ b → Op.bytesLess a b = true ∨ Op.bytesLess b a = true
  | [], [], h => absurd rfl h
  | _ :: _, [], _ => .inr (by simp [Op.bytesLess])
  | [], _ :: _, _ => .inl (by simp [Op.bytesLess])
  | a :: x, b :: y, h => by
    simp only [Op.bytesLess, Bool.or_eq_true, decide_eq_true_eq, Bool.and_eq_true, beq_iff_eq]
    by_cases e : a = b
    · subst e
      rcases bl_tot x y (fun q => h (by rw [q])) with q | q
      · exact .inl (.inr ⟨rfl, q⟩)
      · exact .inr (.inr ⟨rfl, q⟩)
    · rcases UInt8.lt_or_lt_of_ne e with q | q
      · exact .inl (.inl q)
      · exact .inr (.inl q)
theorem pair_of_adj {β : Type} (lt : β → β → Bool) (htr : ∀ a b c, lt a b = true → lt b c = true → lt a c = true) : ∀ l : List β, (∀ i (h : i + 1 < l.length), lt (l[i]'(by omega)) l[i + 1] = true) → l.Pairwise (fun a b => lt a b = true)
  | [], _ => List.Pairwise.nil
  | [x], _ => List.pairwise_singleton _ _
  | x :: y :: l, h => by
    have ih := pair_of_adj lt htr (y :: l) (fun i hi => h (i + 1) (by simpa using hi))
    refine List.pairwise_cons.mpr ⟨fun z hz => ?_, ih⟩
    have h0 : lt x y = true := h 0 (by simp)
    rcases List.mem_cons.mp hz with rfl | q
    · exact h0
    · exact htr _ _ _ h0 ((List.pairwise_cons.mp ih).1 z q)
end Go.Proofs.YtnghcnkffbjddaaDoorV.Aes
