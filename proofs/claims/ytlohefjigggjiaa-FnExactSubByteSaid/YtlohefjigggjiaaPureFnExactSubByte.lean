/- The statement over numbers and lists that is left of the law FnExactSubByte: the program's function and the reference's tell the same for all arguments. Conditions: none beyond the kinds' own bounds. -/
import Derived.Test.YtlohefjigggjiaaPFnExactSubBytex1
set_option linter.unusedVariables false
set_option linter.unusedSimpArgs false
namespace Go.Proofs.Ytlohefjigggjiaa.Pure
open Go.RowKit Go.Proofs.Ytlohefjigggjiaa.PFnExactSubByte Go.Proofs.YtlohefjigggjiaaV.PrintWords Go.Proofs.YtlohefjigggjiaaV.PrintLast

/-- Twice a byte, in the field. -/
def xt (a : Nat) : Nat := if a < 128 then a * 2 else (a * 2 - 256) ^^^ 27
/-- The product of two bytes, by rounds. -/
def mulN : Nat → Nat → Nat → Nat → Nat
  | 0, _, _, o => o
  | k + 1, a, b, o => mulN k (xt a) (b / 2) (if b % 2 = 1 then o ^^^ a else o)
def powN : Nat → Nat → Nat → Nat
  | 0, _, o => o
  | k + 1, a, o => powN k a (mulN 8 o a 0)
def sqN : Nat → Nat → Nat → Nat → Nat
  | 0, _, _, o => o
  | k + 1, a, n, o => sqN k (mulN 8 a a 0) (n / 2) (if n % 2 = 1 then mulN 8 o a 0 else o)

theorem bits_xor_nat (k : IntKind) (j : Nat) (hj : j ≤ k.bits) (hk : ∀ n : Int, 0 ≤ n → n < 2 ^ j → k.wrap n = n) (a b : Nat) (ha : a < 2 ^ j) (hb : b < 2 ^ j) :
    Go.bits .xor k a b = ((a ^^^ b : Nat) : Int) := by
  have hp : 2 ^ j ≤ 2 ^ k.bits := Nat.pow_le_pow_right (by decide) hj
  have ha' : a % 2 ^ k.bits = a := Nat.mod_eq_of_lt (Nat.lt_of_lt_of_le ha hp)
  have hb' : b % 2 ^ k.bits = b := Nat.mod_eq_of_lt (Nat.lt_of_lt_of_le hb hp)
  have cast : ∀ n : Nat, n < 2 ^ j → ((n : Nat) : Int) < 2 ^ j := fun n h => by exact_mod_cast h
  simp only [Go.bits, BitVec.ofInt_natCast, BitVec.toNat_xor, BitVec.toNat_ofNat, ha', hb']
  exact hk _ (Int.natCast_nonneg _) (cast _ (Nat.xor_lt_two_pow ha hb))
theorem xor_u8 (a b : Nat) (ha : a < 256) (hb : b < 256) : Go.bits .xor .u8 a b = ((a ^^^ b : Nat) : Int) := bits_xor_nat .u8 8 (by decide) wraps_u8 a b ha hb
theorem and1_u8 (a : Nat) (ha : a < 256) : Go.bits .and .u8 a 1 = ((a % 2 : Nat) : Int) := by
  rw [show (1 : Int) = 2 ^ 1 - 1 from rfl, bits_mask .u8 8 (by decide) wraps_u8 1 (by decide) a (by omega) (by omega)]; omega
theorem and128_u8 (a : Nat) (ha : a < 256) : Go.bits .and .u8 a 128 = if a < 128 then 0 else 128 := by
  rw [show (128 : Int) = ((128 : Nat) : Int) from rfl, (bits_nat .u8 8 (by decide) wraps_u8 a 128 ha (by decide)).1]
  have : ∀ n : Fin 256, n.val &&& 128 = if n.val < 128 then 0 else 128 := by decide +kernel
  have h := this ⟨a, ha⟩
  simp only at h
  rw [h]; split <;> rfl
theorem xt_lt (a : Nat) (ha : a < 256) : xt a < 256 := by
  unfold xt
  split
  · omega
  · exact Nat.xor_lt_two_pow (n := 8) (by omega) (by decide)
theorem mulN_lt : ∀ (k a b o : Nat), a < 256 → o < 256 → mulN k a b o < 256
  | 0, _, _, _, _, ho => ho
  | k + 1, a, b, o, ha, ho => by
    refine mulN_lt k _ _ _ (xt_lt a ha) ?_
    split
    · exact Nat.xor_lt_two_pow (n := 8) ho ha
    · exact ho
theorem mulN_zero : ∀ (k a o : Nat), mulN k a 0 o = o
  | 0, _, _ => rfl
  | k + 1, a, o => by show mulN k (xt a) (0 / 2) (if 0 % 2 = 1 then o ^^^ a else o) = o; rw [if_neg (by decide)]; exact mulN_zero k _ o

theorem mul_same : ∀ (k : Nat) (x0 x1 x5 : Int), 0 ≤ x1 → spec_l3Mul.l0 k x0 x1 x5 = impl_mulGf.l0 k x0 x1 x5
  | 0, _, _, _, _ => rfl
  | k + 1, x0, x1, x5, h => by
    simp only [spec_l3Mul.l0, impl_mulGf.l0]
    have h2 : 0 ≤ x1 / 2 := by omega
    by_cases e : x1 = 0
    · rw [if_pos e, if_neg (by omega)]
    · rw [if_neg e, if_pos (by omega)]
      simp only [mul_same k _ _ _ h2]

theorem mul_loop : ∀ (d k a b o : Nat), a < 256 → b < 2 ^ d → b < 256 → o < 256 → d < k → impl_mulGf.l0 k (a : Int) (b : Int) (o : Int) = some ((mulN d a b o : Nat) : Int)
  | 0, k, a, b, o, _, hb, _, _, hk => by
    obtain ⟨k, rfl⟩ : ∃ m, k = m + 1 := ⟨k - 1, by omega⟩
    simp only [impl_mulGf.l0]
    rw [if_pos (by simp at hb; omega)]; rfl
  | d + 1, k, a, b, o, ha, hb, hb8, ho, hk => by
    obtain ⟨k, rfl⟩ : ∃ m, k = m + 1 := ⟨k - 1, by omega⟩
    simp only [impl_mulGf.l0]
    by_cases e : b = 0
    · subst e
      rw [if_pos (by rfl), mulN_zero]
    · rw [if_neg (by omega), and1_u8 b hb8, and128_u8 a ha]
      have hb2 : b / 2 < 2 ^ d := by rw [Nat.pow_succ] at hb; omega
      have hd : ((b : Int) / 2) = ((b / 2 : Nat) : Int) := by omega
      have hx : Go.bits .xor .u8 (o : Int) (a : Int) = ((o ^^^ a : Nat) : Int) := xor_u8 o a ho ha
      have hox : o ^^^ a < 256 := Nat.xor_lt_two_pow (n := 8) ho ha
      have hxt : (if (if a < 128 then (0 : Int) else 128) = 0 then ((a : Int) * 2) % 256 else Go.bits .xor .u8 (((a : Int) * 2) % 256) 27) = ((xt a : Nat) : Int) := by
        unfold xt
        by_cases h : a < 128
        · rw [if_pos h, if_pos h, if_pos rfl]; omega
        · rw [if_neg h, if_neg h, if_neg (by decide), show ((a : Int) * 2) % 256 = ((a * 2 - 256 : Nat) : Int) by omega]
          exact xor_u8 _ 27 (by omega) (by decide)
      rw [hd, hx]
      have hxl := xt_lt a ha
      have key : ∀ o' : Nat, o' < 256 → (if (if a < 128 then (0 : Int) else 128) = 0 then impl_mulGf.l0 k (((a : Int) * 2) % 256) ((b / 2 : Nat) : Int) (o' : Int) else impl_mulGf.l0 k (Go.bits .xor .u8 (((a : Int) * 2) % 256) 27) ((b / 2 : Nat) : Int) (o' : Int)) = some ((mulN d (xt a) (b / 2) o' : Nat) : Int) := by
        intro o' ho'
        rw [← mul_loop d k (xt a) (b / 2) o' hxl hb2 (by omega) ho' (by omega), ← hxt]
        split <;> rfl
      show _ = some ((mulN d (xt a) (b / 2) (if b % 2 = 1 then o ^^^ a else o) : Nat) : Int)
      by_cases h1 : b % 2 = 1
      · rw [if_pos (show ((b % 2 : Nat) : Int) = 1 by omega), if_pos h1]
        exact key _ hox
      · rw [if_neg (show ¬ ((b % 2 : Nat) : Int) = 1 by omega), if_neg h1]
        exact key _ ho

theorem mul_tells (k a b : Nat) (ha : a < 256) (hb : b < 256) (hk : 8 < k) : impl_mulGf.f k (a : Int) (b : Int) = some ((mulN 8 a b 0 : Nat) : Int) :=
  mul_loop 8 k a b 0 ha (by simpa using hb) hb (by decide) hk
theorem smul_tells (k a b : Nat) (ha : a < 256) (hb : b < 256) (hk : 8 < k) : spec_l3Mul.f k (a : Int) (b : Int) = some ((mulN 8 a b 0 : Nat) : Int) := by
  unfold spec_l3Mul.f
  rw [mul_same k _ _ _ (by omega)]
  exact mul_tells k a b ha hb hk
theorem inv_loop : ∀ (d k a o : Nat), a < 256 → o < 256 → d ≤ 254 → d + 9 < k → impl_inverseGf.l0 k (a : Int) (o : Int) (254 - (d : Int)) = some ((powN d a o : Nat) : Int)
  | 0, k, a, o, _, _, _, hk => by
    obtain ⟨k, rfl⟩ : ∃ m, k = m + 1 := ⟨k - 1, by omega⟩
    simp only [impl_inverseGf.l0]
    rw [if_neg (by decide)]; rfl
  | d + 1, k, a, o, ha, ho, hd, hk => by
    obtain ⟨k, rfl⟩ : ∃ m, k = m + 1 := ⟨k - 1, by omega⟩
    simp only [impl_inverseGf.l0]
    rw [if_pos (by omega), mul_tells k o a ho ha (by omega)]
    simp only [Option.bind_some]
    have e : wrap64 (254 - ((d + 1 : Nat) : Int) + 1) = 254 - (d : Int) := by unfold wrap64; omega
    rw [e]
    exact inv_loop d k a _ ha (mulN_lt 8 o a 0 ho (by decide)) (by omega) (by omega)

theorem inv_tells (k a : Nat) (ha : a < 256) (hk : 263 < k) : impl_inverseGf.f k (a : Int) = some ((powN 254 a 1 : Nat) : Int) := by
  have := inv_loop 254 k a 1 ha (by decide) (by decide) (by omega)
  simpa [impl_inverseGf.f] using this

theorem sq_loop : ∀ (d k a n o : Nat), a < 256 → o < 256 → n < 2 ^ d → n < 256 → d + 9 < k → spec_l3Inverse.l0 k (a : Int) (o : Int) (n : Int) = some ((sqN d a n o : Nat) : Int)
  | 0, k, a, n, o, _, _, hn, _, hk => by
    obtain ⟨k, rfl⟩ : ∃ m, k = m + 1 := ⟨k - 1, by omega⟩
    simp only [spec_l3Inverse.l0]
    rw [if_neg (by simp at hn; omega)]; rfl
  | d + 1, k, a, n, o, ha, ho, hn, hn8, hk => by
    obtain ⟨k, rfl⟩ : ∃ m, k = m + 1 := ⟨k - 1, by omega⟩
    simp only [spec_l3Inverse.l0]
    have hn2 : n / 2 < 2 ^ d := by rw [Nat.pow_succ] at hn; omega
    have hd : ((n : Int) / 2) = ((n / 2 : Nat) : Int) := by omega
    have hand : Go.bits .and .i64 (n : Int) 1 = ((n % 2 : Nat) : Int) := by
      rw [show (1 : Int) = 2 ^ 1 - 1 from rfl, bits_mask .i64 62 (by decide) (fun n h₀ h₁ => by rw [IntKind.wrap_i64]; omega) 1 (by decide) n (by omega) (by omega)]; omega
    rw [hd, hand, smul_tells k a a ha ha (by omega), smul_tells k o a ho ha (by omega)]
    simp only [Option.bind_some]
    have hz : ∀ (d a o : Nat), sqN d a 0 o = o := by
      intro d
      induction d with
      | zero => intro a o; rfl
      | succ d ih => intro a o; show sqN d _ (0 / 2) (if 0 % 2 = 1 then _ else o) = o; rw [if_neg (by decide)]; exact ih _ _
    by_cases e : n = 0
    · subst e
      rw [if_neg (by decide), hz]
    · rw [if_pos (by omega)]
      show _ = some ((sqN d (mulN 8 a a 0) (n / 2) (if n % 2 = 1 then mulN 8 o a 0 else o) : Nat) : Int)
      by_cases h1 : n % 2 = 1
      · rw [if_pos (show ((n % 2 : Nat) : Int) = 1 by omega), if_pos h1]
        exact sq_loop d k _ _ _ (mulN_lt 8 a a 0 ha (by decide)) (mulN_lt 8 o a 0 ho (by decide)) hn2 (by omega) (by omega)
      · rw [if_neg (show ¬ ((n % 2 : Nat) : Int) = 1 by omega), if_neg h1]
        exact sq_loop d k _ _ _ (mulN_lt 8 a a 0 ha (by decide)) ho hn2 (by omega) (by omega)

theorem sinv_tells (k a : Nat) (ha : a < 256) (hk : 20 < k) : spec_l3Inverse.f k (a : Int) = some ((sqN 8 a 254 1 : Nat) : Int) := by
  unfold spec_l3Inverse.f
  exact sq_loop 8 k a 254 1 ha (by decide) (by decide) (by decide) (by omega)

def powChunk (j : Nat) : Bool := (List.range 32).all (fun n => powN 254 (32 * j + n) 1 == sqN 8 (32 * j + n) 254 1)
set_option maxRecDepth 1000000 in
theorem chunk0 : powChunk 0 = true := by decide +kernel
set_option maxRecDepth 1000000 in
theorem chunk1 : powChunk 1 = true := by decide +kernel
set_option maxRecDepth 1000000 in
theorem chunk2 : powChunk 2 = true := by decide +kernel
set_option maxRecDepth 1000000 in
theorem chunk3 : powChunk 3 = true := by decide +kernel
set_option maxRecDepth 1000000 in
theorem chunk4 : powChunk 4 = true := by decide +kernel
set_option maxRecDepth 1000000 in
theorem chunk5 : powChunk 5 = true := by decide +kernel
set_option maxRecDepth 1000000 in
theorem chunk6 : powChunk 6 = true := by decide +kernel
set_option maxRecDepth 1000000 in
theorem chunk7 : powChunk 7 = true := by decide +kernel
theorem pow_of_chunk (j n : Nat) (h : powChunk j = true) (hn : n < 32) : powN 254 (32 * j + n) 1 = sqN 8 (32 * j + n) 254 1 := by
  have := List.all_eq_true.mp h n (List.mem_range.mpr hn)
  exact eq_of_beq this
theorem pow_is_sq (a : Nat) (ha : a < 256) : powN 254 a 1 = sqN 8 a 254 1 := by
  have e : a = 32 * (a / 32) + a % 32 := by omega
  have hm : a % 32 < 32 := by omega
  have : a / 32 = 0 ∨ a / 32 = 1 ∨ a / 32 = 2 ∨ a / 32 = 3 ∨ a / 32 = 4 ∨ a / 32 = 5 ∨ a / 32 = 6 ∨ a / 32 = 7 := by omega
  rw [e]
  rcases this with h | h | h | h | h | h | h | h <;> rw [h]
  · exact pow_of_chunk 0 _ chunk0 hm
  · exact pow_of_chunk 1 _ chunk1 hm
  · exact pow_of_chunk 2 _ chunk2 hm
  · exact pow_of_chunk 3 _ chunk3 hm
  · exact pow_of_chunk 4 _ chunk4 hm
  · exact pow_of_chunk 5 _ chunk5 hm
  · exact pow_of_chunk 6 _ chunk6 hm
  · exact pow_of_chunk 7 _ chunk7 hm

theorem inv_both (n : Nat) (hl : n < 256) : ∃ r : Nat, r < 256 ∧ impl_inverseGf.f 300 (n : Int) = some (r : Int) ∧ spec_l3Inverse.f 300 (n : Int) = some (r : Int) := by
  have hsq : ∀ (d a n o : Nat), a < 256 → o < 256 → sqN d a n o < 256 := by
    intro d
    induction d with
    | zero => intro a n o _ ho; exact ho
    | succ d ih =>
      intro a n o ha ho
      refine ih _ _ _ (mulN_lt 8 a a 0 ha (by decide)) ?_
      split
      · exact mulN_lt 8 o a 0 ho (by decide)
      · exact ho
  exact ⟨_, hsq 8 n 254 1 hl (by decide), (inv_tells 300 n hl (by decide)).trans (by rw [pow_is_sq n hl]), sinv_tells 300 n hl (by decide)⟩
def subSpec (t104 : Int) : Option Int := (spec_l3Turn.f t104 1).bind fun t105 => ((spec_l3Turn.f t104 2).bind fun t106 => ((spec_l3Turn.f t104 3).bind fun t107 => ((spec_l3Turn.f t104 4).bind fun t108 => (some (Go.bits .xor .u8 (Go.bits .xor .u8 (Go.bits .xor .u8 (Go.bits .xor .u8 (Go.bits .xor .u8 t104 t105) t106) t107) t108) 99)))))
def subImpl (t111 : Int) : Option Int := impl_subByte.l0 300 t111 (Go.bits .xor .u8 t111 99) 1
set_option maxRecDepth 100000 in
theorem sub_all : (List.range 256).all (fun c => decide (subSpec (c : Int) = subImpl (c : Int)) && (subImpl (c : Int)).isSome) = true := by decide +kernel
theorem sub_one (c : Nat) (h : c < 256) : ∃ r, subSpec (c : Int) = some r ∧ subImpl (c : Int) = some r := by
  have h1 := List.all_eq_true.mp sub_all c (List.mem_range.mpr h)
  simp only [Bool.and_eq_true, decide_eq_true_eq] at h1
  obtain ⟨h2, h3⟩ := h1
  obtain ⟨r, hr⟩ := Option.isSome_iff_exists.mp h3
  exact ⟨r, h2.trans hr, hr⟩

theorem FnExactSubByte : laws_FnExactSubByte.Pure := by
  intro a _
  refine ⟨300, ?_⟩
  obtain ⟨n, hn⟩ := Int.eq_ofNat_of_zero_le (show 0 ≤ a % 256 by omega)
  have hl : n < 256 := by omega
  obtain ⟨c, hc, h1, h2⟩ := inv_both n hl
  obtain ⟨r, h3, h4⟩ := sub_one c hc
  have h5 : impl_subByte.f 300 (n : Int) = some r := by
    unfold impl_subByte.f; rw [h1]; simp only [Option.bind_some]; exact h4
  have h6 : spec_l3Sub.f 300 (n : Int) = some r := by
    unfold spec_l3Sub.f; rw [h2]; simp only [Option.bind_some]; exact h3
  unfold laws_FnExactSubByte.f spec_SubByte.f impl_SubByte.f
  rw [hn, h5, h6]
  simp

end Go.Proofs.Ytlohefjigggjiaa.Pure
