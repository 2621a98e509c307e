/- Shared lemmas and walks of the AES laws of this seat. -/
import Derived.Test.YtimokakcdmcnnaaVAes9
import Derived.Laws.BitsLemmas
namespace Go.Proofs.YtimokakcdmcnnaaV.Aes
open Go.RowKit Go.Proofs.YtimokakcdmcnnaaV.PrintWords Go.Proofs.YtimokakcdmcnnaaV.PrintLast Go.Proofs.YtimokakcdmcnnaaV.PrintMore Go.Proofs.YtimokakcdmcnnaaV.Mem
set_option linter.unusedVariables false
set_option linter.unusedSimpArgs false

/-- Twice a byte, in the field. -/
def xt (a : Nat) : Nat := if a < 128 then a * 2 else (a * 2 - 256) ^^^ 27
/-- The product of two bytes, by rounds. -/
def mulN : Nat → Nat → Nat → Nat → Nat
  | 0, _, _, o => o
  | k + 1, a, b, o => mulN k (xt a) (b / 2) (if b % 2 = 1 then o ^^^ a else o)
def powN : Nat → Nat → Nat → Nat
  | 0, _, o => o
  | k + 1, a, o => powN k a (mulN 8 o a 0)
def sqN : Nat → Nat → Nat → Nat → Nat
  | 0, _, _, o => o
  | k + 1, a, n, o => sqN k (mulN 8 a a 0) (n / 2) (if n % 2 = 1 then mulN 8 o a 0 else o)

theorem bits_xor_nat (k : IntKind) (j : Nat) (hj : j ≤ k.bits) (hk : ∀ n : Int, 0 ≤ n → n < 2 ^ j → k.wrap n = n) (a b : Nat) (ha : a < 2 ^ j) (hb : b < 2 ^ j) :
    Go.bits .xor k a b = ((a ^^^ b : Nat) : Int) := by
  have hp : 2 ^ j ≤ 2 ^ k.bits := Nat.pow_le_pow_right (by decide) hj
  have ha' : a % 2 ^ k.bits = a := Nat.mod_eq_of_lt (Nat.lt_of_lt_of_le ha hp)
  have hb' : b % 2 ^ k.bits = b := Nat.mod_eq_of_lt (Nat.lt_of_lt_of_le hb hp)
  have cast : ∀ n : Nat, n < 2 ^ j → ((n : Nat) : Int) < 2 ^ j := fun n h => by exact_mod_cast h
  simp only [Go.bits, BitVec.ofInt_natCast, BitVec.toNat_xor, BitVec.toNat_ofNat, ha', hb']
  exact hk _ (Int.natCast_nonneg _) (cast _ (Nat.xor_lt_two_pow ha hb))
theorem xor_u8 (a b : Nat) (ha : a < 256) (hb : b < 256) : Go.bits .xor .u8 a b = ((a ^^^ b : Nat) : Int) := bits_xor_nat .u8 8 (by decide) wraps_u8 a b ha hb
theorem and1_u8 (a : Nat) (ha : a < 256) : Go.bits .and .u8 a 1 = ((a % 2 : Nat) : Int) := by
  rw [show (1 : Int) = 2 ^ 1 - 1 from rfl, bits_mask .u8 8 (by decide) wraps_u8 1 (by decide) a (by omega) (by omega)]; omega
theorem and128_u8 (a : Nat) (ha : a < 256) : Go.bits .and .u8 a 128 = if a < 128 then 0 else 128 := by
  rw [show (128 : Int) = ((128 : Nat) : Int) from rfl, (bits_nat .u8 8 (by decide) wraps_u8 a 128 ha (by decide)).1]
  have : ∀ n : Fin 256, n.val &&& 128 = if n.val < 128 then 0 else 128 := by decide +kernel
  have h := this ⟨a, ha⟩
  simp only at h
  rw [h]; split <;> rfl
theorem xt_lt (a : Nat) (ha : a < 256) : xt a < 256 := by
  unfold xt
  split
  · omega
  · exact Nat.xor_lt_two_pow (n := 8) (by omega) (by decide)
theorem mulN_lt : ∀ (k a b o : Nat), a < 256 → o < 256 → mulN k a b o < 256
  | 0, _, _, _, _, ho => ho
  | k + 1, a, b, o, ha, ho => by
    refine mulN_lt k _ _ _ (xt_lt a ha) ?_
    split
    · exact Nat.xor_lt_two_pow (n := 8) ho ha
    · exact ho
theorem mulN_zero : ∀ (k a o : Nat), mulN k a 0 o = o
  | 0, _, _ => rfl
  | k + 1, a, o => by show mulN k (xt a) (0 / 2) (if 0 % 2 = 1 then o ^^^ a else o) = o; rw [if_neg (by decide)]; exact mulN_zero k _ o

theorem mul_loop : ∀ (d k a b o : Nat), a < 256 → b < 2 ^ d → b < 256 → o < 256 → d < k → impl_mulGf.l0 k (a : Int) (b : Int) (o : Int) = some ((mulN d a b o : Nat) : Int)
  | 0, k, a, b, o, _, hb, _, _, hk => by
    obtain ⟨k, rfl⟩ : ∃ m, k = m + 1 := ⟨k - 1, by omega⟩
    simp only [impl_mulGf.l0]
    rw [if_pos (by simp at hb; omega)]; rfl
  | d + 1, k, a, b, o, ha, hb, hb8, ho, hk => by
    obtain ⟨k, rfl⟩ : ∃ m, k = m + 1 := ⟨k - 1, by omega⟩
    simp only [impl_mulGf.l0]
    by_cases e : b = 0
    · subst e
      rw [if_pos (by rfl), mulN_zero]
    · rw [if_neg (by omega), and1_u8 b hb8, and128_u8 a ha]
      have hb2 : b / 2 < 2 ^ d := by rw [Nat.pow_succ] at hb; omega
      have hd : ((b : Int) / 2) = ((b / 2 : Nat) : Int) := by omega
      have hx : Go.bits .xor .u8 (o : Int) (a : Int) = ((o ^^^ a : Nat) : Int) := xor_u8 o a ho ha
      have hox : o ^^^ a < 256 := Nat.xor_lt_two_pow (n := 8) ho ha
      have hxt : (if (if a < 128 then (0 : Int) else 128) = 0 then ((a : Int) * 2) % 256 else Go.bits .xor .u8 (((a : Int) * 2) % 256) 27) = ((xt a : Nat) : Int) := by
        unfold xt
        by_cases h : a < 128
        · rw [if_pos h, if_pos h, if_pos rfl]; omega
        · rw [if_neg h, if_neg h, if_neg (by decide), show ((a : Int) * 2) % 256 = ((a * 2 - 256 : Nat) : Int) by omega]
          exact xor_u8 _ 27 (by omega) (by decide)
      rw [hd, hx]
      have hxl := xt_lt a ha
      have key : ∀ o' : Nat, o' < 256 → (if (if a < 128 then (0 : Int) else 128) = 0 then impl_mulGf.l0 k (((a : Int) * 2) % 256) ((b / 2 : Nat) : Int) (o' : Int) else impl_mulGf.l0 k (Go.bits .xor .u8 (((a : Int) * 2) % 256) 27) ((b / 2 : Nat) : Int) (o' : Int)) = some ((mulN d (xt a) (b / 2) o' : Nat) : Int) := by
        intro o' ho'
        rw [← mul_loop d k (xt a) (b / 2) o' hxl hb2 (by omega) ho' (by omega), ← hxt]
        split <;> rfl
      show _ = some ((mulN d (xt a) (b / 2) (if b % 2 = 1 then o ^^^ a else o) : Nat) : Int)
      by_cases h1 : b % 2 = 1
      · rw [if_pos (show ((b % 2 : Nat) : Int) = 1 by omega), if_pos h1]
        exact key _ hox
      · rw [if_neg (show ¬ ((b % 2 : Nat) : Int) = 1 by omega), if_neg h1]
        exact key _ ho

theorem mul_tells (k a b : Nat) (ha : a < 256) (hb : b < 256) (hk : 8 < k) : impl_mulGf.f k (a : Int) (b : Int) = some ((mulN 8 a b 0 : Nat) : Int) :=
  mul_loop 8 k a b 0 ha (by simpa using hb) hb (by decide) hk
theorem inv_loop : ∀ (d k a o : Nat), a < 256 → o < 256 → d ≤ 254 → d + 9 < k → impl_inverseGf.l0 k (a : Int) (o : Int) (254 - (d : Int)) = some ((powN d a o : Nat) : Int)
  | 0, k, a, o, _, _, _, hk => by
    obtain ⟨k, rfl⟩ : ∃ m, k = m + 1 := ⟨k - 1, by omega⟩
    simp only [impl_inverseGf.l0]
    rw [if_neg (by decide)]; rfl
  | d + 1, k, a, o, ha, ho, hd, hk => by
    obtain ⟨k, rfl⟩ : ∃ m, k = m + 1 := ⟨k - 1, by omega⟩
    simp only [impl_inverseGf.l0]
    rw [if_pos (by omega), mul_tells k o a ho ha (by omega)]
    simp only [Option.bind_some]
    have e : wrap64 (254 - ((d + 1 : Nat) : Int) + 1) = 254 - (d : Int) := by unfold wrap64; omega
    rw [e]
    exact inv_loop d k a _ ha (mulN_lt 8 o a 0 ho (by decide)) (by omega) (by omega)

theorem inv_tells (k a : Nat) (ha : a < 256) (hk : 263 < k) : impl_inverseGf.f k (a : Int) = some ((powN 254 a 1 : Nat) : Int) := by
  have := inv_loop 254 k a 1 ha (by decide) (by decide) (by omega)
  simpa [impl_inverseGf.f] using this

def powChunk (j : Nat) : Bool := (List.range 32).all (fun n => powN 254 (32 * j + n) 1 == sqN 8 (32 * j + n) 254 1)
set_option maxRecDepth 1000000 in
theorem chunk0 : powChunk 0 = true := by decide +kernel
set_option maxRecDepth 1000000 in
theorem chunk1 : powChunk 1 = true := by decide +kernel
set_option maxRecDepth 1000000 in
theorem chunk2 : powChunk 2 = true := by decide +kernel
set_option maxRecDepth 1000000 in
theorem chunk3 : powChunk 3 = true := by decide +kernel
set_option maxRecDepth 1000000 in
theorem chunk4 : powChunk 4 = true := by decide +kernel
set_option maxRecDepth 1000000 in
theorem chunk5 : powChunk 5 = true := by decide +kernel
set_option maxRecDepth 1000000 in
theorem chunk6 : powChunk 6 = true := by decide +kernel
set_option maxRecDepth 1000000 in
theorem chunk7 : powChunk 7 = true := by decide +kernel
theorem pow_of_chunk (j n : Nat) (h : powChunk j = true) (hn : n < 32) : powN 254 (32 * j + n) 1 = sqN 8 (32 * j + n) 254 1 := by
  have := List.all_eq_true.mp h n (List.mem_range.mpr hn)
  exact eq_of_beq this
theorem pow_is_sq (a : Nat) (ha : a < 256) : powN 254 a 1 = sqN 8 a 254 1 := by
  have e : a = 32 * (a / 32) + a % 32 := by omega
  have hm : a % 32 < 32 := by omega
  have : a / 32 = 0 ∨ a / 32 = 1 ∨ a / 32 = 2 ∨ a / 32 = 3 ∨ a / 32 = 4 ∨ a / 32 = 5 ∨ a / 32 = 6 ∨ a / 32 = 7 := by omega
  rw [e]
  rcases this with h | h | h | h | h | h | h | h <;> rw [h]
  · exact pow_of_chunk 0 _ chunk0 hm
  · exact pow_of_chunk 1 _ chunk1 hm
  · exact pow_of_chunk 2 _ chunk2 hm
  · exact pow_of_chunk 3 _ chunk3 hm
  · exact pow_of_chunk 4 _ chunk4 hm
  · exact pow_of_chunk 5 _ chunk5 hm
  · exact pow_of_chunk 6 _ chunk6 hm
  · exact pow_of_chunk 7 _ chunk7 hm

/-- A byte turned left. -/
def rotN (c n : Nat) : Nat := (c * 2 ^ n) % 256 ||| c / 2 ^ (8 - n)
def subC (c : Nat) : Nat := c ^^^ rotN c 1 ^^^ rotN c 2 ^^^ rotN c 3 ^^^ rotN c 4 ^^^ 99
/-- What a byte becomes; what becomes it. -/
def Sn (a : Nat) : Nat := subC (sqN 8 a 254 1)
def Un (a : Nat) : Nat := sqN 8 (rotN (a ^^^ 99) 1 ^^^ rotN (a ^^^ 99) 3 ^^^ rotN (a ^^^ 99) 6) 254 1
theorem sqN_lt : ∀ (d a n o : Nat), a < 256 → o < 256 → sqN d a n o < 256
  | 0, _, _, _, _, ho => ho
  | d + 1, a, n, o, ha, ho => by
    refine sqN_lt d _ _ _ (mulN_lt 8 a a 0 ha (by decide)) ?_
    split
    · exact mulN_lt 8 o a 0 ho (by decide)
    · exact ho
set_option maxRecDepth 100000 in
theorem subC_all : (List.range 256).all (fun c => decide (impl_subByte.l0 300 (c : Int) (Go.bits .xor .u8 (c : Int) 99) 1 = some (subC c : Int)) && decide (subC c < 256)) = true := by decide +kernel
theorem subC_one (c : Nat) (h : c < 256) : impl_subByte.l0 300 (c : Int) (Go.bits .xor .u8 (c : Int) 99) 1 = some (subC c : Int) ∧ subC c < 256 := by
  have h1 := List.all_eq_true.mp subC_all c (List.mem_range.mpr h)
  simp only [Bool.and_eq_true, decide_eq_true_eq] at h1
  exact h1
theorem Sn_tells (i : Nat) (h : i < 256) : impl_subByte.f 300 (i : Int) = some (Sn i : Int) ∧ Sn i < 256 := by
  have hc := sqN_lt 8 i 254 1 h (by decide)
  have h1 := inv_tells 300 i h (by decide)
  rw [pow_is_sq i h] at h1
  obtain ⟨h2, h3⟩ := subC_one _ hc
  refine ⟨?_, h3⟩
  unfold impl_subByte.f
  rw [h1, Option.bind_some]
  exact h2
set_option maxRecDepth 1000000 in
theorem box_is : boxAt Sn 256 = tab 256 (fun i => (Sn i : Int)) ++ tab 256 (fun i => (Un i : Int)) := by decide +kernel
/-- The tables of the cipher. -/
def BX : List Int := boxAt Sn 256
theorem BX_to (i : Nat) (h : i < 256) : rd BX (i : Int) = (Sn i : Int) := by
  unfold BX
  rw [box_is, rd_at _ _ (by simp [tab_length]; omega), List.getElem_append_left (by rw [tab_length]; exact h)]
  simp [tab]
theorem BX_back (i : Nat) (h : i < 256) : rd (BX.drop 256) (i : Int) = (Un i : Int) := by
  have hl : (tab 256 (fun i => (Sn i : Int))).length = 256 := tab_length _ _
  unfold BX
  rw [box_is, List.drop_left' hl]
  exact rd_tab 256 _ i h
theorem Un_lt (a : Nat) (h : a < 256) : Un a < 256 := by
  have hx : a ^^^ 99 < 256 := Nat.xor_lt_two_pow (n := 8) h (by decide)
  have hr : ∀ c n : Nat, c < 256 → rotN c n < 256 := fun c n hc => Nat.or_lt_two_pow (n := 8) (Nat.mod_lt _ (by decide)) (Nat.lt_of_le_of_lt (Nat.div_le_self _ _) hc)
  exact sqN_lt 8 _ 254 1 (Nat.xor_lt_two_pow (n := 8) (Nat.xor_lt_two_pow (n := 8) (hr _ _ hx) (hr _ _ hx)) (hr _ _ hx)) (by decide)
theorem BX_bt : Bt BX := by
  unfold BX
  rw [box_is]
  exact (Bt.tab fun i h => by have := (Sn_tells i h).2; omega).append (Bt.tab fun i h => by have := Un_lt i h; omega)
theorem BX_length : BX.length = 512 := boxAt_length _ _
end Go.Proofs.YtimokakcdmcnnaaV.Aes
