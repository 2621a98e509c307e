/- Shared lemmas and walks of the AES laws of this seat. -/
import Derived.Test.YtimokakcdmcnnaaVAes12
import Derived.Test.YtimokakcdmcnnaaPImplAx1
import Derived.Laws.BitsLemmas
namespace Go.Proofs.YtimokakcdmcnnaaV.Aes
open Go.RowKit Go.Proofs.YtimokakcdmcnnaaV.PrintWords Go.Proofs.YtimokakcdmcnnaaV.PrintLast Go.Proofs.YtimokakcdmcnnaaV.PrintMore Go.Proofs.YtimokakcdmcnnaaV.Mem
set_option linter.unusedVariables false
set_option linter.unusedSimpArgs false

open Go.Proofs.Ytimokakcdmcnnaa.PImplA
/-- A number's last bytes, so many, the highest first. -/
def be : Nat → Int → List Int
  | 0, _ => []
  | m + 1, n => be m (n / 256) ++ [n % 256]
theorem be_length : ∀ (m : Nat) (n : Int), (be m n).length = m
  | 0, _ => rfl
  | m + 1, n => by simp [be, be_length m]
theorem be_head : ∀ (m : Nat) (n : Int), be (m + 1) n = (n / 256 ^ m % 256) :: be m n
  | 0, n => by simp [be]
  | m + 1, n => by
    have ih := be_head m (n / 256)
    show be (m + 1) (n / 256) ++ [n % 256] = _ :: (be m (n / 256) ++ [n % 256])
    rw [ih, Int.ediv_ediv_of_nonneg (by decide), ← Int.pow_succ']
    rfl
theorem wrap_u64_in (n : Int) (h0 : 0 ≤ n) (h1 : n < 18446744073709551616) : IntKind.u64.wrap n = n := by
  simp [IntKind.wrap, IntKind.bits, IntKind.signed]; omega

theorem bigEndian_loop : ∀ (j k : Nat) (x0 : Int) (tail : List Int), j < k → j ≤ 1000000 → impl_bigEndian.l0 k x0 (List.replicate j 0 ++ tail) ((j : Int) - 1) = some (strOfNums (be j x0 ++ tail))
  | 0, k, x0, tail, hk, _ => by
    obtain ⟨k, rfl⟩ : ∃ m, k = m + 1 := ⟨k - 1, by omega⟩
    simp only [impl_bigEndian.l0]
    rw [if_neg (by decide)]
    simp [be]
  | j + 1, k, x0, tail, hk, hj => by
    obtain ⟨k, rfl⟩ : ∃ m, k = m + 1 := ⟨k - 1, by omega⟩
    simp only [impl_bigEndian.l0]
    have e : ((j + 1 : Nat) : Int) - 1 = (j : Int) := by omega
    rw [e, if_pos (by omega), if_pos (by omega), if_pos (by simp; omega)]
    have e2 : wrap64 ((j : Int) - 1) = (j : Int) - 1 := by unfold wrap64; omega
    have e3 : (List.replicate (j + 1) (0 : Int) ++ tail).set ((j : Int)).toNat (x0 % 256) = List.replicate j 0 ++ ((x0 % 256) :: tail) := by
      rw [Int.toNat_natCast, List.replicate_succ', List.append_assoc, List.set_append_right _ _ (by simp)]
      simp
    rw [e2, e3, bigEndian_loop j k (x0 / 256) _ (by omega) (by omega)]
    simp [be]

theorem bigEndian_tells (k j : Nat) (x0 : Int) (hk : j < k) (hj : j ≤ 1000000) : impl_bigEndian.f k x0 (j : Int) = some (strOfNums (be j x0)) := by
  unfold impl_bigEndian.f
  have e2 : wrap64 ((j : Int) - 1) = (j : Int) - 1 := by unfold wrap64; omega
  rw [if_pos (by omega), if_pos (by omega), e2, Int.toNat_natCast]
  have := bigEndian_loop j k x0 [] hk hj
  simpa using this

/-- The number that bytes tell, the highest first. -/
def bigN : List Int → Int → Int
  | [], a => a
  | b :: l, a => bigN l (a * 256 + b)
theorem or_toNat (x y : Int) (hx : x % 256 = 0) (h0 : 0 ≤ y) (h1 : y < 256) : ((BitVec.ofInt 64 x ||| BitVec.ofInt 64 y).toNat : Int) = x % 18446744073709551616 + y := by
  obtain ⟨b, rfl⟩ := Int.eq_ofNat_of_zero_le h0
  have hb : b < 2 ^ 8 := by omega
  obtain ⟨X, hX⟩ := Int.eq_ofNat_of_zero_le (show 0 ≤ x % 18446744073709551616 by omega)
  have e1 : (BitVec.ofInt 64 x).toNat = X := by
    rw [BitVec.toNat_ofInt]
    have : (x % ((2 ^ 64 : Nat) : Int)).toNat = X := by
      have h2 : ((2 ^ 64 : Nat) : Int) = 18446744073709551616 := by decide
      rw [h2, hX]; rfl
    exact this
  have e2 : (BitVec.ofInt 64 (b : Int)).toNat = b := by
    rw [BitVec.ofInt_natCast, BitVec.toNat_ofNat]
    omega
  rw [BitVec.toNat_or, e1, e2]
  have hq : X = 2 ^ 8 * (X / 2 ^ 8) := by omega
  rw [hq, ← Nat.two_pow_add_eq_or_of_lt hb (X / 2 ^ 8), ← hq, hX]
  rfl
theorem u64_mod (n : Int) : IntKind.u64.wrap n = n % 18446744073709551616 := by simp [IntKind.wrap, IntKind.bits, IntKind.signed]
theorem or_u64 (x y : Int) (hx : x % 256 = 0) (h0 : 0 ≤ y) (h1 : y < 256) : Go.bits .or .u64 x y = (x + y) % 18446744073709551616 := by
  show IntKind.u64.wrap ((BitVec.ofInt 64 x ||| BitVec.ofInt 64 y).toNat : Int) = _
  rw [or_toNat x y hx h0 h1, u64_mod]
  omega
theorem bytes_drop (s : ByteArray) (i : Nat) (h : i < s.size) : (bytesOf s).drop i = bt s (i : Int) :: (bytesOf s).drop (i + 1) := by
  have hl : i < (bytesOf s).length := by rw [bytesOf_length]; exact h
  rw [List.drop_eq_getElem_cons hl, ← rd_bytesOf]
  simp [rd, List.getD_eq_getElem?_getD, List.getElem?_eq_getElem hl]
theorem bytes_end (s : ByteArray) (i : Nat) (h : s.size ≤ i) : (bytesOf s).drop i = [] := List.drop_eq_nil_of_le (by rw [bytesOf_length]; exact h)
theorem numof_loop (s : ByteArray) (hn : s.size ≤ 4611686018427387904) : ∀ (d k i : Nat) (a : Int), s.size = i + d → d < k → impl_numberOf.l0 k s (a % 18446744073709551616) (s.size : Int) (i : Int) = some ((bigN ((bytesOf s).drop i) a) % 18446744073709551616)
  | 0, k, i, a, hd, hk => by
    obtain ⟨k, rfl⟩ : ∃ m, k = m + 1 := ⟨k - 1, by omega⟩
    simp only [impl_numberOf.l0]
    rw [if_neg (by omega), bytes_end s i (by omega)]
    rfl
  | d + 1, k, i, a, hd, hk => by
    obtain ⟨k, rfl⟩ : ∃ m, k = m + 1 := ⟨k - 1, by omega⟩
    have hb := bt_range s (i : Int)
    simp only [impl_numberOf.l0]
    have e : wrap64 ((i : Int) + 1) = ((i + 1 : Nat) : Int) := by unfold wrap64; omega
    rw [if_pos (by omega), if_pos (by omega), if_pos (by omega), e, u64_mod, u64_mod (bt s (i : Int)), or_u64 _ _ (by omega) (by omega) (by omega)]
    rw [show (a % 18446744073709551616 * 256 % 18446744073709551616 + bt s (i : Int) % 18446744073709551616) % 18446744073709551616 = (a * 256 + bt s (i : Int)) % 18446744073709551616 by omega]
    rw [numof_loop s hn d k (i + 1) _ (by omega) (by omega), bytes_drop s i (by omega)]
    rfl

theorem numof_small (s : ByteArray) (hn : s.size ≤ 8) : impl_numberOf.f 9 s = some ((bigN (bytesOf s) 0) % 18446744073709551616) := by
  have := numof_loop s (by omega) s.size 9 0 0 (by omega) (by omega)
  simpa [impl_numberOf.f] using this
theorem be_walk (n : Int) (j : Nat) (hj : j ≤ 100) (w : World) : Calls Try.prog 81 #[.int .u64 n, .int .i64 (j : Int)] w fun e w' => e = .returned (.string (strOfNums (be j n))) ∧ Below w.heap.size w w' :=
  impl_bigEndian.calls 101 n (j : Int) _ w (bigEndian_tells 101 j n (by omega) (by omega))
theorem be4_walk (n : Int) (w : World) : Calls Try.prog 81 #[.int .u64 n, .int .i64 4] w fun e w' => e = .returned (.string (strOfNums (be 4 n))) ∧ Below w.heap.size w w' := be_walk n 4 (by decide) w
theorem num_walk (s : ByteArray) (hs : s.size ≤ 8) (w : World) : Calls Try.prog 97 #[.string s] w fun e w' => e = .returned (.int .u64 (bigN (bytesOf s) 0 % 18446744073709551616)) ∧ Drawn0 w w' :=
  impl_numberOf.calls 9 s _ w (numof_small s hs)
theorem str_size (l : List Int) : (strOfNums l).size = l.length := by simp [strOfNums, ByteArray.size]
theorem encS_size (a b : ByteArray) : (encS a b).size = 16 := by
  unfold encS
  rw [str_size]
  exact encN_length _ _ _ _
theorem backAll (l z : List Int) (n : Nat) (hl : l.length = n) (g cap : Nat) (w : World) (h : At w g 5 (l ++ z)) : (convert 43 9 (.slice (some ⟨g, 0, none⟩) n cap)).run Try.prog w = .ok (.string (strOfNums l)) w := by
  refine run_convert_bytes_arg (P := Try.prog) w 43 5 Try.underlying43 Try.underlying5 g 0 n cap l hl (fun i hi => ?_) 9 Try.underlying9
  rw [h.cell (by simp; omega)]
  have : i < l.length := by omega
  simp [rd, List.getD_eq_getElem?_getD, List.getElem?_append_left this]
end Go.Proofs.YtimokakcdmcnnaaV.Aes
