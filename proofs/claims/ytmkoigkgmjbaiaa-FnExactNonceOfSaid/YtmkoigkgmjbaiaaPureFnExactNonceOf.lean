/- The statement over numbers and lists that is left of the law FnExactNonceOf: the program's function and the reference's tell the same for all arguments. Conditions: none beyond the kinds' own bounds. -/
import Derived.Test.YtmkoigkgmjbaiaaPFnExactNonceOfx2
set_option linter.unusedVariables false
set_option linter.unusedSimpArgs false
namespace Go.Proofs.Ytmkoigkgmjbaiaa.Pure
open Go.RowKit Go.Proofs.Ytmkoigkgmjbaiaa.PFnExactNonceOf Go.Proofs.YtmkoigkgmjbaiaaV.PrintWords Go.Proofs.YtmkoigkgmjbaiaaV.PrintLast

def xorL (xs ys : List Int) : List Int := List.zipWith (fun x y => Go.bits .xor .u8 x y) xs ys
theorem xorL_drop (xs ys : List Int) (i : Nat) (h1 : i < xs.length) (h2 : i < ys.length) : (xorL xs ys).drop i = Go.bits .xor .u8 (rd xs (i : Int)) (rd ys (i : Int)) :: (xorL xs ys).drop (i + 1) := by
  rw [List.drop_eq_getElem_cons (by simp [xorL]; omega)]
  simp [xorL, rd, List.getD_eq_getElem?_getD, List.getElem?_eq_getElem h1, List.getElem?_eq_getElem h2]
theorem xorL_end (xs ys : List Int) (i : Nat) (h : xs.length ≤ i) : (xorL xs ys).drop i = [] := List.drop_eq_nil_of_le (by simp [xorL]; omega)
theorem set_take (xs : List Int) (i : Nat) (v : Int) (h : i < xs.length) : (xs.set i v).take (i + 1) = xs.take i ++ [v] := by
  rw [List.take_succ_eq_append_getElem (by simpa using h), List.take_set, List.set_eq_of_length_le (by rw [List.length_take]; omega)]
  simp
theorem xored_loop (a : List Int) (s : ByteArray) (hs : a.length ≤ s.size) (hn : a.length ≤ 4611686018427387904) : ∀ (d k i : Nat) (x5 : List Int), a.length = i + d → x5.length = a.length → x5.drop i = a.drop i → d < k →
    impl_xored.l0 k s x5 (a.length : Int) (i : Int) = some (strOfNums (x5.take i ++ (xorL a (bytesOf s)).drop i))
  | 0, k, i, x5, hd, hl, he, hk => by
    obtain ⟨k, rfl⟩ : ∃ m, k = m + 1 := ⟨k - 1, by omega⟩
    simp only [impl_xored.l0]
    rw [if_neg (by omega), xorL_end _ _ _ (by omega), List.take_of_length_le (by omega), List.append_nil]
  | d + 1, k, i, x5, hd, hl, he, hk => by
    obtain ⟨k, rfl⟩ : ∃ m, k = m + 1 := ⟨k - 1, by omega⟩
    simp only [impl_xored.l0]
    have e : wrap64 ((i : Int) + 1) = ((i + 1 : Nat) : Int) := by unfold wrap64; omega
    rw [if_pos (by omega), if_pos (by omega), if_pos (by omega), if_pos (by omega), e, Int.toNat_natCast]
    have hv : rd x5 (i : Int) = rd a (i : Int) := by
      have h0 := congrArg (fun l => l[0]?) he
      simp only [List.getElem?_drop, Nat.add_zero] at h0
      simp [rd, List.getD_eq_getElem?_getD, h0]
    rw [xored_loop a s hs hn d k (i + 1) _ (by omega) (by simpa using hl) (by
      rw [List.drop_set_of_lt (by omega)]
      have h1 := congrArg (List.drop 1) he
      simpa [List.drop_drop, Nat.add_comm] using h1) (by omega)]
    rw [set_take _ _ _ (by omega), hv, xorL_drop a (bytesOf s) i (by omega) (by rw [bytesOf_length]; omega), rd_bytesOf]
    simp
theorem xored_tells (k : Nat) (a s : ByteArray) (hs : a.size ≤ s.size) (hn : a.size ≤ 1048576) (hk : 1048577 < k) : impl_xored.f k a s = some (strOfNums (xorL (bytesOf a) (bytesOf s))) := by
  unfold impl_xored.f
  rw [if_pos (by omega)]
  simp only [Option.bind_some]
  have := xored_loop (bytesOf a) s (by rw [bytesOf_length]; exact hs) (by rw [bytesOf_length]; omega) a.size k 0 (bytesOf a) (by rw [bytesOf_length]; omega) rfl rfl (by omega)
  simpa using this
theorem l3xor_loop (a b : List Int) (hs : a.length ≤ b.length) (hn : a.length ≤ 4611686018427387904) : ∀ (d k i : Nat) (x5 : List Int), a.length = i + d → x5.length = a.length → d < k →
    spec_l3Xor.l0 k a b x5 (a.length : Int) (i : Int) = some (x5.take i ++ (xorL a b).drop i)
  | 0, k, i, x5, hd, hl, hk => by
    obtain ⟨k, rfl⟩ : ∃ m, k = m + 1 := ⟨k - 1, by omega⟩
    simp only [spec_l3Xor.l0]
    rw [if_neg (by omega), xorL_end _ _ _ (by omega), List.take_of_length_le (by omega), List.append_nil]
  | d + 1, k, i, x5, hd, hl, hk => by
    obtain ⟨k, rfl⟩ : ∃ m, k = m + 1 := ⟨k - 1, by omega⟩
    simp only [spec_l3Xor.l0]
    have e : wrap64 ((i : Int) + 1) = ((i + 1 : Nat) : Int) := by unfold wrap64; omega
    rw [if_pos (by omega), if_pos (by omega), if_pos (by omega), if_pos (by omega), if_pos (by omega), e, Int.toNat_natCast]
    rw [l3xor_loop a b hs hn d k (i + 1) _ (by omega) (by simpa using hl) (by omega)]
    rw [set_take _ _ _ (by omega), xorL_drop a b i (by omega) (by omega)]
    simp
theorem l3xor_tells (k : Nat) (a b : List Int) (hs : a.length ≤ b.length) (hn : a.length ≤ 1048576) (hk : 1048577 < k) : spec_l3Xor.f k a b = some (xorL a b) := by
  unfold spec_l3Xor.f
  rw [if_pos (by omega), if_pos (by omega), Int.toNat_natCast]
  have := l3xor_loop a b hs (by omega) a.length k 0 (List.replicate a.length 0) (by omega) (by simp) (by omega)
  simpa using this
/-- A number's last bytes, so many, the highest first. -/
def be : Nat → Int → List Int
  | 0, _ => []
  | m + 1, n => be m (n / 256) ++ [n % 256]
theorem be_length : ∀ (m : Nat) (n : Int), (be m n).length = m
  | 0, _ => rfl
  | m + 1, n => by simp [be, be_length m]
theorem be_head : ∀ (m : Nat) (n : Int), be (m + 1) n = (n / 256 ^ m % 256) :: be m n
  | 0, n => by simp [be]
  | m + 1, n => by
    have ih := be_head m (n / 256)
    show be (m + 1) (n / 256) ++ [n % 256] = _ :: (be m (n / 256) ++ [n % 256])
    rw [ih, Int.ediv_ediv_of_nonneg (by decide), ← Int.pow_succ']
    rfl
theorem wrap_u64_in (n : Int) (h0 : 0 ≤ n) (h1 : n < 18446744073709551616) : IntKind.u64.wrap n = n := by
  simp [IntKind.wrap, IntKind.bits, IntKind.signed]; omega

theorem bigEndian_loop : ∀ (j k : Nat) (x0 : Int) (tail : List Int), j < k → j ≤ 1000000 → impl_bigEndian.l0 k x0 (List.replicate j 0 ++ tail) ((j : Int) - 1) = some (strOfNums (be j x0 ++ tail))
  | 0, k, x0, tail, hk, _ => by
    obtain ⟨k, rfl⟩ : ∃ m, k = m + 1 := ⟨k - 1, by omega⟩
    simp only [impl_bigEndian.l0]
    rw [if_neg (by decide)]
    simp [be]
  | j + 1, k, x0, tail, hk, hj => by
    obtain ⟨k, rfl⟩ : ∃ m, k = m + 1 := ⟨k - 1, by omega⟩
    simp only [impl_bigEndian.l0]
    have e : ((j + 1 : Nat) : Int) - 1 = (j : Int) := by omega
    rw [e, if_pos (by omega), if_pos (by omega), if_pos (by simp; omega)]
    have e2 : wrap64 ((j : Int) - 1) = (j : Int) - 1 := by unfold wrap64; omega
    have e3 : (List.replicate (j + 1) (0 : Int) ++ tail).set ((j : Int)).toNat (x0 % 256) = List.replicate j 0 ++ ((x0 % 256) :: tail) := by
      rw [Int.toNat_natCast, List.replicate_succ', List.append_assoc, List.set_append_right _ _ (by simp)]
      simp
    rw [e2, e3, bigEndian_loop j k (x0 / 256) _ (by omega) (by omega)]
    simp [be]

theorem bigEndian_tells (k j : Nat) (x0 : Int) (hk : j < k) (hj : j ≤ 1000000) : impl_bigEndian.f k x0 (j : Int) = some (strOfNums (be j x0)) := by
  unfold impl_bigEndian.f
  have e2 : wrap64 ((j : Int) - 1) = (j : Int) - 1 := by unfold wrap64; omega
  rw [if_pos (by omega), if_pos (by omega), e2, Int.toNat_natCast]
  have := bigEndian_loop j k x0 [] hk hj
  simpa using this

theorem fixed_shift (x : Int) (j : Nat) (hj : j ≤ 8) : shr .i64 x (IntKind.u64.wrap (wrap64 (8 * (j : Int)))) = x / 256 ^ j := by
  have e : wrap64 (8 * (j : Int)) = 8 * (j : Int) := by unfold wrap64; omega
  rw [e, wrap_u64_in _ (by omega) (by omega)]
  unfold shr
  have e2 : min (8 * (j : Int)).toNat IntKind.i64.bits = 8 * j := by
    have : (8 * (j : Int)).toNat = 8 * j := by omega
    rw [this]; show min (8 * j) 64 = _; omega
  rw [e2, Int.pow_mul]; rfl

theorem fixed_loop : ∀ (j k : Nat) (x0 : Int) (xs : List Int), j < k → j ≤ 9 → xs.length + j ≤ 1000 → spec_l1Fixed.l0 k x0 xs ((j : Int) - 1) = some (strOfNums (xs ++ be j x0))
  | 0, k, x0, xs, hk, _, _ => by
    obtain ⟨k, rfl⟩ : ∃ m, k = m + 1 := ⟨k - 1, by omega⟩
    simp only [spec_l1Fixed.l0]
    rw [if_neg (by decide)]
    simp [be]
  | j + 1, k, x0, xs, hk, hj, hl => by
    obtain ⟨k, rfl⟩ : ∃ m, k = m + 1 := ⟨k - 1, by omega⟩
    simp only [spec_l1Fixed.l0]
    have e : ((j + 1 : Nat) : Int) - 1 = (j : Int) := by omega
    have e1 : wrap64 (8 * (j : Int)) = 8 * (j : Int) := by unfold wrap64; omega
    have e2 : wrap64 ((j : Int) - 1) = (j : Int) - 1 := by unfold wrap64; omega
    rw [e, if_pos (by omega), if_pos (by rw [e1, wrap_u64_in _ (by omega) (by omega)]; omega), if_pos (by omega), e2, fixed_shift x0 j (by omega)]
    rw [be_head, fixed_loop j k x0 _ (by omega) (by omega) (by simp; omega)]
    simp

theorem fixed_tells (k j : Nat) (x0 : Int) (hk : j < k) (hj : j ≤ 9) : spec_l1Fixed.f k x0 (j : Int) = some (strOfNums (be j x0)) := by
  unfold spec_l1Fixed.f
  have e2 : wrap64 ((j : Int) - 1) = (j : Int) - 1 := by unfold wrap64; omega
  rw [e2, fixed_loop j k x0 [] hk hj (by simp; omega)]
  simp

theorem in_some (a b c : Int) : impl_in.f a b c = some (decide (b ≤ a) && decide (a ≤ c)) := by
  unfold impl_in.f
  by_cases h : a ≥ b
  · rw [if_pos h]; simp [show b ≤ a from h]
  · rw [if_neg h]; simp [show ¬ b ≤ a from h]
theorem strOf_size (l : List Int) : (strOfNums l).size = l.length := by
  show (List.map _ l).toArray.size = _
  simp

theorem FnExactNonceOf : laws_FnExactNonceOf.Pure := by
  intro a n _ _
  refine ⟨1048580, ?_⟩
  unfold laws_FnExactNonceOf.f spec_NonceOf.f impl_NonceOf.f
  rw [show spec_l1In.f = impl_in.f from rfl]
  simp only [in_some, Option.bind_some]
  by_cases h1 : (a.size : Int) > 1048576
  · rw [if_pos h1]
  rw [if_neg h1]
  by_cases h3 : (a.size : Int) = 12
  · rw [if_pos h3, if_pos h3]
    by_cases g1 : 0 ≤ n ∧ n ≤ 4611686018427387903
    · have c1 : (decide (0 ≤ n) && decide (n ≤ 4611686018427387903)) = true := by simp [g1]
      simp only [c1, if_true, Option.bind_some, Bool.not_true]
      unfold spec_l6Nonce.f
      simp only [impl_NonceOf.j0]
      have f8 := fixed_tells 1048580 8 n (by decide) (by decide)
      have b4 := bigEndian_tells 1048579 4 0 (by decide) (by decide)
      have b8 := bigEndian_tells 1048579 8 n (by decide) (by decide)
      have z4 : strOfNums (be 4 0) = (⟨#[0, 0, 0, 0]⟩ : ByteArray) := rfl
      have s8 : (strOfNums (be 8 n)).size = 8 := by rw [strOf_size, be_length]
      have s12 : ((⟨#[0, 0, 0, 0]⟩ : ByteArray) ++ strOfNums (be 8 n)).size = 12 := by rw [ByteArray.size_append, s8]; rfl
      rw [wrap_u64_in n g1.1 (by omega)]
      rw [show ((8 : Nat) : Int) = 8 from rfl] at f8 b8
      rw [show ((4 : Nat) : Int) = 4 from rfl, z4] at b4
      rw [if_pos (by omega), f8, b4, b8]
      simp only [Option.bind_some]
      rw [if_pos (by rw [s8]; decide), if_pos (by rw [s12]; decide), if_neg (by decide), if_pos (by rw [s8]; decide)]
      rw [xored_tells _ a _ (by rw [s12]; omega) (by omega) (by decide), l3xor_tells _ (bytesOf a) (bytesOf _) (by rw [bytesOf_length, bytesOf_length, s12]; omega) (by rw [bytesOf_length]; omega) (by decide)]
      simp
    · have c1 : (decide (0 ≤ n) && decide (n ≤ 4611686018427387903)) = false := by
        simp only [Bool.and_eq_false_iff, decide_eq_false_iff_not]; omega
      simp only [c1, impl_NonceOf.j0]
      simp
  · rw [if_neg h3, if_neg h3]
    simp [impl_NonceOf.j0]

end Go.Proofs.Ytmkoigkgmjbaiaa.Pure
