/- The statement over numbers and lists that is left of the law FnExactXorText: the program's function and the reference's tell the same for all arguments. Conditions: none beyond the kinds' own bounds. -/
import Derived.Test.YtmkoigkgmjbaiaaPFnExactXorTextx1
set_option linter.unusedVariables false
set_option linter.unusedSimpArgs false
namespace Go.Proofs.Ytmkoigkgmjbaiaa.Pure
open Go.RowKit Go.Proofs.Ytmkoigkgmjbaiaa.PFnExactXorText Go.Proofs.YtmkoigkgmjbaiaaV.PrintWords Go.Proofs.YtmkoigkgmjbaiaaV.PrintLast

def xorL (xs ys : List Int) : List Int := List.zipWith (fun x y => Go.bits .xor .u8 x y) xs ys
theorem xorL_drop (xs ys : List Int) (i : Nat) (h1 : i < xs.length) (h2 : i < ys.length) : (xorL xs ys).drop i = Go.bits .xor .u8 (rd xs (i : Int)) (rd ys (i : Int)) :: (xorL xs ys).drop (i + 1) := by
  rw [List.drop_eq_getElem_cons (by simp [xorL]; omega)]
  simp [xorL, rd, List.getD_eq_getElem?_getD, List.getElem?_eq_getElem h1, List.getElem?_eq_getElem h2]
theorem xorL_end (xs ys : List Int) (i : Nat) (h : xs.length ≤ i) : (xorL xs ys).drop i = [] := List.drop_eq_nil_of_le (by simp [xorL]; omega)
theorem set_take (xs : List Int) (i : Nat) (v : Int) (h : i < xs.length) : (xs.set i v).take (i + 1) = xs.take i ++ [v] := by
  rw [List.take_succ_eq_append_getElem (by simpa using h), List.take_set, List.set_eq_of_length_le (by rw [List.length_take]; omega)]
  simp
theorem xored_loop (a : List Int) (s : ByteArray) (hs : a.length ≤ s.size) (hn : a.length ≤ 4611686018427387904) : ∀ (d k i : Nat) (x5 : List Int), a.length = i + d → x5.length = a.length → x5.drop i = a.drop i → d < k →
    impl_xored.l0 k s x5 (a.length : Int) (i : Int) = some (strOfNums (x5.take i ++ (xorL a (bytesOf s)).drop i))
  | 0, k, i, x5, hd, hl, he, hk => by
    obtain ⟨k, rfl⟩ : ∃ m, k = m + 1 := ⟨k - 1, by omega⟩
    simp only [impl_xored.l0]
    rw [if_neg (by omega), xorL_end _ _ _ (by omega), List.take_of_length_le (by omega), List.append_nil]
  | d + 1, k, i, x5, hd, hl, he, hk => by
    obtain ⟨k, rfl⟩ : ∃ m, k = m + 1 := ⟨k - 1, by omega⟩
    simp only [impl_xored.l0]
    have e : wrap64 ((i : Int) + 1) = ((i + 1 : Nat) : Int) := by unfold wrap64; omega
    rw [if_pos (by omega), if_pos (by omega), if_pos (by omega), if_pos (by omega), e, Int.toNat_natCast]
    have hv : rd x5 (i : Int) = rd a (i : Int) := by
      have h0 := congrArg (fun l => l[0]?) he
      simp only [List.getElem?_drop, Nat.add_zero] at h0
      simp [rd, List.getD_eq_getElem?_getD, h0]
    rw [xored_loop a s hs hn d k (i + 1) _ (by omega) (by simpa using hl) (by
      rw [List.drop_set_of_lt (by omega)]
      have h1 := congrArg (List.drop 1) he
      simpa [List.drop_drop, Nat.add_comm] using h1) (by omega)]
    rw [set_take _ _ _ (by omega), hv, xorL_drop a (bytesOf s) i (by omega) (by rw [bytesOf_length]; omega), rd_bytesOf]
    simp
theorem xored_tells (k : Nat) (a s : ByteArray) (hs : a.size ≤ s.size) (hn : a.size ≤ 1048576) (hk : 1048577 < k) : impl_xored.f k a s = some (strOfNums (xorL (bytesOf a) (bytesOf s))) := by
  unfold impl_xored.f
  rw [if_pos (by omega)]
  simp only [Option.bind_some]
  have := xored_loop (bytesOf a) s (by rw [bytesOf_length]; exact hs) (by rw [bytesOf_length]; omega) a.size k 0 (bytesOf a) (by rw [bytesOf_length]; omega) rfl rfl (by omega)
  simpa using this
theorem l3xor_loop (a b : List Int) (hs : a.length ≤ b.length) (hn : a.length ≤ 4611686018427387904) : ∀ (d k i : Nat) (x5 : List Int), a.length = i + d → x5.length = a.length → d < k →
    spec_l3Xor.l0 k a b x5 (a.length : Int) (i : Int) = some (x5.take i ++ (xorL a b).drop i)
  | 0, k, i, x5, hd, hl, hk => by
    obtain ⟨k, rfl⟩ : ∃ m, k = m + 1 := ⟨k - 1, by omega⟩
    simp only [spec_l3Xor.l0]
    rw [if_neg (by omega), xorL_end _ _ _ (by omega), List.take_of_length_le (by omega), List.append_nil]
  | d + 1, k, i, x5, hd, hl, hk => by
    obtain ⟨k, rfl⟩ : ∃ m, k = m + 1 := ⟨k - 1, by omega⟩
    simp only [spec_l3Xor.l0]
    have e : wrap64 ((i : Int) + 1) = ((i + 1 : Nat) : Int) := by unfold wrap64; omega
    rw [if_pos (by omega), if_pos (by omega), if_pos (by omega), if_pos (by omega), if_pos (by omega), e, Int.toNat_natCast]
    rw [l3xor_loop a b hs hn d k (i + 1) _ (by omega) (by simpa using hl) (by omega)]
    rw [set_take _ _ _ (by omega), xorL_drop a b i (by omega) (by omega)]
    simp
theorem l3xor_tells (k : Nat) (a b : List Int) (hs : a.length ≤ b.length) (hn : a.length ≤ 1048576) (hk : 1048577 < k) : spec_l3Xor.f k a b = some (xorL a b) := by
  unfold spec_l3Xor.f
  rw [if_pos (by omega), if_pos (by omega), Int.toNat_natCast]
  have := l3xor_loop a b hs (by omega) a.length k 0 (List.replicate a.length 0) (by omega) (by simp) (by omega)
  simpa using this
theorem FnExactXorText : laws_FnExactXorText.Pure := by
  intro a b _ _
  refine ⟨1048578, ?_⟩
  unfold laws_FnExactXorText.f spec_XorText.f impl_XorText.f
  by_cases h1 : (a.size : Int) > 1048576
  · rw [if_pos h1]
  rw [if_neg h1]
  by_cases h2 : (b.size : Int) > 1048576
  · rw [if_pos h2]
  rw [if_neg h2]
  by_cases h3 : (a.size : Int) = (b.size : Int)
  · rw [if_pos h3, if_pos h3, if_pos (by omega), if_pos (by omega)]
    rw [xored_tells _ a b (by omega) (by omega) (by decide), l3xor_tells _ (bytesOf a) (bytesOf b) (by rw [bytesOf_length, bytesOf_length]; omega) (by rw [bytesOf_length]; omega) (by decide)]
    simp
  · rw [if_neg h3, if_neg h3]; simp

end Go.Proofs.Ytmkoigkgmjbaiaa.Pure
