/- Shared lemmas and walks of the AES laws of this seat. -/
import Derived.Test.YtimokakcdmcnnaaVBe
import Derived.Test.YtimokakcdmcnnaaPImplXx1
namespace Go.Proofs.YtimokakcdmcnnaaV.Aes
open Go.RowKit Go.Proofs.YtimokakcdmcnnaaV.PrintWords Go.Proofs.YtimokakcdmcnnaaV.PrintLast Go.Proofs.YtimokakcdmcnnaaV.PrintMore Go.Proofs.YtimokakcdmcnnaaV.Mem
set_option linter.unusedVariables false
set_option linter.unusedSimpArgs false

open Go.Proofs.Ytimokakcdmcnnaa.PImplX
namespace Gcm
theorem ext_data (s : ByteArray) (a b : Nat) : (s.extract a b).data.toList = (s.data.toList.take b).drop a := by
  rw [ByteArray.data_extract, List.drop_take]; simp [List.extract_eq_take_drop]
theorem bytes_ext (s : ByteArray) (a b : Nat) : bytesOf (s.extract a b) = ((bytesOf s).take b).drop a := by
  unfold bytesOf
  rw [ext_data, List.map_drop, List.map_take]
theorem bytes_str (l : List Int) (h : ∀ x ∈ l, 0 ≤ x ∧ x < 256) : bytesOf (strOfNums l) = l := by
  unfold bytesOf strOfNums
  simp only [List.map_map]
  conv => rhs; rw [← List.map_id l]
  apply List.map_congr_left
  intro x hx
  obtain ⟨h0, h1⟩ := h x hx
  obtain ⟨n, rfl⟩ := Int.eq_ofNat_of_zero_le h0
  simp [UInt8.toNat_ofNat']
  omega
def xorL (xs ys : List Int) : List Int := List.zipWith (fun x y => Go.bits .xor .u8 x y) xs ys
theorem xorL_drop (xs ys : List Int) (i : Nat) (h1 : i < xs.length) (h2 : i < ys.length) : (xorL xs ys).drop i = Go.bits .xor .u8 (rd xs (i : Int)) (rd ys (i : Int)) :: (xorL xs ys).drop (i + 1) := by
  rw [List.drop_eq_getElem_cons (by simp [xorL]; omega)]
  simp [xorL, rd, List.getD_eq_getElem?_getD, List.getElem?_eq_getElem h1, List.getElem?_eq_getElem h2]
theorem xorL_end (xs ys : List Int) (i : Nat) (h : xs.length ≤ i) : (xorL xs ys).drop i = [] := List.drop_eq_nil_of_le (by simp [xorL]; omega)
theorem set_take (xs : List Int) (i : Nat) (v : Int) (h : i < xs.length) : (xs.set i v).take (i + 1) = xs.take i ++ [v] := by
  rw [List.take_succ_eq_append_getElem (by simpa using h), List.take_set, List.set_eq_of_length_le (by rw [List.length_take]; omega)]
  simp

theorem xored_loop (a : List Int) (s : ByteArray) (hs : a.length ≤ s.size) (hn : a.length ≤ 4611686018427387904) : ∀ (d k i : Nat) (x5 : List Int), a.length = i + d → x5.length = a.length → x5.drop i = a.drop i → d < k →
    impl_xored.l0 k s x5 (a.length : Int) (i : Int) = some (strOfNums (x5.take i ++ (xorL a (bytesOf s)).drop i))
  | 0, k, i, x5, hd, hl, he, hk => by
    obtain ⟨k, rfl⟩ : ∃ m, k = m + 1 := ⟨k - 1, by omega⟩
    simp only [impl_xored.l0]
    rw [if_neg (by omega), xorL_end _ _ _ (by omega), List.take_of_length_le (by omega), List.append_nil]
  | d + 1, k, i, x5, hd, hl, he, hk => by
    obtain ⟨k, rfl⟩ : ∃ m, k = m + 1 := ⟨k - 1, by omega⟩
    simp only [impl_xored.l0]
    have e : wrap64 ((i : Int) + 1) = ((i + 1 : Nat) : Int) := by unfold wrap64; omega
    rw [if_pos (by omega), if_pos (by omega), if_pos (by omega), if_pos (by omega), e, Int.toNat_natCast]
    have hv : rd x5 (i : Int) = rd a (i : Int) := by
      have h0 := congrArg (fun l => l[0]?) he
      simp only [List.getElem?_drop, Nat.add_zero] at h0
      simp [rd, List.getD_eq_getElem?_getD, h0]
    rw [xored_loop a s hs hn d k (i + 1) _ (by omega) (by simpa using hl) (by
      rw [List.drop_set_of_lt (by omega)]
      have h1 := congrArg (List.drop 1) he
      simpa [List.drop_drop, Nat.add_comm] using h1) (by omega)]
    rw [set_take _ _ _ (by omega), hv, xorL_drop a (bytesOf s) i (by omega) (by rw [bytesOf_length]; omega), rd_bytesOf]
    simp
theorem xored_tells (k : Nat) (a s : ByteArray) (hs : a.size ≤ s.size) (hn : a.size ≤ 1048576) (hk : 1048577 < k) : impl_xored.f k a s = some (strOfNums (xorL (bytesOf a) (bytesOf s))) := by
  unfold impl_xored.f
  rw [if_pos (by omega)]
  simp only [Option.bind_some]
  have := xored_loop (bytesOf a) s (by rw [bytesOf_length]; exact hs) (by rw [bytesOf_length]; omega) a.size k 0 (bytesOf a) (by rw [bytesOf_length]; omega) rfl rfl (by omega)
  simpa using this

theorem str_append (a b : List Int) : strOfNums (a ++ b) = strOfNums a ++ strOfNums b := by
  apply ByteArray.ext
  simp [strOfNums]
def KG : Nat := 1051777
end Gcm
end Go.Proofs.YtimokakcdmcnnaaV.Aes
