/- Shared lemmas and walks of the AES laws of this seat. -/
import Derived.Test.YtimokakcdmcnnaaVGcm
namespace Go.Proofs.YtimokakcdmcnnaaV.Aes
open Go.RowKit Go.Proofs.YtimokakcdmcnnaaV.PrintWords Go.Proofs.YtimokakcdmcnnaaV.PrintLast Go.Proofs.YtimokakcdmcnnaaV.PrintMore Go.Proofs.YtimokakcdmcnnaaV.Mem
set_option linter.unusedVariables false
set_option linter.unusedSimpArgs false

open Go.Proofs.Ytimokakcdmcnnaa.PImplB Go.Proofs.Ytimokakcdmcnnaa.PSpecB
namespace Gcm
theorem repeat_zero (n : Nat) (h : n ≤ 1000000) : strings_Repeat.f (⟨#[0]⟩ : ByteArray) (n : Int) = some (strOfNums (List.replicate n 0)) := by
  unfold strings_Repeat.f
  have hz : (⟨#[0]⟩ : ByteArray).size = 1 := rfl
  rw [if_pos (by omega), if_pos (by omega), Int.toNat_natCast, if_pos (by rw [hz]; omega)]
  have e : (⟨#[0]⟩ : ByteArray).data.toList = List.replicate 1 0 := rfl
  rw [e, Go.Lib.repeatL_replicate, Nat.mul_one]
  congr 1
  unfold strOfNums
  congr 1
  rw [List.map_replicate]
  rfl

def xorL (xs ys : List Int) : List Int := List.zipWith (fun x y => Go.bits .xor .u8 x y) xs ys
theorem xorL_drop (xs ys : List Int) (i : Nat) (h1 : i < xs.length) (h2 : i < ys.length) : (xorL xs ys).drop i = Go.bits .xor .u8 (rd xs (i : Int)) (rd ys (i : Int)) :: (xorL xs ys).drop (i + 1) := by
  rw [List.drop_eq_getElem_cons (by simp [xorL]; omega)]
  simp [xorL, rd, List.getD_eq_getElem?_getD, List.getElem?_eq_getElem h1, List.getElem?_eq_getElem h2]
theorem xorL_end (xs ys : List Int) (i : Nat) (h : xs.length ≤ i) : (xorL xs ys).drop i = [] := List.drop_eq_nil_of_le (by simp [xorL]; omega)
theorem set_take (xs : List Int) (i : Nat) (v : Int) (h : i < xs.length) : (xs.set i v).take (i + 1) = xs.take i ++ [v] := by
  rw [List.take_succ_eq_append_getElem (by simpa using h), List.take_set, List.set_eq_of_length_le (by rw [List.length_take]; omega)]
  simp

theorem xored_loop (a : List Int) (s : ByteArray) (hs : a.length ≤ s.size) (hn : a.length ≤ 4611686018427387904) : ∀ (d k i : Nat) (x5 : List Int), a.length = i + d → x5.length = a.length → x5.drop i = a.drop i → d < k →
    impl_xored.l0 k s x5 (a.length : Int) (i : Int) = some (strOfNums (x5.take i ++ (xorL a (bytesOf s)).drop i))
  | 0, k, i, x5, hd, hl, he, hk => by
    obtain ⟨k, rfl⟩ : ∃ m, k = m + 1 := ⟨k - 1, by omega⟩
    simp only [impl_xored.l0]
    rw [if_neg (by omega), xorL_end _ _ _ (by omega), List.take_of_length_le (by omega), List.append_nil]
  | d + 1, k, i, x5, hd, hl, he, hk => by
    obtain ⟨k, rfl⟩ : ∃ m, k = m + 1 := ⟨k - 1, by omega⟩
    simp only [impl_xored.l0]
    have e : wrap64 ((i : Int) + 1) = ((i + 1 : Nat) : Int) := by unfold wrap64; omega
    rw [if_pos (by omega), if_pos (by omega), if_pos (by omega), if_pos (by omega), e, Int.toNat_natCast]
    have hv : rd x5 (i : Int) = rd a (i : Int) := by
      have h0 := congrArg (fun l => l[0]?) he
      simp only [List.getElem?_drop, Nat.add_zero] at h0
      simp [rd, List.getD_eq_getElem?_getD, h0]
    rw [xored_loop a s hs hn d k (i + 1) _ (by omega) (by simpa using hl) (by
      rw [List.drop_set_of_lt (by omega)]
      have h1 := congrArg (List.drop 1) he
      simpa [List.drop_drop, Nat.add_comm] using h1) (by omega)]
    rw [set_take _ _ _ (by omega), hv, xorL_drop a (bytesOf s) i (by omega) (by rw [bytesOf_length]; omega), rd_bytesOf]
    simp
theorem xored_tells (k : Nat) (a s : ByteArray) (hs : a.size ≤ s.size) (hn : a.size ≤ 1048576) (hk : 1048577 < k) : impl_xored.f k a s = some (strOfNums (xorL (bytesOf a) (bytesOf s))) := by
  unfold impl_xored.f
  rw [if_pos (by omega)]
  simp only [Option.bind_some]
  have := xored_loop (bytesOf a) s (by rw [bytesOf_length]; exact hs) (by rw [bytesOf_length]; omega) a.size k 0 (bytesOf a) (by rw [bytesOf_length]; omega) rfl rfl (by omega)
  simpa using this

/-- A text filled up with bytes 0 to whole blocks. -/
def zerosN (n : Nat) : Nat := (16 - n % 16) % 16
def fillS (s : ByteArray) : ByteArray := s ++ strOfNums (List.replicate (zerosN s.size) 0)
theorem strOf_len (l : List Int) : (strOfNums l).size = l.length := by simp [strOfNums, ByteArray.size]
theorem fillS_size (s : ByteArray) : (fillS s).size = s.size + zerosN s.size := by
  unfold fillS
  rw [ByteArray.size_append, strOf_len, List.length_replicate]
theorem filled_tells (s : ByteArray) (hs : s.size ≤ 2000000) : impl_filled.f s = some (fillS s) := by
  have hz : ((16 - ((s.size : Int) % 16)) % 16) = ((zerosN s.size : Nat) : Int) := by unfold zerosN; omega
  have hz2 : zerosN s.size ≤ 15 := by unfold zerosN; omega
  unfold impl_filled.f
  rw [hz, repeat_zero _ (by omega), Option.bind_some, if_pos (by rw [strOf_len, List.length_replicate]; omega)]
  rfl
theorem str_append (a b : List Int) : strOfNums (a ++ b) = strOfNums a ++ strOfNums b := by
  apply ByteArray.ext
  simp [strOfNums]
theorem full_loop : ∀ (d : Nat) (s : ByteArray), s.size ≤ 2000000 → zerosN s.size = d → Ev (fun k => spec_l5Full.l0 k s) (fillS s)
  | 0, s, hs, hd => by
    have h0 : ((s.size : Int) % 16) = 0 := by unfold zerosN at hd; omega
    have e : fillS s = s := by
      unfold fillS
      rw [hd]
      show s ++ ByteArray.empty = s
      exact ByteArray.append_empty
    rw [e]
    refine Ev.step (f := fun _ => some s) (fun k => ?_) (Ev.now _)
    simp only [spec_l5Full.l0]
    rw [if_pos h0]
  | d + 1, s, hs, hd => by
    have h0 : ¬ ((s.size : Int) % 16) = 0 := by unfold zerosN at hd; omega
    have hz1 : (⟨#[0]⟩ : ByteArray).size = 1 := rfl
    have hsz : (s ++ (⟨#[0]⟩ : ByteArray)).size = s.size + 1 := by rw [ByteArray.size_append, hz1]
    have hd2 : zerosN (s ++ (⟨#[0]⟩ : ByteArray)).size = d := by rw [hsz]; unfold zerosN at hd ⊢; omega
    by_cases hb : s.size + 1 ≤ 2000000
    · have ih := full_loop d (s ++ (⟨#[0]⟩ : ByteArray)) (by rw [hsz]; exact hb) hd2
      have e : fillS (s ++ (⟨#[0]⟩ : ByteArray)) = fillS s := by
        unfold fillS
        rw [hd2, hd, List.replicate_succ, show (0 : Int) :: List.replicate d 0 = [0] ++ List.replicate d 0 from rfl, str_append, ← ByteArray.append_assoc]
        rfl
      rw [e] at ih
      refine Ev.step (fun k => ?_) ih
      simp only [spec_l5Full.l0]
      rw [if_neg h0, if_pos (by omega)]
    · exfalso; unfold zerosN at hd; omega
theorem ev_full (s : ByteArray) (hs : s.size ≤ 2000000) : Ev (fun k => spec_l5Full.f k s) (fillS s) := full_loop _ s hs rfl
end Gcm
end Go.Proofs.YtimokakcdmcnnaaV.Aes
