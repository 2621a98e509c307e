import Derived.Test.YtimokakcdmcnnaaVBe
import Derived.Test.YtimokakcdmcnnaaPSpecFx1
import Derived.Test.YtimokakcdmcnnaaPImplXx1
import Derived.Test.YtimokakcdmcnnaaVSpc4
import Derived.Test.YtimokakcdmcnnaaPImplCx1
import Derived.Test.YtimokakcdmcnnaaPSpecCx3
/- Shared lemmas and walks of the AES laws of this seat. -/
namespace Go.Proofs.YtimokakcdmcnnaaV.Aes
open Go.RowKit Go.Proofs.YtimokakcdmcnnaaV.PrintWords Go.Proofs.YtimokakcdmcnnaaV.PrintLast Go.Proofs.YtimokakcdmcnnaaV.PrintMore Go.Proofs.YtimokakcdmcnnaaV.Mem
set_option linter.unusedVariables false
set_option linter.unusedSimpArgs false

open Go.Proofs.Ytimokakcdmcnnaa.PSpecF
theorem fixed_shift (x : Int) (j : Nat) (hj : j ≤ 8) : shr .i64 x (IntKind.u64.wrap (wrap64 (8 * (j : Int)))) = x / 256 ^ j := by
  have e : wrap64 (8 * (j : Int)) = 8 * (j : Int) := by unfold wrap64; omega
  rw [e, wrap_u64_in _ (by omega) (by omega)]
  unfold shr
  have e2 : min (8 * (j : Int)).toNat IntKind.i64.bits = 8 * j := by
    have : (8 * (j : Int)).toNat = 8 * j := by omega
    rw [this]; show min (8 * j) 64 = _; omega
  rw [e2, Int.pow_mul]; rfl

theorem fixed_loop : ∀ (j k : Nat) (x0 : Int) (xs : List Int), j < k → j ≤ 9 → xs.length + j ≤ 1000 → spec_l1Fixed.l0 k x0 xs ((j : Int) - 1) = some (strOfNums (xs ++ be j x0))
  | 0, k, x0, xs, hk, _, _ => by
    obtain ⟨k, rfl⟩ : ∃ m, k = m + 1 := ⟨k - 1, by omega⟩
    simp only [spec_l1Fixed.l0]
    rw [if_neg (by decide)]
    simp [be]
  | j + 1, k, x0, xs, hk, hj, hl => by
    obtain ⟨k, rfl⟩ : ∃ m, k = m + 1 := ⟨k - 1, by omega⟩
    simp only [spec_l1Fixed.l0]
    have e : ((j + 1 : Nat) : Int) - 1 = (j : Int) := by omega
    have e1 : wrap64 (8 * (j : Int)) = 8 * (j : Int) := by unfold wrap64; omega
    have e2 : wrap64 ((j : Int) - 1) = (j : Int) - 1 := by unfold wrap64; omega
    rw [e, if_pos (by omega), if_pos (by rw [e1, wrap_u64_in _ (by omega) (by omega)]; omega), if_pos (by omega), e2, fixed_shift x0 j (by omega)]
    rw [be_head, fixed_loop j k x0 _ (by omega) (by omega) (by simp; omega)]
    simp

theorem fixed_tells (k j : Nat) (x0 : Int) (hk : j < k) (hj : j ≤ 9) : spec_l1Fixed.f k x0 (j : Int) = some (strOfNums (be j x0)) := by
  unfold spec_l1Fixed.f
  have e2 : wrap64 ((j : Int) - 1) = (j : Int) - 1 := by unfold wrap64; omega
  rw [e2, fixed_loop j k x0 [] hk hj (by simp; omega)]
  simp

end Go.Proofs.YtimokakcdmcnnaaV.Aes
/- Shared lemmas and walks of the AES laws of this seat. -/
namespace Go.Proofs.YtimokakcdmcnnaaV.Aes
open Go.RowKit Go.Proofs.YtimokakcdmcnnaaV.PrintWords Go.Proofs.YtimokakcdmcnnaaV.PrintLast Go.Proofs.YtimokakcdmcnnaaV.PrintMore Go.Proofs.YtimokakcdmcnnaaV.Mem
set_option linter.unusedVariables false
set_option linter.unusedSimpArgs false

open Go.Proofs.Ytimokakcdmcnnaa.PImplX
namespace Gcm
theorem ext_data (s : ByteArray) (a b : Nat) : (s.extract a b).data.toList = (s.data.toList.take b).drop a := by
  rw [ByteArray.data_extract, List.drop_take]; simp [List.extract_eq_take_drop]
theorem bytes_ext (s : ByteArray) (a b : Nat) : bytesOf (s.extract a b) = ((bytesOf s).take b).drop a := by
  unfold bytesOf
  rw [ext_data, List.map_drop, List.map_take]
theorem bytes_str (l : List Int) (h : ∀ x ∈ l, 0 ≤ x ∧ x < 256) : bytesOf (strOfNums l) = l := by
  unfold bytesOf strOfNums
  simp only [List.map_map]
  conv => rhs; rw [← List.map_id l]
  apply List.map_congr_left
  intro x hx
  obtain ⟨h0, h1⟩ := h x hx
  obtain ⟨n, rfl⟩ := Int.eq_ofNat_of_zero_le h0
  simp [UInt8.toNat_ofNat']
  omega
def xorL (xs ys : List Int) : List Int := List.zipWith (fun x y => Go.bits .xor .u8 x y) xs ys
theorem xorL_drop (xs ys : List Int) (i : Nat) (h1 : i < xs.length) (h2 : i < ys.length) : (xorL xs ys).drop i = Go.bits .xor .u8 (rd xs (i : Int)) (rd ys (i : Int)) :: (xorL xs ys).drop (i + 1) := by
  rw [List.drop_eq_getElem_cons (by simp [xorL]; omega)]
  simp [xorL, rd, List.getD_eq_getElem?_getD, List.getElem?_eq_getElem h1, List.getElem?_eq_getElem h2]
theorem xorL_end (xs ys : List Int) (i : Nat) (h : xs.length ≤ i) : (xorL xs ys).drop i = [] := List.drop_eq_nil_of_le (by simp [xorL]; omega)
theorem set_take (xs : List Int) (i : Nat) (v : Int) (h : i < xs.length) : (xs.set i v).take (i + 1) = xs.take i ++ [v] := by
  rw [List.take_succ_eq_append_getElem (by simpa using h), List.take_set, List.set_eq_of_length_le (by rw [List.length_take]; omega)]
  simp

theorem xored_loop (a : List Int) (s : ByteArray) (hs : a.length ≤ s.size) (hn : a.length ≤ 4611686018427387904) : ∀ (d k i : Nat) (x5 : List Int), a.length = i + d → x5.length = a.length → x5.drop i = a.drop i → d < k →
    impl_xored.l0 k s x5 (a.length : Int) (i : Int) = some (strOfNums (x5.take i ++ (xorL a (bytesOf s)).drop i))
  | 0, k, i, x5, hd, hl, he, hk => by
    obtain ⟨k, rfl⟩ : ∃ m, k = m + 1 := ⟨k - 1, by omega⟩
    simp only [impl_xored.l0]
    rw [if_neg (by omega), xorL_end _ _ _ (by omega), List.take_of_length_le (by omega), List.append_nil]
  | d + 1, k, i, x5, hd, hl, he, hk => by
    obtain ⟨k, rfl⟩ : ∃ m, k = m + 1 := ⟨k - 1, by omega⟩
    simp only [impl_xored.l0]
    have e : wrap64 ((i : Int) + 1) = ((i + 1 : Nat) : Int) := by unfold wrap64; omega
    rw [if_pos (by omega), if_pos (by omega), if_pos (by omega), if_pos (by omega), e, Int.toNat_natCast]
    have hv : rd x5 (i : Int) = rd a (i : Int) := by
      have h0 := congrArg (fun l => l[0]?) he
      simp only [List.getElem?_drop, Nat.add_zero] at h0
      simp [rd, List.getD_eq_getElem?_getD, h0]
    rw [xored_loop a s hs hn d k (i + 1) _ (by omega) (by simpa using hl) (by
      rw [List.drop_set_of_lt (by omega)]
      have h1 := congrArg (List.drop 1) he
      simpa [List.drop_drop, Nat.add_comm] using h1) (by omega)]
    rw [set_take _ _ _ (by omega), hv, xorL_drop a (bytesOf s) i (by omega) (by rw [bytesOf_length]; omega), rd_bytesOf]
    simp
theorem xored_tells (k : Nat) (a s : ByteArray) (hs : a.size ≤ s.size) (hn : a.size ≤ 1048576) (hk : 1048577 < k) : impl_xored.f k a s = some (strOfNums (xorL (bytesOf a) (bytesOf s))) := by
  unfold impl_xored.f
  rw [if_pos (by omega)]
  simp only [Option.bind_some]
  have := xored_loop (bytesOf a) s (by rw [bytesOf_length]; exact hs) (by rw [bytesOf_length]; omega) a.size k 0 (bytesOf a) (by rw [bytesOf_length]; omega) rfl rfl (by omega)
  simpa using this

theorem str_append (a b : List Int) : strOfNums (a ++ b) = strOfNums a ++ strOfNums b := by
  apply ByteArray.ext
  simp [strOfNums]
def KG : Nat := 1051777
end Gcm
end Go.Proofs.YtimokakcdmcnnaaV.Aes
/- Shared lemmas and walks of the AES laws of this seat. -/
namespace Go.Proofs.YtimokakcdmcnnaaV.Aes
open Go.RowKit Go.Proofs.YtimokakcdmcnnaaV.PrintWords Go.Proofs.YtimokakcdmcnnaaV.PrintLast Go.Proofs.YtimokakcdmcnnaaV.PrintMore Go.Proofs.YtimokakcdmcnnaaV.Mem
set_option linter.unusedVariables false
set_option linter.unusedSimpArgs false

open Go.Proofs.Ytimokakcdmcnnaa.PSpecA Go.Proofs.Ytimokakcdmcnnaa.PSpecC Go.Proofs.Ytimokakcdmcnnaa.PImplC
theorem repeat_zeroC (n : Nat) (h : n ≤ 1000000) : strings_Repeat.f (⟨#[0]⟩ : ByteArray) (n : Int) = some (strOfNums (List.replicate n 0)) := by
  unfold strings_Repeat.f
  have hz : (⟨#[0]⟩ : ByteArray).size = 1 := rfl
  rw [if_pos (by omega), if_pos (by omega), Int.toNat_natCast, if_pos (by rw [hz]; omega)]
  have e : (⟨#[0]⟩ : ByteArray).data.toList = List.replicate 1 0 := rfl
  rw [e, Go.Lib.repeatL_replicate, Nat.mul_one]
  congr 1
  unfold strOfNums
  congr 1
  rw [List.map_replicate]
  rfl
theorem half_both (k : Nat) (hk : 8 < k) (s : ByteArray) (a b : Int) (hs : s.size ≤ 10) (ha : 0 ≤ a) (ha2 : a < 256) (hb : 0 ≤ b) (hb2 : b < 256) : ∃ r, spec_l7Half.f k s a b = some r ∧ impl_halfBlock.f s a b = some r ∧ r.size = 16 := by
  have f1 := fixed_tells k 1 a (by omega) (by decide)
  have f2 := fixed_tells k 1 b (by omega) (by decide)
  rw [show ((1 : Nat) : Int) = 1 from rfl] at f1 f2
  have e : wrap64 (14 - (s.size : Int)) = ((14 - s.size : Nat) : Int) := by unfold wrap64; omega
  have rz := repeat_zeroC (14 - s.size) (by omega)
  have b1 : be 1 a = [a % 256] := by simp [be]
  have b2 : be 1 b = [b % 256] := by simp [be]
  have hab : strOfNums [a % 256] ++ strOfNums [b % 256] = strOfNums [a % 256, b % 256] := rfl
  have z0 := str_size (List.replicate (14 - s.size) 0)
  have z1 : (strOfNums [a % 256]).size = 1 := rfl
  have z2 : (strOfNums [b % 256]).size = 1 := rfl
  have z3 : (strOfNums [a % 256, b % 256]).size = 2 := rfl
  rw [List.length_replicate] at z0
  unfold spec_l7Half.f impl_halfBlock.f Go.Proofs.Ytimokakcdmcnnaa.PSpecC.spec_l1Fixed.f
  rw [e, rz, f1, f2, b1, b2]
  simp only [Option.bind_some, Int.toNat_natCast]
  by_cases h : Int.tmod b 2 = 1
  · rw [if_pos h, if_pos h, if_pos (by omega), if_pos (by omega), if_pos (by omega), if_pos (by rw [ByteArray.size_append]; omega), if_pos (by rw [ByteArray.size_append, ByteArray.size_append]; omega), if_pos (by omega), if_pos (by rw [ByteArray.size_append]; omega)]
    refine ⟨_, rfl, ?_, ?_⟩
    · rw [← hab]
      simp only [ByteArray.append_assoc]
    · simp only [ByteArray.size_append]; omega
  · rw [if_neg h, if_neg h, if_pos (by omega), if_pos (by omega), if_pos (by omega), if_pos (by rw [ByteArray.size_append]; omega), if_pos (by rw [ByteArray.size_append, ByteArray.size_append]; omega), if_pos (by omega), if_pos (by rw [ByteArray.size_append]; omega), hab]
    refine ⟨_, rfl, rfl, ?_⟩
    simp only [ByteArray.size_append]; omega
/-- The block of a half. -/
def hbS (s : ByteArray) (n p : Nat) : ByteArray := (impl_halfBlock.f s (n : Int) (p : Int)).getD ⟨#[]⟩
theorem hb_told (s : ByteArray) (n p : Nat) (hs : s.size ≤ 10) (hn : n < 256) (hp : p < 256) : impl_halfBlock.f s (n : Int) (p : Int) = some (hbS s n p) ∧ (∀ k, 8 < k → spec_l7Half.f k s (n : Int) (p : Int) = some (hbS s n p)) ∧ (hbS s n p).size = 16 := by
  have e : ∀ k, 8 < k → spec_l7Half.f k s (n : Int) (p : Int) = some (hbS s n p) ∧ impl_halfBlock.f s (n : Int) (p : Int) = some (hbS s n p) ∧ (hbS s n p).size = 16 := by
    intro k hk
    obtain ⟨r, h1, h2, h3⟩ := half_both k hk s n p hs (by omega) (by omega) (by omega) (by omega)
    have : hbS s n p = r := by unfold hbS; rw [h2]; rfl
    rw [this]
    exact ⟨h1, h2, h3⟩
  exact ⟨(e 9 (by decide)).2.1, fun k hk => (e k hk).1, (e 9 (by decide)).2.2⟩
/-- The halves of a text of an odd size: the fours of the middle byte that a half hasn't are 0. -/
def trL (o : Bool) (l : List Int) : List Int := if o = true then l.set (l.length - 1) (Go.bits .and .u8 (rd l ((l.length - 1 : Nat) : Int)) 240) else l
def trR (o : Bool) (r : List Int) : List Int := if o = true then r.set 0 (Go.bits .and .u8 (rd r 0) 15) else r
def oddB (n : Nat) : Bool := decide (n % 2 = 1)
theorem trL_length (o : Bool) (l : List Int) : (trL o l).length = l.length := by unfold trL; split <;> simp
theorem trR_length (o : Bool) (l : List Int) : (trR o l).length = l.length := by unfold trR; split <;> simp
theorem and_u8_nat (a b : Nat) (ha : a < 256) (hb : b < 256) : Go.bits .and .u8 (a : Int) (b : Int) = ((a &&& b : Nat) : Int) := by
  show IntKind.u8.wrap ((BitVec.ofInt 8 (a : Int) &&& BitVec.ofInt 8 (b : Int)).toNat : Int) = _
  rw [BitVec.toNat_and, BitVec.ofInt_natCast, BitVec.ofInt_natCast, BitVec.toNat_ofNat, BitVec.toNat_ofNat, Nat.mod_eq_of_lt ha, Nat.mod_eq_of_lt hb]
  have : a &&& b < 256 := Nat.lt_of_le_of_lt Nat.and_le_left ha
  simp [IntKind.wrap, IntKind.bits, IntKind.signed]
  omega
theorem and_u8_range (a b : Int) : 0 ≤ Go.bits .and .u8 a b ∧ Go.bits .and .u8 a b < 256 := by
  show 0 ≤ IntKind.u8.wrap _ ∧ IntKind.u8.wrap _ < 256
  simp only [IntKind.wrap, IntKind.bits, IntKind.signed]
  constructor <;> simp <;> omega
theorem and_twice (x m : Int) (h0 : 0 ≤ x) (h1 : x < 256) (m0 : 0 ≤ m) (m1 : m < 256) : Go.bits .and .u8 (Go.bits .and .u8 x m) m = Go.bits .and .u8 x m := by
  obtain ⟨a, rfl⟩ := Int.eq_ofNat_of_zero_le h0
  obtain ⟨b, rfl⟩ := Int.eq_ofNat_of_zero_le m0
  have hab : a &&& b < 256 := Nat.lt_of_le_of_lt Nat.and_le_left (by omega)
  rw [and_u8_nat a b (by omega) (by omega), and_u8_nat (a &&& b) b hab (by omega), Nat.and_assoc, Nat.and_self]
theorem Bt.set {l : List Int} (h : Bt l) (i : Nat) (x : Int) (hx : 0 ≤ x ∧ x < 256) : Bt (l.set i x) := fun y hy => by
  rcases List.mem_or_eq_of_mem_set hy with h1 | h1
  · exact h y h1
  · rw [h1]; exact hx
theorem trL_bt {o : Bool} {l : List Int} (h : Bt l) : Bt (trL o l) := by unfold trL; split; exact h.set _ _ (and_u8_range _ _); exact h
theorem trR_bt {o : Bool} {l : List Int} (h : Bt l) : Bt (trR o l) := by unfold trR; split; exact h.set _ _ (and_u8_range _ _); exact h
theorem trL_twice (o : Bool) (l : List Int) (h : Bt l) : trL o (trL o l) = trL o l := by
  unfold trL
  cases o with
  | false => rfl
  | true =>
    rw [if_pos rfl, if_pos rfl]
    by_cases hl : l.length = 0
    · have : l = [] := List.eq_nil_of_length_eq_zero hl
      subst this; rfl
    · rw [List.length_set, rd_set_same _ _ _ (by omega), and_twice _ _ (h.rd _).1 (h.rd _).2 (by decide) (by decide), List.set_set]
theorem trR_twice (o : Bool) (l : List Int) (h : Bt l) : trR o (trR o l) = trR o l := by
  unfold trR
  cases o with
  | false => rfl
  | true =>
    rw [if_pos rfl, if_pos rfl]
    by_cases hl : l.length = 0
    · have : l = [] := List.eq_nil_of_length_eq_zero hl
      subst this; rfl
    · have e := rd_set_same l 0 (Go.bits .and .u8 (rd l 0) 15) (by omega)
      rw [show ((0 : Nat) : Int) = 0 from rfl] at e
      have hr := h.rd 0
      rw [show ((0 : Nat) : Int) = 0 from rfl] at hr
      rw [e, and_twice _ _ hr.1 hr.2 (by decide) (by decide), List.set_set]
/-- A pass; the halves at first; both together. -/
def onePass (key : ByteArray) (n p : Nat) (lr : List Int × List Int) : List Int × List Int :=
  if p % 2 = 1 then (lr.1, trR (oddB n) (Gcm.xorL lr.2 (bytesOf (encS key (hbS (strOfNums lr.1) n p)))))
  else (trL (oddB n) (Gcm.xorL lr.1 (bytesOf (encS key (hbS (strOfNums lr.2) n p)))), lr.2)
def cutP (s : ByteArray) : List Int × List Int := (trL (oddB s.size) ((bytesOf s).take ((s.size + 1) / 2)), trR (oddB s.size) ((bytesOf s).drop (s.size - (s.size + 1) / 2)))
def joinP (n : Nat) (lr : List Int × List Int) : List Int :=
  if n % 2 = 1 then lr.1.take (lr.1.length - 1) ++ [Go.bits .or .u8 (rd lr.1 ((lr.1.length - 1 : Nat) : Int)) (rd lr.2 0)] ++ lr.2.drop 1 else lr.1 ++ lr.2
def passesP (key : ByteArray) (n : Nat) (ps : List Nat) (lr : List Int × List Int) : List Int × List Int := ps.foldl (fun x p => onePass key n p x) lr
def fourS (key s : ByteArray) (ps : List Nat) : ByteArray := strOfNums (joinP s.size (passesP key s.size ps (cutP s)))
/-- Halves as they are between two passes. -/
structure Lr (n h : Nat) (lr : List Int × List Int) : Prop where
  l1 : lr.1.length = h
  l2 : lr.2.length = h
  b1 : Bt lr.1
  b2 : Bt lr.2
  t1 : trL (oddB n) lr.1 = lr.1
  t2 : trR (oddB n) lr.2 = lr.2
theorem xorL_bt (a b : List Int) : Bt (Gcm.xorL a b) := fun x hx => by
  unfold Gcm.xorL at hx
  rw [List.mem_iff_getElem] at hx
  obtain ⟨i, hi, rfl⟩ := hx
  rw [List.getElem_zipWith]
  exact xor_u8_range _ _
theorem xorL_len (a b : List Int) (h : a.length ≤ b.length) : (Gcm.xorL a b).length = a.length := by rw [Gcm.xorL, List.length_zipWith]; omega
theorem Lr.pass {n h : Nat} {lr : List Int × List Int} (H : Lr n h lr) (hh : h ≤ 16) (key : ByteArray) (p : Nat) : Lr n h (onePass key n p lr) := by
  have z : ∀ b, (bytesOf (encS key b)).length = 16 := fun b => by rw [bytesOf_length]; exact encS_size _ _
  unfold onePass
  split
  · exact ⟨H.l1, by rw [trR_length, xorL_len _ _ (by rw [z, H.l2]; exact hh)]; exact H.l2, H.b1, trR_bt (xorL_bt _ _), H.t1, trR_twice _ _ (xorL_bt _ _)⟩
  · exact ⟨by rw [trL_length, xorL_len _ _ (by rw [z, H.l1]; exact hh)]; exact H.l1, H.l2, trL_bt (xorL_bt _ _), H.b2, trL_twice _ _ (xorL_bt _ _), H.t2⟩
theorem Lr.cut (s : ByteArray) : Lr s.size ((s.size + 1) / 2) (cutP s) := by
  have hb := bytesOf_length s
  refine ⟨?_, ?_, trL_bt ((Bt.bytes s).take _), trR_bt ((Bt.bytes s).drop _), trL_twice _ _ ((Bt.bytes s).take _), trR_twice _ _ ((Bt.bytes s).drop _)⟩
  · show (trL _ _).length = _
    rw [trL_length, List.length_take, hb]; omega
  · show (trR _ _).length = _
    rw [trR_length, List.length_drop, hb]; omega
end Go.Proofs.YtimokakcdmcnnaaV.Aes
