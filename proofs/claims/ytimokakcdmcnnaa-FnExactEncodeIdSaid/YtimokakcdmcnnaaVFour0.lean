/- Shared lemmas and walks of the AES laws of this seat. -/
import Derived.Test.YtimokakcdmcnnaaVSpc4
import Derived.Test.YtimokakcdmcnnaaVFix
import Derived.Test.YtimokakcdmcnnaaVXor
import Derived.Test.YtimokakcdmcnnaaPImplCx1
import Derived.Test.YtimokakcdmcnnaaPSpecCx3
namespace Go.Proofs.YtimokakcdmcnnaaV.Aes
open Go.RowKit Go.Proofs.YtimokakcdmcnnaaV.PrintWords Go.Proofs.YtimokakcdmcnnaaV.PrintLast Go.Proofs.YtimokakcdmcnnaaV.PrintMore Go.Proofs.YtimokakcdmcnnaaV.Mem
set_option linter.unusedVariables false
set_option linter.unusedSimpArgs false

open Go.Proofs.Ytimokakcdmcnnaa.PSpecA Go.Proofs.Ytimokakcdmcnnaa.PSpecC Go.Proofs.Ytimokakcdmcnnaa.PImplC
theorem repeat_zeroC (n : Nat) (h : n ≤ 1000000) : strings_Repeat.f (⟨#[0]⟩ : ByteArray) (n : Int) = some (strOfNums (List.replicate n 0)) := by
  unfold strings_Repeat.f
  have hz : (⟨#[0]⟩ : ByteArray).size = 1 := rfl
  rw [if_pos (by omega), if_pos (by omega), Int.toNat_natCast, if_pos (by rw [hz]; omega)]
  have e : (⟨#[0]⟩ : ByteArray).data.toList = List.replicate 1 0 := rfl
  rw [e, Go.Lib.repeatL_replicate, Nat.mul_one]
  congr 1
  unfold strOfNums
  congr 1
  rw [List.map_replicate]
  rfl
theorem half_both (k : Nat) (hk : 8 < k) (s : ByteArray) (a b : Int) (hs : s.size ≤ 10) (ha : 0 ≤ a) (ha2 : a < 256) (hb : 0 ≤ b) (hb2 : b < 256) : ∃ r, spec_l7Half.f k s a b = some r ∧ impl_halfBlock.f s a b = some r ∧ r.size = 16 := by
  have f1 := fixed_tells k 1 a (by omega) (by decide)
  have f2 := fixed_tells k 1 b (by omega) (by decide)
  rw [show ((1 : Nat) : Int) = 1 from rfl] at f1 f2
  have e : wrap64 (14 - (s.size : Int)) = ((14 - s.size : Nat) : Int) := by unfold wrap64; omega
  have rz := repeat_zeroC (14 - s.size) (by omega)
  have b1 : be 1 a = [a % 256] := by simp [be]
  have b2 : be 1 b = [b % 256] := by simp [be]
  have hab : strOfNums [a % 256] ++ strOfNums [b % 256] = strOfNums [a % 256, b % 256] := rfl
  have z0 := str_size (List.replicate (14 - s.size) 0)
  have z1 : (strOfNums [a % 256]).size = 1 := rfl
  have z2 : (strOfNums [b % 256]).size = 1 := rfl
  have z3 : (strOfNums [a % 256, b % 256]).size = 2 := rfl
  rw [List.length_replicate] at z0
  unfold spec_l7Half.f impl_halfBlock.f Go.Proofs.Ytimokakcdmcnnaa.PSpecC.spec_l1Fixed.f
  rw [e, rz, f1, f2, b1, b2]
  simp only [Option.bind_some, Int.toNat_natCast]
  by_cases h : Int.tmod b 2 = 1
  · rw [if_pos h, if_pos h, if_pos (by omega), if_pos (by omega), if_pos (by omega), if_pos (by rw [ByteArray.size_append]; omega), if_pos (by rw [ByteArray.size_append, ByteArray.size_append]; omega), if_pos (by omega), if_pos (by rw [ByteArray.size_append]; omega)]
    refine ⟨_, rfl, ?_, ?_⟩
    · rw [← hab]
      simp only [ByteArray.append_assoc]
    · simp only [ByteArray.size_append]; omega
  · rw [if_neg h, if_neg h, if_pos (by omega), if_pos (by omega), if_pos (by omega), if_pos (by rw [ByteArray.size_append]; omega), if_pos (by rw [ByteArray.size_append, ByteArray.size_append]; omega), if_pos (by omega), if_pos (by rw [ByteArray.size_append]; omega), hab]
    refine ⟨_, rfl, rfl, ?_⟩
    simp only [ByteArray.size_append]; omega
/-- The block of a half. -/
def hbS (s : ByteArray) (n p : Nat) : ByteArray := (impl_halfBlock.f s (n : Int) (p : Int)).getD ⟨#[]⟩
theorem hb_told (s : ByteArray) (n p : Nat) (hs : s.size ≤ 10) (hn : n < 256) (hp : p < 256) : impl_halfBlock.f s (n : Int) (p : Int) = some (hbS s n p) ∧ (∀ k, 8 < k → spec_l7Half.f k s (n : Int) (p : Int) = some (hbS s n p)) ∧ (hbS s n p).size = 16 := by
  have e : ∀ k, 8 < k → spec_l7Half.f k s (n : Int) (p : Int) = some (hbS s n p) ∧ impl_halfBlock.f s (n : Int) (p : Int) = some (hbS s n p) ∧ (hbS s n p).size = 16 := by
    intro k hk
    obtain ⟨r, h1, h2, h3⟩ := half_both k hk s n p hs (by omega) (by omega) (by omega) (by omega)
    have : hbS s n p = r := by unfold hbS; rw [h2]; rfl
    rw [this]
    exact ⟨h1, h2, h3⟩
  exact ⟨(e 9 (by decide)).2.1, fun k hk => (e k hk).1, (e 9 (by decide)).2.2⟩
/-- The halves of a text of an odd size: the fours of the middle byte that a half hasn't are 0. -/
def trL (o : Bool) (l : List Int) : List Int := if o = true then l.set (l.length - 1) (Go.bits .and .u8 (rd l ((l.length - 1 : Nat) : Int)) 240) else l
def trR (o : Bool) (r : List Int) : List Int := if o = true then r.set 0 (Go.bits .and .u8 (rd r 0) 15) else r
def oddB (n : Nat) : Bool := decide (n % 2 = 1)
theorem trL_length (o : Bool) (l : List Int) : (trL o l).length = l.length := by unfold trL; split <;> simp
theorem trR_length (o : Bool) (l : List Int) : (trR o l).length = l.length := by unfold trR; split <;> simp
theorem and_u8_nat (a b : Nat) (ha : a < 256) (hb : b < 256) : Go.bits .and .u8 (a : Int) (b : Int) = ((a &&& b : Nat) : Int) := by
  show IntKind.u8.wrap ((BitVec.ofInt 8 (a : Int) &&& BitVec.ofInt 8 (b : Int)).toNat : Int) = _
  rw [BitVec.toNat_and, BitVec.ofInt_natCast, BitVec.ofInt_natCast, BitVec.toNat_ofNat, BitVec.toNat_ofNat, Nat.mod_eq_of_lt ha, Nat.mod_eq_of_lt hb]
  have : a &&& b < 256 := Nat.lt_of_le_of_lt Nat.and_le_left ha
  simp [IntKind.wrap, IntKind.bits, IntKind.signed]
  omega
theorem and_u8_range (a b : Int) : 0 ≤ Go.bits .and .u8 a b ∧ Go.bits .and .u8 a b < 256 := by
  show 0 ≤ IntKind.u8.wrap _ ∧ IntKind.u8.wrap _ < 256
  simp only [IntKind.wrap, IntKind.bits, IntKind.signed]
  constructor <;> simp <;> omega
theorem or_u8_range (a b : Int) : 0 ≤ Go.bits .or .u8 a b ∧ Go.bits .or .u8 a b < 256 := by
  show 0 ≤ IntKind.u8.wrap _ ∧ IntKind.u8.wrap _ < 256
  simp only [IntKind.wrap, IntKind.bits, IntKind.signed]
  constructor <;> simp <;> omega
theorem and_twice (x m : Int) (h0 : 0 ≤ x) (h1 : x < 256) (m0 : 0 ≤ m) (m1 : m < 256) : Go.bits .and .u8 (Go.bits .and .u8 x m) m = Go.bits .and .u8 x m := by
  obtain ⟨a, rfl⟩ := Int.eq_ofNat_of_zero_le h0
  obtain ⟨b, rfl⟩ := Int.eq_ofNat_of_zero_le m0
  have hab : a &&& b < 256 := Nat.lt_of_le_of_lt Nat.and_le_left (by omega)
  rw [and_u8_nat a b (by omega) (by omega), and_u8_nat (a &&& b) b hab (by omega), Nat.and_assoc, Nat.and_self]
theorem Bt.set {l : List Int} (h : Bt l) (i : Nat) (x : Int) (hx : 0 ≤ x ∧ x < 256) : Bt (l.set i x) := fun y hy => by
  rcases List.mem_or_eq_of_mem_set hy with h1 | h1
  · exact h y h1
  · rw [h1]; exact hx
theorem trL_bt {o : Bool} {l : List Int} (h : Bt l) : Bt (trL o l) := by unfold trL; split; exact h.set _ _ (and_u8_range _ _); exact h
theorem trR_bt {o : Bool} {l : List Int} (h : Bt l) : Bt (trR o l) := by unfold trR; split; exact h.set _ _ (and_u8_range _ _); exact h
theorem trL_twice (o : Bool) (l : List Int) (h : Bt l) : trL o (trL o l) = trL o l := by
  unfold trL
  cases o with
  | false => rfl
  | true =>
    rw [if_pos rfl, if_pos rfl]
    by_cases hl : l.length = 0
    · have : l = [] := List.eq_nil_of_length_eq_zero hl
      subst this; rfl
    · rw [List.length_set, rd_set_same _ _ _ (by omega), and_twice _ _ (h.rd _).1 (h.rd _).2 (by decide) (by decide), List.set_set]
theorem trR_twice (o : Bool) (l : List Int) (h : Bt l) : trR o (trR o l) = trR o l := by
  unfold trR
  cases o with
  | false => rfl
  | true =>
    rw [if_pos rfl, if_pos rfl]
    by_cases hl : l.length = 0
    · have : l = [] := List.eq_nil_of_length_eq_zero hl
      subst this; rfl
    · have e := rd_set_same l 0 (Go.bits .and .u8 (rd l 0) 15) (by omega)
      rw [show ((0 : Nat) : Int) = 0 from rfl] at e
      have hr := h.rd 0
      rw [show ((0 : Nat) : Int) = 0 from rfl] at hr
      rw [e, and_twice _ _ hr.1 hr.2 (by decide) (by decide), List.set_set]
/-- A pass; the halves at first; both together. -/
def onePass (key : ByteArray) (n p : Nat) (lr : List Int × List Int) : List Int × List Int :=
  if p % 2 = 1 then (lr.1, trR (oddB n) (Gcm.xorL lr.2 (bytesOf (encS key (hbS (strOfNums lr.1) n p)))))
  else (trL (oddB n) (Gcm.xorL lr.1 (bytesOf (encS key (hbS (strOfNums lr.2) n p)))), lr.2)
def cutP (s : ByteArray) : List Int × List Int := (trL (oddB s.size) ((bytesOf s).take ((s.size + 1) / 2)), trR (oddB s.size) ((bytesOf s).drop (s.size - (s.size + 1) / 2)))
def joinP (n : Nat) (lr : List Int × List Int) : List Int :=
  if n % 2 = 1 then lr.1.take (lr.1.length - 1) ++ [Go.bits .or .u8 (rd lr.1 ((lr.1.length - 1 : Nat) : Int)) (rd lr.2 0)] ++ lr.2.drop 1 else lr.1 ++ lr.2
def passesP (key : ByteArray) (n : Nat) (ps : List Nat) (lr : List Int × List Int) : List Int × List Int := ps.foldl (fun x p => onePass key n p x) lr
def fourS (key s : ByteArray) (ps : List Nat) : ByteArray := strOfNums (joinP s.size (passesP key s.size ps (cutP s)))
/-- Halves as they are between two passes. -/
structure Lr (n h : Nat) (lr : List Int × List Int) : Prop where
  l1 : lr.1.length = h
  l2 : lr.2.length = h
  b1 : Bt lr.1
  b2 : Bt lr.2
  t1 : trL (oddB n) lr.1 = lr.1
  t2 : trR (oddB n) lr.2 = lr.2
theorem xorL_bt (a b : List Int) : Bt (Gcm.xorL a b) := fun x hx => by
  unfold Gcm.xorL at hx
  rw [List.mem_iff_getElem] at hx
  obtain ⟨i, hi, rfl⟩ := hx
  rw [List.getElem_zipWith]
  exact xor_u8_range _ _
theorem xorL_len (a b : List Int) (h : a.length ≤ b.length) : (Gcm.xorL a b).length = a.length := by rw [Gcm.xorL, List.length_zipWith]; omega
theorem Lr.pass {n h : Nat} {lr : List Int × List Int} (H : Lr n h lr) (hh : h ≤ 16) (key : ByteArray) (p : Nat) : Lr n h (onePass key n p lr) := by
  have z : ∀ b, (bytesOf (encS key b)).length = 16 := fun b => by rw [bytesOf_length]; exact encS_size _ _
  unfold onePass
  split
  · exact ⟨H.l1, by rw [trR_length, xorL_len _ _ (by rw [z, H.l2]; exact hh)]; exact H.l2, H.b1, trR_bt (xorL_bt _ _), H.t1, trR_twice _ _ (xorL_bt _ _)⟩
  · exact ⟨by rw [trL_length, xorL_len _ _ (by rw [z, H.l1]; exact hh)]; exact H.l1, H.l2, trL_bt (xorL_bt _ _), H.b2, trL_twice _ _ (xorL_bt _ _), H.t2⟩
theorem Lr.cut (s : ByteArray) : Lr s.size ((s.size + 1) / 2) (cutP s) := by
  have hb := bytesOf_length s
  refine ⟨?_, ?_, trL_bt ((Bt.bytes s).take _), trR_bt ((Bt.bytes s).drop _), trL_twice _ _ ((Bt.bytes s).take _), trR_twice _ _ ((Bt.bytes s).drop _)⟩
  · show (trL _ _).length = _
    rw [trL_length, List.length_take, hb]; omega
  · show (trR _ _).length = _
    rw [trR_length, List.length_drop, hb]; omega
end Go.Proofs.YtimokakcdmcnnaaV.Aes
