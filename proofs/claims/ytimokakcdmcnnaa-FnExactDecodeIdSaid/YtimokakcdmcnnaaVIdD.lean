import Derived.Test.YtimokakcdmcnnaaVId3
import Derived.Test.YtimokakcdmcnnaaVFour2
import Derived.Test.YtimokakcdmcnnaaVSpc5
import Derived.Test.YtimokakcdmcnnaaPSpecHx1
/- Shared lemmas and walks of the AES laws of this seat. -/
namespace Go.Proofs.YtimokakcdmcnnaaV.Aes
open Go.RowKit Go.Proofs.YtimokakcdmcnnaaV.PrintWords Go.Proofs.YtimokakcdmcnnaaV.PrintLast Go.Proofs.YtimokakcdmcnnaaV.PrintMore Go.Proofs.YtimokakcdmcnnaaV.Mem
set_option linter.unusedVariables false
set_option linter.unusedSimpArgs false

def idBody (b c : Int) (k s : ByteArray) : ByteArray := if k.size = 0 then s else if b + c = 16 then decS k s else fourS k s [4, 3, 2, 1]
def DidOk (a b c : Int) (k id : ByteArray) : Prop := GoodC a b c k ∧ 1 + (b + c) ≤ (id.size : Int) ∧ bt id 0 / 32 = a
instance (a b c : Int) (k id : ByteArray) : Decidable (DidOk a b c k id) := by unfold DidOk; infer_instance
def idOut (b c : Int) (k id : ByteArray) : ByteArray := idBody b c k (id.extract 1 (1 + (b + c).toNat))
theorem DecodeId_yes (a b c : Int) (k : ByteArray) (t : Bool) (id : ByteArray) (g : DidOk a b c k id) (w : World) :
    Calls Try.prog 46 #[.agg #[.int .i64 a, .int .i64 b, .int .i64 c, .string k, .bool t], .string id] w (Told3 ((idOut b c k id).extract 0 b.toNat) ((idOut b c k id).extract b.toNat (b + c).toNat) true w) := by
  obtain ⟨hg, hl, hq⟩ := g
  have hg' := hg
  obtain ⟨ha, hb, hc, hbc, hk⟩ := hg'
  obtain ⟨n, rfl⟩ := Int.eq_ofNat_of_zero_le (show 0 ≤ b by omega)
  obtain ⟨m, hm⟩ := Int.eq_ofNat_of_zero_le (show 0 ≤ (n : Int) + c by omega)
  unfold idOut idBody
  rw [show ((n : Int) + c).toNat = m by omega, show ((n : Int)).toNat = n from rfl]
  by_cases hk0 : k.size = 0
  · rw [if_pos hk0]
    exact Dec_0 a c n m k id t hg hm hl hq hk0 w
  · rw [if_neg hk0]
    by_cases h16 : (n : Int) + c = 16
    · rw [if_pos h16]
      exact Dec_1 a c n m k id t hg hm hl hq (hk.resolve_left hk0) h16 w
    · rw [if_neg h16]
      exact Dec_2 a c n m k id t hg hm hl hq (hk.resolve_left hk0) h16 w
theorem DecodeId_no (a b c : Int) (k : ByteArray) (t : Bool) (id : ByteArray) (g : ¬ DidOk a b c k id) (w : World) :
    Calls Try.prog 46 #[.agg #[.int .i64 a, .int .i64 b, .int .i64 c, .string k, .bool t], .string id] w (Told3 ⟨#[]⟩ ⟨#[]⟩ false w) := by
  by_cases hg : GoodC a b c k
  · by_cases hl : (id.size : Int) < 1 + (b + c)
    · exact Dec_short a b c k id t hg hl w
    · exact Dec_slot a b c k id t hg (by omega) (fun hq => g ⟨hg, by omega, hq⟩) w
  · exact Dec_bad a b c k id t hg w
end Go.Proofs.YtimokakcdmcnnaaV.Aes
/- Shared lemmas and walks of the AES laws of this seat. -/
namespace Go.Proofs.YtimokakcdmcnnaaV.Aes
open Go.RowKit Go.Proofs.YtimokakcdmcnnaaV.PrintWords Go.Proofs.YtimokakcdmcnnaaV.PrintLast Go.Proofs.YtimokakcdmcnnaaV.PrintMore Go.Proofs.YtimokakcdmcnnaaV.Mem
set_option linter.unusedVariables false
set_option linter.unusedSimpArgs false

open Go.Proofs.Ytimokakcdmcnnaa.PSpecH
theorem sgoodD_told (a b c : Int) (k : ByteArray) (t : Bool) : spec_GoodConfig.f a b c k t = some (decide (GoodC a b c k)) := by
  have h := good_told a b c k t
  unfold Go.Proofs.Ytimokakcdmcnnaa.PImplE.impl_GoodConfig.f Go.Proofs.Ytimokakcdmcnnaa.PImplE.impl_in.f Go.Proofs.Ytimokakcdmcnnaa.PImplE.impl_isKey.f at h
  unfold spec_GoodConfig.f spec_l1In.f
  exact h
theorem skindD_told (a b c : Int) (k : ByteArray) (t : Bool) (hb : 0 ≤ b ∧ b ≤ 100) (hc : 0 ≤ c ∧ c ≤ 100) : spec_l7Kind.f a b c k t = some (kindN b c k) := by
  have e : wrap64 (b + c) = b + c := by unfold wrap64; omega
  unfold spec_l7Kind.f kindN
  rw [e]
  by_cases h : k.size = 0
  · rw [if_pos ((no_bytes k).2 h), if_pos h]
  · rw [if_neg (fun e => h ((no_bytes k).1 e)), if_neg h]
    split <;> rfl
theorem ev_dj0 (a c : Int) (b m : Nat) (k id : ByteArray) (t : Bool) (hb : 1 ≤ b ∧ b ≤ 15) (hc : 4 ≤ c ∧ c ≤ 18) (hm : (b : Int) + c = (m : Int)) (hm19 : m ≤ 19) (hk : k.size = 0 ∨ k.size = 16) (hl : 1 + m ≤ id.size) :
    Ev (fun kk => spec_l7Decode.j0 kk id (m : Int) false a (b : Int) c k t) ((idBody (b : Int) c k (id.extract 1 (1 + m))).extract 0 b, (idBody (b : Int) c k (id.extract 1 (1 + m))).extract b m, true) := by
  have hB : (id.extract 1 (1 + m)).size = m := by rw [ByteArray.size_extract]; omega
  have hkd := skindD_told a (b : Int) c k t ⟨by omega, by omega⟩ ⟨by omega, by omega⟩
  have ew : wrap64 (1 + (m : Int)) = 1 + (m : Int) := by unfold wrap64; omega
  have et : (1 + (m : Int)).toNat = 1 + m := by omega
  have p1 : (1 : Int) ≤ 1 + (m : Int) := by omega
  have p2 : 1 + (m : Int) ≤ (id.size : Int) := by omega
  have fin : ∀ E : ByteArray, E.size = m → (if 0 ≤ (b : Int) then (if (b : Int) ≤ (E.size : Int) then some (E.extract 0 (b : Int).toNat, E.extract (b : Int).toNat E.size, true) else none) else none) = some (E.extract 0 b, E.extract b m, true) := fun E hE => by
    rw [if_pos (by omega), if_pos (by omega), hE]
    rfl
  unfold idBody
  by_cases hk0 : k.size = 0
  · have hkn : kindN (b : Int) c k = 0 := if_pos hk0
    rw [hkn] at hkd
    rw [if_pos hk0]
    refine Ev.step (fun kk => ?_) (Ev.now _)
    rw [spec_l7Decode.j0, if_neg Bool.false_ne_true, ew, if_pos p1, if_pos p2, hkd, Option.bind_some, if_neg (by decide), if_neg (by decide), et]
    exact fin _ hB
  · have h16 : k.size = 16 := hk.resolve_left hk0
    rw [if_neg hk0]
    by_cases hb16 : (b : Int) + c = 16
    · have hkn : kindN (b : Int) c k = 1 := by unfold kindN; rw [if_neg hk0, if_pos hb16]
      rw [hkn] at hkd
      rw [if_pos hb16]
      have h2 := Ev.bind (f := fun kk (E : ByteArray) => if 0 ≤ (b : Int) then (if (b : Int) ≤ (E.size : Int) then some (E.extract 0 (b : Int).toNat, E.extract (b : Int).toNat E.size, true) else none) else none) (ev_back k (id.extract 1 (1 + m)) h16 (by omega)) (Ev.congr (fun _ => fin _ (by rw [decS_size]; omega)) (Ev.now _))
      refine Ev.step (fun kk => ?_) h2
      rw [spec_l7Decode.j0, if_neg Bool.false_ne_true, ew, if_pos p1, if_pos p2, hkd, Option.bind_some, if_pos rfl, et]
    · have hkn : kindN (b : Int) c k = 2 := by unfold kindN; rw [if_neg hk0, if_neg hb16]
      rw [hkn] at hkd
      rw [if_neg hb16]
      have h2 := Ev.bind (f := fun kk (E : ByteArray) => if 0 ≤ (b : Int) then (if (b : Int) ≤ (E.size : Int) then some (E.extract 0 (b : Int).toNat, E.extract (b : Int).toNat E.size, true) else none) else none) (ev_passes k (id.extract 1 (1 + m)) [4, 3, 2, 1] (by decide) (by decide) h16 (by omega) (by omega)) (Ev.congr (fun _ => fin _ (by rw [fourS_size _ _ _ (by omega) (by omega)]; exact hB)) (Ev.now _))
      refine Ev.step (fun kk => ?_) h2
      rw [spec_l7Decode.j0, if_neg Bool.false_ne_true, ew, if_pos p1, if_pos p2, hkd, Option.bind_some, if_neg (by decide), if_pos rfl, et]
      rfl
theorem sDecodeId_yes (a b c : Int) (k : ByteArray) (t : Bool) (id : ByteArray) (g : DidOk a b c k id) (w : World) :
    Calls Try.prog 45 #[.agg #[.int .i64 a, .int .i64 b, .int .i64 c, .string k, .bool t], .string id] w (Told3 ((idOut b c k id).extract 0 b.toNat) ((idOut b c k id).extract b.toNat (b + c).toNat) true w) := by
  obtain ⟨hg, hl, hq⟩ := g
  have hg' := hg
  obtain ⟨ha, hb, hc, hbc, hk⟩ := hg'
  obtain ⟨n, rfl⟩ := Int.eq_ofNat_of_zero_le (show 0 ≤ b by omega)
  obtain ⟨m, hm⟩ := Int.eq_ofNat_of_zero_le (show 0 ≤ (n : Int) + c by omega)
  unfold idOut
  rw [show ((n : Int) + c).toNat = m by omega, show ((n : Int)).toNat = n from rfl]
  have e1 : wrap64 ((n : Int) + c) = (m : Int) := by unfold wrap64; omega
  have e2 : wrap64 (1 + (m : Int)) = 1 + (m : Int) := by unfold wrap64; omega
  have hbr := bt_range id 0
  have e3 : wrap64 (bt id 0) = bt id 0 := by unfold wrap64; omega
  have e4 : (bt id 0 / 32 != a) = false := by simp [hq]
  have h : Ev (fun kk => spec_l7Decode.f kk a (n : Int) c k t id) ((idBody (n : Int) c k (id.extract 1 (1 + m))).extract 0 n, (idBody (n : Int) c k (id.extract 1 (1 + m))).extract n m, true) := by
    refine Ev.congr (fun kk => ?_) (ev_dj0 a c n m k id t (by omega) hc hm (by omega) hk (by omega))
    unfold spec_l7Decode.f
    rw [e1, e2, if_neg (by omega), if_pos (by omega), e3, e4]
  have h2 : Ev (fun kk => spec_DecodeId.f kk a (n : Int) c k t id) ((idBody (n : Int) c k (id.extract 1 (1 + m))).extract 0 n, (idBody (n : Int) c k (id.extract 1 (1 + m))).extract n m, true) := by
    refine Ev.congr (fun kk => ?_) (Ev.bind (f := fun _ r => some (r.1, r.2.1, r.2.2)) h (Ev.now _))
    unfold spec_DecodeId.f
    rw [sgoodD_told, decide_eq_true hg, Option.bind_some, if_pos rfl]
  obtain ⟨kk, hk2⟩ := h2.rounds
  exact spec_DecodeId.calls kk a (n : Int) c k t id _ _ _ w hk2
theorem sDecodeId_no (a b c : Int) (k : ByteArray) (t : Bool) (id : ByteArray) (g : ¬ DidOk a b c k id) (w : World) :
    Calls Try.prog 45 #[.agg #[.int .i64 a, .int .i64 b, .int .i64 c, .string k, .bool t], .string id] w (Told3 ⟨#[]⟩ ⟨#[]⟩ false w) := by
  have h : spec_DecodeId.f 1 a b c k t id = some (⟨#[]⟩, ⟨#[]⟩, false) := by
    unfold spec_DecodeId.f
    rw [sgoodD_told, Option.bind_some]
    by_cases hg : GoodC a b c k
    · have hg' := hg
      obtain ⟨ha, hb, hc, hbc, hk⟩ := hg'
      have e1 : wrap64 (b + c) = b + c := by unfold wrap64; omega
      have e2 : wrap64 (1 + (b + c)) = 1 + (b + c) := by unfold wrap64; omega
      have hbr := bt_range id 0
      have e3 : wrap64 (bt id 0) = bt id 0 := by unfold wrap64; omega
      have hj : ∀ x7 : Int, spec_l7Decode.j0 1 id x7 true a b c k t = some (⟨#[]⟩, ⟨#[]⟩, false) := fun x7 => by rw [spec_l7Decode.j0, if_pos rfl]
      have hf : spec_l7Decode.f 1 a b c k t id = some (⟨#[]⟩, ⟨#[]⟩, false) := by
        unfold spec_l7Decode.f
        rw [e1, e2, e3]
        by_cases hl : (id.size : Int) < 1 + (b + c)
        · rw [if_pos hl]
          exact hj _
        · have e4 : (bt id 0 / 32 != a) = true := by
            have hq : ¬ bt id 0 / 32 = a := fun hq => g ⟨hg, by omega, hq⟩
            simpa using hq
          rw [if_neg hl, if_pos (by omega), e4]
          exact hj _
      rw [decide_eq_true hg, if_pos rfl, hf]
      rfl
    · rw [decide_eq_false hg, if_neg (by decide)]
  exact spec_DecodeId.calls 1 a b c k t id _ _ _ w h
end Go.Proofs.YtimokakcdmcnnaaV.Aes
