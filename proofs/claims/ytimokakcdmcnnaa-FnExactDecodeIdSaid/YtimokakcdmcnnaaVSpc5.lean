/- Shared lemmas and walks of the AES laws of this seat. -/
import Derived.Test.YtimokakcdmcnnaaVSpc4
import Derived.Test.YtimokakcdmcnnaaPSpecAx5
namespace Go.Proofs.YtimokakcdmcnnaaV.Aes
open Go.RowKit Go.Proofs.YtimokakcdmcnnaaV.PrintWords Go.Proofs.YtimokakcdmcnnaaV.PrintLast Go.Proofs.YtimokakcdmcnnaaV.PrintMore Go.Proofs.YtimokakcdmcnnaaV.Mem
set_option linter.unusedVariables false
set_option linter.unusedSimpArgs false

open Go.Proofs.Ytimokakcdmcnnaa.PSpecA
/-- The bytes of a block, laid one by one where they go. -/
def setS (g : Nat → Int) : Nat → List Int
  | 0 => List.replicate 16 0
  | i + 1 => (setS g i).set (4 * ((i / 4 + i % 4) % 4) + i % 4) (g i)
theorem setS_length (g : Nat → Int) : ∀ i, (setS g i).length = 16
  | 0 => List.length_replicate
  | i + 1 => by simp only [setS, List.length_set]; exact setS_length g i
theorem setS_all (g : Nat → Int) : setS g 16 = tab 16 (fun p => g (4 * ((p / 4 + 3 * (p % 4)) % 4) + p % 4)) := rfl
def TU : List Int := BX.drop 256
theorem TU_rd (x : Nat) (h : x < 256) : rd TU (x : Int) = (Un x : Int) := BX_back x h
theorem TU_bt : Bt TU := BX_bt.drop 256
theorem back_nums (c q p : Nat) (hc : c < 4) (hq : q < 4) (hp : p = 4 * ((c + q) % 4) + q) : wrap64 ((c : Int) + (q : Int)) = ((c + q : Nat) : Int) ∧ Int.tmod ((c + q : Nat) : Int) 4 = (((c + q) % 4 : Nat) : Int) ∧
    wrap64 (4 * (((c + q) % 4 : Nat) : Int)) = ((4 * ((c + q) % 4) : Nat) : Int) ∧ wrap64 (((4 * ((c + q) % 4) : Nat) : Int) + (q : Int)) = (p : Int) ∧ wrap64 (4 * (c : Int)) = ((4 * c : Nat) : Int) ∧
    wrap64 (((4 * c : Nat) : Int) + (q : Int)) = ((4 * c + q : Nat) : Int) ∧ wrap64 ((q : Int) + 1) = ((q + 1 : Nat) : Int) := with_nums c q p hc hq hp
theorem back_l3 (ks s : List Int) (hs : s.length = 16) (hb : Bt s) (r c : Nat) (hc : c < 4) (R : ByteArray)
    (hR : Ev (fun k => spec_l3Back.l2 k ks s (r : Int) (setS (fun i => rd TU (rd s (i : Int))) (4 * (c + 1))) ((c + 1 : Nat) : Int)) R) : ∀ d q : Nat, q + d = 4 →
    Ev (fun k => spec_l3Back.l3 k ks s (r : Int) (setS (fun i => rd TU (rd s (i : Int))) (4 * c + q)) (c : Int) (q : Int)) R
  | 0, q, h => by
    have e : q = 4 := by omega
    subst e
    refine Ev.step (fun k => ?_) hR
    simp only [spec_l3Back.l3]
    rw [if_neg (by omega), wrapS ((c : Int) + 1) ((c + 1 : Nat) : Int) (by omega) (by omega) (by omega)]
    rfl
  | d + 1, q, h => by
    obtain ⟨p, hp⟩ : ∃ p, p = 4 * ((c + q) % 4) + q := ⟨_, rfl⟩
    have hq4 : q < 4 := by omega
    have c1 : (q : Int) < 4 := by omega
    have c2 : (0 : Int) ≤ ((4 * c + q : Nat) : Int) := by omega
    have c3 : ((4 * c + q : Nat) : Int) < (s.length : Int) := by omega
    have c6 : (0 : Int) ≤ (p : Int) := by omega
    have hl := setS_length (fun i => rd TU (rd s (i : Int))) (4 * c + q)
    have c7 : (p : Int) < ((setS (fun i => rd TU (rd s (i : Int))) (4 * c + q)).length : Int) := by rw [hl]; omega
    have c9 : q + 1 + d = 4 := by omega
    have c10 : 4 * (((4 * c + q) / 4 + (4 * c + q) % 4) % 4) + (4 * c + q) % 4 = p := by omega
    have hx := hb.rd (4 * c + q)
    obtain ⟨x, hxe⟩ := Int.eq_ofNat_of_zero_le hx.1
    have hx2 : x < 256 := by have := hx.2; omega
    clear hx
    obtain ⟨e1, e2, e3, e4, e5, e6, e7⟩ := back_nums c q p hc hq4 hp
    have hst : setS (fun i => rd TU (rd s (i : Int))) (4 * c + (q + 1)) = (setS (fun i => rd TU (rd s (i : Int))) (4 * c + q)).set p (Un x : Int) := by
      show (setS (fun i => rd TU (rd s (i : Int))) (4 * c + q)).set (4 * (((4 * c + q) / 4 + (4 * c + q) % 4) % 4) + (4 * c + q) % 4) (rd TU (rd s ((4 * c + q : Nat) : Int))) = _
      rw [c10, hxe, TU_rd x hx2]
    have ih := back_l3 ks s hs hb r c hc R hR d (q + 1) c9
    rw [hst] at ih
    refine Ev.step (f := fun k => (spec_l3Unsub.f k (x : Int)).bind fun u => spec_l3Back.l3 k ks s (r : Int) ((setS (fun i => rd TU (rd s (i : Int))) (4 * c + q)).set p u) (c : Int) ((q + 1 : Nat) : Int)) (fun k => ?_) (Ev.bind (f := fun k u => spec_l3Back.l3 k ks s (r : Int) ((setS (fun i => rd TU (rd s (i : Int))) (4 * c + q)).set p u) (c : Int) ((q + 1 : Nat) : Int)) (ev_unsub x hx2) ih)
    simp only [spec_l3Back.l3]
    rw [e5, e6, if_pos c1, if_pos c2, if_pos c3, hxe]
    refine congrArg _ (funext fun u => ?_)
    rw [e1, e2, e3, e4, e7, if_pos c6, if_pos c7, Int.toNat_natCast]
theorem back_l2 (ks s : List Int) (hs : s.length = 16) (hb : Bt s) (r : Nat) (R : ByteArray) (r' : Int) (hr' : wrap64 ((r : Int) - 1) = r')
    (hR : Ev (fun k => spec_l3Back.l0 k ks (mapL TU (shiftL 3 s)) r') R) : ∀ d c : Nat, c + d = 4 →
    Ev (fun k => spec_l3Back.l2 k ks s (r : Int) (setS (fun i => rd TU (rd s (i : Int))) (4 * c)) (c : Int)) R
  | 0, c, h => by
    have e : c = 4 := by omega
    subst e
    have e2 : setS (fun i => rd TU (rd s (i : Int))) (4 * 4) = mapL TU (shiftL 3 s) := by
      rw [map_shift]; exact setS_all _
    refine Ev.step (fun k => ?_) hR
    simp only [spec_l3Back.l2]
    rw [if_neg (by decide), e2, hr']
  | d + 1, c, h => by
    have ih := back_l2 ks s hs hb r R r' hr' hR d (c + 1) (by omega)
    have h2 := back_l3 ks s hs hb r c (by omega) R ih 4 0 rfl
    refine Ev.step (fun k => ?_) h2
    simp only [spec_l3Back.l2]
    rw [if_pos (by omega)]
    rfl
theorem back_l1 (ks t : List Int) (ht : t.length = 16) (hb : Bt t) (r : Nat) (R : ByteArray)
    (hR : Ev (fun k => spec_l3Back.j2 k ks (mixN [14, 11, 13, 9] t 4) (r : Int)) R) : ∀ d c : Nat, c + d = 4 →
    Ev (fun k => spec_l3Back.l1 k ks t (r : Int) (mixP [14, 11, 13, 9] t c) (c : Int)) R
  | 0, c, h => by
    have e : c = 4 := by omega
    subst e
    refine Ev.step (fun k => ?_) hR
    simp only [spec_l3Back.l1]
    rw [if_neg (by decide), mixN_full _ _ ht]
  | d + 1, c, h => by
    have e1 : wrap64 (4 * (c : Int)) = ((4 * c : Nat) : Int) := wrapS _ _ (by omega) (by omega) (by omega)
    have e2 : wrap64 (((4 * c : Nat) : Int) + 4) = ((4 * c + 4 : Nat) : Int) := wrapS _ _ (by omega) (by omega) (by omega)
    have e3 : wrap64 ((c : Int) + 1) = ((c + 1 : Nat) : Int) := wrapS _ _ (by omega) (by omega) (by omega)
    have hseg : (t.take (4 * c + 4)).drop (4 * c) = (t.drop (4 * c)).take 4 := by rw [List.drop_take, show 4 * c + 4 - 4 * c = 4 by omega]
    have hsl : ((t.drop (4 * c)).take 4).length = 4 := by simp; omega
    have ih := back_l1 ks t ht hb r R hR d (c + 1) (by omega)
    refine Ev.step (f := fun k => (spec_l3Mix.f k ((t.drop (4 * c)).take 4) [14, 11, 13, 9]).bind fun u => if (mixP [14, 11, 13, 9] t c).length + u.length < 140737488355328 then spec_l3Back.l1 k ks t (r : Int) (mixP [14, 11, 13, 9] t c ++ u) ((c + 1 : Nat) : Int) else none) (fun k => ?_) (Ev.bind (ev_mix [14, 11, 13, 9] _ rfl hsl ((hb.drop _).take _)) ?_)
    · simp only [spec_l3Back.l1]
      rw [if_pos (by omega), e1, e2, e3, if_pos (by omega), if_pos (by omega), if_pos (by omega), Int.toNat_natCast, Int.toNat_natCast, hseg]
    · refine Ev.congr (fun k => ?_) ih
      rw [if_pos (by rw [mixP_length, mixL_length]; omega)]
      rfl
theorem back_l0 (ks b : List Int) (hb : Bt b) (hbl : b.length = 16) (hk : 176 ≤ ks.length) : ∀ d n : Nat, n + d = 10 →
    Ev (fun k => spec_l3Back.l0 k ks (decN ks TU b n) (d : Int)) (strOfNums (addKL ks 0 (decN ks TU b 10)))
  | 0, n, h => by
    have e : n = 10 := by omega
    subst e
    have h0 := ev_addKey ks (decN ks TU b 10) 0 (by decide) (decN_length _ _ _ hbl _) hk
    refine Ev.step (f := fun k => (spec_l3Xor.f k (decN ks TU b 10) ((ks.take (16 * 0 + 16)).drop (16 * 0))).bind fun u => some (strOfNums u)) (fun k => ?_) (Ev.bind (f := fun _ u => some (strOfNums u)) h0 (Ev.now _))
    simp only [spec_l3Back.l0]
    rw [if_neg (by decide), if_pos (by omega)]
    rfl
  | d + 1, n, h => by
    have ih := back_l0 ks b hb hbl hk d (n + 1) (by omega)
    obtain ⟨s, hs⟩ : ∃ s, s = decN ks TU b n := ⟨_, rfl⟩
    have hsl : s.length = 16 := by rw [hs]; exact decN_length _ _ _ hbl _
    have hsb : Bt s := by rw [hs]; exact decN_bt _ _ _ hb TU_bt _
    have hn : 10 - n = d + 1 := by omega
    have hnx : decN ks TU b (n + 1) = mapL TU (shiftL 3 (decMid ks (d + 1) s)) := by rw [hs, ← hn]; rfl
    rw [hnx] at ih
    rw [← hs]
    obtain ⟨m, hm⟩ : ∃ m, m = addKL ks (d + 1) s := ⟨_, rfl⟩
    have hml : m.length = 16 := by rw [hm]; exact addKL_length _ _ _
    have hmb : Bt m := by rw [hm]; exact addKL_bt _ _ _
    have hdl := decMid_length ks (d + 1) s
    have hdb : Bt (decMid ks (d + 1) s) := by
      unfold decMid
      rw [← hm]
      split
      · exact mixN_bt _ _ hmb _
      · exact hmb
    have e1 : wrap64 (16 * ((d + 1 : Nat) : Int)) = ((16 * (d + 1) : Nat) : Int) := wrapS _ _ (by omega) (by omega) (by omega)
    have e2 : wrap64 (((16 * (d + 1) : Nat) : Int) + 16) = ((16 * (d + 1) + 16 : Nat) : Int) := wrapS _ _ (by omega) (by omega) (by omega)
    have e3 : wrap64 (((d + 1 : Nat) : Int) - 1) = (d : Int) := wrapS _ _ (by omega) (by omega) (by omega)
    have hj2 : Ev (fun k => spec_l3Back.j2 k ks (decMid ks (d + 1) s) ((d + 1 : Nat) : Int)) (strOfNums (addKL ks 0 (decN ks TU b 10))) := by
      refine Ev.step (fun k => ?_) (back_l2 ks _ hdl hdb (d + 1) _ (d : Int) e3 ih 4 0 rfl)
      simp only [spec_l3Back.j2]
      rw [if_pos (by decide)]
      rfl
    have hgo : Ev (fun k => if ((d + 1 : Nat) : Int) < 10 then spec_l3Back.l1 k ks m ((d + 1 : Nat) : Int) [] 0 else spec_l3Back.j2 k ks m ((d + 1 : Nat) : Int)) (strOfNums (addKL ks 0 (decN ks TU b 10))) := by
      by_cases h10 : d + 1 < 10
      · have hd : decMid ks (d + 1) s = mixN [14, 11, 13, 9] m 4 := by unfold decMid; rw [if_pos h10, hm]
        rw [hd] at hj2
        refine Ev.congr (fun k => ?_) (back_l1 ks m hml hmb (d + 1) _ hj2 4 0 rfl)
        rw [if_pos (by omega)]
        rfl
      · have hd : decMid ks (d + 1) s = m := by unfold decMid; rw [if_neg h10, hm]
        rw [hd] at hj2
        refine Ev.congr (fun k => ?_) hj2
        rw [if_neg (by omega)]
    have hx := ev_addKey ks s (d + 1) (by omega) hsl hk
    rw [← hm] at hx
    refine Ev.step (fun k => ?_) (Ev.bind (f := fun k u => if ((d + 1 : Nat) : Int) < 10 then spec_l3Back.l1 k ks u ((d + 1 : Nat) : Int) [] 0 else spec_l3Back.j2 k ks u ((d + 1 : Nat) : Int)) hx hgo)
    simp only [spec_l3Back.l0]
    rw [e1, e2, if_pos (by omega), if_pos (by omega), if_pos (by omega), if_pos (by omega), Int.toNat_natCast, Int.toNat_natCast]
theorem ev_back (key s : ByteArray) (hk : key.size = 16) (hs : s.size = 16) : Ev (fun k => spec_l3Back.f k key s) (decS key s) := by
  have h := back_l0 (KS key) (bytesOf s) (Bt.bytes s) (by rw [bytesOf_length]; exact hs) (by rw [KS_length key hk]; exact Nat.le_refl _) 10 0 rfl
  refine Ev.congr (fun k => ?_) (Ev.bind (f := fun k w => spec_l3Back.l0 k w (bytesOf s) 10) (ev_keys key hk) h)
  unfold spec_l3Back.f
  refine congrArg _ (funext fun w => ?_)
  rw [if_pos (by omega)]
end Go.Proofs.YtimokakcdmcnnaaV.Aes
