/- Shared lemmas and walks of the AES laws of this seat. -/
import Derived.Test.YtimokakcdmcnnaaVSpc2
namespace Go.Proofs.YtimokakcdmcnnaaV.Aes
open Go.RowKit Go.Proofs.YtimokakcdmcnnaaV.PrintWords Go.Proofs.YtimokakcdmcnnaaV.PrintLast Go.Proofs.YtimokakcdmcnnaaV.PrintMore Go.Proofs.YtimokakcdmcnnaaV.Mem
set_option linter.unusedVariables false
set_option linter.unusedSimpArgs false

open Go.Proofs.Ytimokakcdmcnnaa.PSpecA
/-- The columns of a block, mixed, one behind the other. -/
def mixP (f t : List Int) : Nat → List Int
  | 0 => []
  | c + 1 => mixP f t c ++ mixL M f ((t.drop (4 * c)).take 4)
theorem mixP_length (f t : List Int) : ∀ c, (mixP f t c).length = 4 * c
  | 0 => rfl
  | c + 1 => by simp only [mixP, List.length_append, mixP_length f t c, mixL_length]; omega
theorem mixN_split (f t : List Int) (ht : t.length = 16) : ∀ c, c ≤ 4 → mixN f t c = mixP f t c ++ t.drop (4 * c)
  | 0, _ => by simp [mixN, mixP]
  | c + 1, h => by
    have ih := mixN_split f t ht c (by omega)
    have hl := mixP_length f t c
    show mixAt f (4 * c) (mixN f t c) = _
    rw [ih]
    unfold mixAt
    rw [List.take_left' hl, List.drop_left' hl, ← List.drop_drop, List.drop_left' hl, List.drop_drop]
    simp only [mixP]
    rw [show 4 * c + 4 = 4 * (c + 1) by omega]
theorem mixN_full (f t : List Int) (ht : t.length = 16) : mixN f t 4 = mixP f t 4 := by
  rw [mixN_split f t ht 4 (by decide), List.drop_eq_nil_of_le (by omega), List.append_nil]
/-- Sixteen entries from a place on, xored. -/
theorem tab_ext (n : Nat) (f g : Nat → Int) (h : ∀ i, i < n → f i = g i) : tab n f = tab n g := by
  unfold tab
  exact List.map_congr_left fun i hi => h i (List.mem_range.mp hi)
theorem rd_seg (ks : List Int) (p n i : Nat) (hi : i < n) (hp : p + n ≤ ks.length) : rd ((ks.take (p + n)).drop p) (i : Int) = rd ks ((p + i : Nat) : Int) := by
  rw [List.drop_take, rd_at _ _ (by simp; omega), rd_at _ _ (by omega), List.getElem_take, List.getElem_drop]
theorem ev_addKey (ks b : List Int) (r : Nat) (hr : r ≤ 10) (hb : b.length = 16) (hk : 176 ≤ ks.length) : Ev (fun k => spec_l3Xor.f k b ((ks.take (16 * r + 16)).drop (16 * r))) (addKL ks r b) := by
  have h := ev_xor b ((ks.take (16 * r + 16)).drop (16 * r)) 16 hb (by simp; omega) (by decide)
  rw [tab_ext 16 _ (fun i => Go.bits .xor .u8 (rd b (i : Int)) (rd ks ((16 * r + i : Nat) : Int))) (fun i hi => by rw [rd_seg ks (16 * r) 16 i hi (by omega)])] at h
  exact h
/-- What a block becomes by a table, moved. -/
theorem shift_map (T b : List Int) (m : Nat) : shiftL m (mapL T b) = tab 16 fun i => rd T (rd b ((4 * ((i / 4 + m * (i % 4)) % 4) + i % 4 : Nat) : Int)) :=
  tab_ext 16 _ _ fun i hi => by
    unfold mapL
    rw [rd_tab 16 _ _ (by omega)]
theorem map_shift (T b : List Int) (m : Nat) : mapL T (shiftL m b) = tab 16 fun i => rd T (rd b ((4 * ((i / 4 + m * (i % 4)) % 4) + i % 4 : Nat) : Int)) :=
  tab_ext 16 _ _ fun i hi => by
    unfold shiftL
    rw [rd_tab 16 _ _ hi]
theorem with_nums (c q p : Nat) (hc : c < 4) (hq : q < 4) (hp : p = 4 * ((c + q) % 4) + q) : wrap64 ((c : Int) + (q : Int)) = ((c + q : Nat) : Int) ∧ Int.tmod ((c + q : Nat) : Int) 4 = (((c + q) % 4 : Nat) : Int) ∧
    wrap64 (4 * (((c + q) % 4 : Nat) : Int)) = ((4 * ((c + q) % 4) : Nat) : Int) ∧ wrap64 (((4 * ((c + q) % 4) : Nat) : Int) + (q : Int)) = (p : Int) ∧ wrap64 (4 * (c : Int)) = ((4 * c : Nat) : Int) ∧
    wrap64 (((4 * c : Nat) : Int) + (q : Int)) = ((4 * c + q : Nat) : Int) ∧ wrap64 ((q : Int) + 1) = ((q + 1 : Nat) : Int) :=
  ⟨wrapS _ _ (by omega) (by omega) (by omega), by rw [Int.tmod_eq_emod_of_nonneg (by omega)]; omega, wrapS _ _ (by omega) (by omega) (by omega), wrapS _ _ (by omega) (by omega) (by omega), wrapS _ _ (by omega) (by omega) (by omega), wrapS _ _ (by omega) (by omega) (by omega), wrapS _ _ (by omega) (by omega) (by omega)⟩
theorem with_l2 (ks T s : List Int) (hT : T.length = 256) (hs : s.length = 16) (hb : Bt s) (r c : Nat) (hc : c < 4) (R : ByteArray) (z : List Int) (hz : z.length = 16)
    (hR : Ev (fun k => spec_l3With.l1 k ks T s (r : Int) ((tab 16 fun i => rd T (rd s ((4 * ((i / 4 + 1 * (i % 4)) % 4) + i % 4 : Nat) : Int))).take (4 * (c + 1)) ++ z.drop (4 * (c + 1)) ++ []) ((c + 1 : Nat) : Int)) R) : ∀ d q : Nat, q + d = 4 →
    Ev (fun k => spec_l3With.l2 k ks T s (r : Int) ((tab 16 fun i => rd T (rd s ((4 * ((i / 4 + 1 * (i % 4)) % 4) + i % 4 : Nat) : Int))).take (4 * c + q) ++ z.drop (4 * c + q) ++ []) (c : Int) (q : Int)) R
  | 0, q, h => by
    have e : q = 4 := by omega
    subst e
    refine Ev.step (fun k => ?_) hR
    simp only [spec_l3With.l2]
    rw [if_neg (by omega), wrapS ((c : Int) + 1) ((c + 1 : Nat) : Int) (by omega) (by omega) (by omega)]
    rfl
  | d + 1, q, h => by
    obtain ⟨p, hp⟩ : ∃ p, p = 4 * ((c + q) % 4) + q := ⟨_, rfl⟩
    have hp16 : p < 16 := by omega
    have hq4 : q < 4 := by omega
    have hl : ((tab 16 fun i => rd T (rd s ((4 * ((i / 4 + 1 * (i % 4)) % 4) + i % 4 : Nat) : Int))).take (4 * c + q) ++ z.drop (4 * c + q) ++ []).length = 16 := by
      rw [tab_both _ _ _ _ hz _ (by omega)]; rfl
    have c1 : (q : Int) < 4 := by omega
    have c2 : (0 : Int) ≤ (p : Int) := by omega
    have c3 : (p : Int) < (s.length : Int) := by omega
    have c6 : (0 : Int) ≤ ((4 * c + q : Nat) : Int) := by omega
    have c7 : ((4 * c + q : Nat) : Int) < (((tab 16 fun i => rd T (rd s ((4 * ((i / 4 + 1 * (i % 4)) % 4) + i % 4 : Nat) : Int))).take (4 * c + q) ++ z.drop (4 * c + q) ++ []).length : Int) := by rw [hl]; omega
    have c8 : 4 * c + q < 16 := by omega
    have c9 : q + 1 + d = 4 := by omega
    have c10 : 4 * (((4 * c + q) / 4 + 1 * ((4 * c + q) % 4)) % 4) + (4 * c + q) % 4 = p := by omega
    have hx := hb.rd p
    have c4 : 0 ≤ rd s (p : Int) := hx.1
    have c5 : rd s (p : Int) < (T.length : Int) := by rw [hT]; exact hx.2
    obtain ⟨e1, e2, e3, e4, e5, e6, e7⟩ := with_nums c q p hc hq4 hp
    have hv : rd T (rd s (p : Int)) = (fun i => rd T (rd s ((4 * ((i / 4 + 1 * (i % 4)) % 4) + i % 4 : Nat) : Int))) (4 * c + q) := by
      show _ = rd T (rd s ((4 * (((4 * c + q) / 4 + 1 * ((4 * c + q) % 4)) % 4) + (4 * c + q) % 4 : Nat) : Int))
      rw [c10]
    have ih := with_l2 ks T s hT hs hb r c hc R z hz hR d (q + 1) c9
    refine Ev.step (fun k => ?_) ih
    simp only [spec_l3With.l2]
    rw [e1, e2, e3, e4, e5, e6, e7, if_pos c1, if_pos c2, if_pos c3, if_pos c4, if_pos c5, if_pos c6, if_pos c7, Int.toNat_natCast, hv,
      tab_step 16 (fun i => rd T (rd s ((4 * ((i / 4 + 1 * (i % 4)) % 4) + i % 4 : Nat) : Int))) z [] hz (4 * c + q) c8]
    rfl
theorem with_l1 (ks T s : List Int) (hT : T.length = 256) (hs : s.length = 16) (hb : Bt s) (r : Nat) (R : ByteArray) (z : List Int) (hz : z.length = 16)
    (hR : Ev (fun k => spec_l3With.l1 k ks T s (r : Int) (shiftL 1 (mapL T s)) 4) R) : ∀ d c : Nat, c + d = 4 →
    Ev (fun k => spec_l3With.l1 k ks T s (r : Int) ((tab 16 fun i => rd T (rd s ((4 * ((i / 4 + 1 * (i % 4)) % 4) + i % 4 : Nat) : Int))).take (4 * c) ++ z.drop (4 * c) ++ []) (c : Int)) R
  | 0, c, h => by
    have e : c = 4 := by omega
    subst e
    rw [shift_map] at hR
    have e2 : (tab 16 fun i => rd T (rd s ((4 * ((i / 4 + 1 * (i % 4)) % 4) + i % 4 : Nat) : Int))).take (4 * 4) ++ z.drop (4 * 4) ++ [] = tab 16 fun i => rd T (rd s ((4 * ((i / 4 + 1 * (i % 4)) % 4) + i % 4 : Nat) : Int)) := by
      rw [show 4 * 4 = 16 from rfl, tab_end _ _ _ _ hz, List.append_nil]
    rw [e2]
    exact hR
  | d + 1, c, h => by
    have ih := with_l1 ks T s hT hs hb r R z hz hR d (c + 1) (by omega)
    have h2 := with_l2 ks T s hT hs hb r c (by omega) R z hz ih 4 0 rfl
    refine Ev.step (fun k => ?_) h2
    simp only [spec_l3With.l1]
    rw [if_pos (by omega)]
    rfl
theorem with_l3 (ks T t : List Int) (ht : t.length = 16) (hb : Bt t) (r : Nat) (hr : r < 10) (hk : 176 ≤ ks.length) (R : ByteArray)
    (hR : Ev (fun k => spec_l3With.l0 k ks T (addKL ks r (mixN [2, 3, 1, 1] t 4)) ((r + 1 : Nat) : Int)) R) : ∀ d c : Nat, c + d = 4 →
    Ev (fun k => spec_l3With.l3 k ks T (r : Int) t (mixP [2, 3, 1, 1] t c) (c : Int)) R
  | 0, c, h => by
    have e : c = 4 := by omega
    subst e
    have e1 : wrap64 (16 * (r : Int)) = ((16 * r : Nat) : Int) := wrapS _ _ (by omega) (by omega) (by omega)
    have e2 : wrap64 (((16 * r : Nat) : Int) + 16) = ((16 * r + 16 : Nat) : Int) := wrapS _ _ (by omega) (by omega) (by omega)
    have e3 : wrap64 ((r : Int) + 1) = ((r + 1 : Nat) : Int) := wrapS _ _ (by omega) (by omega) (by omega)
    refine Ev.step (f := fun k => (spec_l3Xor.f k (mixN [2, 3, 1, 1] t 4) ((ks.take (16 * r + 16)).drop (16 * r))).bind fun u => spec_l3With.l0 k ks T u ((r + 1 : Nat) : Int)) (fun k => ?_) (Ev.bind (ev_addKey ks _ r (by omega) (mixN_length _ _ ht 4 (by decide)) hk) hR)
    simp only [spec_l3With.l3]
    rw [e1, e2, e3, if_neg (by decide), if_pos (by omega), if_pos (by omega), if_pos (by omega), Int.toNat_natCast, Int.toNat_natCast, mixN_full _ _ ht]
  | d + 1, c, h => by
    have e1 : wrap64 (4 * (c : Int)) = ((4 * c : Nat) : Int) := wrapS _ _ (by omega) (by omega) (by omega)
    have e2 : wrap64 (((4 * c : Nat) : Int) + 4) = ((4 * c + 4 : Nat) : Int) := wrapS _ _ (by omega) (by omega) (by omega)
    have e3 : wrap64 ((c : Int) + 1) = ((c + 1 : Nat) : Int) := wrapS _ _ (by omega) (by omega) (by omega)
    have hseg : (t.take (4 * c + 4)).drop (4 * c) = (t.drop (4 * c)).take 4 := by rw [List.drop_take, show 4 * c + 4 - 4 * c = 4 by omega]
    have hsl : ((t.drop (4 * c)).take 4).length = 4 := by simp; omega
    have ih := with_l3 ks T t ht hb r hr hk R hR d (c + 1) (by omega)
    refine Ev.step (f := fun k => (spec_l3Mix.f k ((t.drop (4 * c)).take 4) [2, 3, 1, 1]).bind fun u => if (mixP [2, 3, 1, 1] t c).length + u.length < 140737488355328 then spec_l3With.l3 k ks T (r : Int) t (mixP [2, 3, 1, 1] t c ++ u) ((c + 1 : Nat) : Int) else none) (fun k => ?_) (Ev.bind (ev_mix [2, 3, 1, 1] _ rfl hsl ((hb.drop _).take _)) ?_)
    · simp only [spec_l3With.l3]
      rw [if_pos (by omega), e1, e2, e3, if_pos (by omega), if_pos (by omega), if_pos (by omega), Int.toNat_natCast, Int.toNat_natCast, hseg]
    · refine Ev.congr (fun k => ?_) ih
      rw [if_pos (by rw [mixP_length, mixL_length]; omega)]
      rfl
theorem with_l0 (ks T b : List Int) (hT : T.length = 256) (hTb : Bt T) (hk : 176 ≤ ks.length) : ∀ d n : Nat, n + d = 10 →
    Ev (fun k => spec_l3With.l0 k ks T (encN ks T b n) ((n + 1 : Nat) : Int)) (strOfNums (encN ks T b 10))
  | 0, n, h => by
    have e : n = 10 := by omega
    subst e
    refine Ev.step (f := fun _ => some (strOfNums (encN ks T b 10))) (fun k => ?_) (Ev.now _)
    simp only [spec_l3With.l0]
    rw [if_neg (by omega)]
  | d + 1, n, h => by
    have ih := with_l0 ks T b hT hTb hk d (n + 1) (by omega)
    obtain ⟨s, hs⟩ : ∃ s, s = encN ks T b n := ⟨_, rfl⟩
    have hsl : s.length = 16 := by rw [hs]; exact encN_length _ _ _ _
    have hsb : Bt s := by rw [hs]; exact encN_bt _ _ _ _
    rw [← hs]
    have hnx : encN ks T b (n + 1) = addKL ks (n + 1) (encMid T (n + 1) s) := by rw [hs]; rfl
    rw [hnx] at ih
    obtain ⟨t, ht⟩ : ∃ t, t = shiftL 1 (mapL T s) := ⟨_, rfl⟩
    have htl : t.length = 16 := by rw [ht]; exact shiftL_length _ _
    have htb : Bt t := by rw [ht]; exact shiftL_bt _ _ (mapL_bt _ _ hTb hsb)
    have hend : Ev (fun k => spec_l3With.l1 k ks T s ((n + 1 : Nat) : Int) (shiftL 1 (mapL T s)) 4) (strOfNums (encN ks T b 10)) := by
      rw [← ht]
      by_cases h10 : n + 1 < 10
      · have hm : encMid T (n + 1) s = mixN [2, 3, 1, 1] t 4 := by unfold encMid; rw [if_pos h10, ht]
        rw [hm] at ih
        refine Ev.step (fun k => ?_) (with_l3 ks T t htl htb (n + 1) h10 hk _ ih 4 0 rfl)
        simp only [spec_l3With.l1]
        rw [if_neg (by decide), if_pos (by omega)]
        rfl
      · have hm : encMid T (n + 1) s = t := by unfold encMid; rw [if_neg h10, ht]
        rw [hm] at ih
        have e1 : wrap64 (16 * ((n + 1 : Nat) : Int)) = ((16 * (n + 1) : Nat) : Int) := wrapS _ _ (by omega) (by omega) (by omega)
        have e2 : wrap64 (((16 * (n + 1) : Nat) : Int) + 16) = ((16 * (n + 1) + 16 : Nat) : Int) := wrapS _ _ (by omega) (by omega) (by omega)
        have e3 : wrap64 (((n + 1 : Nat) : Int) + 1) = ((n + 1 + 1 : Nat) : Int) := wrapS _ _ (by omega) (by omega) (by omega)
        refine Ev.step (f := fun k => (spec_l3Xor.f k t ((ks.take (16 * (n + 1) + 16)).drop (16 * (n + 1)))).bind fun u => spec_l3With.l0 k ks T u ((n + 1 + 1 : Nat) : Int)) (fun k => ?_) (Ev.bind (ev_addKey ks t (n + 1) (by omega) htl hk) ih)
        simp only [spec_l3With.l1]
        rw [e1, e2, e3, if_neg (by decide), if_neg (by omega), if_pos (by omega), if_pos (by omega), if_pos (by omega), Int.toNat_natCast, Int.toNat_natCast]
    have hz : (List.replicate 16 (0 : Int)).length = 16 := List.length_replicate
    have h1 := with_l1 ks T s hT hsl hsb (n + 1) _ (List.replicate 16 0) hz hend 4 0 rfl
    refine Ev.step (fun k => ?_) h1
    simp only [spec_l3With.l0]
    rw [if_pos (by omega), if_pos (by decide)]
    rfl
theorem ev_with (ks T : List Int) (s : ByteArray) (hT : T.length = 256) (hTb : Bt T) (hk : 176 ≤ ks.length) (hs : s.size = 16) : Ev (fun k => spec_l3With.f k ks T s) (strOfNums (encN ks T (bytesOf s) 10)) := by
  have h0 := ev_addKey ks (bytesOf s) 0 (by decide) (by rw [bytesOf_length]; exact hs) hk
  have hw : Ev (fun k => spec_l3With.l0 k ks T (addKL ks 0 (bytesOf s)) 1) (strOfNums (encN ks T (bytesOf s) 10)) := with_l0 ks T (bytesOf s) hT hTb hk 10 0 rfl
  refine Ev.congr (fun k => ?_) (Ev.bind (f := fun k u => spec_l3With.l0 k ks T u 1) h0 hw)
  unfold spec_l3With.f
  rw [if_pos (by omega), if_pos (by omega)]
  rfl
/-- The table of what bytes become, as the reference makes it. -/
def TB : List Int := tab 256 fun i => (Sn i : Int)
theorem TB_length : TB.length = 256 := tab_length _ _
theorem TB_bt : Bt TB := Bt.tab fun i h => by have := (Sn_tells i h).2; omega
theorem TB_rd (x : Nat) (h : x < 256) : rd TB (x : Int) = (Sn x : Int) := rd_tab 256 _ x h
theorem ev_TB : Ev (fun k => spec_l3Table.f k) TB := ev_table
theorem map_TB (b : List Int) (hb : Bt b) : mapL TB b = mapL BX b := by
  refine tab_ext 16 _ _ fun i hi => ?_
  obtain ⟨x, hx⟩ := Int.eq_ofNat_of_zero_le (hb.rd i).1
  have hx2 : x < 256 := by have := (hb.rd i).2; omega
  rw [hx, BX_to x hx2, TB_rd x hx2]
theorem encN_congr (ks b T T' : List Int) (h : ∀ c, Bt c → mapL T c = mapL T' c) : ∀ r, encN ks T b r = encN ks T' b r
  | 0 => rfl
  | r + 1 => by
    simp only [encN, encMid]
    rw [encN_congr ks b T T' h r, h _ (encN_bt _ _ _ _)]
theorem ev_withTB (key s : ByteArray) (hk : key.size = 16) (hs : s.size = 16) : Ev (fun k => spec_l3With.f k (KS key) TB s) (encS key s) := by
  have h := ev_with (KS key) TB s TB_length TB_bt (by rw [KS_length key hk]; exact Nat.le_refl _) hs
  rw [encN_congr (KS key) (bytesOf s) TB BX map_TB] at h
  exact h
theorem ev_block (key s : ByteArray) (hk : key.size = 16) (hs : s.size = 16) : Ev (fun k => spec_l3Block.f k key s) (encS key s) := by
  have h1 : Ev (fun k => (spec_l3With.f k (KS key) TB s).bind fun u => some u) (encS key s) := Ev.bind (f := fun _ u => some u) (ev_withTB key s hk hs) (Ev.now _)
  have h2 : Ev (fun k => (spec_l3Table.f k).bind fun t => (spec_l3With.f k (KS key) t s).bind fun u => some u) (encS key s) := Ev.bind (f := fun k t => (spec_l3With.f k (KS key) t s).bind fun u => some u) ev_TB h1
  exact Ev.bind (f := fun k w => (spec_l3Table.f k).bind fun t => (spec_l3With.f k w t s).bind fun u => some u) (ev_keys key hk) h2
end Go.Proofs.YtimokakcdmcnnaaV.Aes
