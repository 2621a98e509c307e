/- Shared lemmas and walks of the AES laws of this seat. -/
import Derived.Test.YtimokakcdmcnnaaVFour0
namespace Go.Proofs.YtimokakcdmcnnaaV.Aes
open Go.RowKit Go.Proofs.YtimokakcdmcnnaaV.PrintWords Go.Proofs.YtimokakcdmcnnaaV.PrintLast Go.Proofs.YtimokakcdmcnnaaV.PrintMore Go.Proofs.YtimokakcdmcnnaaV.Mem
set_option linter.unusedVariables false
set_option linter.unusedSimpArgs false

open Go.Proofs.Ytimokakcdmcnnaa.PSpecC Go.Proofs.Ytimokakcdmcnnaa.PImplC
theorem xorL_tab2 (a b : List Int) (n : Nat) (ha : a.length = n) (hb : n ≤ b.length) : (tab n fun i => Go.bits .xor .u8 (rd a (i : Int)) (rd (b.take n) (i : Int))) = Gcm.xorL a b := by
  apply List.ext_getElem
  · rw [tab_length, Gcm.xorL, List.length_zipWith, ha]; omega
  · intro i h1 h2
    rw [tab_length] at h1
    have hb2 : i < b.length := by omega
    simp [Gcm.xorL, tab, rd, List.getD_eq_getElem?_getD, List.getElem?_eq_getElem (by omega : i < a.length), List.getElem?_take, h1, List.getElem?_eq_getElem hb2]
theorem cut_told (s : ByteArray) (h0 : 0 < s.size) (hs : s.size ≤ 1000) : spec_l7Cut.f s = some (cutP s) := by
  have hb := bytesOf_length s
  have e1 : wrap64 (Int.tdiv (wrap64 ((s.size : Int) + 1)) 2) = (((s.size + 1) / 2 : Nat) : Int) := by
    have : wrap64 ((s.size : Int) + 1) = ((s.size + 1 : Nat) : Int) := by unfold wrap64; omega
    rw [this, Int.tdiv_eq_ediv_of_nonneg (by omega)]
    unfold wrap64; omega
  have e2 : wrap64 ((s.size : Int) - (((s.size + 1) / 2 : Nat) : Int)) = ((s.size - (s.size + 1) / 2 : Nat) : Int) := by unfold wrap64; omega
  have e3 : wrap64 ((((s.size + 1) / 2 : Nat) : Int) - 1) = (((s.size + 1) / 2 - 1 : Nat) : Int) := by unfold wrap64; omega
  have z1 : (s.extract 0 ((s.size + 1) / 2)).size = (s.size + 1) / 2 := by rw [ByteArray.size_extract]; omega
  have z2 : (s.extract (s.size - (s.size + 1) / 2) s.size).size = (s.size + 1) / 2 := by rw [ByteArray.size_extract]; omega
  have b1 : bytesOf (s.extract 0 ((s.size + 1) / 2)) = (bytesOf s).take ((s.size + 1) / 2) := by rw [Gcm.bytes_ext, List.drop_zero]
  have b2 : bytesOf (s.extract (s.size - (s.size + 1) / 2) s.size) = (bytesOf s).drop (s.size - (s.size + 1) / 2) := by
    rw [Gcm.bytes_ext, List.take_of_length_le (by omega)]
  unfold spec_l7Cut.f
  rw [e1, e2, e3]
  simp only [Int.toNat_natCast]
  rw [if_pos (by omega), if_pos (by omega), if_pos (by omega), Option.bind_some, if_pos (by omega), if_pos (by omega), if_pos (by omega), Option.bind_some, b1, b2]
  have hl1 : ((bytesOf s).take ((s.size + 1) / 2)).length = (s.size + 1) / 2 := by rw [List.length_take]; omega
  have hl2 : ((bytesOf s).drop (s.size - (s.size + 1) / 2)).length = (s.size + 1) / 2 := by rw [List.length_drop]; omega
  unfold cutP trL trR oddB
  by_cases ho : s.size % 2 = 1
  · rw [decide_eq_true ho, if_pos (by omega), if_pos (by omega), if_pos (by omega), if_pos (by omega), if_pos rfl, if_pos rfl, hl1]
    rfl
  · rw [decide_eq_false ho, if_neg (by omega), if_neg (by decide), if_neg (by decide)]
theorem join_told (n h : Nat) (l r : List Int) (hl : l.length = h) (hr : r.length = h) (h0 : 0 < h) (hh : h ≤ 1000) : spec_l7Join.f l r (n : Int) = some (strOfNums (joinP n (l, r))) := by
  have z1 := str_size l
  have z2 := str_size r
  have e : wrap64 ((l.length : Int) - 1) = ((h - 1 : Nat) : Int) := by unfold wrap64; omega
  have t : Int.tmod (n : Int) 2 = ((n % 2 : Nat) : Int) := by rw [Int.tmod_eq_emod_of_nonneg (by omega)]; omega
  unfold spec_l7Join.f joinP
  rw [e, t]
  simp only [Int.toNat_natCast]
  by_cases ho : n % 2 = 1
  · have z3 := str_size (l.take (h - 1))
    have z4 := str_size (r.drop 1)
    have z5 : (strOfNums [Go.bits .or .u8 (rd l ((h - 1 : Nat) : Int)) (rd r 0)]).size = 1 := str_size _
    rw [List.length_take] at z3
    rw [List.length_drop] at z4
    rw [if_neg (by omega), if_pos (by omega), if_pos (by omega), if_pos (by omega), if_pos (by omega)]
    simp only [Option.bind_some]
    rw [if_pos (by omega), if_pos (by omega), if_pos (by rw [ByteArray.size_append]; omega), if_pos ho, hl, Gcm.str_append, Gcm.str_append]
  · rw [if_pos (by omega), if_pos (by omega), if_neg ho, Gcm.str_append]
theorem passes_loop (key s : ByteArray) (ps : List Nat) (hp : ∀ p ∈ ps, 1 ≤ p ∧ p ≤ 4) (hk : key.size = 16) (h0 : 5 ≤ s.size) (hs : s.size ≤ 19) (h : Nat) (hh : h = (s.size + 1) / 2) : ∀ (d i : Nat) (lr : List Int × List Int), ps.length = i + d → ps.length ≤ 100 → Lr s.size h lr →
    Ev (fun k => spec_l7Passes.l0 k s lr.1 lr.2 (KS key) TB (h : Int) (((s.size : Int) % 2) == 1) (ps.map Int.ofNat) (ps.length : Int) (i : Int)) (strOfNums (joinP s.size (passesP key s.size (ps.drop i) lr)))
  | 0, i, lr, hd, hl, H => by
    have hj := join_told s.size h lr.1 lr.2 H.l1 H.l2 (by omega) (by omega)
    refine Ev.step (f := fun _ => some (strOfNums (joinP s.size lr))) (fun k => ?_) ?_
    · simp only [spec_l7Passes.l0]
      rw [if_neg (by omega), hj]
      rfl
    · rw [List.drop_eq_nil_of_le (by omega)]
      exact Ev.now _
  | d + 1, i, lr, hd, hl, H => by
    have c1 : (i : Int) < (ps.length : Int) := by omega
    have c2 : (0 : Int) ≤ (i : Int) := by omega
    have e1 : wrap64 ((i : Int) + 1) = ((i + 1 : Nat) : Int) := by unfold wrap64; omega
    obtain ⟨p, hp1⟩ : ∃ p, ps[i]? = some p := ⟨ps[i]'(by omega), List.getElem?_eq_getElem (by omega)⟩
    have hpm : p ∈ ps := List.mem_of_getElem? hp1
    have hp2 := hp p hpm
    have hdr : ps.drop i = p :: ps.drop (i + 1) := by
      rw [List.drop_eq_getElem_cons (by omega)]
      congr 1
      rw [List.getElem?_eq_getElem (by omega)] at hp1
      exact Option.some.inj hp1
    have t : Int.tmod (p : Int) 2 = ((p % 2 : Nat) : Int) := by rw [Int.tmod_eq_emod_of_nonneg (by omega)]; omega
    have hrd : rd (ps.map Int.ofNat) (i : Int) = (p : Int) := by simp [rd, List.getD_eq_getElem?_getD, hp1]
    have hlen : (ps.map Int.ofNat).length = ps.length := List.length_map _
    have ih := passes_loop key s ps hp hk h0 hs h hh d (i + 1) (onePass key s.size p lr) (by omega) hl (H.pass (by omega) key p)
    have c3 : (i : Int) < ((ps.map Int.ofNat).length : Int) := by rw [hlen]; exact c1
    rw [hdr]
    show Ev _ (strOfNums (joinP s.size (passesP key s.size (ps.drop (i + 1)) (onePass key s.size p lr))))
    obtain ⟨R, hR⟩ : ∃ R, R = strOfNums (joinP s.size (passesP key s.size (ps.drop (i + 1)) (onePass key s.size p lr))) := ⟨_, rfl⟩
    rw [← hR] at ih ⊢
    clear hR
    have hob : oddB s.size = (((s.size : Int) % 2) == 1) := by
      unfold oddB
      by_cases ho : s.size % 2 = 1
      · rw [decide_eq_true ho, (by omega : (s.size : Int) % 2 = 1)]; rfl
      · rw [decide_eq_false ho, (by omega : (s.size : Int) % 2 = 0)]; rfl
    by_cases hpo : p % 2 = 1
    · have c4 : ((p % 2 : Nat) : Int) = 1 := by omega
      have hsz : (strOfNums lr.1).size ≤ 10 := by rw [str_size, H.l1]; omega
      obtain ⟨_, hb, hbs⟩ := hb_told (strOfNums lr.1) s.size p hsz (by omega) (by omega)
      have hone : onePass key s.size p lr = (lr.1, trR (oddB s.size) (Gcm.xorL lr.2 (bytesOf (encS key (hbS (strOfNums lr.1) s.size p))))) := if_pos hpo
      rw [hone] at ih
      obtain ⟨b, hbe⟩ : ∃ b, b = hbS (strOfNums lr.1) s.size p := ⟨_, rfl⟩
      rw [← hbe] at hb hbs ih
      clear hbe hone
      have hE : (bytesOf (encS key b)).length = 16 := by rw [bytesOf_length]; exact encS_size _ _
      have hEs := encS_size key b
      have hx := ev_xor lr.2 ((bytesOf (encS key b)).take h) h H.l2 (by rw [List.length_take]; omega) (by omega)
      rw [xorL_tab2 lr.2 (bytesOf (encS key b)) h H.l2 (by omega)] at hx
      have hXl : (Gcm.xorL lr.2 (bytesOf (encS key b))).length = h := by rw [xorL_len _ _ (by rw [H.l2]; omega)]; exact H.l2
      obtain ⟨X, hXe⟩ : ∃ X, X = Gcm.xorL lr.2 (bytesOf (encS key b)) := ⟨_, rfl⟩
      rw [← hXe] at hx hXl ih
      clear hXe
      dsimp only at ih
      rw [hob] at ih
      have h2 : Ev (fun k => if (((s.size : Int) % 2) == 1) = true then (if 0 < (X.length : Int) then (spec_l7Passes.l0 k s lr.1 (X.set (0 : Int).toNat (Go.bits .and .u8 (rd X 0) 15)) (KS key) TB (h : Int) (((s.size : Int) % 2) == 1) (ps.map Int.ofNat) (ps.length : Int) (wrap64 ((i : Int) + 1))) else none) else (spec_l7Passes.l0 k s lr.1 X (KS key) TB (h : Int) (((s.size : Int) % 2) == 1) (ps.map Int.ofNat) (ps.length : Int) (wrap64 ((i : Int) + 1)))) R := by
        rw [e1]
        refine Ev.congr (fun k => ?_) ih
        unfold trR
        cases (((s.size : Int) % 2) == 1) with
        | true => rw [if_pos rfl, if_pos (by omega), if_pos rfl]; rfl
        | false => rw [if_neg (by decide), if_neg (by decide)]
      have h3 := Ev.bind (f := fun k X => if (((s.size : Int) % 2) == 1) = true then (if 0 < (X.length : Int) then (spec_l7Passes.l0 k s lr.1 (X.set (0 : Int).toNat (Go.bits .and .u8 (rd X 0) 15)) (KS key) TB (h : Int) (((s.size : Int) % 2) == 1) (ps.map Int.ofNat) (ps.length : Int) (wrap64 ((i : Int) + 1))) else none) else (spec_l7Passes.l0 k s lr.1 X (KS key) TB (h : Int) (((s.size : Int) % 2) == 1) (ps.map Int.ofNat) (ps.length : Int) (wrap64 ((i : Int) + 1)))) hx h2
      have h4 := Ev.bind (f := fun k (t : ByteArray) => if t.size ≤ 9223372036854775807 then ((some (bytesOf t : List Int)).bind fun y => (if 0 ≤ (h : Int) then (if (h : Int) ≤ (y.length : Int) then ((spec_l3Xor.f k lr.2 (y.take ((h : Int)).toNat)).bind fun X => if (((s.size : Int) % 2) == 1) = true then (if 0 < (X.length : Int) then (spec_l7Passes.l0 k s lr.1 (X.set (0 : Int).toNat (Go.bits .and .u8 (rd X 0) 15)) (KS key) TB (h : Int) (((s.size : Int) % 2) == 1) (ps.map Int.ofNat) (ps.length : Int) (wrap64 ((i : Int) + 1))) else none) else (spec_l7Passes.l0 k s lr.1 X (KS key) TB (h : Int) (((s.size : Int) % 2) == 1) (ps.map Int.ofNat) (ps.length : Int) (wrap64 ((i : Int) + 1)))) else none) else none)) else none)
        (ev_withTB key b hk hbs) (Ev.congr (fun k => by rw [if_pos (by omega), Option.bind_some, if_pos (by omega), if_pos (by omega), Int.toNat_natCast]) h3)
      refine Ev.step (fun k => ?_) (Ev.bind (f := fun k t => (spec_l3With.f k (KS key) TB t).bind fun t => if t.size ≤ 9223372036854775807 then ((some (bytesOf t : List Int)).bind fun y => (if 0 ≤ (h : Int) then (if (h : Int) ≤ (y.length : Int) then ((spec_l3Xor.f k lr.2 (y.take ((h : Int)).toNat)).bind fun X => if (((s.size : Int) % 2) == 1) = true then (if 0 < (X.length : Int) then (spec_l7Passes.l0 k s lr.1 (X.set (0 : Int).toNat (Go.bits .and .u8 (rd X 0) 15)) (KS key) TB (h : Int) (((s.size : Int) % 2) == 1) (ps.map Int.ofNat) (ps.length : Int) (wrap64 ((i : Int) + 1))) else none) else (spec_l7Passes.l0 k s lr.1 X (KS key) TB (h : Int) (((s.size : Int) % 2) == 1) (ps.map Int.ofNat) (ps.length : Int) (wrap64 ((i : Int) + 1)))) else none) else none)) else none) (⟨9, fun k hk => hb k (by omega)⟩ : Ev (fun k => spec_l7Half.f k (strOfNums lr.1) (s.size : Int) (p : Int)) b) h4)
      simp only [spec_l7Passes.l0]
      rw [if_pos c1, if_pos c2, if_pos c3, hrd, t, if_pos c4]
    · have c4 : ¬ ((p % 2 : Nat) : Int) = 1 := by omega
      have hsz : (strOfNums lr.2).size ≤ 10 := by rw [str_size, H.l2]; omega
      obtain ⟨_, hb, hbs⟩ := hb_told (strOfNums lr.2) s.size p hsz (by omega) (by omega)
      have hone : onePass key s.size p lr = (trL (oddB s.size) (Gcm.xorL lr.1 (bytesOf (encS key (hbS (strOfNums lr.2) s.size p)))), lr.2) := if_neg hpo
      rw [hone] at ih
      obtain ⟨b, hbe⟩ : ∃ b, b = hbS (strOfNums lr.2) s.size p := ⟨_, rfl⟩
      rw [← hbe] at hb hbs ih
      clear hbe hone
      have hE : (bytesOf (encS key b)).length = 16 := by rw [bytesOf_length]; exact encS_size _ _
      have hEs := encS_size key b
      have hx := ev_xor lr.1 ((bytesOf (encS key b)).take h) h H.l1 (by rw [List.length_take]; omega) (by omega)
      rw [xorL_tab2 lr.1 (bytesOf (encS key b)) h H.l1 (by omega)] at hx
      have hXl : (Gcm.xorL lr.1 (bytesOf (encS key b))).length = h := by rw [xorL_len _ _ (by rw [H.l1]; omega)]; exact H.l1
      obtain ⟨X, hXe⟩ : ∃ X, X = Gcm.xorL lr.1 (bytesOf (encS key b)) := ⟨_, rfl⟩
      rw [← hXe] at hx hXl ih
      clear hXe
      dsimp only at ih
      rw [hob] at ih
      have h2 : Ev (fun k => if (((s.size : Int) % 2) == 1) = true then (if 0 ≤ (wrap64 ((h : Int) - 1)) then (if (wrap64 ((h : Int) - 1)) < (X.length : Int) then (spec_l7Passes.l0 k s (X.set ((wrap64 ((h : Int) - 1)) : Int).toNat (Go.bits .and .u8 (rd X (wrap64 ((h : Int) - 1))) 240)) lr.2 (KS key) TB (h : Int) (((s.size : Int) % 2) == 1) (ps.map Int.ofNat) (ps.length : Int) (wrap64 ((i : Int) + 1))) else none) else none) else (spec_l7Passes.l0 k s X lr.2 (KS key) TB (h : Int) (((s.size : Int) % 2) == 1) (ps.map Int.ofNat) (ps.length : Int) (wrap64 ((i : Int) + 1)))) R := by
        rw [e1]
        have eh : wrap64 ((h : Int) - 1) = ((h - 1 : Nat) : Int) := by unfold wrap64; omega
        refine Ev.congr (fun k => ?_) ih
        unfold trL
        cases (((s.size : Int) % 2) == 1) with
        | true => rw [if_pos rfl, eh, if_pos (by omega), if_pos (by omega), if_pos rfl, hXl, Int.toNat_natCast]
        | false => rw [if_neg (by decide), if_neg (by decide)]
      have h3 := Ev.bind (f := fun k X => if (((s.size : Int) % 2) == 1) = true then (if 0 ≤ (wrap64 ((h : Int) - 1)) then (if (wrap64 ((h : Int) - 1)) < (X.length : Int) then (spec_l7Passes.l0 k s (X.set ((wrap64 ((h : Int) - 1)) : Int).toNat (Go.bits .and .u8 (rd X (wrap64 ((h : Int) - 1))) 240)) lr.2 (KS key) TB (h : Int) (((s.size : Int) % 2) == 1) (ps.map Int.ofNat) (ps.length : Int) (wrap64 ((i : Int) + 1))) else none) else none) else (spec_l7Passes.l0 k s X lr.2 (KS key) TB (h : Int) (((s.size : Int) % 2) == 1) (ps.map Int.ofNat) (ps.length : Int) (wrap64 ((i : Int) + 1)))) hx h2
      have h4 := Ev.bind (f := fun k (t : ByteArray) => if t.size ≤ 9223372036854775807 then ((some (bytesOf t : List Int)).bind fun y => (if 0 ≤ (h : Int) then (if (h : Int) ≤ (y.length : Int) then ((spec_l3Xor.f k lr.1 (y.take ((h : Int)).toNat)).bind fun X => if (((s.size : Int) % 2) == 1) = true then (if 0 ≤ (wrap64 ((h : Int) - 1)) then (if (wrap64 ((h : Int) - 1)) < (X.length : Int) then (spec_l7Passes.l0 k s (X.set ((wrap64 ((h : Int) - 1)) : Int).toNat (Go.bits .and .u8 (rd X (wrap64 ((h : Int) - 1))) 240)) lr.2 (KS key) TB (h : Int) (((s.size : Int) % 2) == 1) (ps.map Int.ofNat) (ps.length : Int) (wrap64 ((i : Int) + 1))) else none) else none) else (spec_l7Passes.l0 k s X lr.2 (KS key) TB (h : Int) (((s.size : Int) % 2) == 1) (ps.map Int.ofNat) (ps.length : Int) (wrap64 ((i : Int) + 1)))) else none) else none)) else none)
        (ev_withTB key b hk hbs) (Ev.congr (fun k => by rw [if_pos (by omega), Option.bind_some, if_pos (by omega), if_pos (by omega), Int.toNat_natCast]) h3)
      refine Ev.step (fun k => ?_) (Ev.bind (f := fun k t => (spec_l3With.f k (KS key) TB t).bind fun t => if t.size ≤ 9223372036854775807 then ((some (bytesOf t : List Int)).bind fun y => (if 0 ≤ (h : Int) then (if (h : Int) ≤ (y.length : Int) then ((spec_l3Xor.f k lr.1 (y.take ((h : Int)).toNat)).bind fun X => if (((s.size : Int) % 2) == 1) = true then (if 0 ≤ (wrap64 ((h : Int) - 1)) then (if (wrap64 ((h : Int) - 1)) < (X.length : Int) then (spec_l7Passes.l0 k s (X.set ((wrap64 ((h : Int) - 1)) : Int).toNat (Go.bits .and .u8 (rd X (wrap64 ((h : Int) - 1))) 240)) lr.2 (KS key) TB (h : Int) (((s.size : Int) % 2) == 1) (ps.map Int.ofNat) (ps.length : Int) (wrap64 ((i : Int) + 1))) else none) else none) else (spec_l7Passes.l0 k s X lr.2 (KS key) TB (h : Int) (((s.size : Int) % 2) == 1) (ps.map Int.ofNat) (ps.length : Int) (wrap64 ((i : Int) + 1)))) else none) else none)) else none) (⟨9, fun k hk => hb k (by omega)⟩ : Ev (fun k => spec_l7Half.f k (strOfNums lr.2) (s.size : Int) (p : Int)) b) h4)
      simp only [spec_l7Passes.l0]
      rw [if_pos c1, if_pos c2, if_pos c3, hrd, t, if_neg c4]
theorem ev_passes (key s : ByteArray) (ps : List Nat) (hp : ∀ p ∈ ps, 1 ≤ p ∧ p ≤ 4) (hl : ps.length ≤ 100) (hk : key.size = 16) (h0 : 5 ≤ s.size) (hs : s.size ≤ 19) : Ev (fun k => spec_l7Passes.f k key s (ps.map Int.ofNat)) (fourS key s ps) := by
  have H := Lr.cut s
  have h1 := passes_loop key s ps hp hk h0 hs _ rfl ps.length 0 (cutP s) (by omega) hl H
  rw [List.drop_zero] at h1
  have hlen : (ps.map Int.ofNat).length = ps.length := List.length_map _
  have h2 := Ev.bind (f := fun k T => spec_l7Passes.l0 k s (cutP s).1 (cutP s).2 (KS key) T ((cutP s).1.length : Int) (((s.size : Int) % 2) == 1) (ps.map Int.ofNat) ((ps.map Int.ofNat).length : Int) 0) ev_TB (by rw [H.l1, hlen]; exact h1)
  have h3 := Ev.bind (f := fun k K => (spec_l3Table.f k).bind fun T => spec_l7Passes.l0 k s (cutP s).1 (cutP s).2 K T ((cutP s).1.length : Int) (((s.size : Int) % 2) == 1) (ps.map Int.ofNat) ((ps.map Int.ofNat).length : Int) 0) (ev_keys key hk) h2
  refine Ev.congr (fun k => ?_) h3
  unfold spec_l7Passes.f
  rw [cut_told s (by omega) (by omega)]
  rfl
end Go.Proofs.YtimokakcdmcnnaaV.Aes
