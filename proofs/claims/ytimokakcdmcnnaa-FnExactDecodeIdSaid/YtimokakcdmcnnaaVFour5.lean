/- Shared lemmas and walks of the AES laws of this seat. -/
import Derived.Test.YtimokakcdmcnnaaVFour3
import Derived.Test.YtimokakcdmcnnaaVFour4
namespace Go.Proofs.YtimokakcdmcnnaaV.Aes
open Go.RowKit Go.Proofs.YtimokakcdmcnnaaV.PrintWords Go.Proofs.YtimokakcdmcnnaaV.PrintLast Go.Proofs.YtimokakcdmcnnaaV.PrintMore Go.Proofs.YtimokakcdmcnnaaV.Mem
set_option linter.unusedVariables false
set_option linter.unusedSimpArgs false

open Gcm
variable {w w' : World} {g gc gb gk cap n : Nat} {key : ByteArray} {l r : List Int}
theorem pass_walk (hk : key.size = 16) (lr : List Int × List Int) (hH : Hv w g gc gb gk cap n key lr.1 lr.2) (h : Nat) (HL : Lr n (h + 1) lr) (hh : h ≤ 9) (hn : n < 256) (p : Nat) (hp : p < 256) :
    Calls Try.prog 111 #[.pointer (some ⟨g, 0, none⟩), .int .i64 (p : Int)] w (HvPost g gc gb gk cap n key (onePass key n p lr).1 (onePass key n p lr).2 w) := by
  by_cases hpo : p % 2 = 1
  · have e : onePass key n p lr = (lr.1, trR (oddB n) (xorL lr.2 (bytesOf (encS key (hbS (strOfNums lr.1) n p))))) := if_pos hpo
    rw [e]
    exact pass_odd hk hH h HL hh hn p hp hpo
  · have e : onePass key n p lr = (trL (oddB n) (xorL lr.1 (bytesOf (encS key (hbS (strOfNums lr.2) n p)))), lr.2) := if_neg hpo
    rw [e]
    exact pass_even hk hH h HL hh hn p hp hpo
theorem text_walk (lr : List Int × List Int) (hH : Hv w g gc gb gk cap n key lr.1 lr.2) (h : Nat) (HL : Lr n (h + 1) lr) (hh : h ≤ 9) : Calls Try.prog 112 #[.pointer (some ⟨g, 0, none⟩)] w fun e w' => e = .returned (.string (strOfNums (joinP n lr))) ∧ Below w.heap.size w w' := by
  by_cases hn : n % 2 = 1
  · exact text_odd hH h HL hh hn
  · exact text_even hH h HL hh (by omega)
theorem Hv.made (W : World) (A B : ByteArray) (hC : Ci W gc gb gk cap BX (KS key)) (hA : A = strOfNums l) (hB : B = strOfNums r) : Hv (W.alloc (.cells #[.pointer (some ⟨gc, 0, none⟩), .int .i64 (n : Int), .string A, .string B] 109 (0, 0))) W.heap.size gc gb gk cap n key l r := by
  subst hA; subst hB
  have h1 := hC.lt
  have h2 := hC.atBox.lt
  have h3 := hC.ltk
  exact ⟨heap_alloc_new _ _, hC.below (below_alloc (Below.refl W.heap.size W) _) h1 h2 h3, by omega, by omega, by omega⟩
theorem Hv.drew (h : Hv w g gc gb gk cap n key l r) : Hv w.drew g gc gb gk cap n key l r := h.below (pw_below_drewN (Below.refl w.heap.size w) 1)
/-- The halves of a text were made: a new block. -/
def HalvesPost (key s : ByteArray) (w : World) (e : Ending) (w' : World) : Prop := ∃ g gc gb gk cap : Nat, e = .returned (.pointer (some ⟨g, 0, none⟩)) ∧ Hv w' g gc gb gk cap s.size key (cutP s).1 (cutP s).2 ∧ w.heap.size ≤ g ∧ Below w.heap.size w w'
theorem ext_bytes (s : ByteArray) (a b : Nat) : s.extract a b = strOfNums (((bytesOf s).take b).drop a) := by
  have e : ∀ s : ByteArray, strOfNums (bytesOf s) = s := fun s => by
    apply ByteArray.ext
    apply Array.ext'
    have e1 : ((fun n : Int => UInt8.ofNat n.toNat) ∘ fun b : UInt8 => (b.toNat : Int)) = id := by funext b; simp
    simp only [strOfNums, bytesOf, List.map_map, e1, List.map_id]
  rw [← Gcm.bytes_ext, e]
set_option maxHeartbeats 4000000 in
set_option maxRecDepth 100000 in
theorem halvesOf_walk (key s : ByteArray) (hk : key.size = 16) (h0 : 5 ≤ s.size) (hs : s.size ≤ 19) (w : World) : Calls Try.prog 110 #[.string key, .string s] w (HalvesPost key s w) := by
  have hc := cipher_made key hk
  have hbl := bytesOf_length s
  obtain ⟨hf, hhf⟩ : ∃ hf, hf = (s.size + 1) / 2 := ⟨_, rfl⟩
  obtain ⟨q, hq⟩ : ∃ q, q = s.size - hf := ⟨_, rfl⟩
  have hw1 : ((s.size : Int) + 1) / 2 = (hf : Int) := by omega
  have hw2 : IntKind.i64.wrap ((s.size : Int) - (hf : Int)) = (q : Int) := by rw [IntKind.wrap_i64]; omega
  have i0 : (0 : Int) ≤ (hf : Int) := by omega
  have i1 : (hf : Int) ≤ (s.size : Int) := by omega
  have i2 : (0 : Int) ≤ (q : Int) := by omega
  have i3 : (q : Int) ≤ (s.size : Int) := by omega
  have x1 := ext_bytes s 0 hf
  rw [List.drop_zero] at x1
  have x2 := ext_bytes s q s.size
  rw [List.take_of_length_le (by omega)] at x2
  have hcut : cutP s = (trL (oddB s.size) ((bytesOf s).take hf), trR (oddB s.size) ((bytesOf s).drop q)) := by rw [hq, hhf]; rfl
  have hl1 : ((bytesOf s).take hf).length = (hf - 1) + 1 := by rw [List.length_take]; omega
  have hl2 : ((bytesOf s).drop q).length = (hf - 1) + 1 := by rw [List.length_drop]; omega
  have b1 : Bt ((bytesOf s).take hf) := (Bt.bytes s).take _
  have b2 : Bt ((bytesOf s).drop q) := (Bt.bytes s).drop _
  have htr := fun (g gc gb gk cap : Nat) (W : World) (H : Hv W g gc gb gk cap s.size key ((bytesOf s).take hf) ((bytesOf s).drop q)) => trim_walk H (hf - 1) hl1 hl2 (by omega) b1 b2
  unfold HalvesPost
  rw [hcut]
  dsimp only
  obtain ⟨la, hla⟩ : ∃ la, la = (bytesOf s).take hf := ⟨_, rfl⟩
  obtain ⟨ra, hra⟩ : ∃ ra, ra = (bytesOf s).drop q := ⟨_, rfl⟩
  rw [← hla] at x1 htr ⊢
  rw [← hra] at x2 htr ⊢
  obtain ⟨lb, hlb⟩ : ∃ lb, lb = trL (oddB s.size) la := ⟨_, rfl⟩
  obtain ⟨rb, hrb⟩ : ∃ rb, rb = trR (oddB s.size) ra := ⟨_, rfl⟩
  rw [← hlb, ← hrb] at htr ⊢
  change Calls Try.prog 110 #[.string key, .string s] w (fun e w' => ∃ g gc gb gk cap : Nat, e = .returned (.pointer (some ⟨g, 0, none⟩)) ∧ Hv w' g gc gb gk cap s.size key lb rb ∧ w.heap.size ≤ g ∧ Below w.heap.size w w')
  obtain ⟨Q, hQ⟩ : ∃ Q : Ending → World → Prop, Q = (fun e w' => ∃ g gc gb gk cap : Nat, e = .returned (.pointer (some ⟨g, 0, none⟩)) ∧ Hv w' g gc gb gk cap s.size key lb rb ∧ w.heap.size ≤ g ∧ Below w.heap.size w w') := ⟨_, rfl⟩
  rw [← hQ]
  have HQ := Lib.hid hQ
  have Hx := Lib.hid (And.intro x1 x2)
  clear hQ hla hra hlb hrb hhf hq hbl hcut x1 x2 hl1 hl2 b1 b2
  have hsm : s.size ≤ 19 := hs
  go_enter Try.func110, Try.ntmps110
  go_wp2
  go_region_held3 (fun W => True) (trivial) (first
    | (go_at_call 54; refine (hc _).mono ?_; rintro e w2 ⟨gc, gb, gk, cap, rfl, hC, _, _, _, hb⟩))
  all_goals (
    have HM : Hv (w2.alloc (.cells #[.pointer (some ⟨gc, 0, none⟩), .int .i64 (s.size : Int), .string (s.extract 0 hf), .string (s.extract q s.size)] 109 (0, 0))) w2.heap.size gc gb gk cap s.size key la ra := Hv.made w2 _ _ hC Hx.out.1 Hx.out.2
    have HMB := below_alloc (Below.refl w2.heap.size w2) (.cells #[.pointer (some ⟨gc, 0, none⟩), .int .i64 (s.size : Int), .string (s.extract 0 hf), .string (s.extract q s.size)] 109 (0, 0))
    have hwl : w.heap.size ≤ w2.heap.size := hb.size
    go_wp2_with (go_at_call 121; refine (htr _ _ _ _ _ _ HM).mono ?_; rintro e w4 ⟨rfl, HF, BF⟩)
    show Q (.returned (.pointer (some ⟨w2.heap.size, 0, none⟩))) w4
    rw [HQ.out]
    have hb' : Below w.heap.size w w2 := (pw_below_drewN (Below.refl w.heap.size w) 1).trans hb
    exact ⟨w2.heap.size, gc, gb, gk, cap, rfl, HF, hwl, (hb'.trans (HMB.mono hwl)).trans ((But.below (BF.mono HMB.size) (Nat.le_refl _)).mono hwl)⟩)
theorem passes_take (key : ByteArray) (n : Nat) (ps : List Nat) (lr : List Int × List Int) (i : Nat) (h : i < ps.length) : passesP key n (ps.take (i + 1)) lr = onePass key n (ps[i]'h) (passesP key n (ps.take i) lr) := by
  unfold passesP
  rw [List.take_succ_eq_append_getElem h, List.foldl_append]
  rfl
theorem Lr.passes {n h : Nat} (hh : h ≤ 16) (key : ByteArray) : ∀ (ps : List Nat) (lr : List Int × List Int), Lr n h lr → Lr n h (passesP key n ps lr)
  | [], _, H => H
  | p :: ps, lr, H => Lr.passes hh key ps _ (H.pass hh key p)
set_option maxHeartbeats 4000000 in
set_option maxRecDepth 100000 in
theorem fourBack_walk (key s : ByteArray) (hk : key.size = 16) (h0 : 5 ≤ s.size) (hs : s.size ≤ 19) (w : World) : Calls Try.prog 75 #[.string key, .string s] w fun e w' => e = .returned (.string (fourS key s [4, 3, 2, 1])) ∧ Below w.heap.size w w' := by
  have hhv := halvesOf_walk key s hk h0 hs
  obtain ⟨h, hhe⟩ : ∃ h, h + 1 = (s.size + 1) / 2 := ⟨(s.size + 1) / 2 - 1, by omega⟩
  have HL0 : Lr s.size (h + 1) (cutP s) := by rw [hhe]; exact Lr.cut s
  have hstep := fun (i : Nat) (hi : i < 4) => passes_take key s.size [4, 3, 2, 1] (cutP s) i hi
  have hLr := fun (i : Nat) => Lr.passes (n := s.size) (h := h + 1) (by omega) key (([4, 3, 2, 1] : List Nat).take i) (cutP s) HL0
  have hget : ∀ (i : Nat) (hi : i < 4), ([4, 3, 2, 1] : List Nat)[i]'hi = 4 - i := by decide
  have hps := fun (g gc gb gk cap i : Nat) (hi : i < 4) (W : World) (H : Hv W g gc gb gk cap s.size key (passesP key s.size (([4, 3, 2, 1] : List Nat).take i) (cutP s)).1 (passesP key s.size (([4, 3, 2, 1] : List Nat).take i) (cutP s)).2) =>
    pass_walk hk (passesP key s.size (([4, 3, 2, 1] : List Nat).take i) (cutP s)) H h (hLr i) (by omega) (by omega) (4 - i) (by omega)
  have htx := fun (g gc gb gk cap : Nat) (W : World) (H : Hv W g gc gb gk cap s.size key (passesP key s.size (([4, 3, 2, 1] : List Nat).take 4) (cutP s)).1 (passesP key s.size (([4, 3, 2, 1] : List Nat).take 4) (cutP s)).2) =>
    text_walk (passesP key s.size (([4, 3, 2, 1] : List Nat).take 4) (cutP s)) H h (hLr 4) (by omega)
  have hfin : strOfNums (joinP s.size (passesP key s.size (([4, 3, 2, 1] : List Nat).take 4) (cutP s))) = fourS key s [4, 3, 2, 1] := rfl
  rw [hfin] at htx
  obtain ⟨R, hR⟩ : ∃ R, R = fourS key s [4, 3, 2, 1] := ⟨_, rfl⟩
  rw [← hR] at htx ⊢
  obtain ⟨F, hF⟩ : ∃ F : Nat → List Int × List Int, F = fun i => passesP key s.size (([4, 3, 2, 1] : List Nat).take i) (cutP s) := ⟨_, rfl⟩
  have hF0 : (cutP s) = F 0 := by rw [hF]; rfl
  have hFs : ∀ i, i < 4 → onePass key s.size (4 - i) (F i) = F (i + 1) := fun i hi => by rw [hF]; dsimp only; rw [hstep i hi, hget i hi]
  have hps' : ∀ (g gc gb gk cap i : Nat) (hi : i < 4) (W : World) (H : Hv W g gc gb gk cap s.size key (F i).1 (F i).2), Calls Try.prog 111 #[.pointer (some ⟨g, 0, none⟩), .int .i64 ((4 - i : Nat) : Int)] W (HvPost g gc gb gk cap s.size key (F (i + 1)).1 (F (i + 1)).2 W) := fun g gc gb gk cap i hi W H => by
    have := hps g gc gb gk cap i hi W (by rw [hF] at H; exact H)
    rw [← hFs i hi, hF]
    exact this
  have htx' : ∀ (g gc gb gk cap : Nat) (W : World) (H : Hv W g gc gb gk cap s.size key (F 4).1 (F 4).2), Calls Try.prog 112 #[.pointer (some ⟨g, 0, none⟩)] W fun e w' => e = .returned (.string R) ∧ Below W.heap.size W w' := fun g gc gb gk cap W H => htx g gc gb gk cap W (by rw [hF] at H; exact H)
  unfold HalvesPost at hhv
  rw [hF0] at hhv
  clear hps htx hfin hR hF hF0 hFs hget hLr hstep HL0 hhe
  go_enter Try.func75, Try.ntmps75
  go_wp2_with (go_at_call 110; refine (hhv _).mono ?_; rintro e w1 ⟨g, gc, gb, gk, cap, rfl, HV, hg, HB⟩)
  go_loopw [6] (fun v wr => ∃ i : Nat, i ≤ 4 ∧ v = .int .i64 ((4 - i : Nat) : Int) ∧ Hv wr g gc gb gk cap s.size key (F i).1 (F i).2 ∧ Below w.heap.size w wr)
    (fun v _ => (intOf v).toNat)
  case atStart => exact ⟨0, by omega, rfl, HV, HB⟩
  case round =>
    clear HV HB
    obtain ⟨i, hi, rfl, HV, HB⟩ := hrel
    by_cases h4 : i < 4
    · have hd : decide (((4 - i : Nat) : Int) ≥ 1) = true := decide_eq_true (by omega)
      have hi4 : ((4 - i : Nat) : Int) ≥ 1 := by omega
      have hi5 : ((4 - i : Nat) : Int) - 1 = ((4 - (i + 1) : Nat) : Int) := by omega
      go_wp2_with (go_at_call 111; refine (hps' g gc gb gk cap i h4 _ HV).mono ?_; rintro e w2 ⟨rfl, HV2, HB2⟩)
      have HB3 : Below w.heap.size w w2 := HB.trans (But.below (HB2.mono HB.size) hg)
      clear HB HB2 HV
      go_roundw
      case rel => exact ⟨i + 1, by omega, by first | go_num | rw [hi5], HV2, HB3⟩
      case measure => simp [intOf]; omega
    · have hi4 : i = 4 := by omega
      subst hi4
      go_wp2_with (go_at_call 112; refine (htx' g gc gb gk cap _ HV).mono ?_; rintro e w2 ⟨rfl, HB2⟩)
      go_ret
      exact ⟨rfl, HB.trans (HB2.mono HB.size)⟩
end Go.Proofs.YtimokakcdmcnnaaV.Aes
