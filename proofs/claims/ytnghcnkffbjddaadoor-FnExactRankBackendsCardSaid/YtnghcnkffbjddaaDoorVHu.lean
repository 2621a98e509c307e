/- The reference's hasher: (*l4H).sum, walked: what the plain hash tells. Conditions: the hasher holds the words; the text is short. -/
import Derived.Test.YtnghcnkffbjddaaDoorVHw
import Derived.StillTailTactics
namespace Go.Proofs.YtnghcnkffbjddaaDoorV.Aes
open Go.RowKit Go.Proofs.YtnghcnkffbjddaaDoorV.PrintWords Go.Proofs.YtnghcnkffbjddaaDoorV.PrintLast Go.Proofs.YtnghcnkffbjddaaDoorV.PrintMore Go.Proofs.YtnghcnkffbjddaaDoorV.Mem
set_option linter.unusedVariables false
set_option linter.unusedSimpArgs false

/-- A hasher: its block holds the rounds' words and the first state. -/
structure Hok (w : World) (hb : Nat) : Prop where
  ex : ∃ gw cw gf cf t, w.heap[hb]? = some (.cells #[.slice (some ⟨gw, 0, none⟩) 64 cw, .slice (some ⟨gf, 0, none⟩) 8 cf] t (0, 0)) ∧ 64 ≤ cw ∧ 8 ≤ cf ∧ Wat w gw 0 KW ∧ Wat w gf 0 HW
theorem Hok.lt {w : World} {hb : Nat} (h : Hok w hb) : hb < w.heap.size := by
  obtain ⟨gw, cw, gf, cf, t, h1, _⟩ := h.ex
  exact (Array.getElem?_eq_some_iff.mp h1).1
theorem Hok.below {w w' : World} {hb : Nat} (h : Hok w hb) (b : Below w.heap.size w w') : Hok w' hb := by
  obtain ⟨gw, cw, gf, cf, t, h1, hw, hf, h2, h3⟩ := h.ex
  exact ⟨gw, cw, gf, cf, t, by rw [b.block hb (Array.getElem?_eq_some_iff.mp h1).1]; exact h1, hw, hf, h2.below b h2.1, h3.below b h3.1⟩
theorem R_at {w : World} {B : Nat} {v : Value} {xs : List Int} (h : Kd.R (Kd.int .u32) 145 w B (fun _ => True) v xs) (hl : 0 < xs.length) : ∃ g cap, v = .slice (some ⟨g, 0, none⟩) xs.length cap ∧ Wat w g 0 xs := by
  obtain ⟨inner, ho, _⟩ := h.2
  obtain ⟨g, cap, rfl, _, _⟩ := ho.form hl
  obtain ⟨_, _, hC⟩ := Kd.R_reads' h
  obtain ⟨g', o', h1, h2, h3⟩ := C_cells hC hl
  injection h1 with h1
  injection h1 with h1 h4 _
  subst h1; subst h4
  exact ⟨g, cap, rfl, h2, h3⟩
theorem C_Wat {w : World} {g o : Nat} {xs : List Int} (h : Wat w g o xs) (hl : xs.length ≤ 1000) : Kd.C (Kd.int .u32) w (some ⟨g, o, none⟩) xs.length xs := by
  refine ⟨rfl, by omega, fun _ => ⟨_, rfl, fun j p hj => ⟨[.int .u32 p], rfl, rfl, fun i u hu => ?_⟩⟩⟩
  have hjl := (List.getElem?_eq_some_iff.mp hj).1
  have hj2 := (List.getElem?_eq_some_iff.mp hj).2
  cases i with
  | zero =>
    simp at hu
    subst hu
    have := h.2 j hjl
    rw [show j * (Kd.int IntKind.u32).sz + 0 = j from Nat.mul_one j, Addr.add_mid, this]
    simp [rd, List.getElem?_eq_getElem hjl, hj2]
  | succ i => simp at hu
theorem round_at (st : List Int) (b : ByteArray) (hst : st.length = 8) (hb : b.size = 64) (gs os cs gk ok ck : Nat) (hcs : 8 ≤ cs) (hck : 64 ≤ ck) (w : World) (hS : Wat w gs os st) (hK : Wat w gk ok KW) :
    Calls Tryd.prog 147 #[.slice (some ⟨gs, os, none⟩) 8 cs, .slice (some ⟨gk, ok, none⟩) 64 ck, .string b] w fun e w' => ∃ g cap, e = .returned (.slice (some ⟨g, 0, none⟩) 8 cap) ∧ 8 ≤ cap ∧ Wat w' g 0 (hashL st KW b) ∧ Below w.heap.size w w' := by
  obtain ⟨k, hk⟩ := (ev_round st KW b hst rfl hb).rounds
  have h := Go.Proofs.YtnghcnkffbjddaaDoor.PSpecR.spec_l4Round.calls k (some ⟨gs, os, none⟩) cs st (some ⟨gk, ok, none⟩) ck KW b _ w (C_Wat hS (by omega)) (by omega) (C_Wat hK (by decide)) hck hk
  rw [hst] at h
  refine h.mono ?_
  rintro e w' ⟨v, rfl, hR, hB⟩
  have hl := hashL_length st KW b
  obtain ⟨g, cap, rfl, hW⟩ := R_at hR (by omega)
  obtain ⟨_, hc, _⟩ := Kd.R_reads' hR
  rw [hl] at hc
  exact ⟨g, cap, by rw [hl], hc, hW, hB⟩
theorem Hok.cells {w : World} {hb : Nat} (h : Hok w hb) : ∃ gw cw gf cf, w.cell? ⟨hb, 0, none⟩ = some (.slice (some ⟨gw, 0, none⟩) 64 cw) ∧ w.cell? ⟨hb, 1, none⟩ = some (.slice (some ⟨gf, 0, none⟩) 8 cf) ∧ 64 ≤ cw ∧ 8 ≤ cf ∧ Wat w gw 0 KW ∧ Wat w gf 0 HW := by
  obtain ⟨gw, cw, gf, cf, t, h1, hw, hf, h2, h3⟩ := h.ex
  exact ⟨gw, cw, gf, cf, by simp [World.cell?, h1], by simp [World.cell?, h1], hw, hf, h2, h3⟩
theorem fixed_walk (x : Int) (j : Nat) (hj : j ≤ 9) (w : World) : Calls Tryd.prog 146 #[.int .i64 x, .int .i64 (j : Int)] w fun e w' => e = .returned (.string (strOfNums (be j x))) ∧ Below w.heap.size w w' := by
  obtain ⟨k, hk⟩ := (ev_fixed j x hj).rounds
  exact Go.Proofs.YtnghcnkffbjddaaDoor.PSpecR.spec_l1Fixed.calls k x (j : Int) _ w hk
theorem zeroB_succ (m : Nat) : zeroB m ++ ⟨#[0]⟩ = zeroB (m + 1) := by
  have hr : ∀ m, Lib.repeatL [0] m = List.replicate m 0 := by
    intro m
    induction m with
    | zero => rfl
    | succ m ih => rw [Lib.repeatL, ih]; rfl
  apply ByteArray.ext
  apply Array.toList_inj.mp
  unfold zeroB
  rw [ByteArray.data_append, Array.toList_append, hr, hr, List.replicate_succ']
def szOf : Value → Nat
  | .string t => t.size
  | _ => 0
set_option maxHeartbeats 4000000 in
set_option maxRecDepth 100000 in
theorem sum_walk (s : ByteArray) (hs : s.size ≤ 1000000) (hb : Nat) (w : World) (hH : Hok w hb) :
    Calls Tryd.prog 109 #[.pointer (some ⟨hb, 0, none⟩), .string s] w fun e w' => e = .returned (.string (shaS s)) ∧ Below w.heap.size w w' := by
  have hps := padL_size s
  have hpb := padL_blocks s
  have hm64 : padN s.size ≤ 63 := by unfold padN; omega
  have hbe := fixed_walk (8 * (s.size : Int)) 8 (by decide)
  have hb8 : (strOfNums (be 8 (8 * (s.size : Int)))).size = 8 := by rw [str_size, be_length]
  have hmod : (s.size + 1 + padN s.size) % 64 = 56 := by unfold padN; omega
  have hmin : ∀ i, i < padN s.size → (s.size + 1 + i) % 64 ≠ 56 := by unfold padN; omega
  have hpd : s ++ ⟨#[128]⟩ ++ zeroB (padN s.size) ++ strOfNums (be 8 (8 * (s.size : Int))) = padL s := by unfold padL; rw [ByteArray.append_assoc]
  have hsh : shaS s = catN (shaSt (padL s) ((padL s).size / 64)) n8 := rfl
  obtain ⟨m, hm⟩ : ∃ m, m = padN s.size := ⟨_, rfl⟩
  rw [← hm] at hps hm64 hmod hmin hpd
  obtain ⟨b8, hb8d⟩ : ∃ b8, b8 = strOfNums (be 8 (8 * (s.size : Int))) := ⟨_, rfl⟩
  rw [← hb8d] at hbe hpd hb8
  obtain ⟨p, hp⟩ : ∃ p, p = padL s := ⟨_, rfl⟩
  rw [← hp] at hps hpb hpd hsh
  have Hpd := Lib.hid hpd
  have Hsh := Lib.hid hsh
  have Hmod := Lib.hid hmod
  have Hmin := Lib.hid hmin
  have hb81 : b8.size ≤ 8 := by omega
  obtain ⟨gw, cw, gf, cf, c0, c1, hcw, hcf, hK, hF⟩ := hH.cells
  obtain ⟨nb, hnb⟩ : ∃ nb, nb = p.size / 64 := ⟨_, rfl⟩
  rw [← hnb] at hpb
  have Hnb := Lib.hid hnb
  have hpb1 : p.size ≤ 64 * nb ∧ 64 * nb ≤ p.size := by omega
  have hpb2 : p.size ≤ 1000100 := by omega
  have hhb := hH.lt
  clear hm hb8d hp hpd hsh hb8 hmod hmin hpb hps hnb
  go_enter Tryd.func109, Tryd.ntmps109
  go_wp2
  go_loop [1] (fun v => ∃ i : Nat, i ≤ m ∧ v = .string (s ++ ⟨#[128]⟩ ++ zeroB i)) (fun v => 1000200 - szOf v)
  case atStart => exact ⟨0, Nat.zero_le _, by rw [show zeroB 0 = ByteArray.empty from rfl, ByteArray.append_empty]⟩
  case round =>
    obtain ⟨i, him, rfl⟩ := hrel
    have hTs : (s ++ ⟨#[128]⟩ ++ zeroB i).size = s.size + 1 + i := by rw [ByteArray.size_append, ByteArray.size_append, zeroB_size]; rfl
    have hTn : s ++ ⟨#[128]⟩ ++ zeroB i ++ ⟨#[0]⟩ = s ++ ⟨#[128]⟩ ++ zeroB (i + 1) := by rw [ByteArray.append_assoc, zeroB_succ]
    by_cases him2 : i < m
    · obtain ⟨T, hT⟩ : ∃ T, T = s ++ ⟨#[128]⟩ ++ zeroB i := ⟨_, rfl⟩
      rw [← hT] at hTs hTn ⊢
      have hne : ((T.size : Int) % 64 != 56) = true := by
        have := Hmin.out i him2
        have : ¬ (T.size : Int) % 64 = 56 := by omega
        simpa using this
      have hT1 : T.size ≤ 1000100 := by omega
      have HTn := Lib.hid hTn
      clear hTn hT hTs
      go_wp2
      have hsz : (T ++ ⟨#[0]⟩).size = T.size + 1 := by rw [ByteArray.size_append]; rfl
      exact ⟨⟨i + 1, by omega, by rw [HTn.out]⟩, by simp only [szOf]; omega⟩
    · obtain rfl : i = m := by omega
      have hpd := Hpd.out
      clear hTn him him2
      obtain ⟨T, hT⟩ : ∃ T, T = s ++ ⟨#[128]⟩ ++ zeroB i := ⟨_, rfl⟩
      rw [← hT] at hTs hpd ⊢
      have hne : ((T.size : Int) % 64 != 56) = false := by
        have := Hmod.out
        have : (T.size : Int) % 64 = 56 := by omega
        rw [this]; rfl
      have hT1 : T.size ≤ 1000100 := by omega
      have Hpd2 := Lib.hid hpd
      clear hT hTs hpd
      have d1 := fun (w1 : World) (hB : Below w.heap.size w w1) => (hH.below hB).cells
      go_wp2_with (go_at_call 146; refine (hbe _).mono ?_; rintro e w1 ⟨rfl, hB1⟩; obtain ⟨gw1, cw1, gf1, cf1, e0, e1, hcw1, hcf1, hK1, hF1⟩ := d1 _ hB1)
      have hpd := Hpd2.out
      rw [hpd]
      clear hpd
      have hH1 := hH.below hB1
      clear hH d1 hbe c0 c1 hK hF hhb hne
      go_loopw [6, 7] (fun u y wx => ∃ (j g cap : Nat), j ≤ nb ∧ 8 ≤ cap ∧ y = .int .i64 ((64 * j : Nat) : Int) ∧ u = .slice (some ⟨g, 0, none⟩) 8 cap ∧ Wat wx g 0 (shaSt p j) ∧ Hok wx hb ∧ Below w.heap.size w wx) (fun _ y _ => 1000200 - (intOf y).toNat)
      case atStart => exact ⟨0, gf1, cf1, Nat.zero_le _, hcf1, rfl, rfl, hF1, hH1, hB1⟩
      case round =>
        clear hH1 hF1 hK1 hB1 e0 e1
        obtain ⟨j, g, cap, hj, hcap, rfl, rfl, hS, hH, hB⟩ := hrel
        obtain ⟨J, hJ⟩ : ∃ J, J = 64 * j := ⟨_, rfl⟩
        rw [← hJ]
        by_cases hjn : j < nb
        · have hJ1 : J + 64 ≤ p.size := by omega
          have hJi : (J : Int) < (p.size : Int) := by omega
          have hJ2 : (J : Int) + 64 ≤ (p.size : Int) := by omega
          have hex : (p.extract J (J + 64)).size = 64 := by rw [ByteArray.size_extract]; omega
          have hhf := fun (gk ck : Nat) (hck : 64 ≤ ck) (w1 : World) (h1 : Wat w1 g 0 (shaSt p j)) (h2 : Wat w1 gk 0 KW) => round_at (shaSt p j) (p.extract J (J + 64)) (shaSt_length p j) hex g 0 cap gk 0 ck hcap hck w1 h1 h2
          have hst : shaSt p (j + 1) = hashL (shaSt p j) KW (p.extract J (J + 64)) := by rw [hJ]; rfl
          rw [← hst] at hhf
          have hsl := slice_str p J (J + 64) (J : Int) ((J : Int) + 64) rfl (by omega) (by omega) hJ1
          have HJ := Lib.hid hJ
          clear hst hJ hex
          obtain ⟨gw2, cw2, gf2, cf2, e0, e1, hcw2, hcf2, hK2, hF2⟩ := hH.cells
          have hround := hhf gw2 cw2 hcw2 wr.drew (show Wat wr.drew g 0 _ from hS) (show Wat wr.drew gw2 0 _ from hK2)
          have hBd := below_drewN' hB 1
          change Below _ _ wr.drew at hBd
          have hHd : Hok wr.drew hb := ⟨hH.ex⟩
          have hw64 : IntKind.i64.wrap ((J : Int) + 64) = (J : Int) + 64 := IntWalk.i64_in _ (by omega)
          clear hhf hS hK2 hF2 e1 hH hB
          go_wp2
          go_still_tail 10, (by kernel_rfl)
          change wpList _ _ _ _ _ wr.drew
          go_wp2_with (go_at_call 147; refine hround.mono ?_; rintro e w2 ⟨g2, c2, rfl, hc2, hS2, hB2⟩)
          have hH2 := hHd.below hB2
          have hB3 := hBd.trans (hB2.mono hBd.size)
          clear hB2 hround hHd hBd
          go_wp2
          exact ⟨⟨j + 1, g2, c2, by omega, hc2, by have h := HJ.out; rw [show ((64 * (j + 1) : Nat) : Int) = (J : Int) + 64 by omega], rfl, hS2, hH2, hB3⟩, by simp [intOf]; omega⟩
        · have hJp : ¬ (J : Int) < (p.size : Int) := by omega
          obtain rfl : j = nb := by omega
          clear hj hjn hJ
          have hlen := shaSt_length p j
          have hrg := shaSt_range p j
          obtain ⟨st, hst⟩ : ∃ st, st = shaSt p j := ⟨_, rfl⟩
          rw [← hst] at hS hlen hrg
          have hfin : shaS s = catN st n8 := by rw [Hsh.out, ← Hnb.out, hst]
          have Hfin := Lib.hid hfin
          have Hrg := Lib.hid hrg
          have Hlen := Lib.hid hlen
          clear hst hfin hrg hlen hpb1
          go_wp2
          go_loopw [8, 49] (fun o y wx => ∃ k : Nat, k ≤ 8 ∧ y = .int .i64 (k : Int) ∧ o = .string (catN st k) ∧ Wat wx g 0 st ∧ Below w.heap.size w wx) (fun _ y _ => 8 - (intOf y).toNat)
          case atStart => exact ⟨0, by omega, rfl, rfl, hS, hB⟩
          case round =>
            clear hS hB
            obtain ⟨k, hk, rfl, rfl, hS, hB⟩ := hrel
            by_cases hk8 : k < 8
            · have hki : (k : Int) < 8 := by omega
              have hc := hS.2 k (by rw [Hlen.out]; exact hk8)
              rw [Nat.zero_add] at hc
              obtain ⟨hx0, hx1⟩ := Hrg.out k hk8
              have hcs := catN_size st k
              have hnx : catN st (k + 1) = catN st k ++ strOfNums (be 4 (rd st (k : Int))) := rfl
              obtain ⟨x, hx⟩ : ∃ x, x = rd st (k : Int) := ⟨_, rfl⟩
              rw [← hx] at hc hx0 hx1 hnx
              have hbe := fixed_walk x 4 (by decide)
              have hbs : (strOfNums (be 4 x)).size = 4 := by rw [str_size, be_length]
              obtain ⟨b4, hb4⟩ : ∃ b4, b4 = strOfNums (be 4 x) := ⟨_, rfl⟩
              rw [← hb4] at hnx hbe hbs
              obtain ⟨T, hT⟩ : ∃ T, T = catN st k := ⟨_, rfl⟩
              rw [← hT] at hnx hcs ⊢
              have hTs : T.size ≤ 100 := by omega
              have hbs4 : b4.size ≤ 4 := by omega
              have Hnx := Lib.hid hnx
              clear hx hb4 hT hnx hcs hbs
              go_wp2_with (go_at_call 146; refine (hbe _).mono ?_; rintro e w1 ⟨rfl, hB1⟩)
              have hS2 := hS.below hB1 hS.1
              have hB3 := hB.trans (hB1.mono hB.size)
              clear hS hB hB1 hbe hc
              go_wp2
              exact ⟨⟨k + 1, by omega, by go_num, by rw [Hnx.out], hS2, hB3⟩, by simp [intOf]; omega⟩
            · obtain rfl : k = n8 := by show k = 8; omega
              have hki : ¬ ((n8 : Nat) : Int) < 8 := by decide
              rw [← Hfin.out]
              go_wp2
              go_ret
              exact ⟨rfl, hB⟩
end Go.Proofs.YtnghcnkffbjddaaDoorV.Aes
