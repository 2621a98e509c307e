/- impl's HashFrom and sha, walked. Conditions: those that each theorem names. -/
import Derived.Test.YtnghcnkffbjddaaDoorVHh
import Derived.Test.YtnghcnkffbjddaaDoorVHs
import Derived.Test.YtnghcnkffbjddaaDoorVHSh
namespace Go.Proofs.YtnghcnkffbjddaaDoorV.Aes
open Go.RowKit Go.Proofs.YtnghcnkffbjddaaDoorV.PrintWords Go.Proofs.YtnghcnkffbjddaaDoorV.PrintLast Go.Proofs.YtnghcnkffbjddaaDoorV.PrintMore Go.Proofs.YtnghcnkffbjddaaDoorV.Mem
set_option linter.unusedVariables false
set_option linter.unusedSimpArgs false

theorem C_cells {w : World} {A : Option Addr} {n : Nat} {xs : List Int} (h : Kd.C (Kd.int .u32) w A n xs) (hn : 0 < n) : ∃ g o, A = some ⟨g, o, none⟩ ∧ g < w.heap.size ∧ ∀ i, i < n → w.cell? ⟨g, o + i, none⟩ = some (.int .u32 (rd xs (i : Int))) := by
  obtain ⟨h1, h2, h3⟩ := h
  obtain ⟨ad, hA, hc⟩ := h3 hn
  have key : ∀ i, i < n → w.cell? (ad.add i) = some (.int .u32 (rd xs (i : Int))) := by
    intro i hi
    have hl : i < xs.length := by omega
    obtain ⟨c, hs, hk, hcell⟩ := hc i _ (List.getElem?_eq_getElem hl)
    have hk' : c = [Value.int .u32 xs[i]] := hk
    have := hcell 0 (.int .u32 xs[i]) (by rw [hk']; rfl)
    rw [show i * (Kd.int IntKind.u32).sz + 0 = i from Nat.mul_one i] at this
    rw [this]
    simp [rd, List.getElem?_eq_getElem hl]
  have k0 := key 0 hn
  obtain ⟨g, o, sp⟩ := ad
  have hsp : sp = none := by
    cases sp with
    | none => rfl
    | some q =>
      have : (Addr.add ⟨g, o, some q⟩ 0).spot.isSome = true := by unfold Addr.add; split <;> first | rfl | omega
      unfold World.cell? at k0
      rw [this] at k0
      simp only [if_true] at k0
      split at k0 <;> cases k0
  subst hsp
  refine ⟨g, o, hA, ?_, fun i hi => ?_⟩
  · rw [Addr.add_mid] at k0
    exact World.block_lt_of_cell? w _ k0
  · have := key i hi
    rwa [Addr.add_mid] at this
/-- Words in memory, from a place on. -/
def Wat (w : World) (g o : Nat) (xs : List Int) : Prop := g < w.heap.size ∧ ∀ i, i < xs.length → w.cell? ⟨g, o + i, none⟩ = some (.int .u32 (rd xs (i : Int)))
theorem Wat.below {w w' : World} {g o : Nat} {xs : List Int} {B : Nat} (h : Wat w g o xs) (hb : Below B w w') (hg : g < B) : Wat w' g o xs :=
  ⟨Nat.lt_of_lt_of_le h.1 hb.size, fun i hi => by rw [hb.cell (by simpa using hg)]; exact h.2 i hi⟩
theorem Words.at {w : World} {ws : List Int} {e : Ending} {w' : World} (h : Words w ws e w') (hl : 0 < ws.length) : ∃ g cap, e = .returned (.slice (some ⟨g, 0, none⟩) ws.length cap) ∧ Wat w' g 0 ws ∧ w.heap.size ≤ g ∧ Below w.heap.size w w' := by
  obtain ⟨A, cap, he, ho, hb⟩ := h
  obtain ⟨g, c, h1, h2, h3⟩ := ho.form hl
  injection h1 with h1 _ h4
  subst h1; subst h4
  refine ⟨g, cap, he, ⟨h3, fun i hi => ?_⟩, h2, hb⟩
  rw [Nat.zero_add, ho.cellAt i (by omega)]
  simp [nums, rd, List.getElem?_eq_getElem hi]
theorem KW_length : KW.length = 64 := rfl
theorem HW_length : HW.length = 8 := rfl
theorem hashFrom_at (st ks : List Int) (b : ByteArray) (hst : st.length = 8) (hks : ks.length = 64) (hb : b.size = 64) (gs os cs gk ok ck : Nat) (w : World) (hS : Wat w gs os st) (hK : Wat w gk ok ks) :
    Calls Tryd.prog 154 #[.slice (some ⟨gs, os, none⟩) 8 cs, .string b, .slice (some ⟨gk, ok, none⟩) 64 ck] w (Words w (hashL st ks b)) :=
  hashFrom_walk st ks b hst hks hb gs os cs gk ok ck w (fun i hi => hS.2 i (by omega)) hS.1 (fun i hi => hK.2 i (by omega)) hK.1
/-- A text behind its end mark, zeros and its length in bits. -/
def zeroB (m : Nat) : ByteArray := ⟨(Lib.repeatL [0] m).toArray⟩
def padN (n : Nat) : Nat := (120 - (n + 1) % 64) % 64
def padL (s : ByteArray) : ByteArray := (s ++ ⟨#[128]⟩) ++ (zeroB (padN s.size) ++ strOfNums (be 8 (8 * (s.size : Int))))
theorem zeroB_size (m : Nat) : (zeroB m).size = m := by
  unfold zeroB ByteArray.size
  simp [Lib.repeatL_length]
theorem padL_size (s : ByteArray) : (padL s).size = s.size + 1 + padN s.size + 8 := by
  unfold padL
  rw [ByteArray.size_append, ByteArray.size_append, ByteArray.size_append, zeroB_size, str_size, be_length]
  show s.size + 1 + _ = _
  omega
theorem padL_blocks (s : ByteArray) : (padL s).size = 64 * ((padL s).size / 64) := by
  have h := padL_size s
  unfold padN at h
  omega
/-- The state behind so many blocks. -/
def shaSt (p : ByteArray) : Nat → List Int
  | 0 => HW
  | j + 1 => hashL (shaSt p j) KW (p.extract (64 * j) (64 * j + 64))
theorem shaSt_length (p : ByteArray) : ∀ j, (shaSt p j).length = 8
  | 0 => rfl
  | j + 1 => hashL_length _ _ _
theorem shaSt_range (p : ByteArray) : ∀ j i : Nat, i < 8 → 0 ≤ rd (shaSt p j) (i : Int) ∧ rd (shaSt p j) (i : Int) < 4294967296
  | 0, i, h => by
    have : ∀ i : Nat, i < 8 → 0 ≤ rd HW (i : Int) ∧ rd HW (i : Int) < 4294967296 := by decide +kernel
    exact this i h
  | j + 1, i, h => by
    show 0 ≤ rd (hashL _ _ _) _ ∧ rd (hashL _ _ _) _ < _
    rw [hashL, rd_tab _ _ _ h]
    omega
/-- The bytes of so many words. -/
def catN (ws : List Int) : Nat → ByteArray
  | 0 => ⟨#[]⟩
  | k + 1 => catN ws k ++ strOfNums (be 4 (rd ws (k : Int)))
theorem catN_size (ws : List Int) : ∀ k, (catN ws k).size = 4 * k
  | 0 => rfl
  | k + 1 => by rw [catN, ByteArray.size_append, catN_size ws k, str_size, be_length]; omega
def n8 : Nat := 8
/-- The hash of a text. -/
def shaS (s : ByteArray) : ByteArray := catN (shaSt (padL s) ((padL s).size / 64)) n8
theorem shaS_size (s : ByteArray) : (shaS s).size = 32 := catN_size _ 8
theorem rep_walk (m : Nat) (hm : m ≤ 64) (w : World) : Calls Tryd.prog 150 #[.string ⟨#[0]⟩, .int .i64 (m : Int)] w fun e w' => e = .returned (.string (zeroB m)) ∧ Below w.heap.size w w' :=
  Tryd.strings_Repeat_calls ⟨#[0]⟩ m w (by omega) (by show 1 * m ≤ _; omega)
theorem wr_walk (B b : Nat) (t s : ByteArray) (w : World) (h : Lib.IsBuilder 162 5 B b (Lib.byteCells t.data.toList) w) (hl : t.size + s.size ≤ 1000) (hB : B ≤ w.heap.size) :
    Calls Tryd.prog 155 #[.pointer (some ⟨b, 0, none⟩), .string s] w fun e w' => e = .returned (.tuple #[.int .i64 s.size, .nilIface]) ∧ Lib.IsBuilder 162 5 B b (Lib.byteCells (t ++ s).data.toList) w' ∧ Below B w w' := by
  refine (Tryd.Builder_WriteString_calls B b _ s w h (by rw [Lib.byteCells_length]; have : t.data.toList.length = t.size := Array.length_toList; omega) hB).mono ?_
  rintro e w' ⟨he, hb, hbl⟩
  refine ⟨he, .inr ?_, hbl⟩
  rw [Lib.strCells_eq, ← Lib.byteCells_append] at hb
  rw [ByteArray.data_append, Array.toList_append]
  exact hb
theorem bstr_walk (B b : Nat) (t : ByteArray) (w : World) (h : Lib.IsBuilder 162 5 B b (Lib.byteCells t.data.toList) w) (hB : B ≤ w.heap.size) :
    Calls Tryd.prog 156 #[.pointer (some ⟨b, 0, none⟩)] w fun e w' => e = .returned (.string t) ∧ Below B w w' := by
  have := Tryd.Builder_String_calls B b t.data.toList w h hB
  exact this
theorem IsBuilder_below {T e : TypeId} {B b : Nat} {bs : List Value} {w w' : World} (h : Lib.IsBuilder T e B b bs w) (hb : Below w.heap.size w w') : Lib.IsBuilder T e B b bs w' := by
  have go : ∀ p, Lib.BuilderAt T e B b p bs w → Lib.BuilderAt T e B b p bs w' := by
    rintro p ⟨h1, v, h2, h3, h4⟩
    refine ⟨h1, v, by rw [hb.block b (Array.getElem?_eq_some_iff.mp h2).1]; exact h2, ?_, h4⟩
    refine h3.kept (row := none) ⟨hb.os, hb.tape, hb.output, hb.size, fun k hk _ => hb.block k hk⟩ ?_
    cases hv : v.ownBlock
    · exact .inl rfl
    · exact .inr (by simp)
  exact h.imp (go _) (go _)
set_option maxHeartbeats 4000000 in
set_option maxRecDepth 100000 in
theorem sha_walk (s : ByteArray) (hs : s.size ≤ 1000000) (w : World) :
    Calls Tryd.prog 112 #[.string s] w fun e w' => e = .returned (.string (shaS s)) ∧ Below w.heap.size w w' := by
  have hps := padL_size s
  have hpb := padL_blocks s
  have hm64 : padN s.size ≤ 64 := by unfold padN; omega
  have hrep := rep_walk (padN s.size) hm64
  have hbe := be_walk (8 * (s.size : Int)) 8 (by decide)
  have hmod : (120 - (s.size + 1 : Int) % 64) % 64 = (padN s.size : Int) := by unfold padN; omega
  have hpd : s ++ ⟨#[128]⟩ ++ (zeroB (padN s.size) ++ strOfNums (be 8 (8 * (s.size : Int)))) = padL s := rfl
  have hsh : shaS s = catN (shaSt (padL s) ((padL s).size / 64)) n8 := rfl
  have hz := zeroB_size (padN s.size)
  have hb8 : (strOfNums (be 8 (8 * (s.size : Int)))).size = 8 := by rw [str_size, be_length]
  obtain ⟨m, hm⟩ : ∃ m, m = padN s.size := ⟨_, rfl⟩
  rw [← hm] at hps hm64 hrep hmod hpd hz
  obtain ⟨b8, hb8d⟩ : ∃ b8, b8 = strOfNums (be 8 (8 * (s.size : Int))) := ⟨_, rfl⟩
  rw [← hb8d] at hbe hpd hb8
  obtain ⟨zb, hzb⟩ : ∃ zb, zb = zeroB m := ⟨_, rfl⟩
  rw [← hzb] at hrep hpd hz
  obtain ⟨p, hp⟩ : ∃ p, p = padL s := ⟨_, rfl⟩
  rw [← hp] at hps hpb hpd hsh
  have Hpd := Lib.hid hpd
  have Hsh := Lib.hid hsh
  have hz1 : zb.size ≤ 64 := by omega
  have hb81 : b8.size ≤ 8 := by omega
  clear hm hb8d hzb hp hpd hsh hz hb8
  go_enter Tryd.func112, Tryd.ntmps112
  go_wp2_with (first
    | (go_at_call 150; refine (hrep _).mono ?_; rintro e w1 ⟨rfl, hB1⟩)
    | (go_at_call 151; refine (hbe _).mono ?_; rintro e w2 ⟨rfl, hB2⟩)
    | (go_at_call 152; refine (firstState_walk _).mono ?_; rintro e w3 hw3; obtain ⟨gs, cs, rfl, hS, hgs, hB3⟩ := hw3.at (by decide); rw [HW_length])
    | (go_at_call 153; refine (RoundWords_walk _).mono ?_; rintro e w4 hw4; obtain ⟨gk, ck, rfl, hK, hgk, hB4⟩ := hw4.at (by decide); rw [KW_length]))
  have hpd := Hpd.out
  rw [hpd]
  clear hpd
  have hs4 : w.heap.size ≤ w2.heap.size := Nat.le_trans hB1.size hB2.size
  have hB24 : Below w.heap.size w w4 := ((hB1.trans (hB2.mono hB1.size)).trans (hB3.mono hs4)).trans (hB4.mono (Nat.le_trans hs4 hB3.size))
  have hS4 := hS.below hB4 hS.1
  clear hB1 hB2 hB3 hB4 hS hrep hbe hmod hgs hgk hs4
  obtain ⟨nb, hnb⟩ : ∃ nb, nb = p.size / 64 := ⟨_, rfl⟩
  rw [← hnb] at hpb
  have Hnb := Lib.hid hnb
  have hpb1 : p.size ≤ 64 * nb ∧ 64 * nb ≤ p.size := by omega
  have hpb2 : p.size ≤ 1000100 := by omega
  clear hnb hpb hps
  go_loopw [4, 6] (fun u y wx => ∃ (j g cap : Nat), j ≤ nb ∧ y = .int .i64 ((64 * j : Nat) : Int) ∧ u = .slice (some ⟨g, 0, none⟩) 8 cap ∧ Wat wx g 0 (shaSt p j) ∧ Wat wx gk 0 KW ∧ Below w.heap.size w wx) (fun _ y _ => 1000200 - (intOf y).toNat)
  case atStart => exact ⟨0, gs, cs, Nat.zero_le _, rfl, rfl, hS4, hK, hB24⟩
  case round =>
    clear hS4 hK hB24
    obtain ⟨j, g, cap, hj, rfl, rfl, hS, hK, hB⟩ := hrel
    obtain ⟨J, hJ⟩ : ∃ J, J = 64 * j := ⟨_, rfl⟩
    rw [← hJ]
    by_cases hjn : j < nb
    · have hJ1 : J + 64 ≤ p.size := by omega
      have hJi : (J : Int) < (p.size : Int) := by omega
      have hJ2 : (J : Int) + 64 ≤ (p.size : Int) := by omega
      have hex : (p.extract J (J + 64)).size = 64 := by rw [ByteArray.size_extract]; omega
      have hhf := fun (w1 : World) (h1 : Wat w1 g 0 (shaSt p j)) (h2 : Wat w1 gk 0 KW) => hashFrom_at (shaSt p j) KW (p.extract J (J + 64)) (shaSt_length p j) rfl hex g 0 cap gk 0 ck w1 h1 h2
      have hst : shaSt p (j + 1) = hashL (shaSt p j) KW (p.extract J (J + 64)) := by rw [hJ]; rfl
      rw [← hst] at hhf
      have hsl := slice_str p J (J + 64) (J : Int) ((J : Int) + 64) rfl (by omega) (by omega) hJ1
      have HJ := Lib.hid hJ
      clear hst hJ hex
      go_wp2_with (go_at_call 154; refine (hhf _ hS hK).mono ?_; rintro e w2 hw2; obtain ⟨g2, c2, rfl, hS2, hg2, hB2⟩ := hw2.at (by rw [shaSt_length]; decide); rw [shaSt_length])
      have hK2 := hK.below hB2 hK.1
      have hB3 := hB.trans (hB2.mono hB.size)
      clear hK hB2 hB hS hhf
      go_wp2
      exact ⟨⟨j + 1, g2, c2, by omega, by have h := HJ.out; rw [show ((64 * (j + 1) : Nat) : Int) = (J : Int) + 64 by omega], rfl, hS2, hK2, hB3⟩, by simp [intOf]; omega⟩
    · have hJp : ¬ (J : Int) < (p.size : Int) := by omega
      obtain rfl : j = nb := by omega
      clear hj hjn hJ
      have hlen := shaSt_length p j
      have hrg := shaSt_range p j
      obtain ⟨st, hst⟩ : ∃ st, st = shaSt p j := ⟨_, rfl⟩
      rw [← hst] at hS hlen hrg
      have hfin : shaS s = catN st n8 := by rw [Hsh.out, ← Hnb.out, hst]
      have Hfin := Lib.hid hfin
      have Hrg := Lib.hid hrg
      have Hlen := Lib.hid hlen
      clear hst hfin hrg hlen hpb1
      have hb0 : Lib.IsBuilder 162 5 wr.heap.size wr.heap.size (Lib.byteCells (catN st 0).data.toList) (wr.alloc (.cells #[.pointer none, .slice none 0 0] 162)) := Lib.fresh_isBuilder 162 5 wr
      have hS0 := hS.below ((Below.refl wr.heap.size wr).alloc (Nat.le_refl _) (.cells #[.pointer none, .slice none 0 0] 162)) hS.1
      have hB0 := hB.alloc hB.size (.cells #[.pointer none, .slice none 0 0] 162)
      have hgb := hS.1
      have hwb := hB.size
      have hle := le_alloc wr (.cells #[.pointer none, .slice none 0 0] 162)
      go_wp2
      obtain ⟨bb, hbb⟩ : ∃ bb, bb = wr.heap.size := ⟨_, rfl⟩
      rw [← hbb] at hb0 hgb hwb hle ⊢
      obtain ⟨w0, hw0⟩ : ∃ w0, w0 = wr.alloc (.cells #[.pointer none, .slice none 0 0] 162) := ⟨_, rfl⟩
      rw [← hw0] at hb0 hS0 hB0 hle ⊢
      clear hbb hw0 hS hB hK
      go_loopw [46] (fun y wx => ∃ k : Nat, k ≤ 8 ∧ y = .int .i64 (k : Int) ∧ Lib.IsBuilder 162 5 bb bb (Lib.byteCells (catN st k).data.toList) wx ∧ Wat wx g 0 st ∧ Below w.heap.size w wx ∧ bb ≤ wx.heap.size) (fun y _ => 8 - (intOf y).toNat)
      case atStart => exact ⟨0, by omega, rfl, hb0, hS0, hB0, hle⟩
      case round =>
        clear hb0 hS0 hB0 hle
        obtain ⟨k, hk, rfl, hIb, hS, hB, hle⟩ := hrel
        by_cases hk8 : k < 8
        · have hki : (k : Int) < 8 := by omega
          have hc := hS.2 k (by rw [Hlen.out]; exact hk8)
          rw [Nat.zero_add] at hc
          obtain ⟨hx0, hx1⟩ := Hrg.out k hk8
          have hcs := catN_size st k
          have hnx : catN st (k + 1) = catN st k ++ strOfNums (be 4 (rd st (k : Int))) := rfl
          obtain ⟨x, hx⟩ : ∃ x, x = rd st (k : Int) := ⟨_, rfl⟩
          rw [← hx] at hc hx0 hx1 hnx
          have hbe := be4_walk x
          have hbs : (strOfNums (be 4 x)).size = 4 := by rw [str_size, be_length]
          obtain ⟨b4, hb4⟩ : ∃ b4, b4 = strOfNums (be 4 x) := ⟨_, rfl⟩
          rw [← hb4] at hnx hbe hbs
          obtain ⟨T, hT⟩ : ∃ T, T = catN st k := ⟨_, rfl⟩
          rw [← hT] at hnx hIb hcs
          have hTs : T.size + b4.size ≤ 1000 := by omega
          have h64 : IntKind.u64.wrap x = x := wrap_u64_in x hx0 (by omega)
          have hww := fun (w1 : World) (h1 : Lib.IsBuilder 162 5 bb bb (Lib.byteCells T.data.toList) w1) (h2 : bb ≤ w1.heap.size) => wr_walk bb bb T b4 w1 h1 hTs h2
          rw [← hnx] at hww
          clear hx hb4 hT hnx hcs hbs
          have hib2 := fun (w1 : World) (hb1 : Below wr.heap.size wr w1) => IsBuilder_below hIb hb1
          go_wp2_with (first
            | (go_at_call 151; refine (hbe _).mono ?_; rintro e w1 ⟨rfl, hB1⟩)
            | (go_at_call 155; refine (hww _ (hib2 _ hB1) (Nat.le_trans hle hB1.size)).mono ?_; rintro e w2 ⟨rfl, hIb2, hB2⟩))
          have hS2 := (hS.below hB1 hS.1).below hB2 hgb
          have hB3 := (hB.trans (hB1.mono hB.size)).trans (hB2.mono hwb)
          have hl2 := Nat.le_trans (Nat.le_trans hle hB1.size) hB2.size
          clear hS hB hB1 hB2 hIb hib2 hbe hww hc
          go_wp2
          exact ⟨⟨k + 1, by omega, by go_num, hIb2, hS2, hB3, hl2⟩, by simp [intOf]; omega⟩
        · obtain rfl : k = n8 := by show k = 8; omega
          have hki : ¬ ((n8 : Nat) : Int) < 8 := by decide
          have hbw := fun (w1 : World) h1 h2 => bstr_walk bb bb (catN st n8) w1 h1 h2
          rw [← Hfin.out] at hbw hIb
          go_wp2_with (go_at_call 156; refine (hbw _ hIb hle).mono ?_; rintro e w1 ⟨rfl, hB1⟩)
          go_ret
          exact ⟨rfl, hB.trans (hB1.mono hwb)⟩
end Go.Proofs.YtnghcnkffbjddaaDoorV.Aes
