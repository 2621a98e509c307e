/- Shared lemmas and walks of the AES laws of this seat. -/
import Derived.Test.YtimokakcdmcnnaaVSpcG1
import Derived.Lib.Hide
import Derived.Deep.RegionLaw
import Derived.Deep.RegionWith
import Derived.Deep.RegionHeld3
namespace Go.Proofs.YtimokakcdmcnnaaV.Aes
open Go.RowKit Go.Proofs.YtimokakcdmcnnaaV.PrintWords Go.Proofs.YtimokakcdmcnnaaV.PrintLast Go.Proofs.YtimokakcdmcnnaaV.PrintMore Go.Proofs.YtimokakcdmcnnaaV.Mem
set_option linter.unusedVariables false
set_option linter.unusedSimpArgs false

open Go.Proofs.Ytimokakcdmcnnaa.PSpecA Gcm
theorem bigN_be4 : bigN (bytesOf (strOfNums (be 4 2))) 0 = 2 := by decide
theorem startN_two (nonce : ByteArray) (hn : nonce.size = 12) : startN (nonce ++ strOfNums (be 4 2)) = 2 := by
  have h4 : (strOfNums (be 4 2)).size = 4 := by rw [str_size, be_length]
  have e : (nonce ++ strOfNums (be 4 2)).extract 12 (nonce ++ strOfNums (be 4 2)).size = strOfNums (be 4 2) := by
    rw [← hn, ByteArray.size_append, ByteArray.extract_append]
    have e1 : nonce.extract nonce.size (nonce.size + (strOfNums (be 4 2)).size) = ByteArray.empty := by
      apply ByteArray.ext
      apply Array.ext'
      simp
    rw [e1, Nat.sub_self, Nat.add_sub_cancel_left, ByteArray.extract_zero_size]
    exact ByteArray.empty_append
  unfold startN
  rw [e, bigN_be4]
  decide
theorem blk_told (nonce : ByteArray) (hn : nonce.size = 12) (j : Nat) (hj : j ≤ 100000) : nonce ++ strOfNums (be 4 (2 + (j : Int))) = ctrBlock (nonce ++ strOfNums (be 4 2)) j := by
  have e : (nonce ++ strOfNums (be 4 2)).extract 0 12 = nonce := by
    rw [← hn, ByteArray.extract_append]
    have e1 : nonce.extract 0 nonce.size = nonce := ByteArray.extract_zero_size
    have e2 : (strOfNums (be 4 2)).extract (0 - nonce.size) (nonce.size - nonce.size) = ByteArray.empty := by
      rw [Nat.sub_self]
      apply ByteArray.ext
      apply Array.ext'
      simp
    rw [e1, e2]
    exact ByteArray.append_empty
  unfold ctrBlock
  rw [e, startN_two nonce hn]
  have : (2 + (j : Int)) % 4294967296 = 2 + (j : Int) := by omega
  rw [this]

set_option maxHeartbeats 16000000 in
set_option maxRecDepth 100000 in
theorem count_walk (key nonce text : ByteArray) (hk : key.size = 16) (hn : nonce.size = 12) (ht : text.size ≤ 1500) (g c0 c1 : Nat) (A0 A1 : Option Addr) (w : World) (hK : K5 w g A0 A1 c0 c1 key) :
    Calls Try.prog 106 #[.pointer (some ⟨g, 0, none⟩), .string nonce, .string text] w fun e w' => e = .returned (.string (ctrS key (nonce ++ strOfNums (be 4 2)) text)) ∧ Below w.heap.size w w' := by
  have hblk := fun (j : Nat) (h : j ≤ 100000) => blk_told nonce hn j h
  have hst16 : (nonce ++ strOfNums (be 4 2)).size = 16 := by rw [ByteArray.size_append, str_size, be_length, hn]
  obtain ⟨start, hstart⟩ : ∃ start, start = nonce ++ strOfNums (be 4 2) := ⟨_, rfl⟩
  rw [← hstart] at hblk hst16 ⊢
  clear hstart
  have hLl := ctrL_length key start text
  have hsucc := fun (j q : Nat) (h : q < 16) (h2 : 16 * j + q < text.size) => ctrL_succ key start text j q h h2
  have hend : ctrS key start text = strOfNums (ctrL key start text) := rfl
  have hbs := ctrBlock_size start hst16
  have hfx : ∀ (x : Int) (W : World), Calls Try.prog 96 #[.int .i64 x, .int .i64 4] W fun e w' => e = .returned (.string (strOfNums (be 4 x))) ∧ Below W.heap.size W w' := fun x W => sfixed_walk 4 (by decide) x W
  have hwi0 := fun (j : Nat) => with_walk key (ctrBlock start j) hk (hbs j)
  have hes : ∀ j, (encS key (ctrBlock start j)).size = 16 := fun j => encS_size _ _
  obtain ⟨L, hL⟩ : ∃ L, L = ctrL key start text := ⟨_, rfl⟩
  rw [← hL] at hLl hsucc hend
  clear hL
  obtain ⟨R, hR⟩ : ∃ R, R = ctrS key start text := ⟨_, rfl⟩
  rw [← hR] at hend ⊢
  clear hR
  have Hend := Lib.hid hend
  have HLl := Lib.hid hLl
  have Hn := Lib.hid hn
  clear hend hLl hn hst16 hbs
  have HB := Below.refl w.heap.size w
  go_enter Try.func106, Try.ntmps106
  go_wp2
  go_loopw [7, 8] (fun v a wr => ∃ i j n : Nat, (i ≤ 16 * j ∧ 16 * j ≤ i) ∧ i ≤ text.size + 15 ∧ a = .int .i64 (i : Int) ∧ Hid (n = min i text.size) ∧ ownsRowM wr w.heap.size 5 1 v n (u8v (L.take i)) ∧ Below w.heap.size w wr)
    (fun _ a _ => text.size + 16 - (intOf a).toNat)
  case atStart => exact ⟨0, 0, 0, ⟨by omega, by omega⟩, by omega, rfl, Lib.hid (by omega), ownsRowM_nil _ _ _ _, HB⟩
  case round =>
    obtain ⟨i, j, n, hij, hiL, rfl, Hm, hrow, HB⟩ := hrel
    by_cases hi : i < text.size
    · have hii : (i : Int) < (text.size : Int) := by omega
      have HK := hK.below HB
      have k0 := HK.f0
      have k1 := HK.f1
      have hj1 : (i : Int) / 16 = (j : Int) := by omega
      have hw2 : IntKind.i64.wrap (2 + (j : Int)) = 2 + (j : Int) := by rw [IntKind.wrap_i64]; omega
      have hw1 : IntKind.i64.wrap (j : Int) = (j : Int) := by rw [IntKind.wrap_i64]; omega
      have hx := hfx (2 + (j : Int))
      have hwi := hwi0 j
      rw [← hblk j (by omega)] at hwi
      have hst4 : (strOfNums (be 4 (2 + (j : Int)))).size ≤ 4 := by rw [str_size, be_length]; exact Nat.le_refl _
      have hcat : ¬ 9223372036854775807 < nonce.size + (strOfNums (be 4 (2 + (j : Int)))).size := by have := Hn.out; omega
      obtain ⟨EB, hEB⟩ : ∃ EB, EB = encS key (ctrBlock start j) := ⟨_, rfl⟩
      have hEBs : EB.size ≤ 16 ∧ 16 ≤ EB.size := by rw [hEB, hes j]; exact ⟨Nat.le_refl _, Nat.le_refl _⟩
      rw [hblk j (by omega), ← hEB] at hwi
      rw [← hblk j (by omega)] at hwi
      have HEB := Lib.hid hEB
      clear hEB hst4
      go_wp2
      go_region_held3 (fun W => W.cell? ⟨g, 0, none⟩ = some (.slice A0 176 c0) ∧ W.cell? ⟨g, 1, none⟩ = some (.slice A1 256 c1)) (first | exact ⟨k0, k1⟩) (first
        | (go_at_call 96; refine (hx _).mono ?_; rintro e w2 ⟨rfl, hb2⟩; have HK' : K5 w2 g A0 A1 c0 c1 key := (by first | exact (HK.drew 1).below hb2 | exact HK.below hb2); have HB' : Below wr.heap.size wr w2 := (by first | exact (pw_below_drewN (Below.refl wr.heap.size wr) 1).trans hb2 | exact hb2); clear HK k0 k1 hb2; have HK := HK'; have k0 := HK.f0; have k1 := HK.f1; have HB2 := HB'; clear HK' HB')
        | (go_at_call 93; refine (hwi _ _ _ _ _ HK.r0 HK.r1 HK.l0 HK.l1).mono ?_; rintro e w3 ⟨rfl, hb3⟩; have HK' := HK.below hb3; have HB' := HB2.trans (hb3.mono HB2.size); clear HK k0 k1 hb3 HB2; have HK := HK'; have k0 := HK.f0; have k1 := HK.f1; have HB2 := HB'; clear HK' HB'))
      all_goals (
        have hrow3 := own_same hrow (fun k hk => HB2.block k (hrow.lt k hk).2)
        have HB3 := HB.trans (HB2.mono HB.size)
        have HKB := Lib.hid HK
        clear hrow HB HB2 HK k0 k1 hx hwi hw1 hw2 hcat hj1
        go_wp2
        go_loopw [7, 10] (fun v b wx => ∃ q n2 : Nat, q ≤ 16 ∧ b = .int .i64 (q : Int) ∧ Hid (n2 = min (i + q) text.size) ∧ ownsRowM wx w.heap.size 5 1 v n2 (u8v (L.take (i + q))) ∧ Below w.heap.size w wx)
          (fun _ b _ => 16 - (intOf b).toNat)
        case atStart => exact ⟨0, n, by omega, rfl, Hm, hrow3, HB3⟩
        case round =>
          clear hrow3 HB3
          obtain ⟨q, n2, hq, rfl, Hm2, hrow, HB⟩ := hrel
          by_cases hq16 : q < 16
          · have hq16i : (q : Int) < 16 := by omega
            have hw3 : IntKind.i64.wrap ((i : Int) + (q : Int)) = (i : Int) + (q : Int) := by rw [IntKind.wrap_i64]; omega
            have hw4 : wrap64 ((i : Int) + (q : Int)) = (i : Int) + (q : Int) := by unfold wrap64; omega
            by_cases hiq : i + q < text.size
            · have hiq1 : (i : Int) + (q : Int) < (text.size : Int) := by omega
              have hiq0 : 0 ≤ (i : Int) + (q : Int) := by omega
              have hiqn : ((i : Int) + (q : Int)).toNat = i + q := by omega
              have hn2 : n2 = i + q := by have := Hm2.out; omega
              have hqB : (q : Int) < (EB.size : Int) := by omega
              have hqBn : q < EB.size := by omega
              have hiqT : i + q < text.size := hiq
              have hbt1 : ((text[i + q]'hiqT).toNat : Int) = bt text ((16 * j + q : Nat) : Int) := by
                have e : ((16 * j + q : Nat) : Int) = ((i + q : Nat) : Int) := by omega
                rw [e]
                exact bt_at text ((i + q : Nat) : Int) hiqT
              have hbt2 : ((EB[q]'hqBn).toNat : Int) = bt EB (q : Int) := bt_at EB (q : Int) hqBn
              have hsc : L.take (i + (q + 1)) = L.take (i + q) ++ [Go.bits .xor .u8 (bt text ((16 * j + q : Nat) : Int)) (bt EB (q : Int))] := by
                have := hsucc j q hq16 (by omega)
                rw [← HEB.out, show 16 * j + (q + 1) = i + (q + 1) by omega, show 16 * j + q = i + q by omega] at this
                rw [show 16 * j + q = i + q by omega]
                exact this
              have Hsc := Lib.hid hsc
              clear hsc
              have hlen : n2 + 1 ≤ maxLen := by simp only [maxLen]; omega
              have hlen2 : (n2 + 1) * 1 ≤ 140737488355328 := by omega
              have Hlen := Lib.hid (And.intro hlen hlen2)
              have Hn2 := Lib.hid hn2
              clear hlen hlen2 hn2
              obtain ⟨i5, hi5, hz5, hsz5, hby5⟩ : ∃ i5, Try.prog.info? 5 = some i5 ∧ i5.zero = some (.int .u8 0) ∧ i5.size = 1 ∧ i5.bytes = 1 := by
                have h := info5
                cases hq : Try.prog.info? 5 with
                | none => rw [hq] at h; simp at h
                | some i5 => rw [hq] at h; simp at h; exact ⟨i5, rfl, h.1, h.2.1, h.2.2⟩
              have Hi5 := Lib.hid (And.intro hi5 (And.intro hz5 (And.intro hsz5 hby5)))
              clear hi5 hz5 hsz5 hby5
              have hlw : w.heap.size ≤ wr.heap.size := HB.size
              have rowW := fun o => ownsRowM.alloc (ownsRowM.drew hrow) o
              go_wp2
              go_region_law (
                refine step_append_M rfl (.tmp 44) (.tmp 54) 43 rfl w.heap.size 5 i5 (.int .u8 0) 1 1 Try.underlying43 Hi5.out.1 Hi5.out.2.1 Hi5.out.2.2.1 Hi5.out.2.2.2 rfl (by decide) u7 n2 (u8v (L.take (i + q))) (by simp [Act.eval, Act.put]) (rowW _) ⟨wr.heap.size, 0, none⟩ 1 1 [.int .u8 (Go.bits .xor .u8 (bt text ((16 * j + q : Nat) : Int)) (bt EB (q : Int)))] (by simp [Act.eval, Act.put]) rfl (World.news_of_block (heap_alloc_new _ _)) (by simp [Value.oneCell']) (by decide) Hlen.out.1 Hlen.out.2 (by simp; omega) ?_
                intro g2 cap3 w5 hr5 hg5 ho5 hl5
                have hr6 : ownsRowM w5 w.heap.size 5 1 (.slice (some ⟨g2, 0, none⟩) (n2 + 1) cap3) (n2 + 1) (u8v (L.take (i + (q + 1)))) := by
                  rw [Hsc.out]
                  have e : u8v (L.take (i + q) ++ [Go.bits .xor .u8 (bt text ((16 * j + q : Nat) : Int)) (bt EB (q : Int))]) = u8v (L.take (i + q)) ++ [.int .u8 (Go.bits .xor .u8 (bt text ((16 * j + q : Nat) : Int)) (bt EB (q : Int)))] := by simp [u8v]
                  rw [e]
                  exact hr5
                have hB5 : Below w.heap.size w w5 := ((HB.alloc hlw (.cells #[.int .u8 (Go.bits .xor .u8 (bt text ((16 * j + q : Nat) : Int)) (bt EB (q : Int)))] 5 (0, 0))).trans (pw_below_drewN (Below.refl _ _) 1)).grown hg5 (Nat.le_trans hlw ((Below.refl 0 wr).alloc (Nat.zero_le _) _).size) (fun r hr => (hrow.lt r hr).1)
                clear hr5 hg5 ho5 hl5)
              all_goals (
                have hm3 : n2 + 1 = min (i + (q + 1)) text.size := by have := Hn2.out; omega
                have Hm3 := Lib.hid hm3
                have hq1 : q + 1 ≤ 16 := by omega
                clear hm3 rowW hbt1 hbt2 hiqn hw3 hw4 hrow HB
                go_wp2
                go_roundw
                case rel => exact ⟨q + 1, n2 + 1, hq1, by go_num, Hm3, hr6, hB5⟩
                case measure => simp [intOf]; omega)
            · have hniq : ¬ (i : Int) + (q : Int) < (text.size : Int) := by omega
              have hLe : L.take (i + q) = L.take (i + 16) := take_ge _ _ _ (by have := HLl.out; omega) (by have := HLl.out; omega)
              rw [hLe] at hrow
              have hm3 : n2 = min (i + 16) text.size := by have := Hm2.out; omega
              have Hm3 := Lib.hid hm3
              have hij3 : i + 16 ≤ 16 * (j + 1) ∧ 16 * (j + 1) ≤ i + 16 := by omega
              have hi3 : i + 16 ≤ text.size + 15 := by omega
              clear hm3 hLe
              go_wp2
              go_roundw
              case rel => exact ⟨i + 16, j + 1, n2, hij3, hi3, by go_num, Hm3, hrow, HB⟩
              case measure => simp [intOf]; omega
          · have hq16n : ¬ (q : Int) < 16 := by omega
            have hq16e : q = 16 := by omega
            subst hq16e
            have hij3 : i + 16 ≤ 16 * (j + 1) ∧ 16 * (j + 1) ≤ i + 16 := by omega
            have hi3 : i + 16 ≤ text.size + 15 := by omega
            go_wp2
            go_roundw
            case rel => exact ⟨i + 16, j + 1, n2, hij3, hi3, by go_num, Hm2, hrow, HB⟩
            case measure => simp [intOf]; omega)
    · have hni : ¬ (i : Int) < (text.size : Int) := by omega
      have hLe : L.take i = L := List.take_of_length_le (by have := HLl.out; omega)
      rw [hLe] at hrow
      have hback := own_string (P := Try.prog) Try.underlying43 Try.underlying5 Try.underlying9 hrow
      have hRe := Hend.out
      rw [← hRe] at hback
      clear hLe hRe
      go_wp2
      go_ret
      exact ⟨rfl, HB⟩
end Go.Proofs.YtimokakcdmcnnaaV.Aes
