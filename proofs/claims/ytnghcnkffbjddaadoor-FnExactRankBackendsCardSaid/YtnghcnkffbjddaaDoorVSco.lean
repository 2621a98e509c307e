/- The score of a backend for a key, by the program and by the reference. Conditions: the texts are short. -/
import Derived.Test.YtnghcnkffbjddaaDoorVHu
import Derived.Test.YtnghcnkffbjddaaDoorPSpecRx1
import Derived.Test.YtnghcnkffbjddaaDoorPSpecRx2
import Derived.Test.YtnghcnkffbjddaaDoorPSpecRx3
import Derived.Test.YtnghcnkffbjddaaDoorPSpecRx4
namespace Go.Proofs.YtnghcnkffbjddaaDoorV.Aes
open Go.RowKit Go.Proofs.YtnghcnkffbjddaaDoorV.PrintWords Go.Proofs.YtnghcnkffbjddaaDoorV.PrintLast Go.Proofs.YtnghcnkffbjddaaDoorV.PrintMore Go.Proofs.YtnghcnkffbjddaaDoorV.Mem
set_option linter.unusedVariables false
set_option linter.unusedSimpArgs false

theorem words64_at (w : World) : Calls Tryd.prog 110 #[.int .i64 64, .int .i64 3] w fun e w' => ∃ g cap, e = .returned (.slice (some ⟨g, 0, none⟩) 64 cap) ∧ 64 ≤ cap ∧ Wat w' g 0 KW ∧ Below w.heap.size w w' := by
  refine (l4Words64_walk w).mono ?_
  rintro e w' ⟨v, rfl, hR, hB⟩
  obtain ⟨g, cap, rfl, hW⟩ := R_at hR (by decide)
  obtain ⟨_, hc, _⟩ := Kd.R_reads' hR
  exact ⟨g, cap, rfl, hc, hW, hB⟩
theorem words8_at (w : World) : Calls Tryd.prog 110 #[.int .i64 8, .int .i64 2] w fun e w' => ∃ g cap, e = .returned (.slice (some ⟨g, 0, none⟩) 8 cap) ∧ 8 ≤ cap ∧ Wat w' g 0 HW ∧ Below w.heap.size w w' := by
  refine (l4Words8_walk w).mono ?_
  rintro e w' ⟨v, rfl, hR, hB⟩
  obtain ⟨g, cap, rfl, hW⟩ := R_at hR (by decide)
  obtain ⟨_, hc, _⟩ := Kd.R_reads' hR
  exact ⟨g, cap, rfl, hc, hW, hB⟩
theorem l4New_walk (w : World) : Calls Tryd.prog 83 #[] w fun e w' => ∃ hb, e = .returned (.pointer (some ⟨hb, 0, none⟩)) ∧ Hok w' hb ∧ Below w.heap.size w w' := by
  go_enter Tryd.func83, Tryd.ntmps83
  go_wp2_with (first
    | (go_at_call 110; (with_reducible refine (words64_at _).mono ?_); rintro e w1 ⟨gw, cw, rfl, hcw, hK, hB1⟩)
    | (go_at_call 110; (with_reducible refine (words8_at _).mono ?_); rintro e w2 ⟨gf, cf, rfl, hcf, hF, hB2⟩))
  go_ret
  have hK2 := hK.below hB2 hK.1
  have hal := (Below.refl w2.heap.size w2).alloc (Nat.le_refl _) (.cells #[.slice (some ⟨gw, 0, none⟩) 64 cw, .slice (some ⟨gf, 0, none⟩) 8 cf] 121)
  exact ⟨w2.heap.size, rfl, ⟨gw, cw, gf, cf, 121, heap_alloc_new w2 _, hcw, hcf, hK2.below hal hK2.1, hF.below hal hF.1⟩, (hB1.trans (hB2.mono hB1.size)).alloc (Nat.le_trans hB1.size hB2.size) _⟩
/-- The seven bytes that tell a score, and their number. -/
def scB (b k : ByteArray) : ByteArray := (shaS (b ++ ⟨#[0]⟩ ++ k)).extract 0 7
def scN (b k : ByteArray) : Int := bigN (bytesOf (scB b k)) 0
theorem bigN_range : ∀ (l : List Int) (a M : Int), 0 ≤ a → a < M → (∀ i : Nat, 0 ≤ rd l (i : Int) ∧ rd l (i : Int) < 256) → 0 ≤ bigN l a ∧ bigN l a < M * 256 ^ l.length
  | [], a, M, h0, h1, _ => ⟨h0, by simpa [bigN] using h1⟩
  | x :: l, a, M, h0, h1, h => by
    have hx := h 0
    have e : rd (x :: l) ((0 : Nat) : Int) = x := rfl
    rw [e] at hx
    have := bigN_range l (a * 256 + x) (M * 256) (by omega) (by omega) (fun i => by
      have := h (i + 1)
      have e : rd (x :: l) ((i + 1 : Nat) : Int) = rd l (i : Int) := by simp [rd]
      rw [e] at this
      exact this)
    refine ⟨this.1, ?_⟩
    have h2 := this.2
    rw [List.length_cons, Int.pow_succ, Int.mul_comm (256 ^ l.length) 256, ← Int.mul_assoc]
    exact h2
theorem scB_size (b k : ByteArray) : (scB b k).size = 7 := by
  unfold scB
  rw [ByteArray.size_extract, shaS_size]
  rfl
theorem bigS_range (s : ByteArray) (hs : s.size = 7) : 0 ≤ bigN (bytesOf s) 0 ∧ bigN (bytesOf s) 0 < 72057594037927936 := by
  have hr : ∀ i : Nat, 0 ≤ rd (bytesOf s) (i : Int) ∧ rd (bytesOf s) (i : Int) < 256 := fun i => by
    have h := bt_range s (i : Int)
    rw [rd_bytesOf]
    exact ⟨h.1, by have := h.2; omega⟩
  have h := bigN_range (bytesOf s) 0 1 (by decide) (by decide) hr
  rw [bytesOf_length, hs] at h
  have e : (1 : Int) * 256 ^ 7 = 72057594037927936 := by decide
  rw [e] at h
  exact h
theorem scN_range (b k : ByteArray) : 0 ≤ scN b k ∧ scN b k < 72057594037927936 := bigS_range (scB b k) (scB_size b k)
theorem slice_head (b : ByteArray) (j : Nat) (hj : j ≤ b.size) (wx : World) : (Instr.slice 9 (.string b) none (some (.int .i64 (j : Int))) none).run Tryd.prog wx = .ok (.string (b.extract 0 j)) wx := by
  have : (j : Int) ≤ (b.size : Int) := by omega
  go_simp
theorem slice7 (b : ByteArray) (h : 7 ≤ b.size) (wx : World) : (Instr.slice 9 (.string b) none (some (.int .i64 7)) none).run Tryd.prog wx = .ok (.string (b.extract 0 7)) wx := slice_head b 7 h wx
set_option maxHeartbeats 1000000 in
set_option maxRecDepth 10000 in
theorem score_walk (b k : ByteArray) (hb : b.size ≤ 1000) (hk : k.size ≤ 1000) (w : World) : Calls Tryd.prog 85 #[.string b, .string k] w fun e w' => e = .returned (.int .i64 (scN b k)) ∧ Below w.heap.size w w' := by
  have hr := scN_range b k
  have hsz : (b ++ ⟨#[0]⟩ ++ k).size ≤ 1000000 := by rw [ByteArray.size_append, ByteArray.size_append]; have : (⟨#[0]⟩ : ByteArray).size = 1 := rfl; omega
  have hnum := num_walk (scB b k) (by rw [scB_size]; decide)
  have hn : bigN (bytesOf (scB b k)) 0 % 18446744073709551616 = scN b k := by
    have : scN b k = bigN (bytesOf (scB b k)) 0 := rfl
    omega
  rw [hn] at hnum
  have hw : IntKind.i64.wrap (scN b k) = scN b k := by rw [i64_w]; unfold wrap64; omega
  have hcut := slice7 (shaS (b ++ ⟨#[0]⟩ ++ k)) (by rw [shaS_size]; decide)
  have hsh := fun w => sha_walk (b ++ ⟨#[0]⟩ ++ k) hsz w
  have hsc : (shaS (b ++ ⟨#[0]⟩ ++ k)).extract 0 7 = scB b k := rfl
  rw [hsc] at hcut
  generalize shaS (b ++ ⟨#[0]⟩ ++ k) = S at hcut hsh
  generalize scB b k = C at hcut hnum
  generalize scN b k = V at hnum hw hr ⊢
  clear hr hsz hn hsc
  go_enter Tryd.func85, Tryd.ntmps85
  go_wp2_with (first
    | (go_at_call 112; refine (hsh _).mono ?_; rintro e w1 ⟨rfl, hB1⟩)
    | (go_at_call 111; refine (hnum _).mono ?_; rintro e w2 ⟨rfl, ⟨nd, rfl⟩⟩))
  go_ret
  exact ⟨by first | rfl | (simp [hw]), by first | exact hB1 | exact pw_below_drewN hB1 _⟩
set_option maxHeartbeats 4000000 in
set_option maxRecDepth 100000 in
theorem l9Score_walk (b k : ByteArray) (hb : b.size ≤ 1000) (hk : k.size ≤ 1000) (g : Nat) (w : World) (hH : Hok w g) : Calls Tryd.prog 82 #[.pointer (some ⟨g, 0, none⟩), .string b, .string k] w fun e w' => e = .returned (.int .i64 (scN b k)) ∧ Below w.heap.size w w' := by
  have hr := scN_range b k
  have hsz : (b ++ ⟨#[0]⟩ ++ k).size ≤ 1000000 := by rw [ByteArray.size_append, ByteArray.size_append]; have : (⟨#[0]⟩ : ByteArray).size = 1 := rfl; omega
  obtain ⟨K, hK⟩ := ev_big (scB b k) (by rw [scB_size]; decide)
  have hn : wrap64 (bigN (bytesOf (scB b k)) 0) = scN b k := by
    have : scN b k = bigN (bytesOf (scB b k)) 0 := rfl
    unfold wrap64; omega
  have hnum := fun W => Go.Proofs.YtnghcnkffbjddaaDoor.PSpecR.spec_l1Big.calls K (scB b k) _ W (hK K (Nat.le_refl _))
  rw [hn] at hnum
  have hcut := slice7 (shaS (b ++ ⟨#[0]⟩ ++ k)) (by rw [shaS_size]; decide)
  have hsh := fun w hH => sum_walk (b ++ ⟨#[0]⟩ ++ k) hsz g w hH
  have hsc : (shaS (b ++ ⟨#[0]⟩ ++ k)).extract 0 7 = scB b k := rfl
  rw [hsc] at hcut
  generalize shaS (b ++ ⟨#[0]⟩ ++ k) = S at hcut hsh
  generalize scB b k = C at hcut hnum
  generalize scN b k = V at hnum ⊢
  clear hr hsz hn hsc hK
  go_enter Tryd.func82, Tryd.ntmps82
  go_wp2_with (first
    | (go_at_call 109; refine (hsh _ hH).mono ?_; rintro e w1 ⟨rfl, hB1⟩)
    | (go_at_call 108; refine (hnum _).mono ?_; rintro e w2 ⟨rfl, ⟨nd, rfl⟩⟩))
  go_ret
  exact ⟨rfl, by first | exact hB1 | exact pw_below_drewN hB1 _⟩
theorem keyOk_yes (k : ByteArray) (h : k.size ≤ 100) (w : World) : Calls Tryd.prog 84 #[.string k] w fun e w' => e = .returned (.bool true) ∧ w' = w := by
  have h1 : (k.size : Int) ≤ 100 := by omega
  clear h
  go_enter Tryd.func84, Tryd.ntmps84
  go_wp2
  go_ret
  exact ⟨rfl, rfl⟩
theorem keyOk_no (k : ByteArray) (h : 100 < k.size) (w : World) : Calls Tryd.prog 84 #[.string k] w fun e w' => e = .returned (.bool false) ∧ w' = w := by
  have h1 : ¬ (k.size : Int) ≤ 100 := by omega
  clear h
  go_enter Tryd.func84, Tryd.ntmps84
  go_wp2
  go_ret
  exact ⟨rfl, rfl⟩
end Go.Proofs.YtnghcnkffbjddaaDoorV.Aes
