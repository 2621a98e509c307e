/- The reference's hasher: (*l4H).expand and label, walked. Conditions: the texts are short, 0 ≤ n ≤ 255. -/
import Derived.Test.YtnkakkfjfjeaeaaVHv
namespace Go.Proofs.YtnkakkfjfjeaeaaV.Aes
open Go.RowKit Go.Proofs.YtnkakkfjfjeaeaaV.PrintWords Go.Proofs.YtnkakkfjfjeaeaaV.PrintLast Go.Proofs.YtnkakkfjfjeaeaaV.PrintMore Go.Proofs.YtnkakkfjfjeaeaaV.Mem
set_option linter.unusedVariables false
set_option linter.unusedSimpArgs false

/-- The derived bytes: what the i-th round adds; what i rounds give; the first n of them. -/
def expT (secret info : ByteArray) : Nat → ByteArray
  | 0 => ⟨#[]⟩
  | i + 1 => hmacS secret (expT secret info i ++ info ++ strOfNums (be 1 ((i + 1 : Nat) : Int)))
def expO (secret info : ByteArray) : Nat → ByteArray
  | 0 => ⟨#[]⟩
  | i + 1 => expO secret info i ++ expT secret info (i + 1)
theorem expT_size (secret info : ByteArray) : ∀ i, (expT secret info i).size ≤ 32
  | 0 => Nat.zero_le _
  | i + 1 => by rw [expT, hmacS_size]; exact Nat.le_refl _
theorem expO_size (secret info : ByteArray) : ∀ i, (expO secret info i).size = 32 * i
  | 0 => rfl
  | i + 1 => by rw [expO, ByteArray.size_append, expO_size secret info i, expT, hmacS_size]; omega
def expS (secret info : ByteArray) (n : Nat) : ByteArray := (expO secret info ((n + 31) / 32)).extract 0 n
theorem slice_head (b : ByteArray) (j : Nat) (hj : j ≤ b.size) (wx : World) : (Instr.slice 9 (.string b) none (some (.int .i64 (j : Int))) none).run Try.prog wx = .ok (.string (b.extract 0 j)) wx := by
  have : (j : Int) ≤ (b.size : Int) := by omega
  go_simp
theorem be1_size (x : Int) : (strOfNums (be 1 x)).size = 1 := by rw [str_size, be_length]
set_option maxHeartbeats 4000000 in
set_option maxRecDepth 100000 in
theorem expand_walk (secret info : ByteArray) (n : Nat) (h1 : secret.size ≤ 1000) (h2 : info.size ≤ 1000) (hn : n ≤ 255) (hb : Nat) (w : World) (hH : Hok w hb) :
    Calls Try.prog 46 #[.pointer (some ⟨hb, 0, none⟩), .string secret, .string info, .int .i64 (n : Int)] w fun e w' => e = .returned (.string (expS secret info n)) ∧ Below w.heap.size w w' := by
  obtain ⟨r, hr⟩ : ∃ r, r = (n + 31) / 32 := ⟨_, rfl⟩
  have hr1 : n ≤ 32 * r ∧ 32 * r < n + 32 ∧ r ≤ 8 := by omega
  have hfin : expS secret info n = (expO secret info r).extract 0 n := by rw [hr]; rfl
  have Hfin := Lib.hid hfin
  clear hr hfin
  go_enter Try.func46, Try.ntmps46
  go_wp2
  go_loopw [9, 10, 11] (fun o t y wx => ∃ j : Nat, j ≤ r ∧ y = .int .i64 ((j + 1 : Nat) : Int) ∧ o = .string (expO secret info j) ∧ t = .string (expT secret info j) ∧ Hok wx hb ∧ Below w.heap.size w wx) (fun _ _ y _ => 10 - (intOf y).toNat)
  case atStart => exact ⟨0, Nat.zero_le _, rfl, rfl, rfl, hH, Below.refl _ _⟩
  case round =>
    clear hH
    obtain ⟨j, hj, rfl, rfl, rfl, hH, hB⟩ := hrel
    have hos := expO_size secret info j
    have hts := expT_size secret info j
    by_cases hjr : j < r
    · have hnx : expT secret info (j + 1) = hmacS secret (expT secret info j ++ info ++ strOfNums (be 1 ((j + 1 : Nat) : Int))) := rfl
      have hno : expO secret info (j + 1) = expO secret info j ++ expT secret info (j + 1) := rfl
      have hts1 := expT_size secret info (j + 1)
      have hbe := fixed_walk ((j + 1 : Nat) : Int) 1 (by decide)
      have hbs := be1_size ((j + 1 : Nat) : Int)
      obtain ⟨b1, hb1⟩ : ∃ b1, b1 = strOfNums (be 1 ((j + 1 : Nat) : Int)) := ⟨_, rfl⟩
      rw [← hb1] at hnx hbe hbs
      obtain ⟨T, hT⟩ : ∃ T, T = expT secret info j := ⟨_, rfl⟩
      obtain ⟨O, hO⟩ : ∃ O, O = expO secret info j := ⟨_, rfl⟩
      rw [← hT] at hnx hts ⊢
      rw [← hO] at hno hos ⊢
      have hmw := fun (wx : World) (h : Hok wx hb) => shmac_walk secret (T ++ info ++ b1) (by omega) (by rw [ByteArray.size_append, ByteArray.size_append]; omega) hb wx h
      rw [← hnx] at hmw
      obtain ⟨T1, hT1⟩ : ∃ T1, T1 = expT secret info (j + 1) := ⟨_, rfl⟩
      rw [← hT1] at hmw hno hts1
      have hOn : (O.size : Int) < (n : Int) := by omega
      have hc1 : ¬ 9223372036854775807 < T.size + info.size := by omega
      have hc2 : ¬ 9223372036854775807 < T.size + info.size + b1.size := by omega
      have hc3 : ¬ 9223372036854775807 < O.size + T1.size := by omega
      have hO8 : O.size ≤ 256 := by omega
      have hb1s : b1.size ≤ 1 := by omega
      have hj8 : j ≤ 8 := by omega
      have Hno := Lib.hid hno
      have HT1 := Lib.hid hT1
      clear hnx hno hb1 hT hO hT1 hos hbs
      go_wp2_with (first
        | (go_at_call 61; refine (hbe _).mono ?_; rintro e w1 ⟨rfl, hB1⟩)
        | (go_at_call 43; refine (hmw _ (hH.below hB1)).mono ?_; rintro e w2 ⟨rfl, hB2⟩))
      have hH2 := (hH.below hB1).below hB2
      have hB3 := (hB.trans (hB1.mono hB.size)).trans (hB2.mono (Nat.le_trans hB.size hB1.size))
      clear hH hB hB1 hB2 hbe hmw
      go_wp2
      exact ⟨⟨j + 1, by omega, by go_num, by rw [Hno.out], by rw [HT1.out], hH2, hB3⟩, by simp [intOf]; omega⟩
    · obtain rfl : j = r := by omega
      have hf := Hfin.out
      obtain ⟨O, hO⟩ : ∃ O, O = expO secret info j := ⟨_, rfl⟩
      rw [← hO] at hos hf ⊢
      have hOn : ¬ (O.size : Int) < (n : Int) := by omega
      have hsl := slice_head O n (by omega)
      rw [← hf] at hsl
      clear hf hO hos
      go_wp2
      go_ret
      exact ⟨rfl, hB⟩
/-- What a label is told as; the derived bytes of a label. -/
def nameL (label : ByteArray) : ByteArray := (⟨#[116, 108, 115, 49, 51, 32]⟩ : ByteArray) ++ label
def infoL (label : ByteArray) (n : Nat) : ByteArray := strOfNums (be 2 (n : Int)) ++ strOfNums (be 1 ((nameL label).size : Int)) ++ nameL label ++ ⟨#[0]⟩
def labelS (secret label : ByteArray) (n : Nat) : ByteArray := expS secret (infoL label n) n
theorem nameL_size (label : ByteArray) : (nameL label).size = 6 + label.size := by unfold nameL; rw [ByteArray.size_append]; rfl
theorem infoL_size (label : ByteArray) (n : Nat) : (infoL label n).size = 10 + label.size := by
  unfold infoL
  rw [ByteArray.size_append, ByteArray.size_append, ByteArray.size_append, nameL_size, str_size, str_size, be_length, be_length]
  show 2 + 1 + (6 + label.size) + 1 = _
  omega
set_option maxHeartbeats 4000000 in
set_option maxRecDepth 100000 in
theorem label_walk (secret label : ByteArray) (n : Nat) (h1 : secret.size ≤ 1000) (h2 : label.size ≤ 100) (hn : n ≤ 255) (hb : Nat) (w : World) (hH : Hok w hb) :
    Calls Try.prog 49 #[.pointer (some ⟨hb, 0, none⟩), .string secret, .string label, .int .i64 (n : Int)] w fun e w' => e = .returned (.string (labelS secret label n)) ∧ Below w.heap.size w w' := by
  have hns := nameL_size label
  have his := infoL_size label n
  have hin : infoL label n = strOfNums (be 2 (n : Int)) ++ strOfNums (be 1 ((nameL label).size : Int)) ++ nameL label ++ ⟨#[0]⟩ := rfl
  have hnd : (⟨#[116, 108, 115, 49, 51, 32]⟩ : ByteArray) ++ label = nameL label := rfl
  obtain ⟨N, hN⟩ : ∃ N, N = nameL label := ⟨_, rfl⟩
  rw [← hN] at hns hin hnd
  have hf2 : ∀ w : World, Calls Try.prog 61 #[.int .i64 (n : Int), .int .i64 2] w fun e w' => e = .returned (.string (strOfNums (be 2 (n : Int)))) ∧ Below w.heap.size w w' := fixed_walk (n : Int) 2 (by decide)
  have hf1 : ∀ w : World, Calls Try.prog 61 #[.int .i64 (N.size : Int), .int .i64 1] w fun e w' => e = .returned (.string (strOfNums (be 1 (N.size : Int)))) ∧ Below w.heap.size w w' := fixed_walk (N.size : Int) 1 (by decide)
  have hs2 : (strOfNums (be 2 (n : Int))).size = 2 := by rw [str_size, be_length]
  have hs1 : (strOfNums (be 1 (N.size : Int))).size = 1 := by rw [str_size, be_length]
  obtain ⟨b2, hb2⟩ : ∃ b2, b2 = strOfNums (be 2 (n : Int)) := ⟨_, rfl⟩
  rw [← hb2] at hf2 hin hs2
  obtain ⟨b1, hb1⟩ : ∃ b1, b1 = strOfNums (be 1 (N.size : Int)) := ⟨_, rfl⟩
  rw [← hb1] at hf1 hin hs1
  have hex := fun (wx : World) (h : Hok wx hb) => expand_walk secret (infoL label n) n h1 (by omega) hn hb wx h
  have hfin : labelS secret label n = expS secret (infoL label n) n := rfl
  rw [← hfin] at hex
  obtain ⟨I, hI⟩ : ∃ I, I = infoL label n := ⟨_, rfl⟩
  rw [← hI] at hex hin
  have hN1 : N.size ≤ 106 := by omega
  have hb21 : b2.size ≤ 2 := by omega
  have hb11 : b1.size ≤ 1 := by omega
  have hin2 := hin.symm
  clear hN hns his hin hb2 hb1 hs2 hs1 hfin hI
  go_enter Try.func49, Try.ntmps49
  go_wp2_with (first
    | (go_at_call 61; (with_reducible refine (hf2 _).mono ?_); rintro e w1 ⟨rfl, hB1⟩)
    | (go_at_call 61; (with_reducible refine (hf1 _).mono ?_); rintro e w2 ⟨rfl, hB2⟩)
    | (go_at_call 46; refine (hex _ ((hH.below hB1).below hB2)).mono ?_; rintro e w3 ⟨rfl, hB3⟩))
  go_ret
  exact ⟨rfl, (hB1.trans (hB2.mono hB1.size)).trans (hB3.mono (Nat.le_trans hB1.size hB2.size))⟩
end Go.Proofs.YtnkakkfjfjeaeaaV.Aes
