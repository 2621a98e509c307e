/- The program's Sha256, HmacSha, HkdfExtract, HkdfExpand, ExpandLabel, NextSecret, KeysOf, walked; both sides' answers. Conditions: none. -/
import Derived.Test.YtnkakkfjfjeaeaaVHi
namespace Go.Proofs.YtnkakkfjfjeaeaaV.Aes
open Go.RowKit Go.Proofs.YtnkakkfjfjeaeaaV.PrintWords Go.Proofs.YtnkakkfjfjeaeaaV.PrintLast Go.Proofs.YtnkakkfjfjeaeaaV.PrintMore Go.Proofs.YtnkakkfjfjeaeaaV.Mem
set_option linter.unusedVariables false
set_option linter.unusedSimpArgs false

theorem in_walk (n : Int) (b : Bool) (hb : b = (decide (0 ≤ n) && decide (n ≤ 255))) (w : World) : Calls Try.prog 47 #[.int .i64 n, .int .i64 0, .int .i64 255] w fun e w' => e = .returned (.bool b) ∧ w = w' := by
  by_cases h0 : 0 ≤ n
  · by_cases h1 : n ≤ 255
    · have : b = true := by rw [hb]; simp [h0, h1]
      rw [this]
      clear hb
      go_enter Try.func47, Try.ntmps47
      go_wp2
      go_ret
      exact ⟨rfl, rfl⟩
    · have : b = false := by rw [hb]; simp [h1]
      rw [this]
      clear hb
      go_enter Try.func47, Try.ntmps47
      go_wp2
      go_ret
      exact ⟨rfl, rfl⟩
  · have : b = false := by rw [hb]; simp [h0]
    rw [this]
    clear hb
    go_enter Try.func47, Try.ntmps47
    go_wp2
    go_ret
    exact ⟨rfl, rfl⟩
theorem Sha256_yes (s : ByteArray) (h : s.size ≤ 4000) (w : World) : Calls Try.prog 21 #[.string s] w fun e w' => e = .returned (.tuple #[.string (shaS s), .bool true]) ∧ Below w.heap.size w w' := by
  have h1 : ¬ (s.size : Int) > 4000 := by omega
  go_enter Try.func21, Try.ntmps21
  go_wp2_with (first
    | (go_at_call 42; refine (sha_walk s (by omega) _).mono ?_; rintro e w2 ⟨rfl, hB2⟩))
  go_ret2
  exact ⟨rfl, hB2⟩
theorem Sha256_no (s : ByteArray) (h : ¬ s.size ≤ 4000) (w : World) : Calls Try.prog 21 #[.string s] w fun e w' => e = .returned (.tuple #[.string ⟨#[]⟩, .bool false]) ∧ Below w.heap.size w w' := by
  have h1 : (s.size : Int) > 4000 := by omega
  go_enter Try.func21, Try.ntmps21
  go_wp2
  go_ret2
  exact ⟨rfl, Below.refl _ _⟩
/-- What the hash answers. -/
def shaA (s : ByteArray) : ByteArray × Bool := if s.size ≤ 4000 then (shaS s, true) else (⟨#[]⟩, false)
theorem iSha256_walk (s : ByteArray) (w : World) : Calls Try.prog 21 #[.string s] w fun e w' => e = .returned (.tuple #[.string (shaA s).1, .bool (shaA s).2]) ∧ Below w.heap.size w w' := by
  unfold shaA
  by_cases h : s.size ≤ 4000
  · rw [if_pos h]; exact Sha256_yes s h w
  · rw [if_neg h]; exact Sha256_no s h w
theorem sSha256_walk (s : ByteArray) (w : World) : Calls Try.prog 20 #[.string s] w fun e w' => e = .returned (.tuple #[.string (shaA s).1, .bool (shaA s).2]) ∧ Below w.heap.size w w' := by
  unfold shaA
  by_cases h : s.size ≤ 4000
  · rw [if_pos h]; exact sSha256_yes s h w
  · rw [if_neg h]; exact sSha256_no s h w
theorem HmacSha_yes (k s : ByteArray) (hk : k.size ≤ 2000) (h : s.size ≤ 2000) (w : World) : Calls Try.prog 23 #[.string k, .string s] w fun e w' => e = .returned (.tuple #[.string (hmacS k s), .bool true]) ∧ Below w.heap.size w w' := by
  have h2 : ¬ (k.size : Int) > 2000 := by omega
  have h3 : ¬ (s.size : Int) > 2000 := by omega
  go_enter Try.func23, Try.ntmps23
  go_wp2_with (first
    | (go_at_call 44; refine (hmac_walk k s (by omega) (by omega) _).mono ?_; rintro e w2 ⟨rfl, hB2⟩))
  go_ret2
  exact ⟨rfl, hB2⟩
theorem HmacSha_no (k s : ByteArray) (h : ¬ (k.size ≤ 2000 ∧ s.size ≤ 2000)) (w : World) : Calls Try.prog 23 #[.string k, .string s] w fun e w' => e = .returned (.tuple #[.string ⟨#[]⟩, .bool false]) ∧ Below w.heap.size w w' := by
  by_cases hk : k.size ≤ 2000
  · have h2 : ¬ (k.size : Int) > 2000 := by omega
    have h3 : (s.size : Int) > 2000 := by
      have : ¬ s.size ≤ 2000 := fun e => h ⟨hk, e⟩
      omega
    go_enter Try.func23, Try.ntmps23
    go_wp2
    go_ret2
    exact ⟨rfl, Below.refl _ _⟩
  · have h2 : (k.size : Int) > 2000 := by omega
    go_enter Try.func23, Try.ntmps23
    go_wp2
    go_ret2
    exact ⟨rfl, Below.refl _ _⟩
theorem iHmacSha_walk (k s : ByteArray) (w : World) : Calls Try.prog 23 #[.string k, .string s] w fun e w' => e = .returned (.tuple #[.string (hmacA k s).1, .bool (hmacA k s).2]) ∧ Below w.heap.size w w' := by
  unfold hmacA
  by_cases h : k.size ≤ 2000 ∧ s.size ≤ 2000
  · rw [if_pos h]; exact HmacSha_yes k s h.1 h.2 w
  · rw [if_neg h]; exact HmacSha_no k s h w
theorem iHkdfExtract_walk (k s : ByteArray) (w : World) : Calls Try.prog 25 #[.string k, .string s] w fun e w' => e = .returned (.tuple #[.string (hmacA k s).1, .bool (hmacA k s).2]) ∧ Below w.heap.size w w' := by
  obtain ⟨r, hr⟩ : ∃ r, r = hmacA k s := ⟨_, rfl⟩
  have h := iHmacSha_walk k s
  rw [← hr] at h ⊢
  obtain ⟨r1, r2⟩ := r
  clear hr
  go_enter Try.func25, Try.ntmps25
  go_wp2_with (first
    | (go_at_call 23; refine (h _).mono ?_; rintro e w1 ⟨rfl, hB1⟩))
  go_ret2
  exact ⟨rfl, hB1⟩
set_option maxHeartbeats 4000000 in
set_option maxRecDepth 100000 in
theorem HkdfExpand_yes (secret info : ByteArray) (n : Nat) (h1 : secret.size ≤ 500) (h2 : info.size ≤ 500) (hn : n ≤ 255) (w : World) :
    Calls Try.prog 27 #[.string secret, .string info, .int .i64 (n : Int)] w fun e w' => e = .returned (.tuple #[.string (expS secret info n), .bool true]) ∧ Below w.heap.size w w' := by
  have hin := in_walk (n : Int) true (by simp; omega)
  have g1 : ¬ (secret.size : Int) > 500 := by omega
  have g2 : ¬ (info.size : Int) > 500 := by omega
  obtain ⟨r, hr⟩ : ∃ r, r = (n + 31) / 32 := ⟨_, rfl⟩
  have hr1 : n ≤ 32 * r ∧ 32 * r < n + 32 ∧ r ≤ 8 := by omega
  have hfin : expS secret info n = (expO secret info r).extract 0 n := by rw [hr]; rfl
  have Hfin := Lib.hid hfin
  clear hr hfin
  go_enter Try.func27, Try.ntmps27
  go_wp2_with (go_at_call 47; refine (hin _).mono ?_; rintro e w0 ⟨rfl, rfl⟩)
  go_loopw [8, 9, 10] (fun o t y wx => ∃ j : Nat, j ≤ r ∧ y = .int .i64 ((j + 1 : Nat) : Int) ∧ o = .string (expO secret info j) ∧ t = .string (expT secret info j) ∧ Below w.heap.size w wx) (fun _ _ y _ => 10 - (intOf y).toNat)
  case atStart => exact ⟨0, Nat.zero_le _, rfl, rfl, rfl, Below.refl _ _⟩
  case round =>
    obtain ⟨j, hj, rfl, rfl, rfl, hB⟩ := hrel
    have hos := expO_size secret info j
    have hts := expT_size secret info j
    by_cases hjr : j < r
    · have hnx : expT secret info (j + 1) = hmacS secret (expT secret info j ++ info ++ strOfNums (be 1 ((j + 1 : Nat) : Int))) := rfl
      have hno : expO secret info (j + 1) = expO secret info j ++ expT secret info (j + 1) := rfl
      have hts1 := expT_size secret info (j + 1)
      have hbe : ∀ w : World, Calls Try.prog 48 #[.int .u64 ((j + 1 : Nat) : Int), .int .i64 1] w fun e w' => e = .returned (.string (strOfNums (be 1 ((j + 1 : Nat) : Int)))) ∧ Below w.heap.size w w' := be_walk ((j + 1 : Nat) : Int) 1 (by decide)
      have hbs := be1_size ((j + 1 : Nat) : Int)
      obtain ⟨b1, hb1⟩ : ∃ b1, b1 = strOfNums (be 1 ((j + 1 : Nat) : Int)) := ⟨_, rfl⟩
      rw [← hb1] at hnx hbe hbs
      obtain ⟨T, hT⟩ : ∃ T, T = expT secret info j := ⟨_, rfl⟩
      obtain ⟨O, hO⟩ : ∃ O, O = expO secret info j := ⟨_, rfl⟩
      rw [← hT] at hnx hts ⊢
      rw [← hO] at hno hos ⊢
      have hmw := hmac_walk secret (T ++ info ++ b1) (by omega) (by rw [ByteArray.size_append, ByteArray.size_append]; omega)
      rw [← hnx] at hmw
      obtain ⟨T1, hT1⟩ : ∃ T1, T1 = expT secret info (j + 1) := ⟨_, rfl⟩
      rw [← hT1] at hmw hno hts1
      have hOn : (O.size : Int) < (n : Int) := by omega
      have hc1 : ¬ 9223372036854775807 < T.size + info.size := by omega
      have hc2 : ¬ 9223372036854775807 < T.size + info.size + b1.size := by omega
      have hc3 : ¬ 9223372036854775807 < O.size + T1.size := by omega
      have hO8 : O.size ≤ 256 := by omega
      have hb1s : b1.size ≤ 1 := by omega
      have hj8 : j ≤ 8 := by omega
      have Hno := Lib.hid hno
      have HT1 := Lib.hid hT1
      clear hnx hno hb1 hT hO hT1 hos hbs
      go_wp2_with (first
        | (go_at_call 48; refine (hbe _).mono ?_; rintro e w1 ⟨rfl, hB1⟩)
        | (go_at_call 44; refine (hmw _).mono ?_; rintro e w2 ⟨rfl, hB2⟩))
      have hB3 := (hB.trans (hB1.mono hB.size)).trans (hB2.mono (Nat.le_trans hB.size hB1.size))
      clear hB hB1 hB2 hbe hmw
      go_wp2
      exact ⟨⟨j + 1, by omega, by go_num, by rw [Hno.out], by rw [HT1.out], hB3⟩, by simp [intOf]; omega⟩
    · obtain rfl : j = r := by omega
      have hf := Hfin.out
      obtain ⟨O, hO⟩ : ∃ O, O = expO secret info j := ⟨_, rfl⟩
      rw [← hO] at hos hf ⊢
      have hOn : ¬ (O.size : Int) < (n : Int) := by omega
      have hsl := slice_head O n (by omega)
      rw [← hf] at hsl
      clear hf hO hos
      go_wp2
      go_ret2
      exact ⟨rfl, hB⟩
theorem HkdfExpand_no (a b : ByteArray) (n : Int) (h : ¬ (a.size ≤ 500 ∧ b.size ≤ 500 ∧ 0 ≤ n ∧ n ≤ 255)) (w : World) : Calls Try.prog 27 #[.string a, .string b, .int .i64 n] w fun e w' => e = .returned (.tuple #[.string ⟨#[]⟩, .bool false]) ∧ Below w.heap.size w w' := by
  by_cases hn : 0 ≤ n ∧ n ≤ 255
  · have hin := in_walk n true (by simp [hn.1, hn.2])
    by_cases ha : a.size ≤ 500
    · have h2 : ¬ (a.size : Int) > 500 := by omega
      have h3 : (b.size : Int) > 500 := by
        have : ¬ b.size ≤ 500 := fun e => h ⟨ha, e, hn.1, hn.2⟩
        omega
      clear h
      go_enter Try.func27, Try.ntmps27
      go_wp2_with (first
        | (go_at_call 47; refine (hin _).mono ?_; rintro e w0 ⟨rfl, rfl⟩))
      go_ret2
      exact ⟨rfl, Below.refl _ _⟩
    · have h2 : (a.size : Int) > 500 := by omega
      clear h
      go_enter Try.func27, Try.ntmps27
      go_wp2_with (first
        | (go_at_call 47; refine (hin _).mono ?_; rintro e w0 ⟨rfl, rfl⟩))
      go_ret2
      exact ⟨rfl, Below.refl _ _⟩
  · have hin := in_walk n false (by symm; rw [Bool.and_eq_false_iff, decide_eq_false_iff_not, decide_eq_false_iff_not]; omega)
    clear h
    go_enter Try.func27, Try.ntmps27
    go_wp2_with (first
      | (go_at_call 47; refine (hin _).mono ?_; rintro e w0 ⟨rfl, rfl⟩))
    go_ret2
    exact ⟨rfl, Below.refl _ _⟩
/-- What the derivation answers. -/
def expA (a b : ByteArray) (n : Int) : ByteArray × Bool := if a.size ≤ 500 ∧ b.size ≤ 500 ∧ 0 ≤ n ∧ n ≤ 255 then (expS a b n.toNat, true) else (⟨#[]⟩, false)
def labA (a b : ByteArray) (n : Int) : ByteArray × Bool := if a.size ≤ 500 ∧ b.size ≤ 40 ∧ 0 ≤ n ∧ n ≤ 255 then (labelS a b n.toNat, true) else (⟨#[]⟩, false)
theorem iHkdfExpand_walk (a b : ByteArray) (n : Int) (w : World) : Calls Try.prog 27 #[.string a, .string b, .int .i64 n] w fun e w' => e = .returned (.tuple #[.string (expA a b n).1, .bool (expA a b n).2]) ∧ Below w.heap.size w w' := by
  unfold expA
  by_cases h : a.size ≤ 500 ∧ b.size ≤ 500 ∧ 0 ≤ n ∧ n ≤ 255
  · rw [if_pos h]
    obtain ⟨m, rfl⟩ := Int.eq_ofNat_of_zero_le h.2.2.1
    exact HkdfExpand_yes a b m h.1 h.2.1 (by omega) w
  · rw [if_neg h]; exact HkdfExpand_no a b n h w
theorem sHkdfExpand_walk (a b : ByteArray) (n : Int) (w : World) : Calls Try.prog 26 #[.string a, .string b, .int .i64 n] w fun e w' => e = .returned (.tuple #[.string (expA a b n).1, .bool (expA a b n).2]) ∧ Below w.heap.size w w' := by
  unfold expA
  by_cases h : a.size ≤ 500 ∧ b.size ≤ 500 ∧ 0 ≤ n ∧ n ≤ 255
  · rw [if_pos h]
    obtain ⟨m, rfl⟩ := Int.eq_ofNat_of_zero_le h.2.2.1
    exact sHkdfExpand_yes a b m h.1 h.2.1 (by omega) w
  · rw [if_neg h]; exact sHkdfExpand_no a b n h w
theorem sExpandLabel_walk (a b : ByteArray) (n : Int) (w : World) : Calls Try.prog 28 #[.string a, .string b, .int .i64 n] w fun e w' => e = .returned (.tuple #[.string (labA a b n).1, .bool (labA a b n).2]) ∧ Below w.heap.size w w' := by
  unfold labA
  by_cases h : a.size ≤ 500 ∧ b.size ≤ 40 ∧ 0 ≤ n ∧ n ≤ 255
  · rw [if_pos h]
    obtain ⟨m, rfl⟩ := Int.eq_ofNat_of_zero_le h.2.2.1
    exact sExpandLabel_yes a b m h.1 h.2.1 (by omega) w
  · rw [if_neg h]; exact sExpandLabel_no a b n h w
theorem byteCounted_walk (s : ByteArray) (hs : s.size ≤ 1000) (w : World) : Calls Try.prog 50 #[.string s] w fun e w' => e = .returned (.string (strOfNums (be 1 (s.size : Int)) ++ s)) ∧ Below w.heap.size w w' := by
  have hbe : ∀ w : World, Calls Try.prog 48 #[.int .u64 (s.size : Int), .int .i64 1] w fun e w' => e = .returned (.string (strOfNums (be 1 (s.size : Int)))) ∧ Below w.heap.size w w' := be_walk (s.size : Int) 1 (by decide)
  have hbs := be1_size (s.size : Int)
  obtain ⟨b1, hb1⟩ : ∃ b1, b1 = strOfNums (be 1 (s.size : Int)) := ⟨_, rfl⟩
  rw [← hb1] at hbe hbs ⊢
  have hb11 : b1.size ≤ 1 := by omega
  clear hb1 hbs
  go_enter Try.func50, Try.ntmps50
  go_wp2_with (first
    | (go_at_call 48; refine (hbe _).mono ?_; rintro e w1 ⟨rfl, hB1⟩))
  go_ret
  exact ⟨rfl, hB1⟩
theorem expA_info (a b : ByteArray) (m : Nat) (hb : b.size ≤ 40) (hm : m ≤ 255) : expA a (infoL b m) (m : Int) = labA a b (m : Int) := by
  have his := infoL_size b m
  unfold expA labA
  by_cases ha : a.size ≤ 500
  · rw [if_pos ⟨ha, by omega, by omega, by omega⟩, if_pos ⟨ha, hb, by omega, by omega⟩]
    rfl
  · rw [if_neg (fun e => ha e.1), if_neg (fun e => ha e.1)]
set_option maxHeartbeats 4000000 in
theorem ExpandLabel_yes (a b : ByteArray) (m : Nat) (hb : b.size ≤ 40) (hm : m ≤ 255) (w : World) : Calls Try.prog 29 #[.string a, .string b, .int .i64 (m : Int)] w fun e w' => e = .returned (.tuple #[.string (labA a b (m : Int)).1, .bool (labA a b (m : Int)).2]) ∧ Below w.heap.size w w' := by
  have hin := in_walk (m : Int) true (by simp; omega)
  have h3 : ¬ (b.size : Int) > 40 := by omega
  have hbe : ∀ w : World, Calls Try.prog 48 #[.int .u64 (m : Int), .int .i64 2] w fun e w' => e = .returned (.string (strOfNums (be 2 (m : Int)))) ∧ Below w.heap.size w w' := be_walk (m : Int) 2 (by decide)
  have hns := nameL_size b
  have hnd : (⟨#[116, 108, 115, 49, 51, 32]⟩ : ByteArray) ++ b = nameL b := rfl
  have hbc := byteCounted_walk (nameL b) (by omega)
  have hinf : strOfNums (be 2 (m : Int)) ++ (strOfNums (be 1 ((nameL b).size : Int)) ++ nameL b) ++ (⟨#[0]⟩ : ByteArray) = infoL b m := by unfold infoL; simp only [ByteArray.append_assoc]
  have hs2 : (strOfNums (be 2 (m : Int))).size = 2 := by rw [str_size, be_length]
  have hs1 : (strOfNums (be 1 ((nameL b).size : Int)) ++ nameL b).size = 7 + b.size := by rw [ByteArray.size_append, be1_size, hns]; omega
  have hex := iHkdfExpand_walk a (infoL b m) (m : Int)
  rw [expA_info a b m hb hm] at hex
  obtain ⟨r, hr⟩ : ∃ r, r = labA a b (m : Int) := ⟨_, rfl⟩
  rw [← hr] at hex ⊢
  obtain ⟨r1, r2⟩ := r
  obtain ⟨N, hN⟩ : ∃ N, N = nameL b := ⟨_, rfl⟩
  rw [← hN] at hns hnd hbc hinf hs1
  obtain ⟨b2, hb2⟩ : ∃ b2, b2 = strOfNums (be 2 (m : Int)) := ⟨_, rfl⟩
  rw [← hb2] at hbe hinf hs2
  obtain ⟨b1, hb1⟩ : ∃ b1, b1 = strOfNums (be 1 (N.size : Int)) ++ N := ⟨_, rfl⟩
  rw [← hb1] at hbc hinf hs1
  obtain ⟨I, hI⟩ : ∃ I, I = infoL b m := ⟨_, rfl⟩
  rw [← hI] at hex hinf
  have hb21 : b2.size ≤ 2 := by omega
  have hb11 : b1.size ≤ 47 := by omega
  have hN1 : N.size ≤ 46 := by omega
  clear hr hN hb2 hb1 hI hns hs2 hs1
  go_enter Try.func29, Try.ntmps29
  go_wp2_with (first
    | (go_at_call 47; refine (hin _).mono ?_; rintro e w0 ⟨rfl, rfl⟩)
    | (go_at_call 48; refine (hbe _).mono ?_; rintro e w1 ⟨rfl, hB1⟩)
    | (go_at_call 50; refine (hbc _).mono ?_; rintro e w2 ⟨rfl, hB2⟩)
    | (go_at_call 27; refine (hex _).mono ?_; rintro e w3 ⟨rfl, hB3⟩))
  go_ret2
  exact ⟨rfl, (hB1.trans (hB2.mono hB1.size)).trans (hB3.mono (Nat.le_trans hB1.size hB2.size))⟩
theorem ExpandLabel_no (a b : ByteArray) (n : Int) (h : ¬ (b.size ≤ 40 ∧ 0 ≤ n ∧ n ≤ 255)) (w : World) : Calls Try.prog 29 #[.string a, .string b, .int .i64 n] w fun e w' => e = .returned (.tuple #[.string ⟨#[]⟩, .bool false]) ∧ Below w.heap.size w w' := by
  by_cases hb : b.size ≤ 40
  · have h3 : ¬ (b.size : Int) > 40 := by omega
    have hin := in_walk n false (by
      have : ¬ (0 ≤ n ∧ n ≤ 255) := fun e => h ⟨hb, e.1, e.2⟩
      symm
      rw [Bool.and_eq_false_iff, decide_eq_false_iff_not, decide_eq_false_iff_not]
      omega)
    clear h
    go_enter Try.func29, Try.ntmps29
    go_wp2_with (first
      | (go_at_call 47; refine (hin _).mono ?_; rintro e w0 ⟨rfl, rfl⟩))
    go_ret2
    exact ⟨rfl, Below.refl _ _⟩
  · have h3 : (b.size : Int) > 40 := by omega
    clear h
    go_enter Try.func29, Try.ntmps29
    go_wp2
    go_ret2
    exact ⟨rfl, Below.refl _ _⟩
theorem iExpandLabel_walk (a b : ByteArray) (n : Int) (w : World) : Calls Try.prog 29 #[.string a, .string b, .int .i64 n] w fun e w' => e = .returned (.tuple #[.string (labA a b n).1, .bool (labA a b n).2]) ∧ Below w.heap.size w w' := by
  by_cases h : b.size ≤ 40 ∧ 0 ≤ n ∧ n ≤ 255
  · obtain ⟨m, rfl⟩ := Int.eq_ofNat_of_zero_le h.2.1
    exact ExpandLabel_yes a b m h.1 (by omega) w
  · have e : labA a b n = (⟨#[]⟩, false) := if_neg (fun e => h e.2)
    rw [e]
    exact ExpandLabel_no a b n h w
theorem labA_at (s l : ByteArray) (n : Nat) (hl : l.size ≤ 40) (hn : n ≤ 255) : labA s l (n : Int) = if s.size ≤ 500 then (labelS s l n, true) else (⟨#[]⟩, false) := by
  unfold labA
  by_cases h : s.size ≤ 500
  · rw [if_pos ⟨h, hl, by omega, by omega⟩, if_pos h, Int.toNat_natCast]
  · rw [if_neg (fun e => h e.1), if_neg h]
/-- What the derivation of the next secret, of the keys answers. -/
def nextA (s : ByteArray) : ByteArray × Bool := if s.size ≤ 500 then (labelS s quicKu 32, true) else (⟨#[]⟩, false)
def keysA (s : ByteArray) : ByteArray × ByteArray × ByteArray × Bool := if s.size ≤ 500 then (labelS s quicKey 16, labelS s quicIv 12, labelS s quicHp 16, true) else (⟨#[]⟩, ⟨#[]⟩, ⟨#[]⟩, false)
theorem iNextSecret_walk (s : ByteArray) (w : World) : Calls Try.prog 31 #[.string s] w fun e w' => e = .returned (.tuple #[.string (nextA s).1, .bool (nextA s).2]) ∧ Below w.heap.size w w' := by
  have h := iExpandLabel_walk s quicKu ((32 : Nat) : Int)
  rw [labA_at s quicKu 32 (by decide) (by decide), show (if s.size ≤ 500 then (labelS s quicKu 32, true) else (⟨#[]⟩, false)) = nextA s from rfl] at h
  have h' : ∀ w : World, Calls Try.prog 29 #[.string s, .string ⟨#[113, 117, 105, 99, 32, 107, 117]⟩, .int .i64 32] w fun e w' => e = .returned (.tuple #[.string (nextA s).1, .bool (nextA s).2]) ∧ Below w.heap.size w w' := h
  obtain ⟨r, hr⟩ : ∃ r, r = nextA s := ⟨_, rfl⟩
  rw [← hr] at h' ⊢
  obtain ⟨r1, r2⟩ := r
  clear hr h
  go_enter Try.func31, Try.ntmps31
  go_wp2_with (first
    | (go_at_call 29; refine (h' _).mono ?_; rintro e w1 ⟨rfl, hB1⟩))
  go_ret2
  exact ⟨rfl, hB1⟩
theorem sNextSecret_walk (s : ByteArray) (w : World) : Calls Try.prog 30 #[.string s] w fun e w' => e = .returned (.tuple #[.string (nextA s).1, .bool (nextA s).2]) ∧ Below w.heap.size w w' := by
  unfold nextA
  by_cases h : s.size ≤ 500
  · rw [if_pos h]; exact sNextSecret_yes s h w
  · rw [if_neg h]; exact sNextSecret_no s h w
theorem expanded_walk (s l : ByteArray) (n : Nat) (hs : s.size ≤ 500) (hl : l.size ≤ 40) (hn : n ≤ 255) (w : World) : Calls Try.prog 51 #[.string s, .string l, .int .i64 (n : Int)] w fun e w' => e = .returned (.string (labelS s l n)) ∧ Below w.heap.size w w' := by
  have h := iExpandLabel_walk s l (n : Int)
  rw [labA_at s l n hl hn, if_pos hs] at h
  go_enter Try.func51, Try.ntmps51
  go_wp2_with (first
    | (go_at_call 29; refine (h _).mono ?_; rintro e w1 ⟨rfl, hB1⟩))
  go_ret
  exact ⟨rfl, hB1⟩
set_option maxHeartbeats 4000000 in
theorem KeysOf_yes (s : ByteArray) (h : s.size ≤ 500) (w : World) : Calls Try.prog 33 #[.string s] w fun e w' => e = .returned (.tuple #[.agg #[.string (labelS s quicKey 16), .string (labelS s quicIv 12), .string (labelS s quicHp 16)], .bool true]) ∧ Below w.heap.size w w' := by
  have h1 : ¬ (s.size : Int) > 500 := by omega
  have hl1 : ∀ (wx : World), Calls Try.prog 51 #[.string s, .string ⟨#[113, 117, 105, 99, 32, 107, 101, 121]⟩, .int .i64 16] wx fun e w' => e = .returned (.string (labelS s quicKey 16)) ∧ Below wx.heap.size wx w' := fun wx => expanded_walk s quicKey 16 h (by decide) (by decide) wx
  have hl2 : ∀ (wx : World), Calls Try.prog 51 #[.string s, .string ⟨#[113, 117, 105, 99, 32, 105, 118]⟩, .int .i64 12] wx fun e w' => e = .returned (.string (labelS s quicIv 12)) ∧ Below wx.heap.size wx w' := fun wx => expanded_walk s quicIv 12 h (by decide) (by decide) wx
  have hl3 : ∀ (wx : World), Calls Try.prog 51 #[.string s, .string ⟨#[113, 117, 105, 99, 32, 104, 112]⟩, .int .i64 16] wx fun e w' => e = .returned (.string (labelS s quicHp 16)) ∧ Below wx.heap.size wx w' := fun wx => expanded_walk s quicHp 16 h (by decide) (by decide) wx
  go_enter Try.func33, Try.ntmps33
  go_wp2_with (first
    | (go_at_call 51; (with_reducible refine (hl1 _).mono ?_); rintro e w2 ⟨rfl, hB2⟩)
    | (go_at_call 51; (with_reducible refine (hl2 _).mono ?_); rintro e w3 ⟨rfl, hB3⟩)
    | (go_at_call 51; (with_reducible refine (hl3 _).mono ?_); rintro e w4 ⟨rfl, hB4⟩; obtain ⟨c0, c1, c2, f0, f1, f2⟩ := keys_block (Below.refl _ _) hB2 hB3 hB4))
  have hBe := (hB2.trans (hB3.mono hB2.size)).trans (hB4.mono (Nat.le_trans hB2.size hB3.size))
  refine bodyPost_ret (v := .tuple #[.agg #[.string (labelS s quicKey 16), .string (labelS s quicIv 12), .string (labelS s quicHp 16)], .bool true]) (by simp [results, Try.results33, go_sem, c0, c1, c2]) rfl ⟨rfl, ?_⟩
  exact (((((Below.refl _ _).alloc (Nat.le_refl _) _).trans (hBe.mono (by simp))).setCell (Nat.le_refl _) _).setCell (Nat.le_refl _) _).setCell (Nat.le_refl _) _
theorem KeysOf_no (s : ByteArray) (h : ¬ s.size ≤ 500) (w : World) : Calls Try.prog 33 #[.string s] w fun e w' => e = .returned (.tuple #[.agg #[.string ⟨#[]⟩, .string ⟨#[]⟩, .string ⟨#[]⟩], .bool false]) ∧ Below w.heap.size w w' := by
  have h1 : (s.size : Int) > 500 := by omega
  go_enter Try.func33, Try.ntmps33
  go_wp2
  exact bodyPost_ret (v := .tuple #[.agg #[.string ⟨#[]⟩, .string ⟨#[]⟩, .string ⟨#[]⟩], .bool false]) (by simp [results, Try.results33, go_sem]) rfl ⟨rfl, (Below.refl _ _).alloc (Nat.le_refl _) _⟩
theorem iKeysOf_walk (s : ByteArray) (w : World) : Calls Try.prog 33 #[.string s] w fun e w' => e = .returned (.tuple #[.agg #[.string (keysA s).1, .string (keysA s).2.1, .string (keysA s).2.2.1], .bool (keysA s).2.2.2]) ∧ Below w.heap.size w w' := by
  unfold keysA
  by_cases h : s.size ≤ 500
  · rw [if_pos h]; exact KeysOf_yes s h w
  · rw [if_neg h]; exact KeysOf_no s h w
theorem sKeysOf_walk (s : ByteArray) (w : World) : Calls Try.prog 32 #[.string s] w fun e w' => e = .returned (.tuple #[.agg #[.string (keysA s).1, .string (keysA s).2.1, .string (keysA s).2.2.1], .bool (keysA s).2.2.2]) ∧ Below w.heap.size w w' := by
  unfold keysA
  by_cases h : s.size ≤ 500
  · rw [if_pos h]; exact sKeysOf_yes s h w
  · rw [if_neg h]; exact sKeysOf_no s h w
end Go.Proofs.YtnkakkfjfjeaeaaV.Aes
