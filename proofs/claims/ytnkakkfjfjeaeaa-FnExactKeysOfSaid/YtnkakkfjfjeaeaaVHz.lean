/- The reference's Sha256, HmacSha, HkdfExtract, HkdfExpand, ExpandLabel, NextSecret, KeysOf, walked. Conditions: none; each tells what it answers for all arguments. -/
import Derived.Test.YtnkakkfjfjeaeaaVHy
namespace Go.Proofs.YtnkakkfjfjeaeaaV.Aes
open Go.RowKit Go.Proofs.YtnkakkfjfjeaeaaV.PrintWords Go.Proofs.YtnkakkfjfjeaeaaV.PrintLast Go.Proofs.YtnkakkfjfjeaeaaV.PrintMore Go.Proofs.YtnkakkfjfjeaeaaV.Mem
set_option linter.unusedVariables false
set_option linter.unusedSimpArgs false

theorem l1In_walk (n : Int) (b : Bool) (hb : b = (decide (0 ≤ n) && decide (n ≤ 255))) (w : World) : Calls Try.prog 45 #[.int .i64 n, .int .i64 0, .int .i64 255] w fun e w' => e = .returned (.bool b) ∧ w = w' := by
  by_cases h0 : 0 ≤ n
  · by_cases h1 : n ≤ 255
    · have : b = true := by rw [hb]; simp [h0, h1]
      rw [this]
      clear hb
      go_enter Try.func45, Try.ntmps45
      go_wp2
      go_ret
      exact ⟨rfl, rfl⟩
    · have : b = false := by rw [hb]; simp [h1]
      rw [this]
      clear hb
      go_enter Try.func45, Try.ntmps45
      go_wp2
      go_ret
      exact ⟨rfl, rfl⟩
  · have : b = false := by rw [hb]; simp [h0]
    rw [this]
    clear hb
    go_enter Try.func45, Try.ntmps45
    go_wp2
    go_ret
    exact ⟨rfl, rfl⟩
theorem sSha256_yes (s : ByteArray) (h : s.size ≤ 4000) (w : World) : Calls Try.prog 20 #[.string s] w fun e w' => e = .returned (.tuple #[.string (shaS s), .bool true]) ∧ Below w.heap.size w w' := by
  have h1 : ¬ (s.size : Int) > 4000 := by omega
  go_enter Try.func20, Try.ntmps20
  go_wp2_with (first
    | (go_at_call 40; refine (l4New_walk _).mono ?_; rintro e w1 ⟨hb, rfl, hH, hB1⟩)
    | (go_at_call 41; refine (sum_walk s (by omega) hb _ hH).mono ?_; rintro e w2 ⟨rfl, hB2⟩))
  go_ret2
  exact ⟨rfl, hB1.trans (hB2.mono hB1.size)⟩
theorem sSha256_no (s : ByteArray) (h : ¬ s.size ≤ 4000) (w : World) : Calls Try.prog 20 #[.string s] w fun e w' => e = .returned (.tuple #[.string ⟨#[]⟩, .bool false]) ∧ Below w.heap.size w w' := by
  have h1 : (s.size : Int) > 4000 := by omega
  go_enter Try.func20, Try.ntmps20
  go_wp2
  go_ret2
  exact ⟨rfl, Below.refl _ _⟩
theorem sHmacSha_yes (k s : ByteArray) (hk : k.size ≤ 2000) (h : s.size ≤ 2000) (w : World) : Calls Try.prog 22 #[.string k, .string s] w fun e w' => e = .returned (.tuple #[.string (hmacS k s), .bool true]) ∧ Below w.heap.size w w' := by
  have h0 : decide ((k.size : Int) > 2000) = false := by simp; omega
  have h1 : decide ((s.size : Int) > 2000) = false := by simp; omega
  have h2 : ¬ (k.size : Int) > 2000 := by omega
  have h3 : ¬ (s.size : Int) > 2000 := by omega
  go_enter Try.func22, Try.ntmps22
  go_wp2_with (first
    | (go_at_call 40; refine (l4New_walk _).mono ?_; rintro e w1 ⟨hb, rfl, hH, hB1⟩)
    | (go_at_call 43; refine (shmac_walk k s (by omega) (by omega) hb _ hH).mono ?_; rintro e w2 ⟨rfl, hB2⟩))
  go_ret2
  exact ⟨rfl, hB1.trans (hB2.mono hB1.size)⟩
theorem sHmacSha_no (k s : ByteArray) (h : ¬ (k.size ≤ 2000 ∧ s.size ≤ 2000)) (w : World) : Calls Try.prog 22 #[.string k, .string s] w fun e w' => e = .returned (.tuple #[.string ⟨#[]⟩, .bool false]) ∧ Below w.heap.size w w' := by
  by_cases hk : k.size ≤ 2000
  · have h2 : ¬ (k.size : Int) > 2000 := by omega
    have h3 : (s.size : Int) > 2000 := by
      have : ¬ s.size ≤ 2000 := fun e => h ⟨hk, e⟩
      omega
    go_enter Try.func22, Try.ntmps22
    go_wp2
    go_ret2
    exact ⟨rfl, Below.refl _ _⟩
  · have h2 : (k.size : Int) > 2000 := by omega
    go_enter Try.func22, Try.ntmps22
    go_wp2
    go_ret2
    exact ⟨rfl, Below.refl _ _⟩
/-- What the keyed hash answers. -/
def hmacA (k s : ByteArray) : ByteArray × Bool := if k.size ≤ 2000 ∧ s.size ≤ 2000 then (hmacS k s, true) else (⟨#[]⟩, false)
theorem sHmacSha_walk (k s : ByteArray) (w : World) : Calls Try.prog 22 #[.string k, .string s] w fun e w' => e = .returned (.tuple #[.string (hmacA k s).1, .bool (hmacA k s).2]) ∧ Below w.heap.size w w' := by
  unfold hmacA
  by_cases h : k.size ≤ 2000 ∧ s.size ≤ 2000
  · rw [if_pos h]; exact sHmacSha_yes k s h.1 h.2 w
  · rw [if_neg h]; exact sHmacSha_no k s h w
theorem sHkdfExtract_walk (k s : ByteArray) (w : World) : Calls Try.prog 24 #[.string k, .string s] w fun e w' => e = .returned (.tuple #[.string (hmacA k s).1, .bool (hmacA k s).2]) ∧ Below w.heap.size w w' := by
  obtain ⟨r, hr⟩ : ∃ r, r = hmacA k s := ⟨_, rfl⟩
  have h := sHmacSha_walk k s
  rw [← hr] at h ⊢
  obtain ⟨r1, r2⟩ := r
  clear hr
  go_enter Try.func24, Try.ntmps24
  go_wp2_with (first
    | (go_at_call 22; refine (h _).mono ?_; rintro e w1 ⟨rfl, hB1⟩))
  go_ret2
  exact ⟨rfl, hB1⟩
theorem sHkdfExpand_yes (a b : ByteArray) (n : Nat) (ha : a.size ≤ 500) (hb0 : b.size ≤ 500) (hn : n ≤ 255) (w : World) : Calls Try.prog 26 #[.string a, .string b, .int .i64 (n : Int)] w fun e w' => e = .returned (.tuple #[.string (expS a b n), .bool true]) ∧ Below w.heap.size w w' := by
  have h2 : ¬ (a.size : Int) > 500 := by omega
  have h3 : ¬ (b.size : Int) > 500 := by omega
  have hin := l1In_walk (n : Int) true (by simp; omega)
  go_enter Try.func26, Try.ntmps26
  go_wp2_with (first
    | (go_at_call 40; refine (l4New_walk _).mono ?_; rintro e w1 ⟨hb, rfl, hH, hB1⟩)
    | (go_at_call 45; refine (hin _).mono ?_; rintro e w0 ⟨rfl, rfl⟩)
    | (go_at_call 46; refine (expand_walk a b n (by omega) (by omega) hn hb _ hH).mono ?_; rintro e w2 ⟨rfl, hB2⟩))
  go_ret2
  exact ⟨rfl, hB1.trans (hB2.mono hB1.size)⟩
theorem sHkdfExpand_no (a b : ByteArray) (n : Int) (h : ¬ (a.size ≤ 500 ∧ b.size ≤ 500 ∧ 0 ≤ n ∧ n ≤ 255)) (w : World) : Calls Try.prog 26 #[.string a, .string b, .int .i64 n] w fun e w' => e = .returned (.tuple #[.string ⟨#[]⟩, .bool false]) ∧ Below w.heap.size w w' := by
  by_cases ha : a.size ≤ 500
  · have h2 : ¬ (a.size : Int) > 500 := by omega
    by_cases hb0 : b.size ≤ 500
    · have h3 : ¬ (b.size : Int) > 500 := by omega
      have hin := l1In_walk n false (by
        have : ¬ (0 ≤ n ∧ n ≤ 255) := fun e => h ⟨ha, hb0, e.1, e.2⟩
        symm
        rw [Bool.and_eq_false_iff, decide_eq_false_iff_not, decide_eq_false_iff_not]
        omega)
      clear h
      go_enter Try.func26, Try.ntmps26
      go_wp2_with (go_at_call 45; refine (hin _).mono ?_; rintro e w0 ⟨rfl, rfl⟩)
      go_ret2
      exact ⟨rfl, Below.refl _ _⟩
    · have h3 : (b.size : Int) > 500 := by omega
      clear h
      go_enter Try.func26, Try.ntmps26
      go_wp2
      go_ret2
      exact ⟨rfl, Below.refl _ _⟩
  · have h2 : (a.size : Int) > 500 := by omega
    clear h
    go_enter Try.func26, Try.ntmps26
    go_wp2
    go_ret2
    exact ⟨rfl, Below.refl _ _⟩
theorem sExpandLabel_yes (a b : ByteArray) (n : Nat) (ha : a.size ≤ 500) (hb0 : b.size ≤ 40) (hn : n ≤ 255) (w : World) : Calls Try.prog 28 #[.string a, .string b, .int .i64 (n : Int)] w fun e w' => e = .returned (.tuple #[.string (labelS a b n), .bool true]) ∧ Below w.heap.size w w' := by
  have h2 : ¬ (a.size : Int) > 500 := by omega
  have h3 : ¬ (b.size : Int) > 40 := by omega
  have hin := l1In_walk (n : Int) true (by simp; omega)
  go_enter Try.func28, Try.ntmps28
  go_wp2_with (first
    | (go_at_call 40; refine (l4New_walk _).mono ?_; rintro e w1 ⟨hb, rfl, hH, hB1⟩)
    | (go_at_call 45; refine (hin _).mono ?_; rintro e w0 ⟨rfl, rfl⟩)
    | (go_at_call 49; refine (label_walk a b n (by omega) (by omega) hn hb _ hH).mono ?_; rintro e w2 ⟨rfl, hB2⟩))
  go_ret2
  exact ⟨rfl, hB1.trans (hB2.mono hB1.size)⟩
theorem sExpandLabel_no (a b : ByteArray) (n : Int) (h : ¬ (a.size ≤ 500 ∧ b.size ≤ 40 ∧ 0 ≤ n ∧ n ≤ 255)) (w : World) : Calls Try.prog 28 #[.string a, .string b, .int .i64 n] w fun e w' => e = .returned (.tuple #[.string ⟨#[]⟩, .bool false]) ∧ Below w.heap.size w w' := by
  by_cases ha : a.size ≤ 500
  · have h2 : ¬ (a.size : Int) > 500 := by omega
    by_cases hb0 : b.size ≤ 40
    · have h3 : ¬ (b.size : Int) > 40 := by omega
      have hin := l1In_walk n false (by
        have : ¬ (0 ≤ n ∧ n ≤ 255) := fun e => h ⟨ha, hb0, e.1, e.2⟩
        symm
        rw [Bool.and_eq_false_iff, decide_eq_false_iff_not, decide_eq_false_iff_not]
        omega)
      clear h
      go_enter Try.func28, Try.ntmps28
      go_wp2_with (go_at_call 45; refine (hin _).mono ?_; rintro e w0 ⟨rfl, rfl⟩)
      go_ret2
      exact ⟨rfl, Below.refl _ _⟩
    · have h3 : (b.size : Int) > 40 := by omega
      clear h
      go_enter Try.func28, Try.ntmps28
      go_wp2
      go_ret2
      exact ⟨rfl, Below.refl _ _⟩
  · have h2 : (a.size : Int) > 500 := by omega
    clear h
    go_enter Try.func28, Try.ntmps28
    go_wp2
    go_ret2
    exact ⟨rfl, Below.refl _ _⟩
def quicKu : ByteArray := ⟨#[113, 117, 105, 99, 32, 107, 117]⟩
def quicKey : ByteArray := ⟨#[113, 117, 105, 99, 32, 107, 101, 121]⟩
def quicIv : ByteArray := ⟨#[113, 117, 105, 99, 32, 105, 118]⟩
def quicHp : ByteArray := ⟨#[113, 117, 105, 99, 32, 104, 112]⟩
theorem sNextSecret_yes (s : ByteArray) (h : s.size ≤ 500) (w : World) : Calls Try.prog 30 #[.string s] w fun e w' => e = .returned (.tuple #[.string (labelS s quicKu 32), .bool true]) ∧ Below w.heap.size w w' := by
  have h1 : ¬ (s.size : Int) > 500 := by omega
  have hl := fun (hb : Nat) (wx : World) (hH : Hok wx hb) => label_walk s quicKu 32 (by omega) (by decide) (by decide) hb wx hH
  go_enter Try.func30, Try.ntmps30
  go_wp2_with (first
    | (go_at_call 40; refine (l4New_walk _).mono ?_; rintro e w1 ⟨hb, rfl, hH, hB1⟩)
    | (go_at_call 49; refine (hl hb _ hH).mono ?_; rintro e w2 ⟨rfl, hB2⟩))
  go_ret2
  exact ⟨rfl, hB1.trans (hB2.mono hB1.size)⟩
theorem sNextSecret_no (s : ByteArray) (h : ¬ s.size ≤ 500) (w : World) : Calls Try.prog 30 #[.string s] w fun e w' => e = .returned (.tuple #[.string ⟨#[]⟩, .bool false]) ∧ Below w.heap.size w w' := by
  have h1 : (s.size : Int) > 500 := by omega
  go_enter Try.func30, Try.ntmps30
  go_wp2
  go_ret2
  exact ⟨rfl, Below.refl _ _⟩
theorem zero39 (wx : World) : (Instr.build 39 #[]).run Try.prog wx = .ok (.agg #[.string ⟨#[]⟩, .string ⟨#[]⟩, .string ⟨#[]⟩]) wx := by kernel_rfl
theorem keys_block {w w1 w2 w3 w4 : World} (hB1 : Below (w.alloc (.cells #[.string ⟨#[]⟩, .string ⟨#[]⟩, .string ⟨#[]⟩] 39)).heap.size (w.alloc (.cells #[.string ⟨#[]⟩, .string ⟨#[]⟩, .string ⟨#[]⟩] 39)) w1) (hB2 : Below w1.heap.size w1 w2) (hB3 : Below w2.heap.size w2 w3) (hB4 : Below w3.heap.size w3 w4) :
    w4.cell? ⟨w.heap.size, 0, none⟩ = some (.string ⟨#[]⟩) ∧ w4.cell? ⟨w.heap.size, 1, none⟩ = some (.string ⟨#[]⟩) ∧ w4.cell? ⟨w.heap.size, 2, none⟩ = some (.string ⟨#[]⟩) ∧ w4.frozen? ⟨w.heap.size, 0, none⟩ = false ∧ w4.frozen? ⟨w.heap.size, 1, none⟩ = false ∧ w4.frozen? ⟨w.heap.size, 2, none⟩ = false := by
  have s1 := hB1.size
  have s2 := hB2.size
  have s3 := hB3.size
  have s0 : w.heap.size < (w.alloc (.cells #[.string ⟨#[]⟩, .string ⟨#[]⟩, .string ⟨#[]⟩] 39)).heap.size := by simp
  have hbk : w4.heap[w.heap.size]? = some (.cells #[.string ⟨#[]⟩, .string ⟨#[]⟩, .string ⟨#[]⟩] 39 (0, 0)) := by
    rw [hB4.block _ (by omega), hB3.block _ (by omega), hB2.block _ (by omega), hB1.block _ s0]
    exact heap_alloc_new w _
  refine ⟨?_, ?_, ?_, ?_, ?_, ?_⟩ <;> simp [World.cell?, World.frozen?, hbk]
set_option maxHeartbeats 4000000 in
theorem sKeysOf_yes (s : ByteArray) (h : s.size ≤ 500) (w : World) : Calls Try.prog 32 #[.string s] w fun e w' => e = .returned (.tuple #[.agg #[.string (labelS s quicKey 16), .string (labelS s quicIv 12), .string (labelS s quicHp 16)], .bool true]) ∧ Below w.heap.size w w' := by
  have h1 : ¬ (s.size : Int) > 500 := by omega
  have hl1 : ∀ (hb : Nat) (wx : World) (hH : Hok wx hb), Calls Try.prog 49 #[.pointer (some ⟨hb, 0, none⟩), .string s, .string ⟨#[113, 117, 105, 99, 32, 107, 101, 121]⟩, .int .i64 16] wx fun e w' => e = .returned (.string (labelS s quicKey 16)) ∧ Below wx.heap.size wx w' := fun hb wx hH => label_walk s quicKey 16 (by omega) (by decide) (by decide) hb wx hH
  have hl2 : ∀ (hb : Nat) (wx : World) (hH : Hok wx hb), Calls Try.prog 49 #[.pointer (some ⟨hb, 0, none⟩), .string s, .string ⟨#[113, 117, 105, 99, 32, 105, 118]⟩, .int .i64 12] wx fun e w' => e = .returned (.string (labelS s quicIv 12)) ∧ Below wx.heap.size wx w' := fun hb wx hH => label_walk s quicIv 12 (by omega) (by decide) (by decide) hb wx hH
  have hl3 : ∀ (hb : Nat) (wx : World) (hH : Hok wx hb), Calls Try.prog 49 #[.pointer (some ⟨hb, 0, none⟩), .string s, .string ⟨#[113, 117, 105, 99, 32, 104, 112]⟩, .int .i64 16] wx fun e w' => e = .returned (.string (labelS s quicHp 16)) ∧ Below wx.heap.size wx w' := fun hb wx hH => label_walk s quicHp 16 (by omega) (by decide) (by decide) hb wx hH
  go_enter Try.func32, Try.ntmps32
  go_wp2_with (first
    | (go_at_call 40; refine (l4New_walk _).mono ?_; rintro e w1 ⟨hb, rfl, hH, hB1⟩)
    | (go_at_call 49; (with_reducible refine (hl1 hb _ hH).mono ?_); rintro e w2 ⟨rfl, hB2⟩)
    | (go_at_call 49; (with_reducible refine (hl2 hb _ (hH.below hB2)).mono ?_); rintro e w3 ⟨rfl, hB3⟩)
    | (go_at_call 49; (with_reducible refine (hl3 hb _ ((hH.below hB2).below hB3)).mono ?_); rintro e w4 ⟨rfl, hB4⟩; obtain ⟨c0, c1, c2, f0, f1, f2⟩ := keys_block hB1 hB2 hB3 hB4))
  have hBe := (((hB1.trans (hB2.mono hB1.size)).trans (hB3.mono (Nat.le_trans hB1.size hB2.size))).trans (hB4.mono (Nat.le_trans (Nat.le_trans hB1.size hB2.size) hB3.size)))
  refine bodyPost_ret (v := .tuple #[.agg #[.string (labelS s quicKey 16), .string (labelS s quicIv 12), .string (labelS s quicHp 16)], .bool true]) (by simp [results, Try.results32, go_sem, c0, c1, c2]) rfl ⟨rfl, ?_⟩
  exact (((((Below.refl _ _).alloc (Nat.le_refl _) _).trans (hBe.mono (by simp))).setCell (Nat.le_refl _) _).setCell (Nat.le_refl _) _).setCell (Nat.le_refl _) _
theorem sKeysOf_no (s : ByteArray) (h : ¬ s.size ≤ 500) (w : World) : Calls Try.prog 32 #[.string s] w fun e w' => e = .returned (.tuple #[.agg #[.string ⟨#[]⟩, .string ⟨#[]⟩, .string ⟨#[]⟩], .bool false]) ∧ Below w.heap.size w w' := by
  have h1 : (s.size : Int) > 500 := by omega
  go_enter Try.func32, Try.ntmps32
  go_wp2
  exact bodyPost_ret (v := .tuple #[.agg #[.string ⟨#[]⟩, .string ⟨#[]⟩, .string ⟨#[]⟩], .bool false]) (by simp [results, Try.results32, go_sem]) rfl ⟨rfl, (Below.refl _ _).alloc (Nat.le_refl _) _⟩
end Go.Proofs.YtnkakkfjfjeaeaaV.Aes
