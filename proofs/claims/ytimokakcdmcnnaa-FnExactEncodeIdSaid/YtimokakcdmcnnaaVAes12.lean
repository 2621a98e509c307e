/- Shared lemmas and walks of the AES laws of this seat. -/
import Derived.Test.YtimokakcdmcnnaaVAes10
import Derived.Test.YtimokakcdmcnnaaVAes11
namespace Go.Proofs.YtimokakcdmcnnaaV.Aes
open Go.RowKit Go.Proofs.YtimokakcdmcnnaaV.PrintWords Go.Proofs.YtimokakcdmcnnaaV.PrintLast Go.Proofs.YtimokakcdmcnnaaV.PrintMore Go.Proofs.YtimokakcdmcnnaaV.Mem
set_option linter.unusedVariables false
set_option linter.unusedSimpArgs false

theorem isKey_yes (s : ByteArray) (h : s.size = 16) (w : World) : Calls Try.prog 53 #[.string s] w fun e w' => e = .returned (.bool true) ∧ w = w' := by
  have h1 : ((s.size : Int) == 16) = true := by simp [h]
  have h2 : (s.size : Int) = 16 := by omega
  go_enter Try.func53, Try.ntmps53
  go_wp2
  go_ret
  exact ⟨rfl, rfl⟩
theorem isKey_no (s : ByteArray) (h : ¬ s.size = 16) (w : World) : Calls Try.prog 53 #[.string s] w fun e w' => e = .returned (.bool false) ∧ w = w' := by
  have h1 : ((s.size : Int) == 16) = false := by simp; omega
  have h2 : ¬ (s.size : Int) = 16 := by omega
  go_enter Try.func53, Try.ntmps53
  go_wp2
  go_ret
  exact ⟨rfl, rfl⟩
theorem isBlock_yes (s : ByteArray) (h : s.size = 16) (w : World) : Calls Try.prog 56 #[.string s] w fun e w' => e = .returned (.bool true) ∧ w = w' := by
  have h1 : ((s.size : Int) == 16) = true := by simp [h]
  have h2 : (s.size : Int) = 16 := by omega
  go_enter Try.func56, Try.ntmps56
  go_wp2
  go_ret
  exact ⟨rfl, rfl⟩
theorem isBlock_no (s : ByteArray) (h : ¬ s.size = 16) (w : World) : Calls Try.prog 56 #[.string s] w fun e w' => e = .returned (.bool false) ∧ w = w' := by
  have h1 : ((s.size : Int) == 16) = false := by simp; omega
  have h2 : ¬ (s.size : Int) = 16 := by omega
  go_enter Try.func56, Try.ntmps56
  go_wp2
  go_ret
  exact ⟨rfl, rfl⟩
def n40 : Nat := 40
/-- The round keys of a key. -/
def KS (key : ByteArray) : List Int := (keysAt BX (bytesOf key) n40).1
/-- A block encrypted, and back. -/
def encS (key block : ByteArray) : ByteArray := strOfNums (encN (KS key) BX (bytesOf block) 10)
def decS (key block : ByteArray) : ByteArray := strOfNums (addKL (KS key) 0 (decN (KS key) (BX.drop 256) (bytesOf block) 10))
theorem KS_length (key : ByteArray) (h : key.size = 16) : (KS key).length = 176 := by
  have := keysAt_length BX (bytesOf key) (by rw [bytesOf_length]; exact h) n40
  unfold KS
  rw [this]; rfl
theorem KS_bt (key : ByteArray) : Bt (KS key) := keysAt_bt _ _ (Bt.bytes key) _
theorem cipher_made (s : ByteArray) (hs : s.size = 16) (w : World) : Calls Try.prog 54 #[.string s] w (CipherPost w BX (KS s)) :=
  cipherOf_walk Sn 300 Sn_tells BX_bt s hs n40 ⟨by decide, by decide⟩ w
theorem enc_walk (key s : ByteArray) (hk : key.size = 16) (hs : s.size = 16) (g gb gk cap : Nat) (w : World) (hC : Ci w g gb gk cap BX (KS key)) :
    Calls Try.prog 59 #[.pointer (some ⟨g, 0, none⟩), .string s] w fun e w' => e = .returned (.string (encS key s)) ∧ Below w.heap.size w w' :=
  encrypt_walk BX (KS key) BX_length BX_bt (by rw [KS_length key hk]; exact Nat.le_refl _) g gb gk cap s hs w hC
theorem dec_walk (key s : ByteArray) (hk : key.size = 16) (hs : s.size = 16) (g gb gk cap : Nat) (w : World) (hC : Ci w g gb gk cap BX (KS key)) :
    Calls Try.prog 57 #[.pointer (some ⟨g, 0, none⟩), .string s] w fun e w' => e = .returned (.string (decS key s)) ∧ Below w.heap.size w w' :=
  decrypt_walk BX (KS key) BX_length BX_bt (by rw [KS_length key hk]; exact Nat.le_refl _) g gb gk cap s hs w hC
theorem keysBack (l : List Int) (hl : l.length = 176) (gk cap : Nat) (w : World) (h : ∀ i : Nat, i < 176 → w.cell? ⟨gk, i, none⟩ = some (.int .u8 (rd l (i : Int)))) : (convert 43 9 (.slice (some ⟨gk, 0, none⟩) 176 cap)).run Try.prog w = .ok (.string (strOfNums l)) w := by
  refine run_convert_bytes_arg (P := Try.prog) w 43 5 Try.underlying43 Try.underlying5 gk 0 176 cap l hl (fun i hi => ?_) 9 Try.underlying9
  rw [Nat.zero_add, h i hi]
  simp [rd, List.getD_eq_getElem?_getD]
set_option maxHeartbeats 4000000 in
theorem RoundKeys_yes (s : ByteArray) (hs : s.size = 16) (w : World) : Calls Try.prog 22 #[.string s] w fun e w' => e = .returned (.tuple #[.string (strOfNums (KS s)), .bool true]) ∧ Below w.heap.size w w' := by
  go_enter Try.func22, Try.ntmps22
  go_wp2_with (first
    | (go_at_call 53; refine (isKey_yes s hs _).mono ?_; rintro e w1 ⟨rfl, rfl⟩)
    | (go_at_call 54; refine (cipher_made s hs _).mono ?_; rintro e w2 ⟨g, gb, gk, cap, rfl, hC, _, _, _, hb⟩; have k1 := hC.keys; have hback := keysBack (KS s) (KS_length s hs) gk cap w2 hC.cells))
  go_ret2
  exact ⟨rfl, hb⟩
theorem RoundKeys_no (s : ByteArray) (hs : ¬ s.size = 16) (w : World) : Calls Try.prog 22 #[.string s] w fun e w' => e = .returned (.tuple #[.string ⟨#[]⟩, .bool false]) ∧ Below w.heap.size w w' := by
  go_enter Try.func22, Try.ntmps22
  go_wp2_with (go_at_call 53; refine (isKey_no s hs _).mono ?_; rintro e w1 ⟨rfl, rfl⟩)
  go_ret2
  exact ⟨rfl, Below.refl _ _⟩
set_option maxHeartbeats 4000000 in
theorem AesBlock_yes (k s : ByteArray) (hk : k.size = 16) (hs : s.size = 16) (w : World) : Calls Try.prog 26 #[.string k, .string s] w fun e w' => e = .returned (.tuple #[.string (encS k s), .bool true]) ∧ Below w.heap.size w w' := by
  go_enter Try.func26, Try.ntmps26
  go_wp2_with (first
    | (go_at_call 53; refine (isKey_yes k hk _).mono ?_; rintro e w1 ⟨rfl, rfl⟩)
    | (go_at_call 56; refine (isBlock_yes s hs _).mono ?_; rintro e w1 ⟨rfl, rfl⟩)
    | (go_at_call 54; refine (cipher_made k hk _).mono ?_; rintro e w2 ⟨g, gb, gk, cap, rfl, hC, _, _, _, hb⟩)
    | (go_at_call 59; refine (enc_walk k s hk hs g gb gk cap _ hC).mono ?_; rintro e w3 ⟨rfl, hb2⟩))
  go_ret2
  exact ⟨rfl, hb.trans (hb2.mono hb.size)⟩
set_option maxHeartbeats 4000000 in
theorem AesBlock_no (k s : ByteArray) (h : ¬ (k.size = 16 ∧ s.size = 16)) (w : World) : Calls Try.prog 26 #[.string k, .string s] w fun e w' => e = .returned (.tuple #[.string ⟨#[]⟩, .bool false]) ∧ Below w.heap.size w w' := by
  by_cases hk : k.size = 16
  · have hs : ¬ s.size = 16 := fun e => h ⟨hk, e⟩
    go_enter Try.func26, Try.ntmps26
    go_wp2_with (first
      | (go_at_call 53; refine (isKey_yes k hk _).mono ?_; rintro e w1 ⟨rfl, rfl⟩)
      | (go_at_call 56; refine (isBlock_no s hs _).mono ?_; rintro e w1 ⟨rfl, rfl⟩))
    go_ret2
    exact ⟨rfl, Below.refl _ _⟩
  · go_enter Try.func26, Try.ntmps26
    go_wp2_with (go_at_call 53; refine (isKey_no k hk _).mono ?_; rintro e w1 ⟨rfl, rfl⟩)
    go_ret2
    exact ⟨rfl, Below.refl _ _⟩
set_option maxHeartbeats 4000000 in
theorem AesBack_yes (k s : ByteArray) (hk : k.size = 16) (hs : s.size = 16) (w : World) : Calls Try.prog 24 #[.string k, .string s] w fun e w' => e = .returned (.tuple #[.string (decS k s), .bool true]) ∧ Below w.heap.size w w' := by
  go_enter Try.func24, Try.ntmps24
  go_wp2_with (first
    | (go_at_call 53; refine (isKey_yes k hk _).mono ?_; rintro e w1 ⟨rfl, rfl⟩)
    | (go_at_call 56; refine (isBlock_yes s hs _).mono ?_; rintro e w1 ⟨rfl, rfl⟩)
    | (go_at_call 54; refine (cipher_made k hk _).mono ?_; rintro e w2 ⟨g, gb, gk, cap, rfl, hC, _, _, _, hb⟩)
    | (go_at_call 57; refine (dec_walk k s hk hs g gb gk cap _ hC).mono ?_; rintro e w3 ⟨rfl, hb2⟩))
  go_ret2
  exact ⟨rfl, hb.trans (hb2.mono hb.size)⟩
set_option maxHeartbeats 4000000 in
theorem AesBack_no (k s : ByteArray) (h : ¬ (k.size = 16 ∧ s.size = 16)) (w : World) : Calls Try.prog 24 #[.string k, .string s] w fun e w' => e = .returned (.tuple #[.string ⟨#[]⟩, .bool false]) ∧ Below w.heap.size w w' := by
  by_cases hk : k.size = 16
  · have hs : ¬ s.size = 16 := fun e => h ⟨hk, e⟩
    go_enter Try.func24, Try.ntmps24
    go_wp2_with (first
      | (go_at_call 53; refine (isKey_yes k hk _).mono ?_; rintro e w1 ⟨rfl, rfl⟩)
      | (go_at_call 56; refine (isBlock_no s hs _).mono ?_; rintro e w1 ⟨rfl, rfl⟩))
    go_ret2
    exact ⟨rfl, Below.refl _ _⟩
  · go_enter Try.func24, Try.ntmps24
    go_wp2_with (go_at_call 53; refine (isKey_no k hk _).mono ?_; rintro e w1 ⟨rfl, rfl⟩)
    go_ret2
    exact ⟨rfl, Below.refl _ _⟩
theorem rd_dropped (B : List Int) (k n : Nat) : rd B ((k + n : Nat) : Int) = rd (B.drop k) (n : Int) := by
  simp [rd, List.getD_eq_getElem?_getD]
  congr 1
/-- What becomes a byte. -/
theorem Unsub_walk (b : Int) (w : World) : Calls Try.prog 20 #[.int .i64 b] w fun e w' => e = .returned (.int .i64 (Un (b % 256).toNat : Int)) ∧ Below w.heap.size w w' := by
  refine (UnsubByte_walk Sn 300 Sn_tells b w).mono ?_
  rintro e w' ⟨rfl, hb⟩
  refine ⟨?_, hb⟩
  have hn : (b % 256).toNat < 256 := by omega
  have h := BX_back _ hn
  have hu := Un_lt _ hn
  have e2 : rd (boxAt Sn 256) ((256 + (b % 256).toNat : Nat) : Int) = (Un (b % 256).toNat : Int) := by
    rw [← h]
    exact rd_dropped BX 256 _
  rw [e2]
  have : wrap64 (Un (b % 256).toNat : Int) = (Un (b % 256).toNat : Int) := by unfold wrap64; omega
  rw [this]
end Go.Proofs.YtimokakcdmcnnaaV.Aes
