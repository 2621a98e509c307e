/- Shared lemmas and walks of the AES laws of this seat. -/
import Derived.Test.YtimokakcdmcnnaaVAes10
import Derived.Test.YtimokakcdmcnnaaVAes11
namespace Go.Proofs.YtimokakcdmcnnaaV.Aes
open Go.RowKit Go.Proofs.YtimokakcdmcnnaaV.PrintWords Go.Proofs.YtimokakcdmcnnaaV.PrintLast Go.Proofs.YtimokakcdmcnnaaV.PrintMore Go.Proofs.YtimokakcdmcnnaaV.Mem
set_option linter.unusedVariables false
set_option linter.unusedSimpArgs false

def n40 : Nat := 40
/-- The round keys of a key. -/
def KS (key : ByteArray) : List Int := (keysAt BX (bytesOf key) n40).1
/-- A block encrypted, and back. -/
def encS (key block : ByteArray) : ByteArray := strOfNums (encN (KS key) BX (bytesOf block) 10)
def decS (key block : ByteArray) : ByteArray := strOfNums (addKL (KS key) 0 (decN (KS key) (BX.drop 256) (bytesOf block) 10))
theorem KS_length (key : ByteArray) (h : key.size = 16) : (KS key).length = 176 := by
  have := keysAt_length BX (bytesOf key) (by rw [bytesOf_length]; exact h) n40
  unfold KS
  rw [this]; rfl
theorem cipher_made (s : ByteArray) (hs : s.size = 16) (w : World) : Calls Try.prog 54 #[.string s] w (CipherPost w BX (KS s)) :=
  cipherOf_walk Sn 300 Sn_tells BX_bt s hs n40 ⟨by decide, by decide⟩ w
theorem enc_walk (key s : ByteArray) (hk : key.size = 16) (hs : s.size = 16) (g gb gk cap : Nat) (w : World) (hC : Ci w g gb gk cap BX (KS key)) :
    Calls Try.prog 59 #[.pointer (some ⟨g, 0, none⟩), .string s] w fun e w' => e = .returned (.string (encS key s)) ∧ Below w.heap.size w w' :=
  encrypt_walk BX (KS key) BX_length BX_bt (by rw [KS_length key hk]; exact Nat.le_refl _) g gb gk cap s hs w hC
theorem dec_walk (key s : ByteArray) (hk : key.size = 16) (hs : s.size = 16) (g gb gk cap : Nat) (w : World) (hC : Ci w g gb gk cap BX (KS key)) :
    Calls Try.prog 57 #[.pointer (some ⟨g, 0, none⟩), .string s] w fun e w' => e = .returned (.string (decS key s)) ∧ Below w.heap.size w w' :=
  decrypt_walk BX (KS key) BX_length BX_bt (by rw [KS_length key hk]; exact Nat.le_refl _) g gb gk cap s hs w hC
end Go.Proofs.YtimokakcdmcnnaaV.Aes
