/- Shared lemmas and walks of the AES laws of this seat. -/
import Derived.Test.YtimokakcdmcnnaaVAes16
import Derived.Test.YtimokakcdmcnnaaVGcm2
namespace Go.Proofs.YtimokakcdmcnnaaV.Aes
open Go.RowKit Go.Proofs.YtimokakcdmcnnaaV.PrintWords Go.Proofs.YtimokakcdmcnnaaV.PrintLast Go.Proofs.YtimokakcdmcnnaaV.PrintMore Go.Proofs.YtimokakcdmcnnaaV.Mem
set_option linter.unusedVariables false
set_option linter.unusedSimpArgs false

open Go.Proofs.Ytimokakcdmcnnaa.PImplB Gcm
def zeros16 : ByteArray := strOfNums (Aes.be 8 0) ++ strOfNums (Aes.be 8 0)
def sizesS (a b : ByteArray) : ByteArray := strOfNums (Aes.be 8 (8 * (a.size : Int))) ++ strOfNums (Aes.be 8 (8 * (b.size : Int)))
/-- The tag of what is sealed. -/
def tagS (key nonce beside sealed : ByteArray) : ByteArray :=
  strOfNums (xorL (bytesOf (ghS (encS key zeros16) (fillS beside ++ fillS sealed ++ sizesS beside sealed))) (bytesOf (encS key (nonce ++ strOfNums (Aes.be 4 1)))))
theorem zeros16_size : zeros16.size = 16 := by
  unfold zeros16
  rw [ByteArray.size_append, str_size, Aes.be_length]
theorem sizesS_size (a b : ByteArray) : (sizesS a b).size = 16 := by
  unfold sizesS
  rw [ByteArray.size_append, str_size, str_size, Aes.be_length, Aes.be_length]
theorem zeros16_rep : zeros16 = strOfNums (List.replicate 16 0) := by
  have e : be 8 0 = List.replicate 8 0 := by decide
  unfold zeros16
  rw [e, ← str_append]
  rfl
theorem text_size (c d : Int) (r : ByteArray) (h : impl_poly_text.f KG c d = some r) : r.size = 16 := by
  obtain ⟨k, hkg, hk⟩ : ∃ k, KG = k ∧ 9 < k := ⟨_, rfl, by unfold KG; omega⟩
  rw [hkg] at h
  have b1 := Gcm.bigEndian_tells k 8 c (by omega) (by decide)
  have b2 := Gcm.bigEndian_tells k 8 d (by omega) (by decide)
  rw [show ((8 : Nat) : Int) = 8 from rfl] at b1 b2
  have z1 : (strOfNums (Gcm.be 8 c)).size = 8 := by rw [Gcm.strOf_size, Gcm.be_length]
  have z2 : (strOfNums (Gcm.be 8 d)).size = 8 := by rw [Gcm.strOf_size, Gcm.be_length]
  unfold impl_poly_text.f at h
  rw [b1, b2] at h
  simp only [Option.bind_some] at h
  rw [if_pos (by omega)] at h
  have e := Option.some.inj h
  rw [← e, ByteArray.size_append, z1, z2]
theorem xored16 (a s : ByteArray) (ha : a.size = 16) (hs : s.size = 16) : impl_xored.f KG a s = some (strOfNums (xorL (bytesOf a) (bytesOf s))) :=
  xored_tells KG a s (by omega) (by omega) (by unfold KG; omega)
end Go.Proofs.YtimokakcdmcnnaaV.Aes
