/- Shared lemmas and walks of the AES laws of this seat. -/
import Derived.Test.YtimokakcdmcnnaaVAes13
import Derived.Lib.Hide
namespace Go.Proofs.YtimokakcdmcnnaaV.Aes
open Go.RowKit Go.Proofs.YtimokakcdmcnnaaV.PrintWords Go.Proofs.YtimokakcdmcnnaaV.PrintLast Go.Proofs.YtimokakcdmcnnaaV.PrintMore Go.Proofs.YtimokakcdmcnnaaV.Mem
set_option linter.unusedVariables false
set_option linter.unusedSimpArgs false

set_option maxHeartbeats 4000000 in
theorem turned_walk (key nonce text : ByteArray) (hk : key.size = 16) (hn : nonce.size = 12) (ht : text.size ≤ 2000000) (g gb gk cap : Nat) (w : World) (hC : Ci w g gb gk cap BX (KS key)) :
    Calls Try.prog 68 #[.pointer (some ⟨g, 0, none⟩), .string nonce, .string text] w fun e w' => e = .returned (.string (ctrS key (nonce ++ strOfNums (be 4 2)) text)) ∧ Below w.heap.size w w' := by
  have hg1 := hC.lt
  have hg2 := hC.atBox.lt
  have hg3 := hC.ltk
  have hst : (nonce ++ strOfNums (be 4 2)).size = 16 := by rw [ByteArray.size_append, str_size, be_length, hn]
  have hb := be4_walk 2
  have hctr := fun (W : World) (h : Ci W g gb gk cap BX (KS key)) => counter_walk key (nonce ++ strOfNums (be 4 2)) text hk hst ht g gb gk cap W h
  obtain ⟨st4, h4⟩ : ∃ st4, st4 = strOfNums (be 4 2) := ⟨_, rfl⟩
  rw [← h4] at hb hctr hst ⊢
  clear h4
  have hcat : ¬ 9223372036854775807 < nonce.size + st4.size := by rw [ByteArray.size_append] at hst; omega
  clear hst
  have Hn := Lib.hid hn
  clear hn
  go_enter Try.func68, Try.ntmps68
  go_wp2_with (first
    | (go_at_call 81; refine (hb _).mono ?_; rintro e w2 ⟨rfl, hb2⟩)
    | (go_at_call 61; refine (hctr _ (hC.below hb2 hg1 hg2 hg3)).mono ?_; rintro e w3 ⟨rfl, hb3⟩))
  go_ret
  exact ⟨rfl, hb2.trans (hb3.mono hb2.size)⟩
end Go.Proofs.YtimokakcdmcnnaaV.Aes
