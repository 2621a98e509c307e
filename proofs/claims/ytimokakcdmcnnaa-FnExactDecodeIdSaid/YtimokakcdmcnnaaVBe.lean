/- Shared lemmas and walks of the AES laws of this seat. -/
import Derived.Test.YtimokakcdmcnnaaVAes12
import Derived.Test.YtimokakcdmcnnaaPImplAx1
import Derived.Laws.BitsLemmas
namespace Go.Proofs.YtimokakcdmcnnaaV.Aes
open Go.RowKit Go.Proofs.YtimokakcdmcnnaaV.PrintWords Go.Proofs.YtimokakcdmcnnaaV.PrintLast Go.Proofs.YtimokakcdmcnnaaV.PrintMore Go.Proofs.YtimokakcdmcnnaaV.Mem
set_option linter.unusedVariables false
set_option linter.unusedSimpArgs false

open Go.Proofs.Ytimokakcdmcnnaa.PImplA
/-- A number's last bytes, so many, the highest first. -/
def be : Nat → Int → List Int
  | 0, _ => []
  | m + 1, n => be m (n / 256) ++ [n % 256]
theorem be_head : ∀ (m : Nat) (n : Int), be (m + 1) n = (n / 256 ^ m % 256) :: be m n
  | 0, n => by simp [be]
  | m + 1, n => by
    have ih := be_head m (n / 256)
    show be (m + 1) (n / 256) ++ [n % 256] = _ :: (be m (n / 256) ++ [n % 256])
    rw [ih, Int.ediv_ediv_of_nonneg (by decide), ← Int.pow_succ']
    rfl
theorem wrap_u64_in (n : Int) (h0 : 0 ≤ n) (h1 : n < 18446744073709551616) : IntKind.u64.wrap n = n := by
  simp [IntKind.wrap, IntKind.bits, IntKind.signed]; omega

theorem str_size (l : List Int) : (strOfNums l).size = l.length := by simp [strOfNums, ByteArray.size]
theorem encS_size (a b : ByteArray) : (encS a b).size = 16 := by
  unfold encS
  rw [str_size]
  exact encN_length _ _ _ _
theorem backAll (l z : List Int) (n : Nat) (hl : l.length = n) (g cap : Nat) (w : World) (h : At w g 5 (l ++ z)) : (convert 43 9 (.slice (some ⟨g, 0, none⟩) n cap)).run Try.prog w = .ok (.string (strOfNums l)) w := by
  refine run_convert_bytes_arg (P := Try.prog) w 43 5 Try.underlying43 Try.underlying5 g 0 n cap l hl (fun i hi => ?_) 9 Try.underlying9
  rw [h.cell (by simp; omega)]
  have : i < l.length := by omega
  simp [rd, List.getD_eq_getElem?_getD, List.getElem?_append_left this]
end Go.Proofs.YtimokakcdmcnnaaV.Aes
