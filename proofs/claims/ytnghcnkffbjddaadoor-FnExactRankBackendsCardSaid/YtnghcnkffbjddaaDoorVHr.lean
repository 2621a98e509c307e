/- The reference's roots: what spec.l4Root tells of each prime, reckoned by the kernel. -/
import Derived.Test.YtnghcnkffbjddaaDoorVHb
import Derived.Test.YtnghcnkffbjddaaDoorPSpecRx1
import Derived.Test.YtnghcnkffbjddaaDoorPSpecRx2
import Derived.Test.YtnghcnkffbjddaaDoorPSpecRx3
import Derived.Test.YtnghcnkffbjddaaDoorPSpecRx4
namespace Go.Proofs.YtnghcnkffbjddaaDoorV.Aes
open Go.RowKit Go.Proofs.YtnghcnkffbjddaaDoorV.PrintWords Go.Proofs.YtnghcnkffbjddaaDoorV.PrintLast Go.Proofs.YtnghcnkffbjddaaDoorV.PrintMore Go.Proofs.YtnghcnkffbjddaaDoorV.Mem
set_option linter.unusedVariables false
set_option linter.unusedSimpArgs false

open Go.Proofs.YtnghcnkffbjddaaDoor.PSpecR
set_option maxRecDepth 1000000 in
theorem rootC0 : ∀ i, i < 16 → spec_l4Root.f 60 ((PL.getD i 0 : Nat) : Int) 3 = some (KW.getD i 0) := by decide +kernel
set_option maxRecDepth 1000000 in
theorem rootC1 : ∀ i, i < 16 → spec_l4Root.f 60 ((PL.getD (16 + i) 0 : Nat) : Int) 3 = some (KW.getD (16 + i) 0) := by decide +kernel
set_option maxRecDepth 1000000 in
theorem rootC2 : ∀ i, i < 16 → spec_l4Root.f 60 ((PL.getD (32 + i) 0 : Nat) : Int) 3 = some (KW.getD (32 + i) 0) := by decide +kernel
set_option maxRecDepth 1000000 in
theorem rootC3 : ∀ i, i < 16 → spec_l4Root.f 60 ((PL.getD (48 + i) 0 : Nat) : Int) 3 = some (KW.getD (48 + i) 0) := by decide +kernel
theorem rootC (i : Nat) (h : i < 64) : spec_l4Root.f 60 ((PL.getD i 0 : Nat) : Int) 3 = some (KW.getD i 0) := by
  by_cases h1 : i < 16
  · exact rootC0 i h1
  · by_cases h2 : i < 32
    · have := rootC1 (i - 16) (by omega)
      rwa [show 16 + (i - 16) = i by omega] at this
    · by_cases h3 : i < 48
      · have := rootC2 (i - 32) (by omega)
        rwa [show 32 + (i - 32) = i by omega] at this
      · have := rootC3 (i - 48) (by omega)
        rwa [show 48 + (i - 48) = i by omega] at this
set_option maxRecDepth 1000000 in
theorem rootS : ∀ i, i < 8 → spec_l4Root.f 60 ((PL.getD i 0 : Nat) : Int) 2 = some (HW.getD i 0) := by decide +kernel
end Go.Proofs.YtnghcnkffbjddaaDoorV.Aes
