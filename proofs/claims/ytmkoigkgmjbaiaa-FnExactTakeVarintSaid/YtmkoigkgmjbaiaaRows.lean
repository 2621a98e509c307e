/-
  No cell of these rows narrows 'for every input' (looked for: loops, veiled, ifaces, maps, wideKeys, modest, calm, conditions, laid).
  DERIVED. THE GIVEN ROWS OF THIS SEAT. 11 by the template 'for every input the law returns true; each argument reads behind the call as it read before'; 0 by the template 'total and deterministic' (their statements: YtmkoigkgmjbaiaaTotals.lean).
  GIVEN WITH THE SEED: the statements are not yours to turn. If you find one false, say at which input.
  Laid BY PROGRAM, IN A SANDBOX (cutbox-rows.mjs): the forced cells as the released guide's own fill.sh prints them over the translation 3131606bd498d628… (all of the seat's roots in one cut). By AI agents, Wed Nov 11 2026. No macro, syntax, notation, axiom, sorry.
-/
import Derived.Test.YtmkoigkgmjbaiaaChecked
import GoSem.Claim
import GoSem.ClaimJoined
import GoSem.ClaimMapViews
import Derived.JoinedTies
import Derived.KernelRfl
namespace Go.Proofs.Ytmkoigkgmjbaiaa
/- THE CELL 'sum', in the pinned program and in every row, IS THE sha256 OF THE DUMP (.gsa) THAT YtmkoigkgmjbaiaaProg.lean LOADS. Nothing in Lean hashes anything: it is a label: what it is worth is what the hold of that sum in a sandbox is worth. -/
noncomputable def Try.pinned : Pinned := { name := "ytmkoigkgmjbaiaa", sum := "3131606bd498d6288ef4385a49a0b0e7df476177dd363187d47133655e58e233", checked := Try.checked }
namespace Rows
def none {H : Type} : Left H := { results := [], args := [] }

/-- 'laws.FnExactConstants': WHATEVER THE INPUT: true; the input reads as it did. -/
def fnExactConstantsSpec : ChangeSpec := { name := "fnExactConstants", fn := fun _ => fun
  | [] => { results := [.lit (.bool true)], args := [] }
  | _ => none }
def fnExactConstantsRow : OpenClaim := { program := "ytmkoigkgmjbaiaa", sum := "3131606bd498d6288ef4385a49a0b0e7df476177dd363187d47133655e58e233", func := "loop.example/g00206/laws.FnExactConstants", spec := "fnExactConstants", apart := false }
def FnExactConstantsSaid : Prop := fnExactConstantsRow.holds Try.pinned (OpenSpec.ofChange fnExactConstantsSpec)

/-- ITS FALSE NEIGHBOUR: 'it returns false'. Refute it at one input. -/
def fnExactConstantsWrong : ChangeSpec := { name := "fnExactConstants", fn := fun _ => fun
  | [] => { results := [.lit (.bool false)], args := [] }
  | _ => none }
def FnExactConstantsWrongFalsely : Prop := fnExactConstantsRow.holds Try.pinned (OpenSpec.ofChange fnExactConstantsWrong)

/-- 'laws.FnExactSlotOf': WHATEVER THE INPUT: true; the input reads as it did. -/
def fnExactSlotOfSpec : ChangeSpec := { name := "fnExactSlotOf", fn := fun _ => fun
  | [d] => { results := [.lit (.bool true)], args := [d] }
  | _ => none }
def fnExactSlotOfRow : OpenClaim := { program := "ytmkoigkgmjbaiaa", sum := "3131606bd498d6288ef4385a49a0b0e7df476177dd363187d47133655e58e233", func := "loop.example/g00206/laws.FnExactSlotOf", spec := "fnExactSlotOf", apart := false }
def FnExactSlotOfSaid : Prop := fnExactSlotOfRow.holds Try.pinned (OpenSpec.ofChange fnExactSlotOfSpec)

/-- ITS FALSE NEIGHBOUR: 'it returns false'. Refute it at one input. -/
def fnExactSlotOfWrong : ChangeSpec := { name := "fnExactSlotOf", fn := fun _ => fun
  | [d] => { results := [.lit (.bool false)], args := [d] }
  | _ => none }
def FnExactSlotOfWrongFalsely : Prop := fnExactSlotOfRow.holds Try.pinned (OpenSpec.ofChange fnExactSlotOfWrong)

/-- 'laws.FnExactGoodConfig': WHATEVER THE INPUT: true; the input reads as it did. -/
def fnExactGoodConfigSpec : ChangeSpec := { name := "fnExactGoodConfig", fn := fun _ => fun
  | [d] => { results := [.lit (.bool true)], args := [d] }
  | _ => none }
def fnExactGoodConfigRow : OpenClaim := { program := "ytmkoigkgmjbaiaa", sum := "3131606bd498d6288ef4385a49a0b0e7df476177dd363187d47133655e58e233", func := "loop.example/g00206/laws.FnExactGoodConfig", spec := "fnExactGoodConfig", apart := false }
def FnExactGoodConfigSaid : Prop := fnExactGoodConfigRow.holds Try.pinned (OpenSpec.ofChange fnExactGoodConfigSpec)

/-- ITS FALSE NEIGHBOUR: 'it returns false'. Refute it at one input. -/
def fnExactGoodConfigWrong : ChangeSpec := { name := "fnExactGoodConfig", fn := fun _ => fun
  | [d] => { results := [.lit (.bool false)], args := [d] }
  | _ => none }
def FnExactGoodConfigWrongFalsely : Prop := fnExactGoodConfigRow.holds Try.pinned (OpenSpec.ofChange fnExactGoodConfigWrong)

/-- 'laws.FnExactXorText': WHATEVER THE INPUT: true; the input reads as it did. -/
def fnExactXorTextSpec : ChangeSpec := { name := "fnExactXorText", fn := fun _ => fun
  | [d1, d2] => { results := [.lit (.bool true)], args := [d1, d2] }
  | _ => none }
def fnExactXorTextRow : OpenClaim := { program := "ytmkoigkgmjbaiaa", sum := "3131606bd498d6288ef4385a49a0b0e7df476177dd363187d47133655e58e233", func := "loop.example/g00206/laws.FnExactXorText", spec := "fnExactXorText", apart := false }
def FnExactXorTextSaid : Prop := fnExactXorTextRow.holds Try.pinned (OpenSpec.ofChange fnExactXorTextSpec)

/-- ITS FALSE NEIGHBOUR: 'it returns false'. Refute it at one input. -/
def fnExactXorTextWrong : ChangeSpec := { name := "fnExactXorText", fn := fun _ => fun
  | [d1, d2] => { results := [.lit (.bool false)], args := [d1, d2] }
  | _ => none }
def FnExactXorTextWrongFalsely : Prop := fnExactXorTextRow.holds Try.pinned (OpenSpec.ofChange fnExactXorTextWrong)

/-- 'laws.FnExactMulGf': WHATEVER THE INPUT: true; the input reads as it did. -/
def fnExactMulGfSpec : ChangeSpec := { name := "fnExactMulGf", fn := fun _ => fun
  | [d1, d2] => { results := [.lit (.bool true)], args := [d1, d2] }
  | _ => none }
def fnExactMulGfRow : OpenClaim := { program := "ytmkoigkgmjbaiaa", sum := "3131606bd498d6288ef4385a49a0b0e7df476177dd363187d47133655e58e233", func := "loop.example/g00206/laws.FnExactMulGf", spec := "fnExactMulGf", apart := false }
def FnExactMulGfSaid : Prop := fnExactMulGfRow.holds Try.pinned (OpenSpec.ofChange fnExactMulGfSpec)

/-- ITS FALSE NEIGHBOUR: 'it returns false'. Refute it at one input. -/
def fnExactMulGfWrong : ChangeSpec := { name := "fnExactMulGf", fn := fun _ => fun
  | [d1, d2] => { results := [.lit (.bool false)], args := [d1, d2] }
  | _ => none }
def FnExactMulGfWrongFalsely : Prop := fnExactMulGfRow.holds Try.pinned (OpenSpec.ofChange fnExactMulGfWrong)

/-- 'laws.FnExactNumberOf': WHATEVER THE INPUT: true; the input reads as it did. -/
def fnExactNumberOfSpec : ChangeSpec := { name := "fnExactNumberOf", fn := fun _ => fun
  | [d1, d2, d3] => { results := [.lit (.bool true)], args := [d1, d2, d3] }
  | _ => none }
def fnExactNumberOfRow : OpenClaim := { program := "ytmkoigkgmjbaiaa", sum := "3131606bd498d6288ef4385a49a0b0e7df476177dd363187d47133655e58e233", func := "loop.example/g00206/laws.FnExactNumberOf", spec := "fnExactNumberOf", apart := false }
def FnExactNumberOfSaid : Prop := fnExactNumberOfRow.holds Try.pinned (OpenSpec.ofChange fnExactNumberOfSpec)

/-- ITS FALSE NEIGHBOUR: 'it returns false'. Refute it at one input. -/
def fnExactNumberOfWrong : ChangeSpec := { name := "fnExactNumberOf", fn := fun _ => fun
  | [d1, d2, d3] => { results := [.lit (.bool false)], args := [d1, d2, d3] }
  | _ => none }
def FnExactNumberOfWrongFalsely : Prop := fnExactNumberOfRow.holds Try.pinned (OpenSpec.ofChange fnExactNumberOfWrong)

/-- 'laws.FnExactTakeVarint': WHATEVER THE INPUT: true; the input reads as it did. -/
def fnExactTakeVarintSpec : ChangeSpec := { name := "fnExactTakeVarint", fn := fun _ => fun
  | [d] => { results := [.lit (.bool true)], args := [d] }
  | _ => none }
def fnExactTakeVarintRow : OpenClaim := { program := "ytmkoigkgmjbaiaa", sum := "3131606bd498d6288ef4385a49a0b0e7df476177dd363187d47133655e58e233", func := "loop.example/g00206/laws.FnExactTakeVarint", spec := "fnExactTakeVarint", apart := false }
def FnExactTakeVarintSaid : Prop := fnExactTakeVarintRow.holds Try.pinned (OpenSpec.ofChange fnExactTakeVarintSpec)

/-- ITS FALSE NEIGHBOUR: 'it returns false'. Refute it at one input. -/
def fnExactTakeVarintWrong : ChangeSpec := { name := "fnExactTakeVarint", fn := fun _ => fun
  | [d] => { results := [.lit (.bool false)], args := [d] }
  | _ => none }
def FnExactTakeVarintWrongFalsely : Prop := fnExactTakeVarintRow.holds Try.pinned (OpenSpec.ofChange fnExactTakeVarintWrong)

/-- 'laws.FnExactVarintSize': WHATEVER THE INPUT: true; the input reads as it did. -/
def fnExactVarintSizeSpec : ChangeSpec := { name := "fnExactVarintSize", fn := fun _ => fun
  | [d] => { results := [.lit (.bool true)], args := [d] }
  | _ => none }
def fnExactVarintSizeRow : OpenClaim := { program := "ytmkoigkgmjbaiaa", sum := "3131606bd498d6288ef4385a49a0b0e7df476177dd363187d47133655e58e233", func := "loop.example/g00206/laws.FnExactVarintSize", spec := "fnExactVarintSize", apart := false }
def FnExactVarintSizeSaid : Prop := fnExactVarintSizeRow.holds Try.pinned (OpenSpec.ofChange fnExactVarintSizeSpec)

/-- ITS FALSE NEIGHBOUR: 'it returns false'. Refute it at one input. -/
def fnExactVarintSizeWrong : ChangeSpec := { name := "fnExactVarintSize", fn := fun _ => fun
  | [d] => { results := [.lit (.bool false)], args := [d] }
  | _ => none }
def FnExactVarintSizeWrongFalsely : Prop := fnExactVarintSizeRow.holds Try.pinned (OpenSpec.ofChange fnExactVarintSizeWrong)

/-- 'laws.FnExactNumberBytes': WHATEVER THE INPUT: true; the input reads as it did. -/
def fnExactNumberBytesSpec : ChangeSpec := { name := "fnExactNumberBytes", fn := fun _ => fun
  | [d1, d2] => { results := [.lit (.bool true)], args := [d1, d2] }
  | _ => none }
def fnExactNumberBytesRow : OpenClaim := { program := "ytmkoigkgmjbaiaa", sum := "3131606bd498d6288ef4385a49a0b0e7df476177dd363187d47133655e58e233", func := "loop.example/g00206/laws.FnExactNumberBytes", spec := "fnExactNumberBytes", apart := false }
def FnExactNumberBytesSaid : Prop := fnExactNumberBytesRow.holds Try.pinned (OpenSpec.ofChange fnExactNumberBytesSpec)

/-- ITS FALSE NEIGHBOUR: 'it returns false'. Refute it at one input. -/
def fnExactNumberBytesWrong : ChangeSpec := { name := "fnExactNumberBytes", fn := fun _ => fun
  | [d1, d2] => { results := [.lit (.bool false)], args := [d1, d2] }
  | _ => none }
def FnExactNumberBytesWrongFalsely : Prop := fnExactNumberBytesRow.holds Try.pinned (OpenSpec.ofChange fnExactNumberBytesWrong)

/-- 'laws.FnExactNonceOf': WHATEVER THE INPUT: true; the input reads as it did. -/
def fnExactNonceOfSpec : ChangeSpec := { name := "fnExactNonceOf", fn := fun _ => fun
  | [d1, d2] => { results := [.lit (.bool true)], args := [d1, d2] }
  | _ => none }
def fnExactNonceOfRow : OpenClaim := { program := "ytmkoigkgmjbaiaa", sum := "3131606bd498d6288ef4385a49a0b0e7df476177dd363187d47133655e58e233", func := "loop.example/g00206/laws.FnExactNonceOf", spec := "fnExactNonceOf", apart := false }
def FnExactNonceOfSaid : Prop := fnExactNonceOfRow.holds Try.pinned (OpenSpec.ofChange fnExactNonceOfSpec)

/-- ITS FALSE NEIGHBOUR: 'it returns false'. Refute it at one input. -/
def fnExactNonceOfWrong : ChangeSpec := { name := "fnExactNonceOf", fn := fun _ => fun
  | [d1, d2] => { results := [.lit (.bool false)], args := [d1, d2] }
  | _ => none }
def FnExactNonceOfWrongFalsely : Prop := fnExactNonceOfRow.holds Try.pinned (OpenSpec.ofChange fnExactNonceOfWrong)

/-- 'laws.FnExactInverseGf': WHATEVER THE INPUT: true; the input reads as it did. -/
def fnExactInverseGfSpec : ChangeSpec := { name := "fnExactInverseGf", fn := fun _ => fun
  | [d] => { results := [.lit (.bool true)], args := [d] }
  | _ => none }
def fnExactInverseGfRow : OpenClaim := { program := "ytmkoigkgmjbaiaa", sum := "3131606bd498d6288ef4385a49a0b0e7df476177dd363187d47133655e58e233", func := "loop.example/g00206/laws.FnExactInverseGf", spec := "fnExactInverseGf", apart := false }
def FnExactInverseGfSaid : Prop := fnExactInverseGfRow.holds Try.pinned (OpenSpec.ofChange fnExactInverseGfSpec)

/-- ITS FALSE NEIGHBOUR: 'it returns false'. Refute it at one input. -/
def fnExactInverseGfWrong : ChangeSpec := { name := "fnExactInverseGf", fn := fun _ => fun
  | [d] => { results := [.lit (.bool false)], args := [d] }
  | _ => none }
def FnExactInverseGfWrongFalsely : Prop := fnExactInverseGfRow.holds Try.pinned (OpenSpec.ofChange fnExactInverseGfWrong)

/- THE SECOND FORM. 'bulk': how many values and letters a reading holds, each counted each time it is reached (what is shared counts as often as it is met; a slice's spare places count too). A statement '..UptoSaid' is the law's where the arguments, and the package variables that the reading takes, are together of bulk at most 1048576: NARROWER than '..Said'. Prove '..Said' where nothing that the law and all that it calls make is longer than what came in: it says more and counts as full. Else prove '..UptoSaid'. A law counts once. -/
mutual
def uptoBulk {H : Type} : DataW H → Nat
  | .lit (.string bytes) => bytes.length + 1
  | .lit _ => 1
  | .nil => 1
  | .ptr d => uptoBulk d + 1
  | .slice elems spare => uptoBulkAll elems + uptoBulkAll spare + 1
  | .agg parts => uptoBulkAll parts + 1
  | .iface _ d => uptoBulk d + 1
  | .map entries => uptoBulkEntries entries + 1
  | .held _ => 1
def uptoBulkAll {H : Type} : List (DataW H) → Nat
  | [] => 0
  | d :: r => uptoBulk d + uptoBulkAll r
def uptoBulkEntries {H : Type} : List (Lit × DataW H) → Nat
  | [] => 0
  | x :: r => uptoBulkEntry x + uptoBulkEntries r
def uptoBulkEntry {H : Type} : Lit × DataW H → Nat
  | (.string bytes, d) => bytes.length + uptoBulk d + 1
  | (_, d) => uptoBulk d + 1
 end
def uptoSmall : (H : Type) → List (DataW H) → Bool := fun _ ds => decide (uptoBulkAll ds ≤ 1048576)
def OpenSpec.upto (s : _root_.Go.ChangeSpec) : _root_.Go.OpenSpec := { _root_.Go.OpenSpec.ofChange s with cond := some uptoSmall }

/-- 'laws.FnExactConstants', WHERE WHAT IT READS IS OF BULK AT MOST 1048576: true; the input reads as it did. -/
def fnExactConstantsUptoRow : OpenClaim := { program := "ytmkoigkgmjbaiaa", sum := "3131606bd498d6288ef4385a49a0b0e7df476177dd363187d47133655e58e233", func := "loop.example/g00206/laws.FnExactConstants", spec := "fnExactConstants", apart := false, narrowed := true }
def FnExactConstantsUptoSaid : Prop := fnExactConstantsUptoRow.holds Try.pinned (OpenSpec.upto fnExactConstantsSpec)

/-- 'laws.FnExactSlotOf', WHERE WHAT IT READS IS OF BULK AT MOST 1048576: true; the input reads as it did. -/
def fnExactSlotOfUptoRow : OpenClaim := { program := "ytmkoigkgmjbaiaa", sum := "3131606bd498d6288ef4385a49a0b0e7df476177dd363187d47133655e58e233", func := "loop.example/g00206/laws.FnExactSlotOf", spec := "fnExactSlotOf", apart := false, narrowed := true }
def FnExactSlotOfUptoSaid : Prop := fnExactSlotOfUptoRow.holds Try.pinned (OpenSpec.upto fnExactSlotOfSpec)

/-- 'laws.FnExactGoodConfig', WHERE WHAT IT READS IS OF BULK AT MOST 1048576: true; the input reads as it did. -/
def fnExactGoodConfigUptoRow : OpenClaim := { program := "ytmkoigkgmjbaiaa", sum := "3131606bd498d6288ef4385a49a0b0e7df476177dd363187d47133655e58e233", func := "loop.example/g00206/laws.FnExactGoodConfig", spec := "fnExactGoodConfig", apart := false, narrowed := true }
def FnExactGoodConfigUptoSaid : Prop := fnExactGoodConfigUptoRow.holds Try.pinned (OpenSpec.upto fnExactGoodConfigSpec)

/-- 'laws.FnExactXorText', WHERE WHAT IT READS IS OF BULK AT MOST 1048576: true; the input reads as it did. -/
def fnExactXorTextUptoRow : OpenClaim := { program := "ytmkoigkgmjbaiaa", sum := "3131606bd498d6288ef4385a49a0b0e7df476177dd363187d47133655e58e233", func := "loop.example/g00206/laws.FnExactXorText", spec := "fnExactXorText", apart := false, narrowed := true }
def FnExactXorTextUptoSaid : Prop := fnExactXorTextUptoRow.holds Try.pinned (OpenSpec.upto fnExactXorTextSpec)

/-- 'laws.FnExactMulGf', WHERE WHAT IT READS IS OF BULK AT MOST 1048576: true; the input reads as it did. -/
def fnExactMulGfUptoRow : OpenClaim := { program := "ytmkoigkgmjbaiaa", sum := "3131606bd498d6288ef4385a49a0b0e7df476177dd363187d47133655e58e233", func := "loop.example/g00206/laws.FnExactMulGf", spec := "fnExactMulGf", apart := false, narrowed := true }
def FnExactMulGfUptoSaid : Prop := fnExactMulGfUptoRow.holds Try.pinned (OpenSpec.upto fnExactMulGfSpec)

/-- 'laws.FnExactNumberOf', WHERE WHAT IT READS IS OF BULK AT MOST 1048576: true; the input reads as it did. -/
def fnExactNumberOfUptoRow : OpenClaim := { program := "ytmkoigkgmjbaiaa", sum := "3131606bd498d6288ef4385a49a0b0e7df476177dd363187d47133655e58e233", func := "loop.example/g00206/laws.FnExactNumberOf", spec := "fnExactNumberOf", apart := false, narrowed := true }
def FnExactNumberOfUptoSaid : Prop := fnExactNumberOfUptoRow.holds Try.pinned (OpenSpec.upto fnExactNumberOfSpec)

/-- 'laws.FnExactTakeVarint', WHERE WHAT IT READS IS OF BULK AT MOST 1048576: true; the input reads as it did. -/
def fnExactTakeVarintUptoRow : OpenClaim := { program := "ytmkoigkgmjbaiaa", sum := "3131606bd498d6288ef4385a49a0b0e7df476177dd363187d47133655e58e233", func := "loop.example/g00206/laws.FnExactTakeVarint", spec := "fnExactTakeVarint", apart := false, narrowed := true }
def FnExactTakeVarintUptoSaid : Prop := fnExactTakeVarintUptoRow.holds Try.pinned (OpenSpec.upto fnExactTakeVarintSpec)

/-- 'laws.FnExactVarintSize', WHERE WHAT IT READS IS OF BULK AT MOST 1048576: true; the input reads as it did. -/
def fnExactVarintSizeUptoRow : OpenClaim := { program := "ytmkoigkgmjbaiaa", sum := "3131606bd498d6288ef4385a49a0b0e7df476177dd363187d47133655e58e233", func := "loop.example/g00206/laws.FnExactVarintSize", spec := "fnExactVarintSize", apart := false, narrowed := true }
def FnExactVarintSizeUptoSaid : Prop := fnExactVarintSizeUptoRow.holds Try.pinned (OpenSpec.upto fnExactVarintSizeSpec)

/-- 'laws.FnExactNumberBytes', WHERE WHAT IT READS IS OF BULK AT MOST 1048576: true; the input reads as it did. -/
def fnExactNumberBytesUptoRow : OpenClaim := { program := "ytmkoigkgmjbaiaa", sum := "3131606bd498d6288ef4385a49a0b0e7df476177dd363187d47133655e58e233", func := "loop.example/g00206/laws.FnExactNumberBytes", spec := "fnExactNumberBytes", apart := false, narrowed := true }
def FnExactNumberBytesUptoSaid : Prop := fnExactNumberBytesUptoRow.holds Try.pinned (OpenSpec.upto fnExactNumberBytesSpec)

/-- 'laws.FnExactNonceOf', WHERE WHAT IT READS IS OF BULK AT MOST 1048576: true; the input reads as it did. -/
def fnExactNonceOfUptoRow : OpenClaim := { program := "ytmkoigkgmjbaiaa", sum := "3131606bd498d6288ef4385a49a0b0e7df476177dd363187d47133655e58e233", func := "loop.example/g00206/laws.FnExactNonceOf", spec := "fnExactNonceOf", apart := false, narrowed := true }
def FnExactNonceOfUptoSaid : Prop := fnExactNonceOfUptoRow.holds Try.pinned (OpenSpec.upto fnExactNonceOfSpec)

/-- 'laws.FnExactInverseGf', WHERE WHAT IT READS IS OF BULK AT MOST 1048576: true; the input reads as it did. -/
def fnExactInverseGfUptoRow : OpenClaim := { program := "ytmkoigkgmjbaiaa", sum := "3131606bd498d6288ef4385a49a0b0e7df476177dd363187d47133655e58e233", func := "loop.example/g00206/laws.FnExactInverseGf", spec := "fnExactInverseGf", apart := false, narrowed := true }
def FnExactInverseGfUptoSaid : Prop := fnExactInverseGfUptoRow.holds Try.pinned (OpenSpec.upto fnExactInverseGfSpec)

end Rows
end Go.Proofs.Ytmkoigkgmjbaiaa
