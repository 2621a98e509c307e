/-
  No cell of these rows narrows 'for every input' (looked for: loops, veiled, ifaces, maps, wideKeys, modest, calm, conditions, laid).
  DERIVED. THE GIVEN ROWS OF THIS SEAT. 14 by the template 'for every input the law returns true; each argument reads behind the call as it read before'; 0 by the template 'total and deterministic' (their statements: YtimokakcdmcnnaaTotals.lean).
  GIVEN WITH THE SEED: the statements are not yours to turn. If you find one false, say at which input.
  Laid BY PROGRAM, IN A SANDBOX (cutbox-rows.mjs): the forced cells as the released guide's own fill.sh prints them over the translation cd4044b1161e38e4… (all of the seat's roots in one cut). By AI agents, Wed Nov 11 2026. No macro, syntax, notation, axiom, sorry.
-/
import Derived.Test.YtimokakcdmcnnaaChecked
import GoSem.Claim
import GoSem.ClaimJoined
import GoSem.ClaimMapViews
import Derived.JoinedTies
import Derived.KernelRfl
namespace Go.Proofs.Ytimokakcdmcnnaa
/- THE CELL 'sum', in the pinned program and in every row, IS THE sha256 OF THE DUMP (.gsa) THAT YtimokakcdmcnnaaProg.lean LOADS. Nothing in Lean hashes anything: it is a label: what it is worth is what the hold of that sum in a sandbox is worth. -/
noncomputable def Try.pinned : Pinned := { name := "ytimokakcdmcnnaa", sum := "cd4044b1161e38e4446e230fe9ee81ee338a76075653fe3292ddc1a8d250bf94", checked := Try.checked }
namespace Rows
def none {H : Type} : Left H := { results := [], args := [] }

/-- 'laws.FnExactMixColumn': WHATEVER THE INPUT: true; the input reads as it did. -/
def fnExactMixColumnSpec : ChangeSpec := { name := "fnExactMixColumn", fn := fun _ => fun
  | [d] => { results := [.lit (.bool true)], args := [d] }
  | _ => none }
def fnExactMixColumnRow : OpenClaim := { program := "ytimokakcdmcnnaa", sum := "cd4044b1161e38e4446e230fe9ee81ee338a76075653fe3292ddc1a8d250bf94", func := "loop.example/g00206/laws.FnExactMixColumn", spec := "fnExactMixColumn", apart := false }
def FnExactMixColumnSaid : Prop := fnExactMixColumnRow.holds Try.pinned (OpenSpec.ofChange fnExactMixColumnSpec)

/-- ITS FALSE NEIGHBOUR: 'it returns false'. Refute it at one input. -/
def fnExactMixColumnWrong : ChangeSpec := { name := "fnExactMixColumn", fn := fun _ => fun
  | [d] => { results := [.lit (.bool false)], args := [d] }
  | _ => none }
def FnExactMixColumnWrongFalsely : Prop := fnExactMixColumnRow.holds Try.pinned (OpenSpec.ofChange fnExactMixColumnWrong)

/-- 'laws.FnExactUnsubByte': WHATEVER THE INPUT: true; the input reads as it did. -/
def fnExactUnsubByteSpec : ChangeSpec := { name := "fnExactUnsubByte", fn := fun _ => fun
  | [d] => { results := [.lit (.bool true)], args := [d] }
  | _ => none }
def fnExactUnsubByteRow : OpenClaim := { program := "ytimokakcdmcnnaa", sum := "cd4044b1161e38e4446e230fe9ee81ee338a76075653fe3292ddc1a8d250bf94", func := "loop.example/g00206/laws.FnExactUnsubByte", spec := "fnExactUnsubByte", apart := false }
def FnExactUnsubByteSaid : Prop := fnExactUnsubByteRow.holds Try.pinned (OpenSpec.ofChange fnExactUnsubByteSpec)

/-- ITS FALSE NEIGHBOUR: 'it returns false'. Refute it at one input. -/
def fnExactUnsubByteWrong : ChangeSpec := { name := "fnExactUnsubByte", fn := fun _ => fun
  | [d] => { results := [.lit (.bool false)], args := [d] }
  | _ => none }
def FnExactUnsubByteWrongFalsely : Prop := fnExactUnsubByteRow.holds Try.pinned (OpenSpec.ofChange fnExactUnsubByteWrong)

/-- 'laws.FnExactRoundKeys': WHATEVER THE INPUT: true; the input reads as it did. -/
def fnExactRoundKeysSpec : ChangeSpec := { name := "fnExactRoundKeys", fn := fun _ => fun
  | [d] => { results := [.lit (.bool true)], args := [d] }
  | _ => none }
def fnExactRoundKeysRow : OpenClaim := { program := "ytimokakcdmcnnaa", sum := "cd4044b1161e38e4446e230fe9ee81ee338a76075653fe3292ddc1a8d250bf94", func := "loop.example/g00206/laws.FnExactRoundKeys", spec := "fnExactRoundKeys", apart := false }
def FnExactRoundKeysSaid : Prop := fnExactRoundKeysRow.holds Try.pinned (OpenSpec.ofChange fnExactRoundKeysSpec)

/-- ITS FALSE NEIGHBOUR: 'it returns false'. Refute it at one input. -/
def fnExactRoundKeysWrong : ChangeSpec := { name := "fnExactRoundKeys", fn := fun _ => fun
  | [d] => { results := [.lit (.bool false)], args := [d] }
  | _ => none }
def FnExactRoundKeysWrongFalsely : Prop := fnExactRoundKeysRow.holds Try.pinned (OpenSpec.ofChange fnExactRoundKeysWrong)

/-- 'laws.FnExactAesBack': WHATEVER THE INPUT: true; the input reads as it did. -/
def fnExactAesBackSpec : ChangeSpec := { name := "fnExactAesBack", fn := fun _ => fun
  | [d1, d2] => { results := [.lit (.bool true)], args := [d1, d2] }
  | _ => none }
def fnExactAesBackRow : OpenClaim := { program := "ytimokakcdmcnnaa", sum := "cd4044b1161e38e4446e230fe9ee81ee338a76075653fe3292ddc1a8d250bf94", func := "loop.example/g00206/laws.FnExactAesBack", spec := "fnExactAesBack", apart := false }
def FnExactAesBackSaid : Prop := fnExactAesBackRow.holds Try.pinned (OpenSpec.ofChange fnExactAesBackSpec)

/-- ITS FALSE NEIGHBOUR: 'it returns false'. Refute it at one input. -/
def fnExactAesBackWrong : ChangeSpec := { name := "fnExactAesBack", fn := fun _ => fun
  | [d1, d2] => { results := [.lit (.bool false)], args := [d1, d2] }
  | _ => none }
def FnExactAesBackWrongFalsely : Prop := fnExactAesBackRow.holds Try.pinned (OpenSpec.ofChange fnExactAesBackWrong)

/-- 'laws.FnExactAesBlock': WHATEVER THE INPUT: true; the input reads as it did. -/
def fnExactAesBlockSpec : ChangeSpec := { name := "fnExactAesBlock", fn := fun _ => fun
  | [d1, d2] => { results := [.lit (.bool true)], args := [d1, d2] }
  | _ => none }
def fnExactAesBlockRow : OpenClaim := { program := "ytimokakcdmcnnaa", sum := "cd4044b1161e38e4446e230fe9ee81ee338a76075653fe3292ddc1a8d250bf94", func := "loop.example/g00206/laws.FnExactAesBlock", spec := "fnExactAesBlock", apart := false }
def FnExactAesBlockSaid : Prop := fnExactAesBlockRow.holds Try.pinned (OpenSpec.ofChange fnExactAesBlockSpec)

/-- ITS FALSE NEIGHBOUR: 'it returns false'. Refute it at one input. -/
def fnExactAesBlockWrong : ChangeSpec := { name := "fnExactAesBlock", fn := fun _ => fun
  | [d1, d2] => { results := [.lit (.bool false)], args := [d1, d2] }
  | _ => none }
def FnExactAesBlockWrongFalsely : Prop := fnExactAesBlockRow.holds Try.pinned (OpenSpec.ofChange fnExactAesBlockWrong)

/-- 'laws.FnExactCoverOf': WHATEVER THE INPUT: true; the input reads as it did. -/
def fnExactCoverOfSpec : ChangeSpec := { name := "fnExactCoverOf", fn := fun _ => fun
  | [d1, d2] => { results := [.lit (.bool true)], args := [d1, d2] }
  | _ => none }
def fnExactCoverOfRow : OpenClaim := { program := "ytimokakcdmcnnaa", sum := "cd4044b1161e38e4446e230fe9ee81ee338a76075653fe3292ddc1a8d250bf94", func := "loop.example/g00206/laws.FnExactCoverOf", spec := "fnExactCoverOf", apart := false }
def FnExactCoverOfSaid : Prop := fnExactCoverOfRow.holds Try.pinned (OpenSpec.ofChange fnExactCoverOfSpec)

/-- ITS FALSE NEIGHBOUR: 'it returns false'. Refute it at one input. -/
def fnExactCoverOfWrong : ChangeSpec := { name := "fnExactCoverOf", fn := fun _ => fun
  | [d1, d2] => { results := [.lit (.bool false)], args := [d1, d2] }
  | _ => none }
def FnExactCoverOfWrongFalsely : Prop := fnExactCoverOfRow.holds Try.pinned (OpenSpec.ofChange fnExactCoverOfWrong)

/-- 'laws.FnExactAesCounter': WHATEVER THE INPUT: true; the input reads as it did. -/
def fnExactAesCounterSpec : ChangeSpec := { name := "fnExactAesCounter", fn := fun _ => fun
  | [d1, d2, d3] => { results := [.lit (.bool true)], args := [d1, d2, d3] }
  | _ => none }
def fnExactAesCounterRow : OpenClaim := { program := "ytimokakcdmcnnaa", sum := "cd4044b1161e38e4446e230fe9ee81ee338a76075653fe3292ddc1a8d250bf94", func := "loop.example/g00206/laws.FnExactAesCounter", spec := "fnExactAesCounter", apart := false }
def FnExactAesCounterSaid : Prop := fnExactAesCounterRow.holds Try.pinned (OpenSpec.ofChange fnExactAesCounterSpec)

/-- ITS FALSE NEIGHBOUR: 'it returns false'. Refute it at one input. -/
def fnExactAesCounterWrong : ChangeSpec := { name := "fnExactAesCounter", fn := fun _ => fun
  | [d1, d2, d3] => { results := [.lit (.bool false)], args := [d1, d2, d3] }
  | _ => none }
def FnExactAesCounterWrongFalsely : Prop := fnExactAesCounterRow.holds Try.pinned (OpenSpec.ofChange fnExactAesCounterWrong)

/-- 'laws.FnExactTagOf': WHATEVER THE INPUT: true; the input reads as it did. -/
def fnExactTagOfSpec : ChangeSpec := { name := "fnExactTagOf", fn := fun _ => fun
  | [d1, d2, d3, d4] => { results := [.lit (.bool true)], args := [d1, d2, d3, d4] }
  | _ => none }
def fnExactTagOfRow : OpenClaim := { program := "ytimokakcdmcnnaa", sum := "cd4044b1161e38e4446e230fe9ee81ee338a76075653fe3292ddc1a8d250bf94", func := "loop.example/g00206/laws.FnExactTagOf", spec := "fnExactTagOf", inPlace := ["internal/abi.NoEscape", "internal/bytealg.MakeNoZero"], apart := false }
def FnExactTagOfSaid : Prop := fnExactTagOfRow.holds Try.pinned (OpenSpec.ofChange fnExactTagOfSpec)

/-- ITS FALSE NEIGHBOUR: 'it returns false'. Refute it at one input. -/
def fnExactTagOfWrong : ChangeSpec := { name := "fnExactTagOf", fn := fun _ => fun
  | [d1, d2, d3, d4] => { results := [.lit (.bool false)], args := [d1, d2, d3, d4] }
  | _ => none }
def FnExactTagOfWrongFalsely : Prop := fnExactTagOfRow.holds Try.pinned (OpenSpec.ofChange fnExactTagOfWrong)

/-- 'laws.FnExactSealText': WHATEVER THE INPUT: true; the input reads as it did. -/
def fnExactSealTextSpec : ChangeSpec := { name := "fnExactSealText", fn := fun _ => fun
  | [d1, d2, d3, d4] => { results := [.lit (.bool true)], args := [d1, d2, d3, d4] }
  | _ => none }
def fnExactSealTextRow : OpenClaim := { program := "ytimokakcdmcnnaa", sum := "cd4044b1161e38e4446e230fe9ee81ee338a76075653fe3292ddc1a8d250bf94", func := "loop.example/g00206/laws.FnExactSealText", spec := "fnExactSealText", inPlace := ["internal/abi.NoEscape", "internal/bytealg.MakeNoZero"], apart := false }
def FnExactSealTextSaid : Prop := fnExactSealTextRow.holds Try.pinned (OpenSpec.ofChange fnExactSealTextSpec)

/-- ITS FALSE NEIGHBOUR: 'it returns false'. Refute it at one input. -/
def fnExactSealTextWrong : ChangeSpec := { name := "fnExactSealText", fn := fun _ => fun
  | [d1, d2, d3, d4] => { results := [.lit (.bool false)], args := [d1, d2, d3, d4] }
  | _ => none }
def FnExactSealTextWrongFalsely : Prop := fnExactSealTextRow.holds Try.pinned (OpenSpec.ofChange fnExactSealTextWrong)

/-- 'laws.FnExactOpenText': WHATEVER THE INPUT: true; the input reads as it did. -/
def fnExactOpenTextSpec : ChangeSpec := { name := "fnExactOpenText", fn := fun _ => fun
  | [d1, d2, d3, d4] => { results := [.lit (.bool true)], args := [d1, d2, d3, d4] }
  | _ => none }
def fnExactOpenTextRow : OpenClaim := { program := "ytimokakcdmcnnaa", sum := "cd4044b1161e38e4446e230fe9ee81ee338a76075653fe3292ddc1a8d250bf94", func := "loop.example/g00206/laws.FnExactOpenText", spec := "fnExactOpenText", inPlace := ["internal/abi.NoEscape", "internal/bytealg.MakeNoZero"], apart := false }
def FnExactOpenTextSaid : Prop := fnExactOpenTextRow.holds Try.pinned (OpenSpec.ofChange fnExactOpenTextSpec)

/-- ITS FALSE NEIGHBOUR: 'it returns false'. Refute it at one input. -/
def fnExactOpenTextWrong : ChangeSpec := { name := "fnExactOpenText", fn := fun _ => fun
  | [d1, d2, d3, d4] => { results := [.lit (.bool false)], args := [d1, d2, d3, d4] }
  | _ => none }
def FnExactOpenTextWrongFalsely : Prop := fnExactOpenTextRow.holds Try.pinned (OpenSpec.ofChange fnExactOpenTextWrong)

/-- 'laws.FnExactFourPasses': WHATEVER THE INPUT: true; the input reads as it did. -/
def fnExactFourPassesSpec : ChangeSpec := { name := "fnExactFourPasses", fn := fun _ => fun
  | [d1, d2] => { results := [.lit (.bool true)], args := [d1, d2] }
  | _ => none }
def fnExactFourPassesRow : OpenClaim := { program := "ytimokakcdmcnnaa", sum := "cd4044b1161e38e4446e230fe9ee81ee338a76075653fe3292ddc1a8d250bf94", func := "loop.example/g00206/laws.FnExactFourPasses", spec := "fnExactFourPasses", inPlace := ["internal/abi.NoEscape", "internal/bytealg.MakeNoZero"], apart := false }
def FnExactFourPassesSaid : Prop := fnExactFourPassesRow.holds Try.pinned (OpenSpec.ofChange fnExactFourPassesSpec)

/-- ITS FALSE NEIGHBOUR: 'it returns false'. Refute it at one input. -/
def fnExactFourPassesWrong : ChangeSpec := { name := "fnExactFourPasses", fn := fun _ => fun
  | [d1, d2] => { results := [.lit (.bool false)], args := [d1, d2] }
  | _ => none }
def FnExactFourPassesWrongFalsely : Prop := fnExactFourPassesRow.holds Try.pinned (OpenSpec.ofChange fnExactFourPassesWrong)

/-- 'laws.FnExactFourBack': WHATEVER THE INPUT: true; the input reads as it did. -/
def fnExactFourBackSpec : ChangeSpec := { name := "fnExactFourBack", fn := fun _ => fun
  | [d1, d2] => { results := [.lit (.bool true)], args := [d1, d2] }
  | _ => none }
def fnExactFourBackRow : OpenClaim := { program := "ytimokakcdmcnnaa", sum := "cd4044b1161e38e4446e230fe9ee81ee338a76075653fe3292ddc1a8d250bf94", func := "loop.example/g00206/laws.FnExactFourBack", spec := "fnExactFourBack", inPlace := ["internal/abi.NoEscape", "internal/bytealg.MakeNoZero"], apart := false }
def FnExactFourBackSaid : Prop := fnExactFourBackRow.holds Try.pinned (OpenSpec.ofChange fnExactFourBackSpec)

/-- ITS FALSE NEIGHBOUR: 'it returns false'. Refute it at one input. -/
def fnExactFourBackWrong : ChangeSpec := { name := "fnExactFourBack", fn := fun _ => fun
  | [d1, d2] => { results := [.lit (.bool false)], args := [d1, d2] }
  | _ => none }
def FnExactFourBackWrongFalsely : Prop := fnExactFourBackRow.holds Try.pinned (OpenSpec.ofChange fnExactFourBackWrong)

/-- 'laws.FnExactEncodeId': WHATEVER THE INPUT: true; the input reads as it did. -/
def fnExactEncodeIdSpec : ChangeSpec := { name := "fnExactEncodeId", fn := fun _ => fun
  | [d1, d2, d3, d4] => { results := [.lit (.bool true)], args := [d1, d2, d3, d4] }
  | _ => none }
def fnExactEncodeIdRow : OpenClaim := { program := "ytimokakcdmcnnaa", sum := "cd4044b1161e38e4446e230fe9ee81ee338a76075653fe3292ddc1a8d250bf94", func := "loop.example/g00206/laws.FnExactEncodeId", spec := "fnExactEncodeId", inPlace := ["internal/abi.NoEscape", "internal/bytealg.MakeNoZero"], apart := false }
def FnExactEncodeIdSaid : Prop := fnExactEncodeIdRow.holds Try.pinned (OpenSpec.ofChange fnExactEncodeIdSpec)

/-- ITS FALSE NEIGHBOUR: 'it returns false'. Refute it at one input. -/
def fnExactEncodeIdWrong : ChangeSpec := { name := "fnExactEncodeId", fn := fun _ => fun
  | [d1, d2, d3, d4] => { results := [.lit (.bool false)], args := [d1, d2, d3, d4] }
  | _ => none }
def FnExactEncodeIdWrongFalsely : Prop := fnExactEncodeIdRow.holds Try.pinned (OpenSpec.ofChange fnExactEncodeIdWrong)

/-- 'laws.FnExactDecodeId': WHATEVER THE INPUT: true; the input reads as it did. -/
def fnExactDecodeIdSpec : ChangeSpec := { name := "fnExactDecodeId", fn := fun _ => fun
  | [d1, d2] => { results := [.lit (.bool true)], args := [d1, d2] }
  | _ => none }
def fnExactDecodeIdRow : OpenClaim := { program := "ytimokakcdmcnnaa", sum := "cd4044b1161e38e4446e230fe9ee81ee338a76075653fe3292ddc1a8d250bf94", func := "loop.example/g00206/laws.FnExactDecodeId", spec := "fnExactDecodeId", inPlace := ["internal/abi.NoEscape", "internal/bytealg.MakeNoZero"], apart := false }
def FnExactDecodeIdSaid : Prop := fnExactDecodeIdRow.holds Try.pinned (OpenSpec.ofChange fnExactDecodeIdSpec)

/-- ITS FALSE NEIGHBOUR: 'it returns false'. Refute it at one input. -/
def fnExactDecodeIdWrong : ChangeSpec := { name := "fnExactDecodeId", fn := fun _ => fun
  | [d1, d2] => { results := [.lit (.bool false)], args := [d1, d2] }
  | _ => none }
def FnExactDecodeIdWrongFalsely : Prop := fnExactDecodeIdRow.holds Try.pinned (OpenSpec.ofChange fnExactDecodeIdWrong)

/- THE SECOND FORM. 'bulk': how many values and letters a reading holds, each counted each time it is reached (what is shared counts as often as it is met; a slice's spare places count too). A statement '..UptoSaid' is the law's where the arguments, and the package variables that the reading takes, are together of bulk at most 1048576: NARROWER than '..Said'. Prove '..Said' where nothing that the law and all that it calls make is longer than what came in: it says more and counts as full. Else prove '..UptoSaid'. A law counts once. -/
mutual
def uptoBulk {H : Type} : DataW H → Nat
  | .lit (.string bytes) => bytes.length + 1
  | .lit _ => 1
  | .nil => 1
  | .ptr d => uptoBulk d + 1
  | .slice elems spare => uptoBulkAll elems + uptoBulkAll spare + 1
  | .agg parts => uptoBulkAll parts + 1
  | .iface _ d => uptoBulk d + 1
  | .map entries => uptoBulkEntries entries + 1
  | .held _ => 1
def uptoBulkAll {H : Type} : List (DataW H) → Nat
  | [] => 0
  | d :: r => uptoBulk d + uptoBulkAll r
def uptoBulkEntries {H : Type} : List (Lit × DataW H) → Nat
  | [] => 0
  | x :: r => uptoBulkEntry x + uptoBulkEntries r
def uptoBulkEntry {H : Type} : Lit × DataW H → Nat
  | (.string bytes, d) => bytes.length + uptoBulk d + 1
  | (_, d) => uptoBulk d + 1
 end
def uptoSmall : (H : Type) → List (DataW H) → Bool := fun _ ds => decide (uptoBulkAll ds ≤ 1048576)
def OpenSpec.upto (s : _root_.Go.ChangeSpec) : _root_.Go.OpenSpec := { _root_.Go.OpenSpec.ofChange s with cond := some uptoSmall }

/-- 'laws.FnExactMixColumn', WHERE WHAT IT READS IS OF BULK AT MOST 1048576: true; the input reads as it did. -/
def fnExactMixColumnUptoRow : OpenClaim := { program := "ytimokakcdmcnnaa", sum := "cd4044b1161e38e4446e230fe9ee81ee338a76075653fe3292ddc1a8d250bf94", func := "loop.example/g00206/laws.FnExactMixColumn", spec := "fnExactMixColumn", apart := false, narrowed := true }
def FnExactMixColumnUptoSaid : Prop := fnExactMixColumnUptoRow.holds Try.pinned (OpenSpec.upto fnExactMixColumnSpec)

/-- 'laws.FnExactUnsubByte', WHERE WHAT IT READS IS OF BULK AT MOST 1048576: true; the input reads as it did. -/
def fnExactUnsubByteUptoRow : OpenClaim := { program := "ytimokakcdmcnnaa", sum := "cd4044b1161e38e4446e230fe9ee81ee338a76075653fe3292ddc1a8d250bf94", func := "loop.example/g00206/laws.FnExactUnsubByte", spec := "fnExactUnsubByte", apart := false, narrowed := true }
def FnExactUnsubByteUptoSaid : Prop := fnExactUnsubByteUptoRow.holds Try.pinned (OpenSpec.upto fnExactUnsubByteSpec)

/-- 'laws.FnExactRoundKeys', WHERE WHAT IT READS IS OF BULK AT MOST 1048576: true; the input reads as it did. -/
def fnExactRoundKeysUptoRow : OpenClaim := { program := "ytimokakcdmcnnaa", sum := "cd4044b1161e38e4446e230fe9ee81ee338a76075653fe3292ddc1a8d250bf94", func := "loop.example/g00206/laws.FnExactRoundKeys", spec := "fnExactRoundKeys", apart := false, narrowed := true }
def FnExactRoundKeysUptoSaid : Prop := fnExactRoundKeysUptoRow.holds Try.pinned (OpenSpec.upto fnExactRoundKeysSpec)

/-- 'laws.FnExactAesBack', WHERE WHAT IT READS IS OF BULK AT MOST 1048576: true; the input reads as it did. -/
def fnExactAesBackUptoRow : OpenClaim := { program := "ytimokakcdmcnnaa", sum := "cd4044b1161e38e4446e230fe9ee81ee338a76075653fe3292ddc1a8d250bf94", func := "loop.example/g00206/laws.FnExactAesBack", spec := "fnExactAesBack", apart := false, narrowed := true }
def FnExactAesBackUptoSaid : Prop := fnExactAesBackUptoRow.holds Try.pinned (OpenSpec.upto fnExactAesBackSpec)

/-- 'laws.FnExactAesBlock', WHERE WHAT IT READS IS OF BULK AT MOST 1048576: true; the input reads as it did. -/
def fnExactAesBlockUptoRow : OpenClaim := { program := "ytimokakcdmcnnaa", sum := "cd4044b1161e38e4446e230fe9ee81ee338a76075653fe3292ddc1a8d250bf94", func := "loop.example/g00206/laws.FnExactAesBlock", spec := "fnExactAesBlock", apart := false, narrowed := true }
def FnExactAesBlockUptoSaid : Prop := fnExactAesBlockUptoRow.holds Try.pinned (OpenSpec.upto fnExactAesBlockSpec)

/-- 'laws.FnExactCoverOf', WHERE WHAT IT READS IS OF BULK AT MOST 1048576: true; the input reads as it did. -/
def fnExactCoverOfUptoRow : OpenClaim := { program := "ytimokakcdmcnnaa", sum := "cd4044b1161e38e4446e230fe9ee81ee338a76075653fe3292ddc1a8d250bf94", func := "loop.example/g00206/laws.FnExactCoverOf", spec := "fnExactCoverOf", apart := false, narrowed := true }
def FnExactCoverOfUptoSaid : Prop := fnExactCoverOfUptoRow.holds Try.pinned (OpenSpec.upto fnExactCoverOfSpec)

/-- 'laws.FnExactAesCounter', WHERE WHAT IT READS IS OF BULK AT MOST 1048576: true; the input reads as it did. -/
def fnExactAesCounterUptoRow : OpenClaim := { program := "ytimokakcdmcnnaa", sum := "cd4044b1161e38e4446e230fe9ee81ee338a76075653fe3292ddc1a8d250bf94", func := "loop.example/g00206/laws.FnExactAesCounter", spec := "fnExactAesCounter", apart := false, narrowed := true }
def FnExactAesCounterUptoSaid : Prop := fnExactAesCounterUptoRow.holds Try.pinned (OpenSpec.upto fnExactAesCounterSpec)

/-- 'laws.FnExactTagOf', WHERE WHAT IT READS IS OF BULK AT MOST 1048576: true; the input reads as it did. -/
def fnExactTagOfUptoRow : OpenClaim := { program := "ytimokakcdmcnnaa", sum := "cd4044b1161e38e4446e230fe9ee81ee338a76075653fe3292ddc1a8d250bf94", func := "loop.example/g00206/laws.FnExactTagOf", spec := "fnExactTagOf", inPlace := ["internal/abi.NoEscape", "internal/bytealg.MakeNoZero"], apart := false, narrowed := true }
def FnExactTagOfUptoSaid : Prop := fnExactTagOfUptoRow.holds Try.pinned (OpenSpec.upto fnExactTagOfSpec)

/-- 'laws.FnExactSealText', WHERE WHAT IT READS IS OF BULK AT MOST 1048576: true; the input reads as it did. -/
def fnExactSealTextUptoRow : OpenClaim := { program := "ytimokakcdmcnnaa", sum := "cd4044b1161e38e4446e230fe9ee81ee338a76075653fe3292ddc1a8d250bf94", func := "loop.example/g00206/laws.FnExactSealText", spec := "fnExactSealText", inPlace := ["internal/abi.NoEscape", "internal/bytealg.MakeNoZero"], apart := false, narrowed := true }
def FnExactSealTextUptoSaid : Prop := fnExactSealTextUptoRow.holds Try.pinned (OpenSpec.upto fnExactSealTextSpec)

/-- 'laws.FnExactOpenText', WHERE WHAT IT READS IS OF BULK AT MOST 1048576: true; the input reads as it did. -/
def fnExactOpenTextUptoRow : OpenClaim := { program := "ytimokakcdmcnnaa", sum := "cd4044b1161e38e4446e230fe9ee81ee338a76075653fe3292ddc1a8d250bf94", func := "loop.example/g00206/laws.FnExactOpenText", spec := "fnExactOpenText", inPlace := ["internal/abi.NoEscape", "internal/bytealg.MakeNoZero"], apart := false, narrowed := true }
def FnExactOpenTextUptoSaid : Prop := fnExactOpenTextUptoRow.holds Try.pinned (OpenSpec.upto fnExactOpenTextSpec)

/-- 'laws.FnExactFourPasses', WHERE WHAT IT READS IS OF BULK AT MOST 1048576: true; the input reads as it did. -/
def fnExactFourPassesUptoRow : OpenClaim := { program := "ytimokakcdmcnnaa", sum := "cd4044b1161e38e4446e230fe9ee81ee338a76075653fe3292ddc1a8d250bf94", func := "loop.example/g00206/laws.FnExactFourPasses", spec := "fnExactFourPasses", inPlace := ["internal/abi.NoEscape", "internal/bytealg.MakeNoZero"], apart := false, narrowed := true }
def FnExactFourPassesUptoSaid : Prop := fnExactFourPassesUptoRow.holds Try.pinned (OpenSpec.upto fnExactFourPassesSpec)

/-- 'laws.FnExactFourBack', WHERE WHAT IT READS IS OF BULK AT MOST 1048576: true; the input reads as it did. -/
def fnExactFourBackUptoRow : OpenClaim := { program := "ytimokakcdmcnnaa", sum := "cd4044b1161e38e4446e230fe9ee81ee338a76075653fe3292ddc1a8d250bf94", func := "loop.example/g00206/laws.FnExactFourBack", spec := "fnExactFourBack", inPlace := ["internal/abi.NoEscape", "internal/bytealg.MakeNoZero"], apart := false, narrowed := true }
def FnExactFourBackUptoSaid : Prop := fnExactFourBackUptoRow.holds Try.pinned (OpenSpec.upto fnExactFourBackSpec)

/-- 'laws.FnExactEncodeId', WHERE WHAT IT READS IS OF BULK AT MOST 1048576: true; the input reads as it did. -/
def fnExactEncodeIdUptoRow : OpenClaim := { program := "ytimokakcdmcnnaa", sum := "cd4044b1161e38e4446e230fe9ee81ee338a76075653fe3292ddc1a8d250bf94", func := "loop.example/g00206/laws.FnExactEncodeId", spec := "fnExactEncodeId", inPlace := ["internal/abi.NoEscape", "internal/bytealg.MakeNoZero"], apart := false, narrowed := true }
def FnExactEncodeIdUptoSaid : Prop := fnExactEncodeIdUptoRow.holds Try.pinned (OpenSpec.upto fnExactEncodeIdSpec)

/-- 'laws.FnExactDecodeId', WHERE WHAT IT READS IS OF BULK AT MOST 1048576: true; the input reads as it did. -/
def fnExactDecodeIdUptoRow : OpenClaim := { program := "ytimokakcdmcnnaa", sum := "cd4044b1161e38e4446e230fe9ee81ee338a76075653fe3292ddc1a8d250bf94", func := "loop.example/g00206/laws.FnExactDecodeId", spec := "fnExactDecodeId", inPlace := ["internal/abi.NoEscape", "internal/bytealg.MakeNoZero"], apart := false, narrowed := true }
def FnExactDecodeIdUptoSaid : Prop := fnExactDecodeIdUptoRow.holds Try.pinned (OpenSpec.upto fnExactDecodeIdSpec)

end Rows
end Go.Proofs.Ytimokakcdmcnnaa
