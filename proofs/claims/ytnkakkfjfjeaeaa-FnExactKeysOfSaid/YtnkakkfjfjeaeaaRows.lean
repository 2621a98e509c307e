/-
  No cell of these rows narrows 'for every input' (looked for: loops, veiled, ifaces, maps, wideKeys, modest, calm, conditions, laid).
  DERIVED. THE GIVEN ROWS OF THIS SEAT. 9 by the template 'for every input the law returns true; each argument reads behind the call as it read before'; 0 by the template 'total and deterministic' (their statements: YtnkakkfjfjeaeaaTotals.lean).
  GIVEN WITH THE SEED: the statements are not yours to turn. If you find one false, say at which input.
  Laid BY PROGRAM, IN A SANDBOX (cutbox-rows.mjs): the forced cells as the released guide's own fill.sh prints them over the translation 0889bf008feef46b… (all of the seat's roots in one cut). By AI agents, Wed Nov 11 2026. No macro, syntax, notation, axiom, sorry.
-/
import Derived.Test.YtnkakkfjfjeaeaaChecked
import GoSem.Claim
import GoSem.ClaimJoined
import GoSem.ClaimMapViews
import Derived.JoinedTies
import Derived.KernelRfl
namespace Go.Proofs.Ytnkakkfjfjeaeaa
/- THE CELL 'sum', in the pinned program and in every row, IS THE sha256 OF THE DUMP (.gsa) THAT YtnkakkfjfjeaeaaProg.lean LOADS. Nothing in Lean hashes anything: it is a label: what it is worth is what the hold of that sum in a sandbox is worth. -/
noncomputable def Try.pinned : Pinned := { name := "ytnkakkfjfjeaeaa", sum := "0889bf008feef46b85fd694fd9650d483c125b7b94a5dc197406b60b104d6f16", checked := Try.checked }
namespace Rows
def none {H : Type} : Left H := { results := [], args := [] }

/-- 'laws.FnExactRoundWords': WHATEVER THE INPUT: true; the input reads as it did. -/
def fnExactRoundWordsSpec : ChangeSpec := { name := "fnExactRoundWords", fn := fun _ => fun
  | [] => { results := [.lit (.bool true)], args := [] }
  | _ => none }
def fnExactRoundWordsRow : OpenClaim := { program := "ytnkakkfjfjeaeaa", sum := "0889bf008feef46b85fd694fd9650d483c125b7b94a5dc197406b60b104d6f16", func := "loop.example/g00206/laws.FnExactRoundWords", spec := "fnExactRoundWords", inPlace := ["math.Float64bits", "math.Float64frombits"], unfollowed := true, recurses := true, apart := false }
def FnExactRoundWordsSaid : Prop := fnExactRoundWordsRow.holds Try.pinned (OpenSpec.ofChange fnExactRoundWordsSpec)

/-- ITS FALSE NEIGHBOUR: 'it returns false'. Refute it at one input. -/
def fnExactRoundWordsWrong : ChangeSpec := { name := "fnExactRoundWords", fn := fun _ => fun
  | [] => { results := [.lit (.bool false)], args := [] }
  | _ => none }
def FnExactRoundWordsWrongFalsely : Prop := fnExactRoundWordsRow.holds Try.pinned (OpenSpec.ofChange fnExactRoundWordsWrong)

/-- 'laws.FnExactHashFrom': WHATEVER THE INPUT: true; the input reads as it did. -/
def fnExactHashFromSpec : ChangeSpec := { name := "fnExactHashFrom", fn := fun _ => fun
  | [d1, d2] => { results := [.lit (.bool true)], args := [d1, d2] }
  | _ => none }
def fnExactHashFromRow : OpenClaim := { program := "ytnkakkfjfjeaeaa", sum := "0889bf008feef46b85fd694fd9650d483c125b7b94a5dc197406b60b104d6f16", func := "loop.example/g00206/laws.FnExactHashFrom", spec := "fnExactHashFrom", inPlace := ["math.Float64bits", "math.Float64frombits"], unfollowed := true, recurses := true, apart := false }
def FnExactHashFromSaid : Prop := fnExactHashFromRow.holds Try.pinned (OpenSpec.ofChange fnExactHashFromSpec)

/-- ITS FALSE NEIGHBOUR: 'it returns false'. Refute it at one input. -/
def fnExactHashFromWrong : ChangeSpec := { name := "fnExactHashFrom", fn := fun _ => fun
  | [d1, d2] => { results := [.lit (.bool false)], args := [d1, d2] }
  | _ => none }
def FnExactHashFromWrongFalsely : Prop := fnExactHashFromRow.holds Try.pinned (OpenSpec.ofChange fnExactHashFromWrong)

/-- 'laws.FnExactSha256': WHATEVER THE INPUT: true; the input reads as it did. -/
def fnExactSha256Spec : ChangeSpec := { name := "fnExactSha256", fn := fun _ => fun
  | [d] => { results := [.lit (.bool true)], args := [d] }
  | _ => none }
def fnExactSha256Row : OpenClaim := { program := "ytnkakkfjfjeaeaa", sum := "0889bf008feef46b85fd694fd9650d483c125b7b94a5dc197406b60b104d6f16", func := "loop.example/g00206/laws.FnExactSha256", spec := "fnExactSha256", inPlace := ["internal/abi.NoEscape", "internal/bytealg.MakeNoZero", "math.sqrt", "math.Float64bits", "math.Float64frombits"], unfollowed := true, recurses := true, apart := false }
def FnExactSha256Said : Prop := fnExactSha256Row.holds Try.pinned (OpenSpec.ofChange fnExactSha256Spec)

/-- ITS FALSE NEIGHBOUR: 'it returns false'. Refute it at one input. -/
def fnExactSha256Wrong : ChangeSpec := { name := "fnExactSha256", fn := fun _ => fun
  | [d] => { results := [.lit (.bool false)], args := [d] }
  | _ => none }
def FnExactSha256WrongFalsely : Prop := fnExactSha256Row.holds Try.pinned (OpenSpec.ofChange fnExactSha256Wrong)

/-- 'laws.FnExactHmacSha': WHATEVER THE INPUT: true; the input reads as it did. -/
def fnExactHmacShaSpec : ChangeSpec := { name := "fnExactHmacSha", fn := fun _ => fun
  | [d1, d2] => { results := [.lit (.bool true)], args := [d1, d2] }
  | _ => none }
def fnExactHmacShaRow : OpenClaim := { program := "ytnkakkfjfjeaeaa", sum := "0889bf008feef46b85fd694fd9650d483c125b7b94a5dc197406b60b104d6f16", func := "loop.example/g00206/laws.FnExactHmacSha", spec := "fnExactHmacSha", inPlace := ["internal/abi.NoEscape", "internal/bytealg.MakeNoZero", "math.sqrt", "math.Float64bits", "math.Float64frombits"], unfollowed := true, recurses := true, apart := false }
def FnExactHmacShaSaid : Prop := fnExactHmacShaRow.holds Try.pinned (OpenSpec.ofChange fnExactHmacShaSpec)

/-- ITS FALSE NEIGHBOUR: 'it returns false'. Refute it at one input. -/
def fnExactHmacShaWrong : ChangeSpec := { name := "fnExactHmacSha", fn := fun _ => fun
  | [d1, d2] => { results := [.lit (.bool false)], args := [d1, d2] }
  | _ => none }
def FnExactHmacShaWrongFalsely : Prop := fnExactHmacShaRow.holds Try.pinned (OpenSpec.ofChange fnExactHmacShaWrong)

/-- 'laws.FnExactHkdfExtract': WHATEVER THE INPUT: true; the input reads as it did. -/
def fnExactHkdfExtractSpec : ChangeSpec := { name := "fnExactHkdfExtract", fn := fun _ => fun
  | [d1, d2] => { results := [.lit (.bool true)], args := [d1, d2] }
  | _ => none }
def fnExactHkdfExtractRow : OpenClaim := { program := "ytnkakkfjfjeaeaa", sum := "0889bf008feef46b85fd694fd9650d483c125b7b94a5dc197406b60b104d6f16", func := "loop.example/g00206/laws.FnExactHkdfExtract", spec := "fnExactHkdfExtract", inPlace := ["internal/abi.NoEscape", "internal/bytealg.MakeNoZero", "math.sqrt", "math.Float64bits", "math.Float64frombits"], unfollowed := true, recurses := true, apart := false }
def FnExactHkdfExtractSaid : Prop := fnExactHkdfExtractRow.holds Try.pinned (OpenSpec.ofChange fnExactHkdfExtractSpec)

/-- ITS FALSE NEIGHBOUR: 'it returns false'. Refute it at one input. -/
def fnExactHkdfExtractWrong : ChangeSpec := { name := "fnExactHkdfExtract", fn := fun _ => fun
  | [d1, d2] => { results := [.lit (.bool false)], args := [d1, d2] }
  | _ => none }
def FnExactHkdfExtractWrongFalsely : Prop := fnExactHkdfExtractRow.holds Try.pinned (OpenSpec.ofChange fnExactHkdfExtractWrong)

/-- 'laws.FnExactHkdfExpand': WHATEVER THE INPUT: true; the input reads as it did. -/
def fnExactHkdfExpandSpec : ChangeSpec := { name := "fnExactHkdfExpand", fn := fun _ => fun
  | [d1, d2, d3] => { results := [.lit (.bool true)], args := [d1, d2, d3] }
  | _ => none }
def fnExactHkdfExpandRow : OpenClaim := { program := "ytnkakkfjfjeaeaa", sum := "0889bf008feef46b85fd694fd9650d483c125b7b94a5dc197406b60b104d6f16", func := "loop.example/g00206/laws.FnExactHkdfExpand", spec := "fnExactHkdfExpand", inPlace := ["internal/abi.NoEscape", "internal/bytealg.MakeNoZero", "math.sqrt", "math.Float64bits", "math.Float64frombits"], unfollowed := true, recurses := true, apart := false }
def FnExactHkdfExpandSaid : Prop := fnExactHkdfExpandRow.holds Try.pinned (OpenSpec.ofChange fnExactHkdfExpandSpec)

/-- ITS FALSE NEIGHBOUR: 'it returns false'. Refute it at one input. -/
def fnExactHkdfExpandWrong : ChangeSpec := { name := "fnExactHkdfExpand", fn := fun _ => fun
  | [d1, d2, d3] => { results := [.lit (.bool false)], args := [d1, d2, d3] }
  | _ => none }
def FnExactHkdfExpandWrongFalsely : Prop := fnExactHkdfExpandRow.holds Try.pinned (OpenSpec.ofChange fnExactHkdfExpandWrong)

/-- 'laws.FnExactExpandLabel': WHATEVER THE INPUT: true; the input reads as it did. -/
def fnExactExpandLabelSpec : ChangeSpec := { name := "fnExactExpandLabel", fn := fun _ => fun
  | [d1, d2, d3] => { results := [.lit (.bool true)], args := [d1, d2, d3] }
  | _ => none }
def fnExactExpandLabelRow : OpenClaim := { program := "ytnkakkfjfjeaeaa", sum := "0889bf008feef46b85fd694fd9650d483c125b7b94a5dc197406b60b104d6f16", func := "loop.example/g00206/laws.FnExactExpandLabel", spec := "fnExactExpandLabel", inPlace := ["internal/abi.NoEscape", "internal/bytealg.MakeNoZero", "math.sqrt", "math.Float64bits", "math.Float64frombits"], unfollowed := true, recurses := true, apart := false }
def FnExactExpandLabelSaid : Prop := fnExactExpandLabelRow.holds Try.pinned (OpenSpec.ofChange fnExactExpandLabelSpec)

/-- ITS FALSE NEIGHBOUR: 'it returns false'. Refute it at one input. -/
def fnExactExpandLabelWrong : ChangeSpec := { name := "fnExactExpandLabel", fn := fun _ => fun
  | [d1, d2, d3] => { results := [.lit (.bool false)], args := [d1, d2, d3] }
  | _ => none }
def FnExactExpandLabelWrongFalsely : Prop := fnExactExpandLabelRow.holds Try.pinned (OpenSpec.ofChange fnExactExpandLabelWrong)

/-- 'laws.FnExactNextSecret': WHATEVER THE INPUT: true; the input reads as it did. -/
def fnExactNextSecretSpec : ChangeSpec := { name := "fnExactNextSecret", fn := fun _ => fun
  | [d] => { results := [.lit (.bool true)], args := [d] }
  | _ => none }
def fnExactNextSecretRow : OpenClaim := { program := "ytnkakkfjfjeaeaa", sum := "0889bf008feef46b85fd694fd9650d483c125b7b94a5dc197406b60b104d6f16", func := "loop.example/g00206/laws.FnExactNextSecret", spec := "fnExactNextSecret", inPlace := ["internal/abi.NoEscape", "internal/bytealg.MakeNoZero", "math.sqrt", "math.Float64bits", "math.Float64frombits"], unfollowed := true, recurses := true, apart := false }
def FnExactNextSecretSaid : Prop := fnExactNextSecretRow.holds Try.pinned (OpenSpec.ofChange fnExactNextSecretSpec)

/-- ITS FALSE NEIGHBOUR: 'it returns false'. Refute it at one input. -/
def fnExactNextSecretWrong : ChangeSpec := { name := "fnExactNextSecret", fn := fun _ => fun
  | [d] => { results := [.lit (.bool false)], args := [d] }
  | _ => none }
def FnExactNextSecretWrongFalsely : Prop := fnExactNextSecretRow.holds Try.pinned (OpenSpec.ofChange fnExactNextSecretWrong)

/-- 'laws.FnExactKeysOf': WHATEVER THE INPUT: true; the input reads as it did. -/
def fnExactKeysOfSpec : ChangeSpec := { name := "fnExactKeysOf", fn := fun _ => fun
  | [d] => { results := [.lit (.bool true)], args := [d] }
  | _ => none }
def fnExactKeysOfRow : OpenClaim := { program := "ytnkakkfjfjeaeaa", sum := "0889bf008feef46b85fd694fd9650d483c125b7b94a5dc197406b60b104d6f16", func := "loop.example/g00206/laws.FnExactKeysOf", spec := "fnExactKeysOf", inPlace := ["internal/abi.NoEscape", "internal/bytealg.MakeNoZero", "math.sqrt", "math.Float64bits", "math.Float64frombits"], unfollowed := true, recurses := true, apart := false }
def FnExactKeysOfSaid : Prop := fnExactKeysOfRow.holds Try.pinned (OpenSpec.ofChange fnExactKeysOfSpec)

/-- ITS FALSE NEIGHBOUR: 'it returns false'. Refute it at one input. -/
def fnExactKeysOfWrong : ChangeSpec := { name := "fnExactKeysOf", fn := fun _ => fun
  | [d] => { results := [.lit (.bool false)], args := [d] }
  | _ => none }
def FnExactKeysOfWrongFalsely : Prop := fnExactKeysOfRow.holds Try.pinned (OpenSpec.ofChange fnExactKeysOfWrong)

/- THE SECOND FORM. 'bulk': how many values and letters a reading holds, each counted each time it is reached (what is shared counts as often as it is met; a slice's spare places count too). A statement '..UptoSaid' is the law's where the arguments, and the package variables that the reading takes, are together of bulk at most 1048576: NARROWER than '..Said'. Prove '..Said' where nothing that the law and all that it calls make is longer than what came in: it says more and counts as full. Else prove '..UptoSaid'. A law counts once. -/
mutual
def uptoBulk {H : Type} : DataW H → Nat
  | .lit (.string bytes) => bytes.length + 1
  | .lit _ => 1
  | .nil => 1
  | .ptr d => uptoBulk d + 1
  | .slice elems spare => uptoBulkAll elems + uptoBulkAll spare + 1
  | .agg parts => uptoBulkAll parts + 1
  | .iface _ d => uptoBulk d + 1
  | .map entries => uptoBulkEntries entries + 1
  | .held _ => 1
def uptoBulkAll {H : Type} : List (DataW H) → Nat
  | [] => 0
  | d :: r => uptoBulk d + uptoBulkAll r
def uptoBulkEntries {H : Type} : List (Lit × DataW H) → Nat
  | [] => 0
  | x :: r => uptoBulkEntry x + uptoBulkEntries r
def uptoBulkEntry {H : Type} : Lit × DataW H → Nat
  | (.string bytes, d) => bytes.length + uptoBulk d + 1
  | (_, d) => uptoBulk d + 1
 end
def uptoSmall : (H : Type) → List (DataW H) → Bool := fun _ ds => decide (uptoBulkAll ds ≤ 1048576)
def OpenSpec.upto (s : _root_.Go.ChangeSpec) : _root_.Go.OpenSpec := { _root_.Go.OpenSpec.ofChange s with cond := some uptoSmall }

/-- 'laws.FnExactRoundWords', WHERE WHAT IT READS IS OF BULK AT MOST 1048576: true; the input reads as it did. -/
def fnExactRoundWordsUptoRow : OpenClaim := { program := "ytnkakkfjfjeaeaa", sum := "0889bf008feef46b85fd694fd9650d483c125b7b94a5dc197406b60b104d6f16", func := "loop.example/g00206/laws.FnExactRoundWords", spec := "fnExactRoundWords", inPlace := ["math.Float64bits", "math.Float64frombits"], unfollowed := true, recurses := true, apart := false, narrowed := true }
def FnExactRoundWordsUptoSaid : Prop := fnExactRoundWordsUptoRow.holds Try.pinned (OpenSpec.upto fnExactRoundWordsSpec)

/-- 'laws.FnExactHashFrom', WHERE WHAT IT READS IS OF BULK AT MOST 1048576: true; the input reads as it did. -/
def fnExactHashFromUptoRow : OpenClaim := { program := "ytnkakkfjfjeaeaa", sum := "0889bf008feef46b85fd694fd9650d483c125b7b94a5dc197406b60b104d6f16", func := "loop.example/g00206/laws.FnExactHashFrom", spec := "fnExactHashFrom", inPlace := ["math.Float64bits", "math.Float64frombits"], unfollowed := true, recurses := true, apart := false, narrowed := true }
def FnExactHashFromUptoSaid : Prop := fnExactHashFromUptoRow.holds Try.pinned (OpenSpec.upto fnExactHashFromSpec)

/-- 'laws.FnExactSha256', WHERE WHAT IT READS IS OF BULK AT MOST 1048576: true; the input reads as it did. -/
def fnExactSha256UptoRow : OpenClaim := { program := "ytnkakkfjfjeaeaa", sum := "0889bf008feef46b85fd694fd9650d483c125b7b94a5dc197406b60b104d6f16", func := "loop.example/g00206/laws.FnExactSha256", spec := "fnExactSha256", inPlace := ["internal/abi.NoEscape", "internal/bytealg.MakeNoZero", "math.sqrt", "math.Float64bits", "math.Float64frombits"], unfollowed := true, recurses := true, apart := false, narrowed := true }
def FnExactSha256UptoSaid : Prop := fnExactSha256UptoRow.holds Try.pinned (OpenSpec.upto fnExactSha256Spec)

/-- 'laws.FnExactHmacSha', WHERE WHAT IT READS IS OF BULK AT MOST 1048576: true; the input reads as it did. -/
def fnExactHmacShaUptoRow : OpenClaim := { program := "ytnkakkfjfjeaeaa", sum := "0889bf008feef46b85fd694fd9650d483c125b7b94a5dc197406b60b104d6f16", func := "loop.example/g00206/laws.FnExactHmacSha", spec := "fnExactHmacSha", inPlace := ["internal/abi.NoEscape", "internal/bytealg.MakeNoZero", "math.sqrt", "math.Float64bits", "math.Float64frombits"], unfollowed := true, recurses := true, apart := false, narrowed := true }
def FnExactHmacShaUptoSaid : Prop := fnExactHmacShaUptoRow.holds Try.pinned (OpenSpec.upto fnExactHmacShaSpec)

/-- 'laws.FnExactHkdfExtract', WHERE WHAT IT READS IS OF BULK AT MOST 1048576: true; the input reads as it did. -/
def fnExactHkdfExtractUptoRow : OpenClaim := { program := "ytnkakkfjfjeaeaa", sum := "0889bf008feef46b85fd694fd9650d483c125b7b94a5dc197406b60b104d6f16", func := "loop.example/g00206/laws.FnExactHkdfExtract", spec := "fnExactHkdfExtract", inPlace := ["internal/abi.NoEscape", "internal/bytealg.MakeNoZero", "math.sqrt", "math.Float64bits", "math.Float64frombits"], unfollowed := true, recurses := true, apart := false, narrowed := true }
def FnExactHkdfExtractUptoSaid : Prop := fnExactHkdfExtractUptoRow.holds Try.pinned (OpenSpec.upto fnExactHkdfExtractSpec)

/-- 'laws.FnExactHkdfExpand', WHERE WHAT IT READS IS OF BULK AT MOST 1048576: true; the input reads as it did. -/
def fnExactHkdfExpandUptoRow : OpenClaim := { program := "ytnkakkfjfjeaeaa", sum := "0889bf008feef46b85fd694fd9650d483c125b7b94a5dc197406b60b104d6f16", func := "loop.example/g00206/laws.FnExactHkdfExpand", spec := "fnExactHkdfExpand", inPlace := ["internal/abi.NoEscape", "internal/bytealg.MakeNoZero", "math.sqrt", "math.Float64bits", "math.Float64frombits"], unfollowed := true, recurses := true, apart := false, narrowed := true }
def FnExactHkdfExpandUptoSaid : Prop := fnExactHkdfExpandUptoRow.holds Try.pinned (OpenSpec.upto fnExactHkdfExpandSpec)

/-- 'laws.FnExactExpandLabel', WHERE WHAT IT READS IS OF BULK AT MOST 1048576: true; the input reads as it did. -/
def fnExactExpandLabelUptoRow : OpenClaim := { program := "ytnkakkfjfjeaeaa", sum := "0889bf008feef46b85fd694fd9650d483c125b7b94a5dc197406b60b104d6f16", func := "loop.example/g00206/laws.FnExactExpandLabel", spec := "fnExactExpandLabel", inPlace := ["internal/abi.NoEscape", "internal/bytealg.MakeNoZero", "math.sqrt", "math.Float64bits", "math.Float64frombits"], unfollowed := true, recurses := true, apart := false, narrowed := true }
def FnExactExpandLabelUptoSaid : Prop := fnExactExpandLabelUptoRow.holds Try.pinned (OpenSpec.upto fnExactExpandLabelSpec)

/-- 'laws.FnExactNextSecret', WHERE WHAT IT READS IS OF BULK AT MOST 1048576: true; the input reads as it did. -/
def fnExactNextSecretUptoRow : OpenClaim := { program := "ytnkakkfjfjeaeaa", sum := "0889bf008feef46b85fd694fd9650d483c125b7b94a5dc197406b60b104d6f16", func := "loop.example/g00206/laws.FnExactNextSecret", spec := "fnExactNextSecret", inPlace := ["internal/abi.NoEscape", "internal/bytealg.MakeNoZero", "math.sqrt", "math.Float64bits", "math.Float64frombits"], unfollowed := true, recurses := true, apart := false, narrowed := true }
def FnExactNextSecretUptoSaid : Prop := fnExactNextSecretUptoRow.holds Try.pinned (OpenSpec.upto fnExactNextSecretSpec)

/-- 'laws.FnExactKeysOf', WHERE WHAT IT READS IS OF BULK AT MOST 1048576: true; the input reads as it did. -/
def fnExactKeysOfUptoRow : OpenClaim := { program := "ytnkakkfjfjeaeaa", sum := "0889bf008feef46b85fd694fd9650d483c125b7b94a5dc197406b60b104d6f16", func := "loop.example/g00206/laws.FnExactKeysOf", spec := "fnExactKeysOf", inPlace := ["internal/abi.NoEscape", "internal/bytealg.MakeNoZero", "math.sqrt", "math.Float64bits", "math.Float64frombits"], unfollowed := true, recurses := true, apart := false, narrowed := true }
def FnExactKeysOfUptoSaid : Prop := fnExactKeysOfUptoRow.holds Try.pinned (OpenSpec.upto fnExactKeysOfSpec)

end Rows
end Go.Proofs.Ytnkakkfjfjeaeaa
