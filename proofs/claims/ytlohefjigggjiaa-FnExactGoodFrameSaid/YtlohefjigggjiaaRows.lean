/-
  No cell of these rows narrows 'for every input' (looked for: loops, veiled, ifaces, maps, wideKeys, modest, calm, conditions, laid).
  DERIVED. THE GIVEN ROWS OF THIS SEAT. 10 by the template 'for every input the law returns true; each argument reads behind the call as it read before'; 0 by the template 'total and deterministic' (their statements: YtlohefjigggjiaaTotals.lean).
  GIVEN WITH THE SEED: the statements are not yours to turn. If you find one false, say at which input.
  Laid BY PROGRAM, IN A SANDBOX (cutbox-rows.mjs): the forced cells as the released guide's own fill.sh prints them over the translation 9c919739733d745b… (all of the seat's roots in one cut). By AI agents, Wed Nov 11 2026. No macro, syntax, notation, axiom, sorry.
-/
import Derived.Test.YtlohefjigggjiaaChecked
import GoSem.Claim
import GoSem.ClaimJoined
import GoSem.ClaimMapViews
import Derived.JoinedTies
import Derived.KernelRfl
namespace Go.Proofs.Ytlohefjigggjiaa
/- THE CELL 'sum', in the pinned program and in every row, IS THE sha256 OF THE DUMP (.gsa) THAT YtlohefjigggjiaaProg.lean LOADS. Nothing in Lean hashes anything: it is a label: what it is worth is what the hold of that sum in a sandbox is worth. -/
noncomputable def Try.pinned : Pinned := { name := "ytlohefjigggjiaa", sum := "9c919739733d745b886abbf3520cb2f5b39fbca925ebbbe195f18051e76c2fd2", checked := Try.checked }
namespace Rows
def none {H : Type} : Left H := { results := [], args := [] }

/-- 'laws.FnExactKindOf': WHATEVER THE INPUT: true; the input reads as it did. -/
def fnExactKindOfSpec : ChangeSpec := { name := "fnExactKindOf", fn := fun _ => fun
  | [d] => { results := [.lit (.bool true)], args := [d] }
  | _ => none }
def fnExactKindOfRow : OpenClaim := { program := "ytlohefjigggjiaa", sum := "9c919739733d745b886abbf3520cb2f5b39fbca925ebbbe195f18051e76c2fd2", func := "loop.example/g00206/laws.FnExactKindOf", spec := "fnExactKindOf", apart := false }
def FnExactKindOfSaid : Prop := fnExactKindOfRow.holds Try.pinned (OpenSpec.ofChange fnExactKindOfSpec)

/-- ITS FALSE NEIGHBOUR: 'it returns false'. Refute it at one input. -/
def fnExactKindOfWrong : ChangeSpec := { name := "fnExactKindOf", fn := fun _ => fun
  | [d] => { results := [.lit (.bool false)], args := [d] }
  | _ => none }
def FnExactKindOfWrongFalsely : Prop := fnExactKindOfRow.holds Try.pinned (OpenSpec.ofChange fnExactKindOfWrong)

/-- 'laws.FnExactSubByte': WHATEVER THE INPUT: true; the input reads as it did. -/
def fnExactSubByteSpec : ChangeSpec := { name := "fnExactSubByte", fn := fun _ => fun
  | [d] => { results := [.lit (.bool true)], args := [d] }
  | _ => none }
def fnExactSubByteRow : OpenClaim := { program := "ytlohefjigggjiaa", sum := "9c919739733d745b886abbf3520cb2f5b39fbca925ebbbe195f18051e76c2fd2", func := "loop.example/g00206/laws.FnExactSubByte", spec := "fnExactSubByte", apart := false }
def FnExactSubByteSaid : Prop := fnExactSubByteRow.holds Try.pinned (OpenSpec.ofChange fnExactSubByteSpec)

/-- ITS FALSE NEIGHBOUR: 'it returns false'. Refute it at one input. -/
def fnExactSubByteWrong : ChangeSpec := { name := "fnExactSubByte", fn := fun _ => fun
  | [d] => { results := [.lit (.bool false)], args := [d] }
  | _ => none }
def FnExactSubByteWrongFalsely : Prop := fnExactSubByteRow.holds Try.pinned (OpenSpec.ofChange fnExactSubByteWrong)

/-- 'laws.FnExactVarintBytes': WHATEVER THE INPUT: true; the input reads as it did. -/
def fnExactVarintBytesSpec : ChangeSpec := { name := "fnExactVarintBytes", fn := fun _ => fun
  | [d] => { results := [.lit (.bool true)], args := [d] }
  | _ => none }
def fnExactVarintBytesRow : OpenClaim := { program := "ytlohefjigggjiaa", sum := "9c919739733d745b886abbf3520cb2f5b39fbca925ebbbe195f18051e76c2fd2", func := "loop.example/g00206/laws.FnExactVarintBytes", spec := "fnExactVarintBytes", apart := false }
def FnExactVarintBytesSaid : Prop := fnExactVarintBytesRow.holds Try.pinned (OpenSpec.ofChange fnExactVarintBytesSpec)

/-- ITS FALSE NEIGHBOUR: 'it returns false'. Refute it at one input. -/
def fnExactVarintBytesWrong : ChangeSpec := { name := "fnExactVarintBytes", fn := fun _ => fun
  | [d] => { results := [.lit (.bool false)], args := [d] }
  | _ => none }
def FnExactVarintBytesWrongFalsely : Prop := fnExactVarintBytesRow.holds Try.pinned (OpenSpec.ofChange fnExactVarintBytesWrong)

/-- 'laws.FnExactDestOf': WHATEVER THE INPUT: true; the input reads as it did. -/
def fnExactDestOfSpec : ChangeSpec := { name := "fnExactDestOf", fn := fun _ => fun
  | [d1, d2] => { results := [.lit (.bool true)], args := [d1, d2] }
  | _ => none }
def fnExactDestOfRow : OpenClaim := { program := "ytlohefjigggjiaa", sum := "9c919739733d745b886abbf3520cb2f5b39fbca925ebbbe195f18051e76c2fd2", func := "loop.example/g00206/laws.FnExactDestOf", spec := "fnExactDestOf", apart := false }
def FnExactDestOfSaid : Prop := fnExactDestOfRow.holds Try.pinned (OpenSpec.ofChange fnExactDestOfSpec)

/-- ITS FALSE NEIGHBOUR: 'it returns false'. Refute it at one input. -/
def fnExactDestOfWrong : ChangeSpec := { name := "fnExactDestOf", fn := fun _ => fun
  | [d1, d2] => { results := [.lit (.bool false)], args := [d1, d2] }
  | _ => none }
def FnExactDestOfWrongFalsely : Prop := fnExactDestOfRow.holds Try.pinned (OpenSpec.ofChange fnExactDestOfWrong)

/-- 'laws.FnExactMulBlock': WHATEVER THE INPUT: true; the input reads as it did. -/
def fnExactMulBlockSpec : ChangeSpec := { name := "fnExactMulBlock", fn := fun _ => fun
  | [d1, d2] => { results := [.lit (.bool true)], args := [d1, d2] }
  | _ => none }
def fnExactMulBlockRow : OpenClaim := { program := "ytlohefjigggjiaa", sum := "9c919739733d745b886abbf3520cb2f5b39fbca925ebbbe195f18051e76c2fd2", func := "loop.example/g00206/laws.FnExactMulBlock", spec := "fnExactMulBlock", apart := false }
def FnExactMulBlockSaid : Prop := fnExactMulBlockRow.holds Try.pinned (OpenSpec.ofChange fnExactMulBlockSpec)

/-- ITS FALSE NEIGHBOUR: 'it returns false'. Refute it at one input. -/
def fnExactMulBlockWrong : ChangeSpec := { name := "fnExactMulBlock", fn := fun _ => fun
  | [d1, d2] => { results := [.lit (.bool false)], args := [d1, d2] }
  | _ => none }
def FnExactMulBlockWrongFalsely : Prop := fnExactMulBlockRow.holds Try.pinned (OpenSpec.ofChange fnExactMulBlockWrong)

/-- 'laws.FnExactGhash': WHATEVER THE INPUT: true; the input reads as it did. -/
def fnExactGhashSpec : ChangeSpec := { name := "fnExactGhash", fn := fun _ => fun
  | [d1, d2] => { results := [.lit (.bool true)], args := [d1, d2] }
  | _ => none }
def fnExactGhashRow : OpenClaim := { program := "ytlohefjigggjiaa", sum := "9c919739733d745b886abbf3520cb2f5b39fbca925ebbbe195f18051e76c2fd2", func := "loop.example/g00206/laws.FnExactGhash", spec := "fnExactGhash", apart := false }
def FnExactGhashSaid : Prop := fnExactGhashRow.holds Try.pinned (OpenSpec.ofChange fnExactGhashSpec)

/-- ITS FALSE NEIGHBOUR: 'it returns false'. Refute it at one input. -/
def fnExactGhashWrong : ChangeSpec := { name := "fnExactGhash", fn := fun _ => fun
  | [d1, d2] => { results := [.lit (.bool false)], args := [d1, d2] }
  | _ => none }
def FnExactGhashWrongFalsely : Prop := fnExactGhashRow.holds Try.pinned (OpenSpec.ofChange fnExactGhashWrong)

/-- 'laws.FnExactGoodHeader': WHATEVER THE INPUT: true; the input reads as it did. -/
def fnExactGoodHeaderSpec : ChangeSpec := { name := "fnExactGoodHeader", fn := fun _ => fun
  | [d] => { results := [.lit (.bool true)], args := [d] }
  | _ => none }
def fnExactGoodHeaderRow : OpenClaim := { program := "ytlohefjigggjiaa", sum := "9c919739733d745b886abbf3520cb2f5b39fbca925ebbbe195f18051e76c2fd2", func := "loop.example/g00206/laws.FnExactGoodHeader", spec := "fnExactGoodHeader", unfollowed := true, recurses := true, apart := false }
def FnExactGoodHeaderSaid : Prop := fnExactGoodHeaderRow.holds Try.pinned (OpenSpec.ofChange fnExactGoodHeaderSpec)

/-- ITS FALSE NEIGHBOUR: 'it returns false'. Refute it at one input. -/
def fnExactGoodHeaderWrong : ChangeSpec := { name := "fnExactGoodHeader", fn := fun _ => fun
  | [d] => { results := [.lit (.bool false)], args := [d] }
  | _ => none }
def FnExactGoodHeaderWrongFalsely : Prop := fnExactGoodHeaderRow.holds Try.pinned (OpenSpec.ofChange fnExactGoodHeaderWrong)

/-- 'laws.FnExactGoodFrame': WHATEVER THE INPUT: true; the input reads as it did. -/
def fnExactGoodFrameSpec : ChangeSpec := { name := "fnExactGoodFrame", fn := fun _ => fun
  | [d] => { results := [.lit (.bool true)], args := [d] }
  | _ => none }
def fnExactGoodFrameRow : OpenClaim := { program := "ytlohefjigggjiaa", sum := "9c919739733d745b886abbf3520cb2f5b39fbca925ebbbe195f18051e76c2fd2", func := "loop.example/g00206/laws.FnExactGoodFrame", spec := "fnExactGoodFrame", apart := false }
def FnExactGoodFrameSaid : Prop := fnExactGoodFrameRow.holds Try.pinned (OpenSpec.ofChange fnExactGoodFrameSpec)

/-- ITS FALSE NEIGHBOUR: 'it returns false'. Refute it at one input. -/
def fnExactGoodFrameWrong : ChangeSpec := { name := "fnExactGoodFrame", fn := fun _ => fun
  | [d] => { results := [.lit (.bool false)], args := [d] }
  | _ => none }
def FnExactGoodFrameWrongFalsely : Prop := fnExactGoodFrameRow.holds Try.pinned (OpenSpec.ofChange fnExactGoodFrameWrong)

/-- 'laws.FnExactVersionAnswer': WHATEVER THE INPUT: true; the input reads as it did. -/
def fnExactVersionAnswerSpec : ChangeSpec := { name := "fnExactVersionAnswer", fn := fun _ => fun
  | [d1, d2] => { results := [.lit (.bool true)], args := [d1, d2] }
  | _ => none }
def fnExactVersionAnswerRow : OpenClaim := { program := "ytlohefjigggjiaa", sum := "9c919739733d745b886abbf3520cb2f5b39fbca925ebbbe195f18051e76c2fd2", func := "loop.example/g00206/laws.FnExactVersionAnswer", spec := "fnExactVersionAnswer", unfollowed := true, recurses := true, apart := false }
def FnExactVersionAnswerSaid : Prop := fnExactVersionAnswerRow.holds Try.pinned (OpenSpec.ofChange fnExactVersionAnswerSpec)

/-- ITS FALSE NEIGHBOUR: 'it returns false'. Refute it at one input. -/
def fnExactVersionAnswerWrong : ChangeSpec := { name := "fnExactVersionAnswer", fn := fun _ => fun
  | [d1, d2] => { results := [.lit (.bool false)], args := [d1, d2] }
  | _ => none }
def FnExactVersionAnswerWrongFalsely : Prop := fnExactVersionAnswerRow.holds Try.pinned (OpenSpec.ofChange fnExactVersionAnswerWrong)

/-- 'laws.FnExactHalfBlock': WHATEVER THE INPUT: true; the input reads as it did. -/
def fnExactHalfBlockSpec : ChangeSpec := { name := "fnExactHalfBlock", fn := fun _ => fun
  | [d1, d2, d3] => { results := [.lit (.bool true)], args := [d1, d2, d3] }
  | _ => none }
def fnExactHalfBlockRow : OpenClaim := { program := "ytlohefjigggjiaa", sum := "9c919739733d745b886abbf3520cb2f5b39fbca925ebbbe195f18051e76c2fd2", func := "loop.example/g00206/laws.FnExactHalfBlock", spec := "fnExactHalfBlock", inPlace := ["internal/abi.NoEscape", "internal/bytealg.MakeNoZero"], apart := false }
def FnExactHalfBlockSaid : Prop := fnExactHalfBlockRow.holds Try.pinned (OpenSpec.ofChange fnExactHalfBlockSpec)

/-- ITS FALSE NEIGHBOUR: 'it returns false'. Refute it at one input. -/
def fnExactHalfBlockWrong : ChangeSpec := { name := "fnExactHalfBlock", fn := fun _ => fun
  | [d1, d2, d3] => { results := [.lit (.bool false)], args := [d1, d2, d3] }
  | _ => none }
def FnExactHalfBlockWrongFalsely : Prop := fnExactHalfBlockRow.holds Try.pinned (OpenSpec.ofChange fnExactHalfBlockWrong)

/- THE SECOND FORM. 'bulk': how many values and letters a reading holds, each counted each time it is reached (what is shared counts as often as it is met; a slice's spare places count too). A statement '..UptoSaid' is the law's where the arguments, and the package variables that the reading takes, are together of bulk at most 1048576: NARROWER than '..Said'. Prove '..Said' where nothing that the law and all that it calls make is longer than what came in: it says more and counts as full. Else prove '..UptoSaid'. A law counts once. -/
mutual
def uptoBulk {H : Type} : DataW H → Nat
  | .lit (.string bytes) => bytes.length + 1
  | .lit _ => 1
  | .nil => 1
  | .ptr d => uptoBulk d + 1
  | .slice elems spare => uptoBulkAll elems + uptoBulkAll spare + 1
  | .agg parts => uptoBulkAll parts + 1
  | .iface _ d => uptoBulk d + 1
  | .map entries => uptoBulkEntries entries + 1
  | .held _ => 1
def uptoBulkAll {H : Type} : List (DataW H) → Nat
  | [] => 0
  | d :: r => uptoBulk d + uptoBulkAll r
def uptoBulkEntries {H : Type} : List (Lit × DataW H) → Nat
  | [] => 0
  | x :: r => uptoBulkEntry x + uptoBulkEntries r
def uptoBulkEntry {H : Type} : Lit × DataW H → Nat
  | (.string bytes, d) => bytes.length + uptoBulk d + 1
  | (_, d) => uptoBulk d + 1
 end
def uptoSmall : (H : Type) → List (DataW H) → Bool := fun _ ds => decide (uptoBulkAll ds ≤ 1048576)
def OpenSpec.upto (s : _root_.Go.ChangeSpec) : _root_.Go.OpenSpec := { _root_.Go.OpenSpec.ofChange s with cond := some uptoSmall }

/-- 'laws.FnExactKindOf', WHERE WHAT IT READS IS OF BULK AT MOST 1048576: true; the input reads as it did. -/
def fnExactKindOfUptoRow : OpenClaim := { program := "ytlohefjigggjiaa", sum := "9c919739733d745b886abbf3520cb2f5b39fbca925ebbbe195f18051e76c2fd2", func := "loop.example/g00206/laws.FnExactKindOf", spec := "fnExactKindOf", apart := false, narrowed := true }
def FnExactKindOfUptoSaid : Prop := fnExactKindOfUptoRow.holds Try.pinned (OpenSpec.upto fnExactKindOfSpec)

/-- 'laws.FnExactSubByte', WHERE WHAT IT READS IS OF BULK AT MOST 1048576: true; the input reads as it did. -/
def fnExactSubByteUptoRow : OpenClaim := { program := "ytlohefjigggjiaa", sum := "9c919739733d745b886abbf3520cb2f5b39fbca925ebbbe195f18051e76c2fd2", func := "loop.example/g00206/laws.FnExactSubByte", spec := "fnExactSubByte", apart := false, narrowed := true }
def FnExactSubByteUptoSaid : Prop := fnExactSubByteUptoRow.holds Try.pinned (OpenSpec.upto fnExactSubByteSpec)

/-- 'laws.FnExactVarintBytes', WHERE WHAT IT READS IS OF BULK AT MOST 1048576: true; the input reads as it did. -/
def fnExactVarintBytesUptoRow : OpenClaim := { program := "ytlohefjigggjiaa", sum := "9c919739733d745b886abbf3520cb2f5b39fbca925ebbbe195f18051e76c2fd2", func := "loop.example/g00206/laws.FnExactVarintBytes", spec := "fnExactVarintBytes", apart := false, narrowed := true }
def FnExactVarintBytesUptoSaid : Prop := fnExactVarintBytesUptoRow.holds Try.pinned (OpenSpec.upto fnExactVarintBytesSpec)

/-- 'laws.FnExactDestOf', WHERE WHAT IT READS IS OF BULK AT MOST 1048576: true; the input reads as it did. -/
def fnExactDestOfUptoRow : OpenClaim := { program := "ytlohefjigggjiaa", sum := "9c919739733d745b886abbf3520cb2f5b39fbca925ebbbe195f18051e76c2fd2", func := "loop.example/g00206/laws.FnExactDestOf", spec := "fnExactDestOf", apart := false, narrowed := true }
def FnExactDestOfUptoSaid : Prop := fnExactDestOfUptoRow.holds Try.pinned (OpenSpec.upto fnExactDestOfSpec)

/-- 'laws.FnExactMulBlock', WHERE WHAT IT READS IS OF BULK AT MOST 1048576: true; the input reads as it did. -/
def fnExactMulBlockUptoRow : OpenClaim := { program := "ytlohefjigggjiaa", sum := "9c919739733d745b886abbf3520cb2f5b39fbca925ebbbe195f18051e76c2fd2", func := "loop.example/g00206/laws.FnExactMulBlock", spec := "fnExactMulBlock", apart := false, narrowed := true }
def FnExactMulBlockUptoSaid : Prop := fnExactMulBlockUptoRow.holds Try.pinned (OpenSpec.upto fnExactMulBlockSpec)

/-- 'laws.FnExactGhash', WHERE WHAT IT READS IS OF BULK AT MOST 1048576: true; the input reads as it did. -/
def fnExactGhashUptoRow : OpenClaim := { program := "ytlohefjigggjiaa", sum := "9c919739733d745b886abbf3520cb2f5b39fbca925ebbbe195f18051e76c2fd2", func := "loop.example/g00206/laws.FnExactGhash", spec := "fnExactGhash", apart := false, narrowed := true }
def FnExactGhashUptoSaid : Prop := fnExactGhashUptoRow.holds Try.pinned (OpenSpec.upto fnExactGhashSpec)

/-- 'laws.FnExactGoodHeader', WHERE WHAT IT READS IS OF BULK AT MOST 1048576: true; the input reads as it did. -/
def fnExactGoodHeaderUptoRow : OpenClaim := { program := "ytlohefjigggjiaa", sum := "9c919739733d745b886abbf3520cb2f5b39fbca925ebbbe195f18051e76c2fd2", func := "loop.example/g00206/laws.FnExactGoodHeader", spec := "fnExactGoodHeader", unfollowed := true, recurses := true, apart := false, narrowed := true }
def FnExactGoodHeaderUptoSaid : Prop := fnExactGoodHeaderUptoRow.holds Try.pinned (OpenSpec.upto fnExactGoodHeaderSpec)

/-- 'laws.FnExactGoodFrame', WHERE WHAT IT READS IS OF BULK AT MOST 1048576: true; the input reads as it did. -/
def fnExactGoodFrameUptoRow : OpenClaim := { program := "ytlohefjigggjiaa", sum := "9c919739733d745b886abbf3520cb2f5b39fbca925ebbbe195f18051e76c2fd2", func := "loop.example/g00206/laws.FnExactGoodFrame", spec := "fnExactGoodFrame", apart := false, narrowed := true }
def FnExactGoodFrameUptoSaid : Prop := fnExactGoodFrameUptoRow.holds Try.pinned (OpenSpec.upto fnExactGoodFrameSpec)

/-- 'laws.FnExactVersionAnswer', WHERE WHAT IT READS IS OF BULK AT MOST 1048576: true; the input reads as it did. -/
def fnExactVersionAnswerUptoRow : OpenClaim := { program := "ytlohefjigggjiaa", sum := "9c919739733d745b886abbf3520cb2f5b39fbca925ebbbe195f18051e76c2fd2", func := "loop.example/g00206/laws.FnExactVersionAnswer", spec := "fnExactVersionAnswer", unfollowed := true, recurses := true, apart := false, narrowed := true }
def FnExactVersionAnswerUptoSaid : Prop := fnExactVersionAnswerUptoRow.holds Try.pinned (OpenSpec.upto fnExactVersionAnswerSpec)

/-- 'laws.FnExactHalfBlock', WHERE WHAT IT READS IS OF BULK AT MOST 1048576: true; the input reads as it did. -/
def fnExactHalfBlockUptoRow : OpenClaim := { program := "ytlohefjigggjiaa", sum := "9c919739733d745b886abbf3520cb2f5b39fbca925ebbbe195f18051e76c2fd2", func := "loop.example/g00206/laws.FnExactHalfBlock", spec := "fnExactHalfBlock", inPlace := ["internal/abi.NoEscape", "internal/bytealg.MakeNoZero"], apart := false, narrowed := true }
def FnExactHalfBlockUptoSaid : Prop := fnExactHalfBlockUptoRow.holds Try.pinned (OpenSpec.upto fnExactHalfBlockSpec)

end Rows
end Go.Proofs.Ytlohefjigggjiaa
