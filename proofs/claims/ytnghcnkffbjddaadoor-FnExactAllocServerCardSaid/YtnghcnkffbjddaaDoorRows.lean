/-
  NARROWER THAN 'FOR EVERY INPUT', by the rows' own cells (each row's printed sentence says how): FnExactGoodBackend: laid · FnExactGoodLive: laid · FnExactDropBackend: laid · FnExactAddBackend: laid · FnExactGoodTable: laid · FnExactInstallConfig: laid · FnExactRemoveConfig: laid · FnExactAllocServer: laid · FnExactScoreOf: laid · FnExactPickBackend: laid · FnExactRankBackends: laid.
  DERIVED. THE GIVEN ROWS OF THIS SEAT. 11 by the template 'for every input the law returns true; each argument reads behind the call as it read before'; 0 by the template 'total and deterministic' (their statements: YtnghcnkffbjddaaDoorTotals.lean).
  GIVEN WITH THE SEED: the statements are not yours to turn. If you find one false, say at which input.
  Laid BY PROGRAM, IN A SANDBOX (cutbox-rows.mjs): the forced cells as the released guide's own fill.sh prints them over the translation b98d06fe39789652… (all of the seat's roots in one cut). By AI agents, Wed Nov 11 2026. No macro, syntax, notation, axiom, sorry.
-/
import Derived.Test.YtnghcnkffbjddaaDoorChecked
import GoSem.PinnedTables
import GoSem.Claim
import GoSem.ClaimJoined
import GoSem.ClaimMapViews
import Derived.JoinedTies
import Derived.KernelRfl
namespace Go.Proofs.YtnghcnkffbjddaaDoor
/- THE CELL 'sum', in the pinned program and in every row, IS THE sha256 OF THE DUMP (.gsa) THAT YtnghcnkffbjddaaDoorProg.lean LOADS. Nothing in Lean hashes anything: it is a label: what it is worth is what the hold of that sum in a sandbox is worth. -/
noncomputable def Tryd.pinned : Pinned := { name := "ytnghcnkffbjddaadoor", sum := "b98d06fe39789652be32a774b7c003f638259491445555829ca7b94c765df363", checked := Tryd.checked }
namespace Rows
def none {H : Type} : Left H := { results := [], args := [] }

/- WHAT THE LISTED PACKAGE-LEVEL VARIABLES READ AS WHEN THE CALL BEGINS. Each datum BY PROGRAM (the guide's laid-datum.mjs) off the statement by which the dump's own 'gosem.cut.vars' lays the variable. In a bare row this is a premise. The card (YtnghcnkffbjddaaDoorCards.lean) ties it to the program's text. -/
def laid_unicode_utf8_acceptRanges {H : Type} : DataW H := .agg [.agg [.lit (.int .u8 128), .lit (.int .u8 191)], .agg [.lit (.int .u8 160), .lit (.int .u8 191)], .agg [.lit (.int .u8 128), .lit (.int .u8 159)], .agg [.lit (.int .u8 144), .lit (.int .u8 191)], .agg [.lit (.int .u8 128), .lit (.int .u8 143)], .agg [.lit (.int .u8 0), .lit (.int .u8 0)], .agg [.lit (.int .u8 0), .lit (.int .u8 0)], .agg [.lit (.int .u8 0), .lit (.int .u8 0)], .agg [.lit (.int .u8 0), .lit (.int .u8 0)], .agg [.lit (.int .u8 0), .lit (.int .u8 0)], .agg [.lit (.int .u8 0), .lit (.int .u8 0)], .agg [.lit (.int .u8 0), .lit (.int .u8 0)], .agg [.lit (.int .u8 0), .lit (.int .u8 0)], .agg [.lit (.int .u8 0), .lit (.int .u8 0)], .agg [.lit (.int .u8 0), .lit (.int .u8 0)], .agg [.lit (.int .u8 0), .lit (.int .u8 0)]]
/-- One of Go's own tables, pinned by name: the form's constant. -/
def laid_unicode_utf8_first : DataW Unit := Go.Pinned.utf8First

/-- 'laws.FnExactGoodBackend': WHATEVER THE INPUT: true; the input reads as it did. -/
def fnExactGoodBackendSpec : ChangeSpec := { name := "fnExactGoodBackend", fn := fun _ => fun
  | [d] => { results := [.lit (.bool true)], args := [d] }
  | _ => none }
def fnExactGoodBackendRow : OpenClaim := { program := "ytnghcnkffbjddaadoor", sum := "b98d06fe39789652be32a774b7c003f638259491445555829ca7b94c765df363", func := "loop.example/g00206/laws.FnExactGoodBackend", spec := "fnExactGoodBackend", inPlace := ["internal/bytealg.IndexByteString", "internal/bytealg.IndexString"], named := ["unicode/utf8.first", "unicode/utf8.acceptRanges", "internal/bytealg.MaxLen"], apart := false, laid := [("unicode/utf8.acceptRanges", laid_unicode_utf8_acceptRanges), ("unicode/utf8.first", laid_unicode_utf8_first)] }
def FnExactGoodBackendSaid : Prop := fnExactGoodBackendRow.holds Tryd.pinned (OpenSpec.ofChange fnExactGoodBackendSpec)

/-- ITS FALSE NEIGHBOUR: 'it returns false'. Refute it at one input. -/
def fnExactGoodBackendWrong : ChangeSpec := { name := "fnExactGoodBackend", fn := fun _ => fun
  | [d] => { results := [.lit (.bool false)], args := [d] }
  | _ => none }
def FnExactGoodBackendWrongFalsely : Prop := fnExactGoodBackendRow.holds Tryd.pinned (OpenSpec.ofChange fnExactGoodBackendWrong)

/-- 'laws.FnExactGoodLive': WHATEVER THE INPUT: true; the input reads as it did. -/
def fnExactGoodLiveSpec : ChangeSpec := { name := "fnExactGoodLive", fn := fun _ => fun
  | [d] => { results := [.lit (.bool true)], args := [d] }
  | _ => none }
def fnExactGoodLiveRow : OpenClaim := { program := "ytnghcnkffbjddaadoor", sum := "b98d06fe39789652be32a774b7c003f638259491445555829ca7b94c765df363", func := "loop.example/g00206/laws.FnExactGoodLive", spec := "fnExactGoodLive", inPlace := ["internal/bytealg.IndexByteString", "internal/bytealg.IndexString"], named := ["unicode/utf8.first", "unicode/utf8.acceptRanges", "internal/bytealg.MaxLen"], apart := false, laid := [("unicode/utf8.acceptRanges", laid_unicode_utf8_acceptRanges), ("unicode/utf8.first", laid_unicode_utf8_first)] }
def FnExactGoodLiveSaid : Prop := fnExactGoodLiveRow.holds Tryd.pinned (OpenSpec.ofChange fnExactGoodLiveSpec)

/-- ITS FALSE NEIGHBOUR: 'it returns false'. Refute it at one input. -/
def fnExactGoodLiveWrong : ChangeSpec := { name := "fnExactGoodLive", fn := fun _ => fun
  | [d] => { results := [.lit (.bool false)], args := [d] }
  | _ => none }
def FnExactGoodLiveWrongFalsely : Prop := fnExactGoodLiveRow.holds Tryd.pinned (OpenSpec.ofChange fnExactGoodLiveWrong)

/-- 'laws.FnExactDropBackend': WHATEVER THE INPUT: true; the input reads as it did. -/
def fnExactDropBackendSpec : ChangeSpec := { name := "fnExactDropBackend", fn := fun _ => fun
  | [d1, d2] => { results := [.lit (.bool true)], args := [d1, d2] }
  | _ => none }
def fnExactDropBackendRow : OpenClaim := { program := "ytnghcnkffbjddaadoor", sum := "b98d06fe39789652be32a774b7c003f638259491445555829ca7b94c765df363", func := "loop.example/g00206/laws.FnExactDropBackend", spec := "fnExactDropBackend", inPlace := ["internal/bytealg.IndexByteString", "internal/bytealg.IndexString"], named := ["unicode/utf8.first", "unicode/utf8.acceptRanges", "internal/bytealg.MaxLen"], apart := false, laid := [("unicode/utf8.acceptRanges", laid_unicode_utf8_acceptRanges), ("unicode/utf8.first", laid_unicode_utf8_first)] }
def FnExactDropBackendSaid : Prop := fnExactDropBackendRow.holds Tryd.pinned (OpenSpec.ofChange fnExactDropBackendSpec)

/-- ITS FALSE NEIGHBOUR: 'it returns false'. Refute it at one input. -/
def fnExactDropBackendWrong : ChangeSpec := { name := "fnExactDropBackend", fn := fun _ => fun
  | [d1, d2] => { results := [.lit (.bool false)], args := [d1, d2] }
  | _ => none }
def FnExactDropBackendWrongFalsely : Prop := fnExactDropBackendRow.holds Tryd.pinned (OpenSpec.ofChange fnExactDropBackendWrong)

/-- 'laws.FnExactAddBackend': WHATEVER THE INPUT: true; the input reads as it did. -/
def fnExactAddBackendSpec : ChangeSpec := { name := "fnExactAddBackend", fn := fun _ => fun
  | [d1, d2] => { results := [.lit (.bool true)], args := [d1, d2] }
  | _ => none }
def fnExactAddBackendRow : OpenClaim := { program := "ytnghcnkffbjddaadoor", sum := "b98d06fe39789652be32a774b7c003f638259491445555829ca7b94c765df363", func := "loop.example/g00206/laws.FnExactAddBackend", spec := "fnExactAddBackend", inPlace := ["internal/bytealg.IndexByteString", "internal/bytealg.IndexString", "slices.overlaps[string]"], named := ["unicode/utf8.first", "unicode/utf8.acceptRanges", "internal/bytealg.MaxLen"], apart := false, laid := [("unicode/utf8.acceptRanges", laid_unicode_utf8_acceptRanges), ("unicode/utf8.first", laid_unicode_utf8_first)] }
def FnExactAddBackendSaid : Prop := fnExactAddBackendRow.holds Tryd.pinned (OpenSpec.ofChange fnExactAddBackendSpec)

/-- ITS FALSE NEIGHBOUR: 'it returns false'. Refute it at one input. -/
def fnExactAddBackendWrong : ChangeSpec := { name := "fnExactAddBackend", fn := fun _ => fun
  | [d1, d2] => { results := [.lit (.bool false)], args := [d1, d2] }
  | _ => none }
def FnExactAddBackendWrongFalsely : Prop := fnExactAddBackendRow.holds Tryd.pinned (OpenSpec.ofChange fnExactAddBackendWrong)

/-- 'laws.FnExactGoodTable': WHATEVER THE INPUT: true; the input reads as it did. -/
def fnExactGoodTableSpec : ChangeSpec := { name := "fnExactGoodTable", fn := fun _ => fun
  | [d] => { results := [.lit (.bool true)], args := [d] }
  | _ => none }
def fnExactGoodTableRow : OpenClaim := { program := "ytnghcnkffbjddaadoor", sum := "b98d06fe39789652be32a774b7c003f638259491445555829ca7b94c765df363", func := "loop.example/g00206/laws.FnExactGoodTable", spec := "fnExactGoodTable", inPlace := ["internal/bytealg.IndexByteString", "internal/bytealg.IndexString"], named := ["unicode/utf8.first", "unicode/utf8.acceptRanges", "internal/bytealg.MaxLen"], apart := false, laid := [("unicode/utf8.acceptRanges", laid_unicode_utf8_acceptRanges), ("unicode/utf8.first", laid_unicode_utf8_first)] }
def FnExactGoodTableSaid : Prop := fnExactGoodTableRow.holds Tryd.pinned (OpenSpec.ofChange fnExactGoodTableSpec)

/-- ITS FALSE NEIGHBOUR: 'it returns false'. Refute it at one input. -/
def fnExactGoodTableWrong : ChangeSpec := { name := "fnExactGoodTable", fn := fun _ => fun
  | [d] => { results := [.lit (.bool false)], args := [d] }
  | _ => none }
def FnExactGoodTableWrongFalsely : Prop := fnExactGoodTableRow.holds Tryd.pinned (OpenSpec.ofChange fnExactGoodTableWrong)

/-- 'laws.FnExactInstallConfig': WHATEVER THE INPUT: true; the input reads as it did. -/
def fnExactInstallConfigSpec : ChangeSpec := { name := "fnExactInstallConfig", fn := fun _ => fun
  | [d1, d2] => { results := [.lit (.bool true)], args := [d1, d2] }
  | _ => none }
def fnExactInstallConfigRow : OpenClaim := { program := "ytnghcnkffbjddaadoor", sum := "b98d06fe39789652be32a774b7c003f638259491445555829ca7b94c765df363", func := "loop.example/g00206/laws.FnExactInstallConfig", spec := "fnExactInstallConfig", inPlace := ["internal/bytealg.IndexByteString", "internal/bytealg.IndexString"], unfollowed := true, recurses := true, named := ["unicode/utf8.first", "unicode/utf8.acceptRanges", "internal/bytealg.MaxLen"], apart := false, laid := [("unicode/utf8.acceptRanges", laid_unicode_utf8_acceptRanges), ("unicode/utf8.first", laid_unicode_utf8_first)] }
def FnExactInstallConfigSaid : Prop := fnExactInstallConfigRow.holds Tryd.pinned (OpenSpec.ofChange fnExactInstallConfigSpec)

/-- ITS FALSE NEIGHBOUR: 'it returns false'. Refute it at one input. -/
def fnExactInstallConfigWrong : ChangeSpec := { name := "fnExactInstallConfig", fn := fun _ => fun
  | [d1, d2] => { results := [.lit (.bool false)], args := [d1, d2] }
  | _ => none }
def FnExactInstallConfigWrongFalsely : Prop := fnExactInstallConfigRow.holds Tryd.pinned (OpenSpec.ofChange fnExactInstallConfigWrong)

/-- 'laws.FnExactRemoveConfig': WHATEVER THE INPUT: true; the input reads as it did. -/
def fnExactRemoveConfigSpec : ChangeSpec := { name := "fnExactRemoveConfig", fn := fun _ => fun
  | [d1, d2] => { results := [.lit (.bool true)], args := [d1, d2] }
  | _ => none }
def fnExactRemoveConfigRow : OpenClaim := { program := "ytnghcnkffbjddaadoor", sum := "b98d06fe39789652be32a774b7c003f638259491445555829ca7b94c765df363", func := "loop.example/g00206/laws.FnExactRemoveConfig", spec := "fnExactRemoveConfig", inPlace := ["internal/bytealg.IndexByteString", "internal/bytealg.IndexString"], unfollowed := true, recurses := true, named := ["unicode/utf8.first", "unicode/utf8.acceptRanges", "internal/bytealg.MaxLen"], apart := false, laid := [("unicode/utf8.acceptRanges", laid_unicode_utf8_acceptRanges), ("unicode/utf8.first", laid_unicode_utf8_first)] }
def FnExactRemoveConfigSaid : Prop := fnExactRemoveConfigRow.holds Tryd.pinned (OpenSpec.ofChange fnExactRemoveConfigSpec)

/-- ITS FALSE NEIGHBOUR: 'it returns false'. Refute it at one input. -/
def fnExactRemoveConfigWrong : ChangeSpec := { name := "fnExactRemoveConfig", fn := fun _ => fun
  | [d1, d2] => { results := [.lit (.bool false)], args := [d1, d2] }
  | _ => none }
def FnExactRemoveConfigWrongFalsely : Prop := fnExactRemoveConfigRow.holds Tryd.pinned (OpenSpec.ofChange fnExactRemoveConfigWrong)

/-- 'laws.FnExactAllocServer': WHATEVER THE INPUT: true; the input reads as it did. -/
def fnExactAllocServerSpec : ChangeSpec := { name := "fnExactAllocServer", fn := fun _ => fun
  | [d1, d2, d3, d4] => { results := [.lit (.bool true)], args := [d1, d2, d3, d4] }
  | _ => none }
def fnExactAllocServerRow : OpenClaim := { program := "ytnghcnkffbjddaadoor", sum := "b98d06fe39789652be32a774b7c003f638259491445555829ca7b94c765df363", func := "loop.example/g00206/laws.FnExactAllocServer", spec := "fnExactAllocServer", inPlace := ["internal/bytealg.IndexByteString", "internal/bytealg.IndexString"], unfollowed := true, recurses := true, named := ["unicode/utf8.first", "unicode/utf8.acceptRanges", "internal/bytealg.MaxLen"], apart := false, laid := [("unicode/utf8.acceptRanges", laid_unicode_utf8_acceptRanges), ("unicode/utf8.first", laid_unicode_utf8_first)] }
def FnExactAllocServerSaid : Prop := fnExactAllocServerRow.holds Tryd.pinned (OpenSpec.ofChange fnExactAllocServerSpec)

/-- ITS FALSE NEIGHBOUR: 'it returns false'. Refute it at one input. -/
def fnExactAllocServerWrong : ChangeSpec := { name := "fnExactAllocServer", fn := fun _ => fun
  | [d1, d2, d3, d4] => { results := [.lit (.bool false)], args := [d1, d2, d3, d4] }
  | _ => none }
def FnExactAllocServerWrongFalsely : Prop := fnExactAllocServerRow.holds Tryd.pinned (OpenSpec.ofChange fnExactAllocServerWrong)

/-- 'laws.FnExactScoreOf': WHATEVER THE INPUT: true; the input reads as it did. -/
def fnExactScoreOfSpec : ChangeSpec := { name := "fnExactScoreOf", fn := fun _ => fun
  | [d1, d2] => { results := [.lit (.bool true)], args := [d1, d2] }
  | _ => none }
def fnExactScoreOfRow : OpenClaim := { program := "ytnghcnkffbjddaadoor", sum := "b98d06fe39789652be32a774b7c003f638259491445555829ca7b94c765df363", func := "loop.example/g00206/laws.FnExactScoreOf", spec := "fnExactScoreOf", inPlace := ["internal/bytealg.IndexByteString", "internal/bytealg.IndexString", "internal/abi.NoEscape", "internal/bytealg.MakeNoZero", "math.sqrt", "math.Float64bits", "math.Float64frombits"], unfollowed := true, recurses := true, named := ["unicode/utf8.first", "unicode/utf8.acceptRanges", "internal/bytealg.MaxLen"], apart := false, laid := [("unicode/utf8.acceptRanges", laid_unicode_utf8_acceptRanges), ("unicode/utf8.first", laid_unicode_utf8_first)] }
def FnExactScoreOfSaid : Prop := fnExactScoreOfRow.holds Tryd.pinned (OpenSpec.ofChange fnExactScoreOfSpec)

/-- ITS FALSE NEIGHBOUR: 'it returns false'. Refute it at one input. -/
def fnExactScoreOfWrong : ChangeSpec := { name := "fnExactScoreOf", fn := fun _ => fun
  | [d1, d2] => { results := [.lit (.bool false)], args := [d1, d2] }
  | _ => none }
def FnExactScoreOfWrongFalsely : Prop := fnExactScoreOfRow.holds Tryd.pinned (OpenSpec.ofChange fnExactScoreOfWrong)

/-- 'laws.FnExactPickBackend': WHATEVER THE INPUT: true; the input reads as it did. -/
def fnExactPickBackendSpec : ChangeSpec := { name := "fnExactPickBackend", fn := fun _ => fun
  | [d1, d2] => { results := [.lit (.bool true)], args := [d1, d2] }
  | _ => none }
def fnExactPickBackendRow : OpenClaim := { program := "ytnghcnkffbjddaadoor", sum := "b98d06fe39789652be32a774b7c003f638259491445555829ca7b94c765df363", func := "loop.example/g00206/laws.FnExactPickBackend", spec := "fnExactPickBackend", inPlace := ["internal/bytealg.IndexByteString", "internal/bytealg.IndexString", "internal/abi.NoEscape", "internal/bytealg.MakeNoZero", "math.sqrt", "math.Float64bits", "math.Float64frombits"], unfollowed := true, recurses := true, named := ["unicode/utf8.first", "unicode/utf8.acceptRanges", "internal/bytealg.MaxLen"], apart := false, laid := [("unicode/utf8.acceptRanges", laid_unicode_utf8_acceptRanges), ("unicode/utf8.first", laid_unicode_utf8_first)] }
def FnExactPickBackendSaid : Prop := fnExactPickBackendRow.holds Tryd.pinned (OpenSpec.ofChange fnExactPickBackendSpec)

/-- ITS FALSE NEIGHBOUR: 'it returns false'. Refute it at one input. -/
def fnExactPickBackendWrong : ChangeSpec := { name := "fnExactPickBackend", fn := fun _ => fun
  | [d1, d2] => { results := [.lit (.bool false)], args := [d1, d2] }
  | _ => none }
def FnExactPickBackendWrongFalsely : Prop := fnExactPickBackendRow.holds Tryd.pinned (OpenSpec.ofChange fnExactPickBackendWrong)

/-- 'laws.FnExactRankBackends': WHATEVER THE INPUT: true; the input reads as it did. -/
def fnExactRankBackendsSpec : ChangeSpec := { name := "fnExactRankBackends", fn := fun _ => fun
  | [d1, d2] => { results := [.lit (.bool true)], args := [d1, d2] }
  | _ => none }
def fnExactRankBackendsRow : OpenClaim := { program := "ytnghcnkffbjddaadoor", sum := "b98d06fe39789652be32a774b7c003f638259491445555829ca7b94c765df363", func := "loop.example/g00206/laws.FnExactRankBackends", spec := "fnExactRankBackends", inPlace := ["internal/bytealg.IndexByteString", "internal/bytealg.IndexString", "internal/abi.NoEscape", "internal/bytealg.MakeNoZero", "math.sqrt", "math.Float64bits", "math.Float64frombits"], unfollowed := true, recurses := true, named := ["unicode/utf8.first", "unicode/utf8.acceptRanges", "internal/bytealg.MaxLen"], apart := false, laid := [("unicode/utf8.acceptRanges", laid_unicode_utf8_acceptRanges), ("unicode/utf8.first", laid_unicode_utf8_first)] }
def FnExactRankBackendsSaid : Prop := fnExactRankBackendsRow.holds Tryd.pinned (OpenSpec.ofChange fnExactRankBackendsSpec)

/-- ITS FALSE NEIGHBOUR: 'it returns false'. Refute it at one input. -/
def fnExactRankBackendsWrong : ChangeSpec := { name := "fnExactRankBackends", fn := fun _ => fun
  | [d1, d2] => { results := [.lit (.bool false)], args := [d1, d2] }
  | _ => none }
def FnExactRankBackendsWrongFalsely : Prop := fnExactRankBackendsRow.holds Tryd.pinned (OpenSpec.ofChange fnExactRankBackendsWrong)

/- THE SECOND FORM. 'bulk': how many values and letters a reading holds, each counted each time it is reached (what is shared counts as often as it is met; a slice's spare places count too). A statement '..UptoSaid' is the law's where the arguments, and the package variables that the reading takes, are together of bulk at most 1048576: NARROWER than '..Said'. Prove '..Said' where nothing that the law and all that it calls make is longer than what came in: it says more and counts as full. Else prove '..UptoSaid'. A law counts once. -/
mutual
def uptoBulk {H : Type} : DataW H → Nat
  | .lit (.string bytes) => bytes.length + 1
  | .lit _ => 1
  | .nil => 1
  | .ptr d => uptoBulk d + 1
  | .slice elems spare => uptoBulkAll elems + uptoBulkAll spare + 1
  | .agg parts => uptoBulkAll parts + 1
  | .iface _ d => uptoBulk d + 1
  | .map entries => uptoBulkEntries entries + 1
  | .held _ => 1
def uptoBulkAll {H : Type} : List (DataW H) → Nat
  | [] => 0
  | d :: r => uptoBulk d + uptoBulkAll r
def uptoBulkEntries {H : Type} : List (Lit × DataW H) → Nat
  | [] => 0
  | x :: r => uptoBulkEntry x + uptoBulkEntries r
def uptoBulkEntry {H : Type} : Lit × DataW H → Nat
  | (.string bytes, d) => bytes.length + uptoBulk d + 1
  | (_, d) => uptoBulk d + 1
 end
def uptoSmall : (H : Type) → List (DataW H) → Bool := fun _ ds => decide (uptoBulkAll ds ≤ 1048576)
def OpenSpec.upto (s : _root_.Go.ChangeSpec) : _root_.Go.OpenSpec := { _root_.Go.OpenSpec.ofChange s with cond := some uptoSmall }

/-- 'laws.FnExactGoodBackend', WHERE WHAT IT READS IS OF BULK AT MOST 1048576: true; the input reads as it did. -/
def fnExactGoodBackendUptoRow : OpenClaim := { program := "ytnghcnkffbjddaadoor", sum := "b98d06fe39789652be32a774b7c003f638259491445555829ca7b94c765df363", func := "loop.example/g00206/laws.FnExactGoodBackend", spec := "fnExactGoodBackend", inPlace := ["internal/bytealg.IndexByteString", "internal/bytealg.IndexString"], named := ["unicode/utf8.first", "unicode/utf8.acceptRanges", "internal/bytealg.MaxLen"], apart := false, laid := [("unicode/utf8.acceptRanges", laid_unicode_utf8_acceptRanges), ("unicode/utf8.first", laid_unicode_utf8_first)], narrowed := true }
def FnExactGoodBackendUptoSaid : Prop := fnExactGoodBackendUptoRow.holds Tryd.pinned (OpenSpec.upto fnExactGoodBackendSpec)

/-- 'laws.FnExactGoodLive', WHERE WHAT IT READS IS OF BULK AT MOST 1048576: true; the input reads as it did. -/
def fnExactGoodLiveUptoRow : OpenClaim := { program := "ytnghcnkffbjddaadoor", sum := "b98d06fe39789652be32a774b7c003f638259491445555829ca7b94c765df363", func := "loop.example/g00206/laws.FnExactGoodLive", spec := "fnExactGoodLive", inPlace := ["internal/bytealg.IndexByteString", "internal/bytealg.IndexString"], named := ["unicode/utf8.first", "unicode/utf8.acceptRanges", "internal/bytealg.MaxLen"], apart := false, laid := [("unicode/utf8.acceptRanges", laid_unicode_utf8_acceptRanges), ("unicode/utf8.first", laid_unicode_utf8_first)], narrowed := true }
def FnExactGoodLiveUptoSaid : Prop := fnExactGoodLiveUptoRow.holds Tryd.pinned (OpenSpec.upto fnExactGoodLiveSpec)

/-- 'laws.FnExactDropBackend', WHERE WHAT IT READS IS OF BULK AT MOST 1048576: true; the input reads as it did. -/
def fnExactDropBackendUptoRow : OpenClaim := { program := "ytnghcnkffbjddaadoor", sum := "b98d06fe39789652be32a774b7c003f638259491445555829ca7b94c765df363", func := "loop.example/g00206/laws.FnExactDropBackend", spec := "fnExactDropBackend", inPlace := ["internal/bytealg.IndexByteString", "internal/bytealg.IndexString"], named := ["unicode/utf8.first", "unicode/utf8.acceptRanges", "internal/bytealg.MaxLen"], apart := false, laid := [("unicode/utf8.acceptRanges", laid_unicode_utf8_acceptRanges), ("unicode/utf8.first", laid_unicode_utf8_first)], narrowed := true }
def FnExactDropBackendUptoSaid : Prop := fnExactDropBackendUptoRow.holds Tryd.pinned (OpenSpec.upto fnExactDropBackendSpec)

/-- 'laws.FnExactAddBackend', WHERE WHAT IT READS IS OF BULK AT MOST 1048576: true; the input reads as it did. -/
def fnExactAddBackendUptoRow : OpenClaim := { program := "ytnghcnkffbjddaadoor", sum := "b98d06fe39789652be32a774b7c003f638259491445555829ca7b94c765df363", func := "loop.example/g00206/laws.FnExactAddBackend", spec := "fnExactAddBackend", inPlace := ["internal/bytealg.IndexByteString", "internal/bytealg.IndexString", "slices.overlaps[string]"], named := ["unicode/utf8.first", "unicode/utf8.acceptRanges", "internal/bytealg.MaxLen"], apart := false, laid := [("unicode/utf8.acceptRanges", laid_unicode_utf8_acceptRanges), ("unicode/utf8.first", laid_unicode_utf8_first)], narrowed := true }
def FnExactAddBackendUptoSaid : Prop := fnExactAddBackendUptoRow.holds Tryd.pinned (OpenSpec.upto fnExactAddBackendSpec)

/-- 'laws.FnExactGoodTable', WHERE WHAT IT READS IS OF BULK AT MOST 1048576: true; the input reads as it did. -/
def fnExactGoodTableUptoRow : OpenClaim := { program := "ytnghcnkffbjddaadoor", sum := "b98d06fe39789652be32a774b7c003f638259491445555829ca7b94c765df363", func := "loop.example/g00206/laws.FnExactGoodTable", spec := "fnExactGoodTable", inPlace := ["internal/bytealg.IndexByteString", "internal/bytealg.IndexString"], named := ["unicode/utf8.first", "unicode/utf8.acceptRanges", "internal/bytealg.MaxLen"], apart := false, laid := [("unicode/utf8.acceptRanges", laid_unicode_utf8_acceptRanges), ("unicode/utf8.first", laid_unicode_utf8_first)], narrowed := true }
def FnExactGoodTableUptoSaid : Prop := fnExactGoodTableUptoRow.holds Tryd.pinned (OpenSpec.upto fnExactGoodTableSpec)

/-- 'laws.FnExactInstallConfig', WHERE WHAT IT READS IS OF BULK AT MOST 1048576: true; the input reads as it did. -/
def fnExactInstallConfigUptoRow : OpenClaim := { program := "ytnghcnkffbjddaadoor", sum := "b98d06fe39789652be32a774b7c003f638259491445555829ca7b94c765df363", func := "loop.example/g00206/laws.FnExactInstallConfig", spec := "fnExactInstallConfig", inPlace := ["internal/bytealg.IndexByteString", "internal/bytealg.IndexString"], unfollowed := true, recurses := true, named := ["unicode/utf8.first", "unicode/utf8.acceptRanges", "internal/bytealg.MaxLen"], apart := false, laid := [("unicode/utf8.acceptRanges", laid_unicode_utf8_acceptRanges), ("unicode/utf8.first", laid_unicode_utf8_first)], narrowed := true }
def FnExactInstallConfigUptoSaid : Prop := fnExactInstallConfigUptoRow.holds Tryd.pinned (OpenSpec.upto fnExactInstallConfigSpec)

/-- 'laws.FnExactRemoveConfig', WHERE WHAT IT READS IS OF BULK AT MOST 1048576: true; the input reads as it did. -/
def fnExactRemoveConfigUptoRow : OpenClaim := { program := "ytnghcnkffbjddaadoor", sum := "b98d06fe39789652be32a774b7c003f638259491445555829ca7b94c765df363", func := "loop.example/g00206/laws.FnExactRemoveConfig", spec := "fnExactRemoveConfig", inPlace := ["internal/bytealg.IndexByteString", "internal/bytealg.IndexString"], unfollowed := true, recurses := true, named := ["unicode/utf8.first", "unicode/utf8.acceptRanges", "internal/bytealg.MaxLen"], apart := false, laid := [("unicode/utf8.acceptRanges", laid_unicode_utf8_acceptRanges), ("unicode/utf8.first", laid_unicode_utf8_first)], narrowed := true }
def FnExactRemoveConfigUptoSaid : Prop := fnExactRemoveConfigUptoRow.holds Tryd.pinned (OpenSpec.upto fnExactRemoveConfigSpec)

/-- 'laws.FnExactAllocServer', WHERE WHAT IT READS IS OF BULK AT MOST 1048576: true; the input reads as it did. -/
def fnExactAllocServerUptoRow : OpenClaim := { program := "ytnghcnkffbjddaadoor", sum := "b98d06fe39789652be32a774b7c003f638259491445555829ca7b94c765df363", func := "loop.example/g00206/laws.FnExactAllocServer", spec := "fnExactAllocServer", inPlace := ["internal/bytealg.IndexByteString", "internal/bytealg.IndexString"], unfollowed := true, recurses := true, named := ["unicode/utf8.first", "unicode/utf8.acceptRanges", "internal/bytealg.MaxLen"], apart := false, laid := [("unicode/utf8.acceptRanges", laid_unicode_utf8_acceptRanges), ("unicode/utf8.first", laid_unicode_utf8_first)], narrowed := true }
def FnExactAllocServerUptoSaid : Prop := fnExactAllocServerUptoRow.holds Tryd.pinned (OpenSpec.upto fnExactAllocServerSpec)

/-- 'laws.FnExactScoreOf', WHERE WHAT IT READS IS OF BULK AT MOST 1048576: true; the input reads as it did. -/
def fnExactScoreOfUptoRow : OpenClaim := { program := "ytnghcnkffbjddaadoor", sum := "b98d06fe39789652be32a774b7c003f638259491445555829ca7b94c765df363", func := "loop.example/g00206/laws.FnExactScoreOf", spec := "fnExactScoreOf", inPlace := ["internal/bytealg.IndexByteString", "internal/bytealg.IndexString", "internal/abi.NoEscape", "internal/bytealg.MakeNoZero", "math.sqrt", "math.Float64bits", "math.Float64frombits"], unfollowed := true, recurses := true, named := ["unicode/utf8.first", "unicode/utf8.acceptRanges", "internal/bytealg.MaxLen"], apart := false, laid := [("unicode/utf8.acceptRanges", laid_unicode_utf8_acceptRanges), ("unicode/utf8.first", laid_unicode_utf8_first)], narrowed := true }
def FnExactScoreOfUptoSaid : Prop := fnExactScoreOfUptoRow.holds Tryd.pinned (OpenSpec.upto fnExactScoreOfSpec)

/-- 'laws.FnExactPickBackend', WHERE WHAT IT READS IS OF BULK AT MOST 1048576: true; the input reads as it did. -/
def fnExactPickBackendUptoRow : OpenClaim := { program := "ytnghcnkffbjddaadoor", sum := "b98d06fe39789652be32a774b7c003f638259491445555829ca7b94c765df363", func := "loop.example/g00206/laws.FnExactPickBackend", spec := "fnExactPickBackend", inPlace := ["internal/bytealg.IndexByteString", "internal/bytealg.IndexString", "internal/abi.NoEscape", "internal/bytealg.MakeNoZero", "math.sqrt", "math.Float64bits", "math.Float64frombits"], unfollowed := true, recurses := true, named := ["unicode/utf8.first", "unicode/utf8.acceptRanges", "internal/bytealg.MaxLen"], apart := false, laid := [("unicode/utf8.acceptRanges", laid_unicode_utf8_acceptRanges), ("unicode/utf8.first", laid_unicode_utf8_first)], narrowed := true }
def FnExactPickBackendUptoSaid : Prop := fnExactPickBackendUptoRow.holds Tryd.pinned (OpenSpec.upto fnExactPickBackendSpec)

/-- 'laws.FnExactRankBackends', WHERE WHAT IT READS IS OF BULK AT MOST 1048576: true; the input reads as it did. -/
def fnExactRankBackendsUptoRow : OpenClaim := { program := "ytnghcnkffbjddaadoor", sum := "b98d06fe39789652be32a774b7c003f638259491445555829ca7b94c765df363", func := "loop.example/g00206/laws.FnExactRankBackends", spec := "fnExactRankBackends", inPlace := ["internal/bytealg.IndexByteString", "internal/bytealg.IndexString", "internal/abi.NoEscape", "internal/bytealg.MakeNoZero", "math.sqrt", "math.Float64bits", "math.Float64frombits"], unfollowed := true, recurses := true, named := ["unicode/utf8.first", "unicode/utf8.acceptRanges", "internal/bytealg.MaxLen"], apart := false, laid := [("unicode/utf8.acceptRanges", laid_unicode_utf8_acceptRanges), ("unicode/utf8.first", laid_unicode_utf8_first)], narrowed := true }
def FnExactRankBackendsUptoSaid : Prop := fnExactRankBackendsUptoRow.holds Tryd.pinned (OpenSpec.upto fnExactRankBackendsSpec)

end Rows
end Go.Proofs.YtnghcnkffbjddaaDoor
