/-
  DERIVED. GIVEN WITH THE SEED: THE CARDS: each row of YtnghcnkffbjddaaDoorRows.lean that lists a variable, with what it lists TIED to the program's text (the seventh form; the later family's looks); each row that meets fmt, with fmt's text TOLD by the authors' own Lean function (tested against real Go, not proved from fmt's source: count such statements apart). THE CARD IS WHAT COUNTS. Prove the row's statement (the work); the ties are given (YtnghcnkffbjddaaDoorTie.lean); close each card by the builder's one call (the guide's Derived/Test/ToyasCard.lean, 'card_holds'). Laid BY PROGRAM, IN A SANDBOX (cutbox-door.mjs). By AI agents, Wed Nov 11 2026. No macro, syntax, notation, axiom, sorry.
-/
import Derived.Test.YtnghcnkffbjddaaDoorRows
import GoSem.ClaimSeven
namespace Go.Proofs.YtnghcnkffbjddaaDoor
namespace Rows

/-- THE TIED CARD OF 'laws.FnExactGoodBackend'. -/
def fnExactGoodBackendCard : Claim7 := { stood := { row := fnExactGoodBackendRow, standIns := [], harness := (true, "3ae6ce782fb552828a2a983254083efd5e469a8c89694293185a4dc502ecf95c"), looks := false }, kinds := [], alts := [], laidByText := true, laidKinds := [.data, .pinned], laidTests := true, laidLooks := .later }
def FnExactGoodBackendCardSaid : Prop := Claim7.holds Tryd.pinned (.plain (OpenSpec.ofChange fnExactGoodBackendSpec)) fnExactGoodBackendCard

/-- THE TIED CARD OF 'laws.FnExactGoodLive'. -/
def fnExactGoodLiveCard : Claim7 := { stood := { row := fnExactGoodLiveRow, standIns := [], harness := (true, "3ae6ce782fb552828a2a983254083efd5e469a8c89694293185a4dc502ecf95c"), looks := false }, kinds := [], alts := [], laidByText := true, laidKinds := [.data, .pinned], laidTests := true, laidLooks := .later }
def FnExactGoodLiveCardSaid : Prop := Claim7.holds Tryd.pinned (.plain (OpenSpec.ofChange fnExactGoodLiveSpec)) fnExactGoodLiveCard

/-- THE TIED CARD OF 'laws.FnExactDropBackend'. -/
def fnExactDropBackendCard : Claim7 := { stood := { row := fnExactDropBackendRow, standIns := [], harness := (true, "3ae6ce782fb552828a2a983254083efd5e469a8c89694293185a4dc502ecf95c"), looks := false }, kinds := [], alts := [], laidByText := true, laidKinds := [.data, .pinned], laidTests := true, laidLooks := .later }
def FnExactDropBackendCardSaid : Prop := Claim7.holds Tryd.pinned (.plain (OpenSpec.ofChange fnExactDropBackendSpec)) fnExactDropBackendCard

/-- THE TIED CARD OF 'laws.FnExactAddBackend'. -/
def fnExactAddBackendCard : Claim7 := { stood := { row := fnExactAddBackendRow, standIns := [], harness := (true, "3ae6ce782fb552828a2a983254083efd5e469a8c89694293185a4dc502ecf95c"), looks := false }, kinds := [], alts := [], laidByText := true, laidKinds := [.data, .pinned], laidTests := true, laidLooks := .later }
def FnExactAddBackendCardSaid : Prop := Claim7.holds Tryd.pinned (.plain (OpenSpec.ofChange fnExactAddBackendSpec)) fnExactAddBackendCard

/-- THE TIED CARD OF 'laws.FnExactGoodTable'. -/
def fnExactGoodTableCard : Claim7 := { stood := { row := fnExactGoodTableRow, standIns := [], harness := (true, "3ae6ce782fb552828a2a983254083efd5e469a8c89694293185a4dc502ecf95c"), looks := false }, kinds := [], alts := [], laidByText := true, laidKinds := [.data, .pinned], laidTests := true, laidLooks := .later }
def FnExactGoodTableCardSaid : Prop := Claim7.holds Tryd.pinned (.plain (OpenSpec.ofChange fnExactGoodTableSpec)) fnExactGoodTableCard

/-- THE TIED CARD OF 'laws.FnExactInstallConfig'. -/
def fnExactInstallConfigCard : Claim7 := { stood := { row := fnExactInstallConfigRow, standIns := [], harness := (true, "3ae6ce782fb552828a2a983254083efd5e469a8c89694293185a4dc502ecf95c"), looks := false }, kinds := [], alts := [], laidByText := true, laidKinds := [.data, .pinned], laidTests := true, laidLooks := .later }
def FnExactInstallConfigCardSaid : Prop := Claim7.holds Tryd.pinned (.plain (OpenSpec.ofChange fnExactInstallConfigSpec)) fnExactInstallConfigCard

/-- THE TIED CARD OF 'laws.FnExactRemoveConfig'. -/
def fnExactRemoveConfigCard : Claim7 := { stood := { row := fnExactRemoveConfigRow, standIns := [], harness := (true, "3ae6ce782fb552828a2a983254083efd5e469a8c89694293185a4dc502ecf95c"), looks := false }, kinds := [], alts := [], laidByText := true, laidKinds := [.data, .pinned], laidTests := true, laidLooks := .later }
def FnExactRemoveConfigCardSaid : Prop := Claim7.holds Tryd.pinned (.plain (OpenSpec.ofChange fnExactRemoveConfigSpec)) fnExactRemoveConfigCard

/-- THE TIED CARD OF 'laws.FnExactAllocServer'. -/
def fnExactAllocServerCard : Claim7 := { stood := { row := fnExactAllocServerRow, standIns := [], harness := (true, "3ae6ce782fb552828a2a983254083efd5e469a8c89694293185a4dc502ecf95c"), looks := false }, kinds := [], alts := [], laidByText := true, laidKinds := [.data, .pinned], laidTests := true, laidLooks := .later }
def FnExactAllocServerCardSaid : Prop := Claim7.holds Tryd.pinned (.plain (OpenSpec.ofChange fnExactAllocServerSpec)) fnExactAllocServerCard

/-- THE TIED CARD OF 'laws.FnExactScoreOf'. -/
def fnExactScoreOfCard : Claim7 := { stood := { row := fnExactScoreOfRow, standIns := [], harness := (true, "3ae6ce782fb552828a2a983254083efd5e469a8c89694293185a4dc502ecf95c"), looks := false }, kinds := [], alts := [], laidByText := true, laidKinds := [.data, .pinned], laidTests := true, laidLooks := .later }
def FnExactScoreOfCardSaid : Prop := Claim7.holds Tryd.pinned (.plain (OpenSpec.ofChange fnExactScoreOfSpec)) fnExactScoreOfCard

/-- THE TIED CARD OF 'laws.FnExactPickBackend'. -/
def fnExactPickBackendCard : Claim7 := { stood := { row := fnExactPickBackendRow, standIns := [], harness := (true, "3ae6ce782fb552828a2a983254083efd5e469a8c89694293185a4dc502ecf95c"), looks := false }, kinds := [], alts := [], laidByText := true, laidKinds := [.data, .pinned], laidTests := true, laidLooks := .later }
def FnExactPickBackendCardSaid : Prop := Claim7.holds Tryd.pinned (.plain (OpenSpec.ofChange fnExactPickBackendSpec)) fnExactPickBackendCard

/-- THE TIED CARD OF 'laws.FnExactRankBackends'. -/
def fnExactRankBackendsCard : Claim7 := { stood := { row := fnExactRankBackendsRow, standIns := [], harness := (true, "3ae6ce782fb552828a2a983254083efd5e469a8c89694293185a4dc502ecf95c"), looks := false }, kinds := [], alts := [], laidByText := true, laidKinds := [.data, .pinned], laidTests := true, laidLooks := .later }
def FnExactRankBackendsCardSaid : Prop := Claim7.holds Tryd.pinned (.plain (OpenSpec.ofChange fnExactRankBackendsSpec)) fnExactRankBackendsCard

/-- THE SECOND FORM's CARD OF 'laws.FnExactGoodBackend'. -/
def fnExactGoodBackendUptoCard : Claim7 := { stood := { row := fnExactGoodBackendUptoRow, standIns := [], harness := (true, "3ae6ce782fb552828a2a983254083efd5e469a8c89694293185a4dc502ecf95c"), looks := false }, kinds := [], alts := [], laidByText := true, laidKinds := [.data, .pinned], laidTests := true, laidLooks := .later }
def FnExactGoodBackendUptoCardSaid : Prop := Claim7.holds Tryd.pinned (.plain (OpenSpec.upto fnExactGoodBackendSpec)) fnExactGoodBackendUptoCard

/-- THE SECOND FORM's CARD OF 'laws.FnExactGoodLive'. -/
def fnExactGoodLiveUptoCard : Claim7 := { stood := { row := fnExactGoodLiveUptoRow, standIns := [], harness := (true, "3ae6ce782fb552828a2a983254083efd5e469a8c89694293185a4dc502ecf95c"), looks := false }, kinds := [], alts := [], laidByText := true, laidKinds := [.data, .pinned], laidTests := true, laidLooks := .later }
def FnExactGoodLiveUptoCardSaid : Prop := Claim7.holds Tryd.pinned (.plain (OpenSpec.upto fnExactGoodLiveSpec)) fnExactGoodLiveUptoCard

/-- THE SECOND FORM's CARD OF 'laws.FnExactDropBackend'. -/
def fnExactDropBackendUptoCard : Claim7 := { stood := { row := fnExactDropBackendUptoRow, standIns := [], harness := (true, "3ae6ce782fb552828a2a983254083efd5e469a8c89694293185a4dc502ecf95c"), looks := false }, kinds := [], alts := [], laidByText := true, laidKinds := [.data, .pinned], laidTests := true, laidLooks := .later }
def FnExactDropBackendUptoCardSaid : Prop := Claim7.holds Tryd.pinned (.plain (OpenSpec.upto fnExactDropBackendSpec)) fnExactDropBackendUptoCard

/-- THE SECOND FORM's CARD OF 'laws.FnExactAddBackend'. -/
def fnExactAddBackendUptoCard : Claim7 := { stood := { row := fnExactAddBackendUptoRow, standIns := [], harness := (true, "3ae6ce782fb552828a2a983254083efd5e469a8c89694293185a4dc502ecf95c"), looks := false }, kinds := [], alts := [], laidByText := true, laidKinds := [.data, .pinned], laidTests := true, laidLooks := .later }
def FnExactAddBackendUptoCardSaid : Prop := Claim7.holds Tryd.pinned (.plain (OpenSpec.upto fnExactAddBackendSpec)) fnExactAddBackendUptoCard

/-- THE SECOND FORM's CARD OF 'laws.FnExactGoodTable'. -/
def fnExactGoodTableUptoCard : Claim7 := { stood := { row := fnExactGoodTableUptoRow, standIns := [], harness := (true, "3ae6ce782fb552828a2a983254083efd5e469a8c89694293185a4dc502ecf95c"), looks := false }, kinds := [], alts := [], laidByText := true, laidKinds := [.data, .pinned], laidTests := true, laidLooks := .later }
def FnExactGoodTableUptoCardSaid : Prop := Claim7.holds Tryd.pinned (.plain (OpenSpec.upto fnExactGoodTableSpec)) fnExactGoodTableUptoCard

/-- THE SECOND FORM's CARD OF 'laws.FnExactInstallConfig'. -/
def fnExactInstallConfigUptoCard : Claim7 := { stood := { row := fnExactInstallConfigUptoRow, standIns := [], harness := (true, "3ae6ce782fb552828a2a983254083efd5e469a8c89694293185a4dc502ecf95c"), looks := false }, kinds := [], alts := [], laidByText := true, laidKinds := [.data, .pinned], laidTests := true, laidLooks := .later }
def FnExactInstallConfigUptoCardSaid : Prop := Claim7.holds Tryd.pinned (.plain (OpenSpec.upto fnExactInstallConfigSpec)) fnExactInstallConfigUptoCard

/-- THE SECOND FORM's CARD OF 'laws.FnExactRemoveConfig'. -/
def fnExactRemoveConfigUptoCard : Claim7 := { stood := { row := fnExactRemoveConfigUptoRow, standIns := [], harness := (true, "3ae6ce782fb552828a2a983254083efd5e469a8c89694293185a4dc502ecf95c"), looks := false }, kinds := [], alts := [], laidByText := true, laidKinds := [.data, .pinned], laidTests := true, laidLooks := .later }
def FnExactRemoveConfigUptoCardSaid : Prop := Claim7.holds Tryd.pinned (.plain (OpenSpec.upto fnExactRemoveConfigSpec)) fnExactRemoveConfigUptoCard

/-- THE SECOND FORM's CARD OF 'laws.FnExactAllocServer'. -/
def fnExactAllocServerUptoCard : Claim7 := { stood := { row := fnExactAllocServerUptoRow, standIns := [], harness := (true, "3ae6ce782fb552828a2a983254083efd5e469a8c89694293185a4dc502ecf95c"), looks := false }, kinds := [], alts := [], laidByText := true, laidKinds := [.data, .pinned], laidTests := true, laidLooks := .later }
def FnExactAllocServerUptoCardSaid : Prop := Claim7.holds Tryd.pinned (.plain (OpenSpec.upto fnExactAllocServerSpec)) fnExactAllocServerUptoCard

/-- THE SECOND FORM's CARD OF 'laws.FnExactScoreOf'. -/
def fnExactScoreOfUptoCard : Claim7 := { stood := { row := fnExactScoreOfUptoRow, standIns := [], harness := (true, "3ae6ce782fb552828a2a983254083efd5e469a8c89694293185a4dc502ecf95c"), looks := false }, kinds := [], alts := [], laidByText := true, laidKinds := [.data, .pinned], laidTests := true, laidLooks := .later }
def FnExactScoreOfUptoCardSaid : Prop := Claim7.holds Tryd.pinned (.plain (OpenSpec.upto fnExactScoreOfSpec)) fnExactScoreOfUptoCard

/-- THE SECOND FORM's CARD OF 'laws.FnExactPickBackend'. -/
def fnExactPickBackendUptoCard : Claim7 := { stood := { row := fnExactPickBackendUptoRow, standIns := [], harness := (true, "3ae6ce782fb552828a2a983254083efd5e469a8c89694293185a4dc502ecf95c"), looks := false }, kinds := [], alts := [], laidByText := true, laidKinds := [.data, .pinned], laidTests := true, laidLooks := .later }
def FnExactPickBackendUptoCardSaid : Prop := Claim7.holds Tryd.pinned (.plain (OpenSpec.upto fnExactPickBackendSpec)) fnExactPickBackendUptoCard

/-- THE SECOND FORM's CARD OF 'laws.FnExactRankBackends'. -/
def fnExactRankBackendsUptoCard : Claim7 := { stood := { row := fnExactRankBackendsUptoRow, standIns := [], harness := (true, "3ae6ce782fb552828a2a983254083efd5e469a8c89694293185a4dc502ecf95c"), looks := false }, kinds := [], alts := [], laidByText := true, laidKinds := [.data, .pinned], laidTests := true, laidLooks := .later }
def FnExactRankBackendsUptoCardSaid : Prop := Claim7.holds Tryd.pinned (.plain (OpenSpec.upto fnExactRankBackendsSpec)) fnExactRankBackendsUptoCard
end Rows
end Go.Proofs.YtnghcnkffbjddaaDoor
