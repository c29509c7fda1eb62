/-
  DERIVED. GIVEN WITH THE SEED: THE CARDS: each row of YtkndokcpnlbipaaDoorRows.lean that lists a variable, with what it lists TIED to the program's text (the seventh form; the later family's looks); each row that meets fmt, with fmt's text TOLD by the authors' own Lean function (tested against real Go, not proved from fmt's source: count such statements apart). THE CARD IS WHAT COUNTS. Prove the row's statement (the work); the ties are given (YtkndokcpnlbipaaDoorTie.lean); close each card by the builder's one call (the guide's Derived/Test/ToyasCard.lean, 'card_holds'). Laid BY PROGRAM, IN A SANDBOX (cutbox-door.mjs). By AI agents, Wed Nov 11 2026. No macro, syntax, notation, axiom, sorry.
-/
import Derived.Test.YtkndokcpnlbipaaDoorRows
import GoSem.ClaimSeven
namespace Go.Proofs.YtkndokcpnlbipaaDoor
namespace Rows

/-- THE TIED CARD OF 'laws.FnRelayTime'. -/
def fnRelayTimeCard : Claim7 := { stood := { row := fnRelayTimeRow, standIns := [], harness := (true, "7250274c5e6e55476353bf1c89cb98c7f7769f79058bb0c990f9d8569e6ec934"), looks := false }, kinds := [], alts := [], laidByText := true, laidKinds := [.data, .data, .data], laidTests := true, laidLooks := .later }
def FnRelayTimeCardSaid : Prop := Claim7.holds Tryd.pinned (.plain (OpenSpec.ofChange fnRelayTimeSpec)) fnRelayTimeCard

/-- THE TIED CARD OF 'laws.FnCurrentFor'. -/
def fnCurrentForCard : Claim7 := { stood := { row := fnCurrentForRow, standIns := [], harness := (true, "7250274c5e6e55476353bf1c89cb98c7f7769f79058bb0c990f9d8569e6ec934"), looks := false }, kinds := [], alts := [], laidByText := true, laidKinds := [.data, .data, .data], laidTests := true, laidLooks := .later }
def FnCurrentForCardSaid : Prop := Claim7.holds Tryd.pinned (.plain (OpenSpec.ofChange fnCurrentForSpec)) fnCurrentForCard

/-- THE TIED CARD OF 'laws.FnFirstTrip'. -/
def fnFirstTripCard : Claim7 := { stood := { row := fnFirstTripRow, standIns := [], harness := (true, "7250274c5e6e55476353bf1c89cb98c7f7769f79058bb0c990f9d8569e6ec934"), looks := false }, kinds := [], alts := [], laidByText := true, laidKinds := [.data, .data, .data], laidTests := true, laidLooks := .later }
def FnFirstTripCardSaid : Prop := Claim7.holds Tryd.pinned (.plain (OpenSpec.ofChange fnFirstTripSpec)) fnFirstTripCard

/-- THE TIED CARD OF 'laws.FnLeastDial'. -/
def fnLeastDialCard : Claim7 := { stood := { row := fnLeastDialRow, standIns := [], harness := (true, "7250274c5e6e55476353bf1c89cb98c7f7769f79058bb0c990f9d8569e6ec934"), looks := false }, kinds := [], alts := [], laidByText := true, laidKinds := [.data, .data, .data], laidTests := true, laidLooks := .later }
def FnLeastDialCardSaid : Prop := Claim7.holds Tryd.pinned (.plain (OpenSpec.ofChange fnLeastDialSpec)) fnLeastDialCard

/-- THE TIED CARD OF 'laws.FnGradeOk'. -/
def fnGradeOkCard : Claim7 := { stood := { row := fnGradeOkRow, standIns := [], harness := (true, "7250274c5e6e55476353bf1c89cb98c7f7769f79058bb0c990f9d8569e6ec934"), looks := false }, kinds := [], alts := [], laidByText := true, laidKinds := [.data, .data, .data], laidTests := true, laidLooks := .later }
def FnGradeOkCardSaid : Prop := Claim7.holds Tryd.pinned (.plain (OpenSpec.ofChange fnGradeOkSpec)) fnGradeOkCard

/-- THE TIED CARD OF 'laws.FnGradeChain'. -/
def fnGradeChainCard : Claim7 := { stood := { row := fnGradeChainRow, standIns := [], harness := (true, "7250274c5e6e55476353bf1c89cb98c7f7769f79058bb0c990f9d8569e6ec934"), looks := false }, kinds := [], alts := [], laidByText := true, laidKinds := [.data, .data, .data], laidTests := true, laidLooks := .later }
def FnGradeChainCardSaid : Prop := Claim7.holds Tryd.pinned (.plain (OpenSpec.ofChange fnGradeChainSpec)) fnGradeChainCard

/-- THE SECOND FORM's CARD OF 'laws.FnRelayTime'. -/
def fnRelayTimeUptoCard : Claim7 := { stood := { row := fnRelayTimeUptoRow, standIns := [], harness := (true, "7250274c5e6e55476353bf1c89cb98c7f7769f79058bb0c990f9d8569e6ec934"), looks := false }, kinds := [], alts := [], laidByText := true, laidKinds := [.data, .data, .data], laidTests := true, laidLooks := .later }
def FnRelayTimeUptoCardSaid : Prop := Claim7.holds Tryd.pinned (.plain (OpenSpec.upto fnRelayTimeSpec)) fnRelayTimeUptoCard

/-- THE SECOND FORM's CARD OF 'laws.FnCurrentFor'. -/
def fnCurrentForUptoCard : Claim7 := { stood := { row := fnCurrentForUptoRow, standIns := [], harness := (true, "7250274c5e6e55476353bf1c89cb98c7f7769f79058bb0c990f9d8569e6ec934"), looks := false }, kinds := [], alts := [], laidByText := true, laidKinds := [.data, .data, .data], laidTests := true, laidLooks := .later }
def FnCurrentForUptoCardSaid : Prop := Claim7.holds Tryd.pinned (.plain (OpenSpec.upto fnCurrentForSpec)) fnCurrentForUptoCard

/-- THE SECOND FORM's CARD OF 'laws.FnFirstTrip'. -/
def fnFirstTripUptoCard : Claim7 := { stood := { row := fnFirstTripUptoRow, standIns := [], harness := (true, "7250274c5e6e55476353bf1c89cb98c7f7769f79058bb0c990f9d8569e6ec934"), looks := false }, kinds := [], alts := [], laidByText := true, laidKinds := [.data, .data, .data], laidTests := true, laidLooks := .later }
def FnFirstTripUptoCardSaid : Prop := Claim7.holds Tryd.pinned (.plain (OpenSpec.upto fnFirstTripSpec)) fnFirstTripUptoCard

/-- THE SECOND FORM's CARD OF 'laws.FnLeastDial'. -/
def fnLeastDialUptoCard : Claim7 := { stood := { row := fnLeastDialUptoRow, standIns := [], harness := (true, "7250274c5e6e55476353bf1c89cb98c7f7769f79058bb0c990f9d8569e6ec934"), looks := false }, kinds := [], alts := [], laidByText := true, laidKinds := [.data, .data, .data], laidTests := true, laidLooks := .later }
def FnLeastDialUptoCardSaid : Prop := Claim7.holds Tryd.pinned (.plain (OpenSpec.upto fnLeastDialSpec)) fnLeastDialUptoCard

/-- THE SECOND FORM's CARD OF 'laws.FnGradeOk'. -/
def fnGradeOkUptoCard : Claim7 := { stood := { row := fnGradeOkUptoRow, standIns := [], harness := (true, "7250274c5e6e55476353bf1c89cb98c7f7769f79058bb0c990f9d8569e6ec934"), looks := false }, kinds := [], alts := [], laidByText := true, laidKinds := [.data, .data, .data], laidTests := true, laidLooks := .later }
def FnGradeOkUptoCardSaid : Prop := Claim7.holds Tryd.pinned (.plain (OpenSpec.upto fnGradeOkSpec)) fnGradeOkUptoCard

/-- THE SECOND FORM's CARD OF 'laws.FnGradeChain'. -/
def fnGradeChainUptoCard : Claim7 := { stood := { row := fnGradeChainUptoRow, standIns := [], harness := (true, "7250274c5e6e55476353bf1c89cb98c7f7769f79058bb0c990f9d8569e6ec934"), looks := false }, kinds := [], alts := [], laidByText := true, laidKinds := [.data, .data, .data], laidTests := true, laidLooks := .later }
def FnGradeChainUptoCardSaid : Prop := Claim7.holds Tryd.pinned (.plain (OpenSpec.upto fnGradeChainSpec)) fnGradeChainUptoCard
end Rows
end Go.Proofs.YtkndokcpnlbipaaDoor
