/-
  DERIVED. GIVEN WITH THE SEED: THE CARDS: each row of YtdfgdeccejcpfaaDoorRows.lean that lists a variable, with what it lists TIED to the program's text (the seventh form; the later family's looks); each row that meets fmt, with fmt's text TOLD by the authors' own Lean function (tested against real Go, not proved from fmt's source: count such statements apart). THE CARD IS WHAT COUNTS. Prove the row's statement (the work); the ties are given (YtdfgdeccejcpfaaDoorTie.lean); close each card by the builder's one call (the guide's Derived/Test/ToyasCard.lean, 'card_holds'). Laid BY PROGRAM, IN A SANDBOX (cutbox-door.mjs). By AI agents, Wed Nov 11 2026. No macro, syntax, notation, axiom, sorry.
-/
import Derived.Test.YtdfgdeccejcpfaaDoorRows
import GoSem.ClaimSeven
namespace Go.Proofs.YtdfgdeccejcpfaaDoor
namespace Rows

/-- THE TIED CARD OF 'laws.FnZoneTrips'. -/
def fnZoneTripsCard : Claim7 := { stood := { row := fnZoneTripsRow, standIns := [], harness := (true, "ef2494b24e90e1e7c9a0b30b58b717824f091322b8b45cd3114df0bdd6b6492a"), looks := false }, kinds := [], alts := [], laidByText := true, laidKinds := [.data, .data, .data], laidTests := true, laidLooks := .later }
def FnZoneTripsCardSaid : Prop := Claim7.holds Tryd.pinned (.plain (OpenSpec.ofChange fnZoneTripsSpec)) fnZoneTripsCard

/-- THE TIED CARD OF 'laws.FnZoneValid'. -/
def fnZoneValidCard : Claim7 := { stood := { row := fnZoneValidRow, standIns := [], harness := (true, "ef2494b24e90e1e7c9a0b30b58b717824f091322b8b45cd3114df0bdd6b6492a"), looks := false }, kinds := [], alts := [], laidByText := true, laidKinds := [.data, .data, .data], laidTests := true, laidLooks := .later }
def FnZoneValidCardSaid : Prop := Claim7.holds Tryd.pinned (.plain (OpenSpec.ofChange fnZoneValidSpec)) fnZoneValidCard

/-- THE TIED CARD OF 'laws.FnZoneLoad'. -/
def fnZoneLoadCard : Claim7 := { stood := { row := fnZoneLoadRow, standIns := [], harness := (true, "ef2494b24e90e1e7c9a0b30b58b717824f091322b8b45cd3114df0bdd6b6492a"), looks := false }, kinds := [], alts := [], laidByText := true, laidKinds := [.data, .data, .data], laidTests := true, laidLooks := .later }
def FnZoneLoadCardSaid : Prop := Claim7.holds Tryd.pinned (.plain (OpenSpec.ofChange fnZoneLoadSpec)) fnZoneLoadCard

/-- THE TIED CARD OF 'laws.FnZoneFlow'. -/
def fnZoneFlowCard : Claim7 := { stood := { row := fnZoneFlowRow, standIns := [], harness := (true, "ef2494b24e90e1e7c9a0b30b58b717824f091322b8b45cd3114df0bdd6b6492a"), looks := false }, kinds := [], alts := [], laidByText := true, laidKinds := [.data, .data, .data], laidTests := true, laidLooks := .later }
def FnZoneFlowCardSaid : Prop := Claim7.holds Tryd.pinned (.plain (OpenSpec.ofChange fnZoneFlowSpec)) fnZoneFlowCard

/-- THE TIED CARD OF 'laws.FnZoneDiff'. -/
def fnZoneDiffCard : Claim7 := { stood := { row := fnZoneDiffRow, standIns := [], harness := (true, "ef2494b24e90e1e7c9a0b30b58b717824f091322b8b45cd3114df0bdd6b6492a"), looks := false }, kinds := [], alts := [], laidByText := true, laidKinds := [.data, .data, .data], laidTests := true, laidLooks := .later }
def FnZoneDiffCardSaid : Prop := Claim7.holds Tryd.pinned (.plain (OpenSpec.ofChange fnZoneDiffSpec)) fnZoneDiffCard

/-- THE SECOND FORM's CARD OF 'laws.FnZoneTrips'. -/
def fnZoneTripsUptoCard : Claim7 := { stood := { row := fnZoneTripsUptoRow, standIns := [], harness := (true, "ef2494b24e90e1e7c9a0b30b58b717824f091322b8b45cd3114df0bdd6b6492a"), looks := false }, kinds := [], alts := [], laidByText := true, laidKinds := [.data, .data, .data], laidTests := true, laidLooks := .later }
def FnZoneTripsUptoCardSaid : Prop := Claim7.holds Tryd.pinned (.plain (OpenSpec.upto fnZoneTripsSpec)) fnZoneTripsUptoCard

/-- THE SECOND FORM's CARD OF 'laws.FnZoneValid'. -/
def fnZoneValidUptoCard : Claim7 := { stood := { row := fnZoneValidUptoRow, standIns := [], harness := (true, "ef2494b24e90e1e7c9a0b30b58b717824f091322b8b45cd3114df0bdd6b6492a"), looks := false }, kinds := [], alts := [], laidByText := true, laidKinds := [.data, .data, .data], laidTests := true, laidLooks := .later }
def FnZoneValidUptoCardSaid : Prop := Claim7.holds Tryd.pinned (.plain (OpenSpec.upto fnZoneValidSpec)) fnZoneValidUptoCard

/-- THE SECOND FORM's CARD OF 'laws.FnZoneLoad'. -/
def fnZoneLoadUptoCard : Claim7 := { stood := { row := fnZoneLoadUptoRow, standIns := [], harness := (true, "ef2494b24e90e1e7c9a0b30b58b717824f091322b8b45cd3114df0bdd6b6492a"), looks := false }, kinds := [], alts := [], laidByText := true, laidKinds := [.data, .data, .data], laidTests := true, laidLooks := .later }
def FnZoneLoadUptoCardSaid : Prop := Claim7.holds Tryd.pinned (.plain (OpenSpec.upto fnZoneLoadSpec)) fnZoneLoadUptoCard

/-- THE SECOND FORM's CARD OF 'laws.FnZoneFlow'. -/
def fnZoneFlowUptoCard : Claim7 := { stood := { row := fnZoneFlowUptoRow, standIns := [], harness := (true, "ef2494b24e90e1e7c9a0b30b58b717824f091322b8b45cd3114df0bdd6b6492a"), looks := false }, kinds := [], alts := [], laidByText := true, laidKinds := [.data, .data, .data], laidTests := true, laidLooks := .later }
def FnZoneFlowUptoCardSaid : Prop := Claim7.holds Tryd.pinned (.plain (OpenSpec.upto fnZoneFlowSpec)) fnZoneFlowUptoCard

/-- THE SECOND FORM's CARD OF 'laws.FnZoneDiff'. -/
def fnZoneDiffUptoCard : Claim7 := { stood := { row := fnZoneDiffUptoRow, standIns := [], harness := (true, "ef2494b24e90e1e7c9a0b30b58b717824f091322b8b45cd3114df0bdd6b6492a"), looks := false }, kinds := [], alts := [], laidByText := true, laidKinds := [.data, .data, .data], laidTests := true, laidLooks := .later }
def FnZoneDiffUptoCardSaid : Prop := Claim7.holds Tryd.pinned (.plain (OpenSpec.upto fnZoneDiffSpec)) fnZoneDiffUptoCard
end Rows
end Go.Proofs.YtdfgdeccejcpfaaDoor
