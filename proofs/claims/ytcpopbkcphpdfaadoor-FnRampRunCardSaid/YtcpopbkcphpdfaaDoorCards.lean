/-
  DERIVED. GIVEN WITH THE SEED: THE CARDS: each row of YtcpopbkcphpdfaaDoorRows.lean that lists a variable, with what it lists TIED to the program's text (the seventh form; the later family's looks); each row that meets fmt, with fmt's text TOLD by the authors' own Lean function (tested against real Go, not proved from fmt's source: count such statements apart). THE CARD IS WHAT COUNTS. Prove the row's statement (the work); the ties are given (YtcpopbkcphpdfaaDoorTie.lean); close each card by the builder's one call (the guide's Derived/Test/ToyasCard.lean, 'card_holds'). Laid BY PROGRAM, IN A SANDBOX (cutbox-door.mjs). By AI agents, Wed Nov 11 2026. No macro, syntax, notation, axiom, sorry.
-/
import Derived.Test.YtcpopbkcphpdfaaDoorRows
import GoSem.ClaimSeven
namespace Go.Proofs.YtcpopbkcphpdfaaDoor
namespace Rows

/-- THE TIED CARD OF 'laws.FnUnitsValid'. -/
def fnUnitsValidCard : Claim7 := { stood := { row := fnUnitsValidRow, standIns := [], harness := (true, "47e60eba3217ef3289d72caa5464e2f11e4fdaf30da7d6ed2bc73cdb92d43cd4"), looks := false }, kinds := [], alts := [], laidByText := true, laidKinds := [.data, .data, .data], laidTests := true, laidLooks := .later }
def FnUnitsValidCardSaid : Prop := Claim7.holds Tryd.pinned (.plain (OpenSpec.ofChange fnUnitsValidSpec)) fnUnitsValidCard

/-- THE TIED CARD OF 'laws.FnOutputsValid'. -/
def fnOutputsValidCard : Claim7 := { stood := { row := fnOutputsValidRow, standIns := [], harness := (true, "47e60eba3217ef3289d72caa5464e2f11e4fdaf30da7d6ed2bc73cdb92d43cd4"), looks := false }, kinds := [], alts := [], laidByText := true, laidKinds := [.data, .data, .data], laidTests := true, laidLooks := .later }
def FnOutputsValidCardSaid : Prop := Claim7.holds Tryd.pinned (.plain (OpenSpec.ofChange fnOutputsValidSpec)) fnOutputsValidCard

/-- THE TIED CARD OF 'laws.FnOutputCost'. -/
def fnOutputCostCard : Claim7 := { stood := { row := fnOutputCostRow, standIns := [], harness := (true, "47e60eba3217ef3289d72caa5464e2f11e4fdaf30da7d6ed2bc73cdb92d43cd4"), looks := false }, kinds := [], alts := [], laidByText := true, laidKinds := [.data, .data, .data], laidTests := true, laidLooks := .later }
def FnOutputCostCardSaid : Prop := Claim7.holds Tryd.pinned (.plain (OpenSpec.ofChange fnOutputCostSpec)) fnOutputCostCard

/-- THE TIED CARD OF 'laws.FnRampUnits'. -/
def fnRampUnitsCard : Claim7 := { stood := { row := fnRampUnitsRow, standIns := [], harness := (true, "47e60eba3217ef3289d72caa5464e2f11e4fdaf30da7d6ed2bc73cdb92d43cd4"), looks := false }, kinds := [], alts := [], laidByText := true, laidKinds := [.data, .data, .data], laidTests := true, laidLooks := .later }
def FnRampUnitsCardSaid : Prop := Claim7.holds Tryd.pinned (.plain (OpenSpec.ofChange fnRampUnitsSpec)) fnRampUnitsCard

/-- THE TIED CARD OF 'laws.FnNextCost'. -/
def fnNextCostCard : Claim7 := { stood := { row := fnNextCostRow, standIns := [], harness := (true, "47e60eba3217ef3289d72caa5464e2f11e4fdaf30da7d6ed2bc73cdb92d43cd4"), looks := false }, kinds := [], alts := [], laidByText := true, laidKinds := [.data, .data, .data], laidTests := true, laidLooks := .later }
def FnNextCostCardSaid : Prop := Claim7.holds Tryd.pinned (.plain (OpenSpec.ofChange fnNextCostSpec)) fnNextCostCard

/-- THE TIED CARD OF 'laws.FnDispatch'. -/
def fnDispatchCard : Claim7 := { stood := { row := fnDispatchRow, standIns := [], harness := (true, "47e60eba3217ef3289d72caa5464e2f11e4fdaf30da7d6ed2bc73cdb92d43cd4"), looks := false }, kinds := [], alts := [], laidByText := true, laidKinds := [.data, .data, .data], laidTests := true, laidLooks := .later }
def FnDispatchCardSaid : Prop := Claim7.holds Tryd.pinned (.plain (OpenSpec.ofChange fnDispatchSpec)) fnDispatchCard

/-- THE TIED CARD OF 'laws.FnRampRange'. -/
def fnRampRangeCard : Claim7 := { stood := { row := fnRampRangeRow, standIns := [], harness := (true, "47e60eba3217ef3289d72caa5464e2f11e4fdaf30da7d6ed2bc73cdb92d43cd4"), looks := false }, kinds := [], alts := [], laidByText := true, laidKinds := [.data, .data, .data], laidTests := true, laidLooks := .later }
def FnRampRangeCardSaid : Prop := Claim7.holds Tryd.pinned (.plain (OpenSpec.ofChange fnRampRangeSpec)) fnRampRangeCard

/-- THE TIED CARD OF 'laws.FnCommitCost'. -/
def fnCommitCostCard : Claim7 := { stood := { row := fnCommitCostRow, standIns := [], harness := (true, "47e60eba3217ef3289d72caa5464e2f11e4fdaf30da7d6ed2bc73cdb92d43cd4"), looks := false }, kinds := [], alts := [], laidByText := true, laidKinds := [.data, .data, .data], laidTests := true, laidLooks := .later }
def FnCommitCostCardSaid : Prop := Claim7.holds Tryd.pinned (.plain (OpenSpec.ofChange fnCommitCostSpec)) fnCommitCostCard

/-- THE TIED CARD OF 'laws.FnSpareOf'. -/
def fnSpareOfCard : Claim7 := { stood := { row := fnSpareOfRow, standIns := [], harness := (true, "47e60eba3217ef3289d72caa5464e2f11e4fdaf30da7d6ed2bc73cdb92d43cd4"), looks := false }, kinds := [], alts := [], laidByText := true, laidKinds := [.data, .data, .data], laidTests := true, laidLooks := .later }
def FnSpareOfCardSaid : Prop := Claim7.holds Tryd.pinned (.plain (OpenSpec.ofChange fnSpareOfSpec)) fnSpareOfCard

/-- THE TIED CARD OF 'laws.FnRampNext'. -/
def fnRampNextCard : Claim7 := { stood := { row := fnRampNextRow, standIns := [], harness := (true, "47e60eba3217ef3289d72caa5464e2f11e4fdaf30da7d6ed2bc73cdb92d43cd4"), looks := false }, kinds := [], alts := [], laidByText := true, laidKinds := [.data, .data, .data], laidTests := true, laidLooks := .later }
def FnRampNextCardSaid : Prop := Claim7.holds Tryd.pinned (.plain (OpenSpec.ofChange fnRampNextSpec)) fnRampNextCard

/-- THE TIED CARD OF 'laws.FnRampRun'. -/
def fnRampRunCard : Claim7 := { stood := { row := fnRampRunRow, standIns := [], harness := (true, "47e60eba3217ef3289d72caa5464e2f11e4fdaf30da7d6ed2bc73cdb92d43cd4"), looks := false }, kinds := [], alts := [], laidByText := true, laidKinds := [.data, .data, .data], laidTests := true, laidLooks := .later }
def FnRampRunCardSaid : Prop := Claim7.holds Tryd.pinned (.plain (OpenSpec.ofChange fnRampRunSpec)) fnRampRunCard

/-- THE TIED CARD OF 'laws.FnCommit'. -/
def fnCommitCard : Claim7 := { stood := { row := fnCommitRow, standIns := [], harness := (true, "47e60eba3217ef3289d72caa5464e2f11e4fdaf30da7d6ed2bc73cdb92d43cd4"), looks := false }, kinds := [], alts := [], laidByText := true, laidKinds := [.data, .data, .data], laidTests := true, laidLooks := .later }
def FnCommitCardSaid : Prop := Claim7.holds Tryd.pinned (.plain (OpenSpec.ofChange fnCommitSpec)) fnCommitCard

/-- THE SECOND FORM's CARD OF 'laws.FnUnitsValid'. -/
def fnUnitsValidUptoCard : Claim7 := { stood := { row := fnUnitsValidUptoRow, standIns := [], harness := (true, "47e60eba3217ef3289d72caa5464e2f11e4fdaf30da7d6ed2bc73cdb92d43cd4"), looks := false }, kinds := [], alts := [], laidByText := true, laidKinds := [.data, .data, .data], laidTests := true, laidLooks := .later }
def FnUnitsValidUptoCardSaid : Prop := Claim7.holds Tryd.pinned (.plain (OpenSpec.upto fnUnitsValidSpec)) fnUnitsValidUptoCard

/-- THE SECOND FORM's CARD OF 'laws.FnOutputsValid'. -/
def fnOutputsValidUptoCard : Claim7 := { stood := { row := fnOutputsValidUptoRow, standIns := [], harness := (true, "47e60eba3217ef3289d72caa5464e2f11e4fdaf30da7d6ed2bc73cdb92d43cd4"), looks := false }, kinds := [], alts := [], laidByText := true, laidKinds := [.data, .data, .data], laidTests := true, laidLooks := .later }
def FnOutputsValidUptoCardSaid : Prop := Claim7.holds Tryd.pinned (.plain (OpenSpec.upto fnOutputsValidSpec)) fnOutputsValidUptoCard

/-- THE SECOND FORM's CARD OF 'laws.FnOutputCost'. -/
def fnOutputCostUptoCard : Claim7 := { stood := { row := fnOutputCostUptoRow, standIns := [], harness := (true, "47e60eba3217ef3289d72caa5464e2f11e4fdaf30da7d6ed2bc73cdb92d43cd4"), looks := false }, kinds := [], alts := [], laidByText := true, laidKinds := [.data, .data, .data], laidTests := true, laidLooks := .later }
def FnOutputCostUptoCardSaid : Prop := Claim7.holds Tryd.pinned (.plain (OpenSpec.upto fnOutputCostSpec)) fnOutputCostUptoCard

/-- THE SECOND FORM's CARD OF 'laws.FnRampUnits'. -/
def fnRampUnitsUptoCard : Claim7 := { stood := { row := fnRampUnitsUptoRow, standIns := [], harness := (true, "47e60eba3217ef3289d72caa5464e2f11e4fdaf30da7d6ed2bc73cdb92d43cd4"), looks := false }, kinds := [], alts := [], laidByText := true, laidKinds := [.data, .data, .data], laidTests := true, laidLooks := .later }
def FnRampUnitsUptoCardSaid : Prop := Claim7.holds Tryd.pinned (.plain (OpenSpec.upto fnRampUnitsSpec)) fnRampUnitsUptoCard

/-- THE SECOND FORM's CARD OF 'laws.FnNextCost'. -/
def fnNextCostUptoCard : Claim7 := { stood := { row := fnNextCostUptoRow, standIns := [], harness := (true, "47e60eba3217ef3289d72caa5464e2f11e4fdaf30da7d6ed2bc73cdb92d43cd4"), looks := false }, kinds := [], alts := [], laidByText := true, laidKinds := [.data, .data, .data], laidTests := true, laidLooks := .later }
def FnNextCostUptoCardSaid : Prop := Claim7.holds Tryd.pinned (.plain (OpenSpec.upto fnNextCostSpec)) fnNextCostUptoCard

/-- THE SECOND FORM's CARD OF 'laws.FnDispatch'. -/
def fnDispatchUptoCard : Claim7 := { stood := { row := fnDispatchUptoRow, standIns := [], harness := (true, "47e60eba3217ef3289d72caa5464e2f11e4fdaf30da7d6ed2bc73cdb92d43cd4"), looks := false }, kinds := [], alts := [], laidByText := true, laidKinds := [.data, .data, .data], laidTests := true, laidLooks := .later }
def FnDispatchUptoCardSaid : Prop := Claim7.holds Tryd.pinned (.plain (OpenSpec.upto fnDispatchSpec)) fnDispatchUptoCard

/-- THE SECOND FORM's CARD OF 'laws.FnRampRange'. -/
def fnRampRangeUptoCard : Claim7 := { stood := { row := fnRampRangeUptoRow, standIns := [], harness := (true, "47e60eba3217ef3289d72caa5464e2f11e4fdaf30da7d6ed2bc73cdb92d43cd4"), looks := false }, kinds := [], alts := [], laidByText := true, laidKinds := [.data, .data, .data], laidTests := true, laidLooks := .later }
def FnRampRangeUptoCardSaid : Prop := Claim7.holds Tryd.pinned (.plain (OpenSpec.upto fnRampRangeSpec)) fnRampRangeUptoCard

/-- THE SECOND FORM's CARD OF 'laws.FnCommitCost'. -/
def fnCommitCostUptoCard : Claim7 := { stood := { row := fnCommitCostUptoRow, standIns := [], harness := (true, "47e60eba3217ef3289d72caa5464e2f11e4fdaf30da7d6ed2bc73cdb92d43cd4"), looks := false }, kinds := [], alts := [], laidByText := true, laidKinds := [.data, .data, .data], laidTests := true, laidLooks := .later }
def FnCommitCostUptoCardSaid : Prop := Claim7.holds Tryd.pinned (.plain (OpenSpec.upto fnCommitCostSpec)) fnCommitCostUptoCard

/-- THE SECOND FORM's CARD OF 'laws.FnSpareOf'. -/
def fnSpareOfUptoCard : Claim7 := { stood := { row := fnSpareOfUptoRow, standIns := [], harness := (true, "47e60eba3217ef3289d72caa5464e2f11e4fdaf30da7d6ed2bc73cdb92d43cd4"), looks := false }, kinds := [], alts := [], laidByText := true, laidKinds := [.data, .data, .data], laidTests := true, laidLooks := .later }
def FnSpareOfUptoCardSaid : Prop := Claim7.holds Tryd.pinned (.plain (OpenSpec.upto fnSpareOfSpec)) fnSpareOfUptoCard

/-- THE SECOND FORM's CARD OF 'laws.FnRampNext'. -/
def fnRampNextUptoCard : Claim7 := { stood := { row := fnRampNextUptoRow, standIns := [], harness := (true, "47e60eba3217ef3289d72caa5464e2f11e4fdaf30da7d6ed2bc73cdb92d43cd4"), looks := false }, kinds := [], alts := [], laidByText := true, laidKinds := [.data, .data, .data], laidTests := true, laidLooks := .later }
def FnRampNextUptoCardSaid : Prop := Claim7.holds Tryd.pinned (.plain (OpenSpec.upto fnRampNextSpec)) fnRampNextUptoCard

/-- THE SECOND FORM's CARD OF 'laws.FnRampRun'. -/
def fnRampRunUptoCard : Claim7 := { stood := { row := fnRampRunUptoRow, standIns := [], harness := (true, "47e60eba3217ef3289d72caa5464e2f11e4fdaf30da7d6ed2bc73cdb92d43cd4"), looks := false }, kinds := [], alts := [], laidByText := true, laidKinds := [.data, .data, .data], laidTests := true, laidLooks := .later }
def FnRampRunUptoCardSaid : Prop := Claim7.holds Tryd.pinned (.plain (OpenSpec.upto fnRampRunSpec)) fnRampRunUptoCard

/-- THE SECOND FORM's CARD OF 'laws.FnCommit'. -/
def fnCommitUptoCard : Claim7 := { stood := { row := fnCommitUptoRow, standIns := [], harness := (true, "47e60eba3217ef3289d72caa5464e2f11e4fdaf30da7d6ed2bc73cdb92d43cd4"), looks := false }, kinds := [], alts := [], laidByText := true, laidKinds := [.data, .data, .data], laidTests := true, laidLooks := .later }
def FnCommitUptoCardSaid : Prop := Claim7.holds Tryd.pinned (.plain (OpenSpec.upto fnCommitSpec)) fnCommitUptoCard
end Rows
end Go.Proofs.YtcpopbkcphpdfaaDoor
