/-
  DERIVED. GIVEN WITH THE SEED: THE CARDS: each row of YtkibkmhmlkfhfaaDoorRows.lean that lists a variable, with what it lists TIED to the program's text (the seventh form; the later family's looks); each row that meets fmt, with fmt's text TOLD by the authors' own Lean function (tested against real Go, not proved from fmt's source: count such statements apart). THE CARD IS WHAT COUNTS. Prove the row's statement (the work); the ties are given (YtkibkmhmlkfhfaaDoorTie.lean); close each card by the builder's one call (the guide's Derived/Test/ToyasCard.lean, 'card_holds'). Laid BY PROGRAM, IN A SANDBOX (cutbox-door.mjs). By AI agents, Wed Nov 11 2026. No macro, syntax, notation, axiom, sorry.
-/
import Derived.Test.YtkibkmhmlkfhfaaDoorRows
import GoSem.ClaimSeven
namespace Go.Proofs.YtkibkmhmlkfhfaaDoor
namespace Rows

/-- THE TIED CARD OF 'laws.FnRecValid'. -/
def fnRecValidCard : Claim7 := { stood := { row := fnRecValidRow, standIns := [], harness := (true, "f0f6077e7a71ef0471744c3ca87f133afee6cc12d84d027e403720cfd7a29cdf"), looks := false }, kinds := [], alts := [], laidByText := true, laidKinds := [.data, .data, .data], laidTests := true, laidLooks := .later }
def FnRecValidCardSaid : Prop := Claim7.holds Tryd.pinned (.plain (OpenSpec.ofChange fnRecValidSpec)) fnRecValidCard

/-- THE TIED CARD OF 'laws.FnRecStep'. -/
def fnRecStepCard : Claim7 := { stood := { row := fnRecStepRow, standIns := [], harness := (true, "f0f6077e7a71ef0471744c3ca87f133afee6cc12d84d027e403720cfd7a29cdf"), looks := false }, kinds := [], alts := [], laidByText := true, laidKinds := [.data, .data, .data], laidTests := true, laidLooks := .later }
def FnRecStepCardSaid : Prop := Claim7.holds Tryd.pinned (.plain (OpenSpec.ofChange fnRecStepSpec)) fnRecStepCard

/-- THE TIED CARD OF 'laws.FnRecReset'. -/
def fnRecResetCard : Claim7 := { stood := { row := fnRecResetRow, standIns := [], harness := (true, "f0f6077e7a71ef0471744c3ca87f133afee6cc12d84d027e403720cfd7a29cdf"), looks := false }, kinds := [], alts := [], laidByText := true, laidKinds := [.data, .data, .data], laidTests := true, laidLooks := .later }
def FnRecResetCardSaid : Prop := Claim7.holds Tryd.pinned (.plain (OpenSpec.ofChange fnRecResetSpec)) fnRecResetCard

/-- THE TIED CARD OF 'laws.FnRecRun'. -/
def fnRecRunCard : Claim7 := { stood := { row := fnRecRunRow, standIns := [], harness := (true, "f0f6077e7a71ef0471744c3ca87f133afee6cc12d84d027e403720cfd7a29cdf"), looks := false }, kinds := [], alts := [], laidByText := true, laidKinds := [.data, .data, .data], laidTests := true, laidLooks := .later }
def FnRecRunCardSaid : Prop := Claim7.holds Tryd.pinned (.plain (OpenSpec.ofChange fnRecRunSpec)) fnRecRunCard

/-- THE TIED CARD OF 'laws.FnRecTicks'. -/
def fnRecTicksCard : Claim7 := { stood := { row := fnRecTicksRow, standIns := [], harness := (true, "f0f6077e7a71ef0471744c3ca87f133afee6cc12d84d027e403720cfd7a29cdf"), looks := false }, kinds := [], alts := [], laidByText := true, laidKinds := [.data, .data, .data], laidTests := true, laidLooks := .later }
def FnRecTicksCardSaid : Prop := Claim7.holds Tryd.pinned (.plain (OpenSpec.ofChange fnRecTicksSpec)) fnRecTicksCard

/-- THE SECOND FORM's CARD OF 'laws.FnRecValid'. -/
def fnRecValidUptoCard : Claim7 := { stood := { row := fnRecValidUptoRow, standIns := [], harness := (true, "f0f6077e7a71ef0471744c3ca87f133afee6cc12d84d027e403720cfd7a29cdf"), looks := false }, kinds := [], alts := [], laidByText := true, laidKinds := [.data, .data, .data], laidTests := true, laidLooks := .later }
def FnRecValidUptoCardSaid : Prop := Claim7.holds Tryd.pinned (.plain (OpenSpec.upto fnRecValidSpec)) fnRecValidUptoCard

/-- THE SECOND FORM's CARD OF 'laws.FnRecStep'. -/
def fnRecStepUptoCard : Claim7 := { stood := { row := fnRecStepUptoRow, standIns := [], harness := (true, "f0f6077e7a71ef0471744c3ca87f133afee6cc12d84d027e403720cfd7a29cdf"), looks := false }, kinds := [], alts := [], laidByText := true, laidKinds := [.data, .data, .data], laidTests := true, laidLooks := .later }
def FnRecStepUptoCardSaid : Prop := Claim7.holds Tryd.pinned (.plain (OpenSpec.upto fnRecStepSpec)) fnRecStepUptoCard

/-- THE SECOND FORM's CARD OF 'laws.FnRecReset'. -/
def fnRecResetUptoCard : Claim7 := { stood := { row := fnRecResetUptoRow, standIns := [], harness := (true, "f0f6077e7a71ef0471744c3ca87f133afee6cc12d84d027e403720cfd7a29cdf"), looks := false }, kinds := [], alts := [], laidByText := true, laidKinds := [.data, .data, .data], laidTests := true, laidLooks := .later }
def FnRecResetUptoCardSaid : Prop := Claim7.holds Tryd.pinned (.plain (OpenSpec.upto fnRecResetSpec)) fnRecResetUptoCard

/-- THE SECOND FORM's CARD OF 'laws.FnRecRun'. -/
def fnRecRunUptoCard : Claim7 := { stood := { row := fnRecRunUptoRow, standIns := [], harness := (true, "f0f6077e7a71ef0471744c3ca87f133afee6cc12d84d027e403720cfd7a29cdf"), looks := false }, kinds := [], alts := [], laidByText := true, laidKinds := [.data, .data, .data], laidTests := true, laidLooks := .later }
def FnRecRunUptoCardSaid : Prop := Claim7.holds Tryd.pinned (.plain (OpenSpec.upto fnRecRunSpec)) fnRecRunUptoCard

/-- THE SECOND FORM's CARD OF 'laws.FnRecTicks'. -/
def fnRecTicksUptoCard : Claim7 := { stood := { row := fnRecTicksUptoRow, standIns := [], harness := (true, "f0f6077e7a71ef0471744c3ca87f133afee6cc12d84d027e403720cfd7a29cdf"), looks := false }, kinds := [], alts := [], laidByText := true, laidKinds := [.data, .data, .data], laidTests := true, laidLooks := .later }
def FnRecTicksUptoCardSaid : Prop := Claim7.holds Tryd.pinned (.plain (OpenSpec.upto fnRecTicksSpec)) fnRecTicksUptoCard
end Rows
end Go.Proofs.YtkibkmhmlkfhfaaDoor
