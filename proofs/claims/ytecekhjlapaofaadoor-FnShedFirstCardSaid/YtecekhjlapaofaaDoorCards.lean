/-
  DERIVED. GIVEN WITH THE SEED: THE CARDS: each row of YtecekhjlapaofaaDoorRows.lean that lists a variable, with what it lists TIED to the program's text (the seventh form; the later family's looks); each row that meets fmt, with fmt's text TOLD by the authors' own Lean function (tested against real Go, not proved from fmt's source: count such statements apart). THE CARD IS WHAT COUNTS. Prove the row's statement (the work); the ties are given (YtecekhjlapaofaaDoorTie.lean); close each card by the builder's one call (the guide's Derived/Test/ToyasCard.lean, 'card_holds'). Laid BY PROGRAM, IN A SANDBOX (cutbox-door.mjs). By AI agents, Wed Nov 11 2026. No macro, syntax, notation, axiom, sorry.
-/
import Derived.Test.YtecekhjlapaofaaDoorRows
import GoSem.ClaimSeven
namespace Go.Proofs.YtecekhjlapaofaaDoor
namespace Rows

/-- THE TIED CARD OF 'laws.FnShedFirst'. -/
def fnShedFirstCard : Claim7 := { stood := { row := fnShedFirstRow, standIns := [], harness := (true, "5b7e50a0b0fce5c7d4291c9c57efe5d9a959515b8f2d82e885799eb1531920b3"), looks := false }, kinds := [], alts := [], laidByText := true, laidKinds := [.data, .data, .data], laidTests := true, laidLooks := .later }
def FnShedFirstCardSaid : Prop := Claim7.holds Tryd.pinned (.plain (OpenSpec.ofChange fnShedFirstSpec)) fnShedFirstCard

/-- THE TIED CARD OF 'laws.FnExactShedLeast'. -/
def fnExactShedLeastCard : Claim7 := { stood := { row := fnExactShedLeastRow, standIns := [], harness := (true, "5b7e50a0b0fce5c7d4291c9c57efe5d9a959515b8f2d82e885799eb1531920b3"), looks := false }, kinds := [], alts := [], laidByText := true, laidKinds := [.data, .data], laidTests := true, laidLooks := .later }
def FnExactShedLeastCardSaid : Prop := Claim7.holds Tryd.pinned (.plain (OpenSpec.ofChange fnExactShedLeastSpec)) fnExactShedLeastCard

/-- THE TIED CARD OF 'laws.FnBlocksValid'. -/
def fnBlocksValidCard : Claim7 := { stood := { row := fnBlocksValidRow, standIns := [], harness := (true, "5b7e50a0b0fce5c7d4291c9c57efe5d9a959515b8f2d82e885799eb1531920b3"), looks := false }, kinds := [], alts := [], laidByText := true, laidKinds := [.data, .data, .data], laidTests := true, laidLooks := .later }
def FnBlocksValidCardSaid : Prop := Claim7.holds Tryd.pinned (.plain (OpenSpec.ofChange fnBlocksValidSpec)) fnBlocksValidCard

/-- THE TIED CARD OF 'laws.FnShedLeast'. -/
def fnShedLeastCard : Claim7 := { stood := { row := fnShedLeastRow, standIns := [], harness := (true, "5b7e50a0b0fce5c7d4291c9c57efe5d9a959515b8f2d82e885799eb1531920b3"), looks := false }, kinds := [], alts := [], laidByText := true, laidKinds := [.data, .data, .data], laidTests := true, laidLooks := .later }
def FnShedLeastCardSaid : Prop := Claim7.holds Tryd.pinned (.plain (OpenSpec.ofChange fnShedLeastSpec)) fnShedLeastCard

/-- THE TIED CARD OF 'laws.FnShedSum'. -/
def fnShedSumCard : Claim7 := { stood := { row := fnShedSumRow, standIns := [], harness := (true, "5b7e50a0b0fce5c7d4291c9c57efe5d9a959515b8f2d82e885799eb1531920b3"), looks := false }, kinds := [], alts := [], laidByText := true, laidKinds := [.data, .data, .data], laidTests := true, laidLooks := .later }
def FnShedSumCardSaid : Prop := Claim7.holds Tryd.pinned (.plain (OpenSpec.ofChange fnShedSumSpec)) fnShedSumCard

/-- THE SECOND FORM's CARD OF 'laws.FnShedFirst'. -/
def fnShedFirstUptoCard : Claim7 := { stood := { row := fnShedFirstUptoRow, standIns := [], harness := (true, "5b7e50a0b0fce5c7d4291c9c57efe5d9a959515b8f2d82e885799eb1531920b3"), looks := false }, kinds := [], alts := [], laidByText := true, laidKinds := [.data, .data, .data], laidTests := true, laidLooks := .later }
def FnShedFirstUptoCardSaid : Prop := Claim7.holds Tryd.pinned (.plain (OpenSpec.upto fnShedFirstSpec)) fnShedFirstUptoCard

/-- THE SECOND FORM's CARD OF 'laws.FnExactShedLeast'. -/
def fnExactShedLeastUptoCard : Claim7 := { stood := { row := fnExactShedLeastUptoRow, standIns := [], harness := (true, "5b7e50a0b0fce5c7d4291c9c57efe5d9a959515b8f2d82e885799eb1531920b3"), looks := false }, kinds := [], alts := [], laidByText := true, laidKinds := [.data, .data], laidTests := true, laidLooks := .later }
def FnExactShedLeastUptoCardSaid : Prop := Claim7.holds Tryd.pinned (.plain (OpenSpec.upto fnExactShedLeastSpec)) fnExactShedLeastUptoCard

/-- THE SECOND FORM's CARD OF 'laws.FnBlocksValid'. -/
def fnBlocksValidUptoCard : Claim7 := { stood := { row := fnBlocksValidUptoRow, standIns := [], harness := (true, "5b7e50a0b0fce5c7d4291c9c57efe5d9a959515b8f2d82e885799eb1531920b3"), looks := false }, kinds := [], alts := [], laidByText := true, laidKinds := [.data, .data, .data], laidTests := true, laidLooks := .later }
def FnBlocksValidUptoCardSaid : Prop := Claim7.holds Tryd.pinned (.plain (OpenSpec.upto fnBlocksValidSpec)) fnBlocksValidUptoCard

/-- THE SECOND FORM's CARD OF 'laws.FnShedLeast'. -/
def fnShedLeastUptoCard : Claim7 := { stood := { row := fnShedLeastUptoRow, standIns := [], harness := (true, "5b7e50a0b0fce5c7d4291c9c57efe5d9a959515b8f2d82e885799eb1531920b3"), looks := false }, kinds := [], alts := [], laidByText := true, laidKinds := [.data, .data, .data], laidTests := true, laidLooks := .later }
def FnShedLeastUptoCardSaid : Prop := Claim7.holds Tryd.pinned (.plain (OpenSpec.upto fnShedLeastSpec)) fnShedLeastUptoCard

/-- THE SECOND FORM's CARD OF 'laws.FnShedSum'. -/
def fnShedSumUptoCard : Claim7 := { stood := { row := fnShedSumUptoRow, standIns := [], harness := (true, "5b7e50a0b0fce5c7d4291c9c57efe5d9a959515b8f2d82e885799eb1531920b3"), looks := false }, kinds := [], alts := [], laidByText := true, laidKinds := [.data, .data, .data], laidTests := true, laidLooks := .later }
def FnShedSumUptoCardSaid : Prop := Claim7.holds Tryd.pinned (.plain (OpenSpec.upto fnShedSumSpec)) fnShedSumUptoCard
end Rows
end Go.Proofs.YtecekhjlapaofaaDoor
