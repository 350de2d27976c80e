/-
  DERIVED. GIVEN WITH THE SEED: THE CARDS: each row of YtlbiahpajcfcfaaDoorRows.lean that lists a variable, with what it lists TIED to the program's text (the seventh form; the later family's looks); each row that meets fmt, with fmt's text TOLD by the authors' own Lean function (tested against real Go, not proved from fmt's source: count such statements apart). THE CARD IS WHAT COUNTS. Prove the row's statement (the work); the ties are given (YtlbiahpajcfcfaaDoorTie.lean); close each card by the builder's one call (the guide's Derived/Test/ToyasCard.lean, 'card_holds'). Laid BY PROGRAM, IN A SANDBOX (cutbox-door.mjs). By AI agents, Wed Nov 11 2026. No macro, syntax, notation, axiom, sorry.
-/
import Derived.Test.YtlbiahpajcfcfaaDoorRows
import GoSem.ClaimSeven
namespace Go.Proofs.YtlbiahpajcfcfaaDoor
namespace Rows

/-- THE TIED CARD OF 'pergolalaw14.OpcodeInfos'. -/
def opcodeInfosCard : Claim7 := { stood := { row := opcodeInfosRow, standIns := [], harness := (true, "d65bf8acff3660d1427d95e6763b315a9cd9e74f2f5c30d2ebb1cc2e914b5e40"), looks := true }, kinds := [], alts := [], laidByText := true, laidKinds := [.data, .data, .data, .sentinel, .sentinel], laidTests := true, laidLooks := .later }
def OpcodeInfosCardSaid : Prop := Claim7.holds Tryd.pinned (.plain (OpenSpec.ofChange opcodeInfosSpec)) opcodeInfosCard

/-- THE TIED CARD OF 'pergolalaw14.OpcodeMarks'. -/
def opcodeMarksCard : Claim7 := { stood := { row := opcodeMarksRow, standIns := [], harness := (true, "d65bf8acff3660d1427d95e6763b315a9cd9e74f2f5c30d2ebb1cc2e914b5e40"), looks := true }, kinds := [], alts := [], laidByText := true, laidKinds := [.data, .data, .data, .sentinel, .sentinel], laidTests := true, laidLooks := .later }
def OpcodeMarksCardSaid : Prop := Claim7.holds Tryd.pinned (.plain (OpenSpec.ofChange opcodeMarksSpec)) opcodeMarksCard

/-- THE TIED CARD OF 'pergolalaw14.OpcodeAssembles'. -/
def opcodeAssemblesCard : Claim7 := { stood := { row := opcodeAssemblesRow, standIns := [], harness := (true, "d65bf8acff3660d1427d95e6763b315a9cd9e74f2f5c30d2ebb1cc2e914b5e40"), looks := true }, kinds := [], alts := [], laidByText := true, laidKinds := [.data, .data, .data, .sentinel, .sentinel], laidTests := true, laidLooks := .later }
def OpcodeAssemblesCardSaid : Prop := Claim7.holds Tryd.pinned (.plain (OpenSpec.ofChange opcodeAssemblesSpec)) opcodeAssemblesCard

/-- THE TIED CARD OF 'pergolalaw14.OpcodePrints'. -/
def opcodePrintsCard : Claim7 := { stood := { row := opcodePrintsRow, standIns := [], harness := (true, "d65bf8acff3660d1427d95e6763b315a9cd9e74f2f5c30d2ebb1cc2e914b5e40"), looks := true }, kinds := [], alts := [], laidByText := true, laidKinds := [.data, .data, .data, .sentinel, .sentinel], laidTests := true, laidLooks := .later }
def OpcodePrintsCardSaid : Prop := Claim7.holds Tryd.pinned (.plain (OpenSpec.ofChange opcodePrintsSpec)) opcodePrintsCard

/-- THE TIED CARD OF 'pergolalaw14.OpcodeBack'. -/
def opcodeBackCard : Claim7 := { stood := { row := opcodeBackRow, standIns := [], harness := (true, "d65bf8acff3660d1427d95e6763b315a9cd9e74f2f5c30d2ebb1cc2e914b5e40"), looks := true }, kinds := [], alts := [], laidByText := true, laidKinds := [.data, .data, .data, .sentinel, .sentinel], laidTests := true, laidLooks := .later }
def OpcodeBackCardSaid : Prop := Claim7.holds Tryd.pinned (.plain (OpenSpec.ofChange opcodeBackSpec)) opcodeBackCard

/-- THE TIED CARD OF 'pergolalaw14.OpcodeAgain'. -/
def opcodeAgainCard : Claim7 := { stood := { row := opcodeAgainRow, standIns := [], harness := (true, "d65bf8acff3660d1427d95e6763b315a9cd9e74f2f5c30d2ebb1cc2e914b5e40"), looks := true }, kinds := [], alts := [], laidByText := true, laidKinds := [.data, .data, .data, .sentinel, .sentinel], laidTests := true, laidLooks := .later }
def OpcodeAgainCardSaid : Prop := Claim7.holds Tryd.pinned (.plain (OpenSpec.ofChange opcodeAgainSpec)) opcodeAgainCard

/-- THE TIED CARD OF 'pergolalaw14.OpcodeJoins'. -/
def opcodeJoinsCard : Claim7 := { stood := { row := opcodeJoinsRow, standIns := [], harness := (true, "d65bf8acff3660d1427d95e6763b315a9cd9e74f2f5c30d2ebb1cc2e914b5e40"), looks := true }, kinds := [], alts := [], laidByText := true, laidKinds := [.data, .data, .data, .sentinel, .sentinel], laidTests := true, laidLooks := .later }
def OpcodeJoinsCardSaid : Prop := Claim7.holds Tryd.pinned (.plain (OpenSpec.ofChange opcodeJoinsSpec)) opcodeJoinsCard

/-- THE TIED CARD OF 'pergolalaw14.OpcodePieces'. -/
def opcodePiecesCard : Claim7 := { stood := { row := opcodePiecesRow, standIns := [], harness := (true, "d65bf8acff3660d1427d95e6763b315a9cd9e74f2f5c30d2ebb1cc2e914b5e40"), looks := true }, kinds := [], alts := [], laidByText := true, laidKinds := [.data, .data, .data, .sentinel, .sentinel], laidTests := true, laidLooks := .later }
def OpcodePiecesCardSaid : Prop := Claim7.holds Tryd.pinned (.plain (OpenSpec.ofChange opcodePiecesSpec)) opcodePiecesCard

/-- THE SECOND FORM's CARD OF 'pergolalaw14.OpcodeInfos'. -/
def opcodeInfosUptoCard : Claim7 := { stood := { row := opcodeInfosUptoRow, standIns := [], harness := (true, "d65bf8acff3660d1427d95e6763b315a9cd9e74f2f5c30d2ebb1cc2e914b5e40"), looks := true }, kinds := [], alts := [], laidByText := true, laidKinds := [.data, .data, .data, .sentinel, .sentinel], laidTests := true, laidLooks := .later }
def OpcodeInfosUptoCardSaid : Prop := Claim7.holds Tryd.pinned (.plain (OpenSpec.upto opcodeInfosSpec)) opcodeInfosUptoCard

/-- THE SECOND FORM's CARD OF 'pergolalaw14.OpcodeMarks'. -/
def opcodeMarksUptoCard : Claim7 := { stood := { row := opcodeMarksUptoRow, standIns := [], harness := (true, "d65bf8acff3660d1427d95e6763b315a9cd9e74f2f5c30d2ebb1cc2e914b5e40"), looks := true }, kinds := [], alts := [], laidByText := true, laidKinds := [.data, .data, .data, .sentinel, .sentinel], laidTests := true, laidLooks := .later }
def OpcodeMarksUptoCardSaid : Prop := Claim7.holds Tryd.pinned (.plain (OpenSpec.upto opcodeMarksSpec)) opcodeMarksUptoCard

/-- THE SECOND FORM's CARD OF 'pergolalaw14.OpcodeAssembles'. -/
def opcodeAssemblesUptoCard : Claim7 := { stood := { row := opcodeAssemblesUptoRow, standIns := [], harness := (true, "d65bf8acff3660d1427d95e6763b315a9cd9e74f2f5c30d2ebb1cc2e914b5e40"), looks := true }, kinds := [], alts := [], laidByText := true, laidKinds := [.data, .data, .data, .sentinel, .sentinel], laidTests := true, laidLooks := .later }
def OpcodeAssemblesUptoCardSaid : Prop := Claim7.holds Tryd.pinned (.plain (OpenSpec.upto opcodeAssemblesSpec)) opcodeAssemblesUptoCard

/-- THE SECOND FORM's CARD OF 'pergolalaw14.OpcodePrints'. -/
def opcodePrintsUptoCard : Claim7 := { stood := { row := opcodePrintsUptoRow, standIns := [], harness := (true, "d65bf8acff3660d1427d95e6763b315a9cd9e74f2f5c30d2ebb1cc2e914b5e40"), looks := true }, kinds := [], alts := [], laidByText := true, laidKinds := [.data, .data, .data, .sentinel, .sentinel], laidTests := true, laidLooks := .later }
def OpcodePrintsUptoCardSaid : Prop := Claim7.holds Tryd.pinned (.plain (OpenSpec.upto opcodePrintsSpec)) opcodePrintsUptoCard

/-- THE SECOND FORM's CARD OF 'pergolalaw14.OpcodeBack'. -/
def opcodeBackUptoCard : Claim7 := { stood := { row := opcodeBackUptoRow, standIns := [], harness := (true, "d65bf8acff3660d1427d95e6763b315a9cd9e74f2f5c30d2ebb1cc2e914b5e40"), looks := true }, kinds := [], alts := [], laidByText := true, laidKinds := [.data, .data, .data, .sentinel, .sentinel], laidTests := true, laidLooks := .later }
def OpcodeBackUptoCardSaid : Prop := Claim7.holds Tryd.pinned (.plain (OpenSpec.upto opcodeBackSpec)) opcodeBackUptoCard

/-- THE SECOND FORM's CARD OF 'pergolalaw14.OpcodeAgain'. -/
def opcodeAgainUptoCard : Claim7 := { stood := { row := opcodeAgainUptoRow, standIns := [], harness := (true, "d65bf8acff3660d1427d95e6763b315a9cd9e74f2f5c30d2ebb1cc2e914b5e40"), looks := true }, kinds := [], alts := [], laidByText := true, laidKinds := [.data, .data, .data, .sentinel, .sentinel], laidTests := true, laidLooks := .later }
def OpcodeAgainUptoCardSaid : Prop := Claim7.holds Tryd.pinned (.plain (OpenSpec.upto opcodeAgainSpec)) opcodeAgainUptoCard

/-- THE SECOND FORM's CARD OF 'pergolalaw14.OpcodeJoins'. -/
def opcodeJoinsUptoCard : Claim7 := { stood := { row := opcodeJoinsUptoRow, standIns := [], harness := (true, "d65bf8acff3660d1427d95e6763b315a9cd9e74f2f5c30d2ebb1cc2e914b5e40"), looks := true }, kinds := [], alts := [], laidByText := true, laidKinds := [.data, .data, .data, .sentinel, .sentinel], laidTests := true, laidLooks := .later }
def OpcodeJoinsUptoCardSaid : Prop := Claim7.holds Tryd.pinned (.plain (OpenSpec.upto opcodeJoinsSpec)) opcodeJoinsUptoCard

/-- THE SECOND FORM's CARD OF 'pergolalaw14.OpcodePieces'. -/
def opcodePiecesUptoCard : Claim7 := { stood := { row := opcodePiecesUptoRow, standIns := [], harness := (true, "d65bf8acff3660d1427d95e6763b315a9cd9e74f2f5c30d2ebb1cc2e914b5e40"), looks := true }, kinds := [], alts := [], laidByText := true, laidKinds := [.data, .data, .data, .sentinel, .sentinel], laidTests := true, laidLooks := .later }
def OpcodePiecesUptoCardSaid : Prop := Claim7.holds Tryd.pinned (.plain (OpenSpec.upto opcodePiecesSpec)) opcodePiecesUptoCard
end Rows
end Go.Proofs.YtlbiahpajcfcfaaDoor
