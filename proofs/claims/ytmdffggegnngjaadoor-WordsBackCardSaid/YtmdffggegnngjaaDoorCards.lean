/-
  DERIVED. GIVEN WITH THE SEED: THE CARDS: each row of YtmdffggegnngjaaDoorRows.lean that lists a variable, with what it lists TIED to the program's text (the seventh form; the later family's looks); each row that meets fmt, with fmt's text TOLD by the authors' own Lean function (tested against real Go, not proved from fmt's source: count such statements apart). THE CARD IS WHAT COUNTS. Prove the row's statement (the work); the ties are given (YtmdffggegnngjaaDoorTie.lean); close each card by the builder's one call (the guide's Derived/Test/ToyasCard.lean, 'card_holds'). Laid BY PROGRAM, IN A SANDBOX (cutbox-door.mjs). By AI agents, Wed Nov 11 2026. No macro, syntax, notation, axiom, sorry.
-/
import Derived.Test.YtmdffggegnngjaaDoorRows
import GoSem.ClaimSeven
namespace Go.Proofs.YtmdffggegnngjaaDoor
namespace Rows

/-- THE TIED CARD OF 'pergolalaw03.WordsKeys'. -/
def wordsKeysCard : Claim7 := { stood := { row := wordsKeysRow, standIns := [], harness := (true, "7f74418b43cfee3e16a8935a7718554759ca7405b61a37b9e57573a24dda82d9"), looks := true }, kinds := [], alts := [], laidByText := true, laidKinds := [.data, .data, .data, .sentinel, .sentinel], laidTests := true, laidLooks := .later }
def WordsKeysCardSaid : Prop := Claim7.holds Tryd.pinned (.plain (OpenSpec.ofChange wordsKeysSpec)) wordsKeysCard

/-- THE TIED CARD OF 'pergolalaw03.WordsTexts'. -/
def wordsTextsCard : Claim7 := { stood := { row := wordsTextsRow, standIns := [], harness := (true, "7f74418b43cfee3e16a8935a7718554759ca7405b61a37b9e57573a24dda82d9"), looks := true }, kinds := [], alts := [], laidByText := true, laidKinds := [.data, .data, .data, .sentinel, .sentinel], laidTests := true, laidLooks := .later }
def WordsTextsCardSaid : Prop := Claim7.holds Tryd.pinned (.plain (OpenSpec.ofChange wordsTextsSpec)) wordsTextsCard

/-- THE TIED CARD OF 'pergolalaw03.WordsBytes'. -/
def wordsBytesCard : Claim7 := { stood := { row := wordsBytesRow, standIns := [], harness := (true, "7f74418b43cfee3e16a8935a7718554759ca7405b61a37b9e57573a24dda82d9"), looks := true }, kinds := [], alts := [], laidByText := true, laidKinds := [.data, .data, .data, .sentinel, .sentinel], laidTests := true, laidLooks := .later }
def WordsBytesCardSaid : Prop := Claim7.holds Tryd.pinned (.plain (OpenSpec.ofChange wordsBytesSpec)) wordsBytesCard

/-- THE TIED CARD OF 'pergolalaw03.WordsBack'. -/
def wordsBackCard : Claim7 := { stood := { row := wordsBackRow, standIns := [], harness := (true, "7f74418b43cfee3e16a8935a7718554759ca7405b61a37b9e57573a24dda82d9"), looks := true }, kinds := [], alts := [], laidByText := true, laidKinds := [.data, .data, .data, .sentinel, .sentinel], laidTests := true, laidLooks := .later }
def WordsBackCardSaid : Prop := Claim7.holds Tryd.pinned (.plain (OpenSpec.ofChange wordsBackSpec)) wordsBackCard

/-- THE TIED CARD OF 'pergolalaw03.WordsOrder'. -/
def wordsOrderCard : Claim7 := { stood := { row := wordsOrderRow, standIns := [], harness := (true, "7f74418b43cfee3e16a8935a7718554759ca7405b61a37b9e57573a24dda82d9"), looks := true }, kinds := [], alts := [], laidByText := true, laidKinds := [.data, .data, .data, .sentinel, .sentinel], laidTests := true, laidLooks := .later }
def WordsOrderCardSaid : Prop := Claim7.holds Tryd.pinned (.plain (OpenSpec.ofChange wordsOrderSpec)) wordsOrderCard

/-- THE TIED CARD OF 'pergolalaw03.WordsTakesBack'. -/
def wordsTakesBackCard : Claim7 := { stood := { row := wordsTakesBackRow, standIns := [], harness := (true, "7f74418b43cfee3e16a8935a7718554759ca7405b61a37b9e57573a24dda82d9"), looks := true }, kinds := [], alts := [], laidByText := true, laidKinds := [.data, .data, .data, .sentinel, .sentinel], laidTests := true, laidLooks := .later }
def WordsTakesBackCardSaid : Prop := Claim7.holds Tryd.pinned (.plain (OpenSpec.ofChange wordsTakesBackSpec)) wordsTakesBackCard

/-- THE SECOND FORM's CARD OF 'pergolalaw03.WordsKeys'. -/
def wordsKeysUptoCard : Claim7 := { stood := { row := wordsKeysUptoRow, standIns := [], harness := (true, "7f74418b43cfee3e16a8935a7718554759ca7405b61a37b9e57573a24dda82d9"), looks := true }, kinds := [], alts := [], laidByText := true, laidKinds := [.data, .data, .data, .sentinel, .sentinel], laidTests := true, laidLooks := .later }
def WordsKeysUptoCardSaid : Prop := Claim7.holds Tryd.pinned (.plain (OpenSpec.upto wordsKeysSpec)) wordsKeysUptoCard

/-- THE SECOND FORM's CARD OF 'pergolalaw03.WordsTexts'. -/
def wordsTextsUptoCard : Claim7 := { stood := { row := wordsTextsUptoRow, standIns := [], harness := (true, "7f74418b43cfee3e16a8935a7718554759ca7405b61a37b9e57573a24dda82d9"), looks := true }, kinds := [], alts := [], laidByText := true, laidKinds := [.data, .data, .data, .sentinel, .sentinel], laidTests := true, laidLooks := .later }
def WordsTextsUptoCardSaid : Prop := Claim7.holds Tryd.pinned (.plain (OpenSpec.upto wordsTextsSpec)) wordsTextsUptoCard

/-- THE SECOND FORM's CARD OF 'pergolalaw03.WordsBytes'. -/
def wordsBytesUptoCard : Claim7 := { stood := { row := wordsBytesUptoRow, standIns := [], harness := (true, "7f74418b43cfee3e16a8935a7718554759ca7405b61a37b9e57573a24dda82d9"), looks := true }, kinds := [], alts := [], laidByText := true, laidKinds := [.data, .data, .data, .sentinel, .sentinel], laidTests := true, laidLooks := .later }
def WordsBytesUptoCardSaid : Prop := Claim7.holds Tryd.pinned (.plain (OpenSpec.upto wordsBytesSpec)) wordsBytesUptoCard

/-- THE SECOND FORM's CARD OF 'pergolalaw03.WordsBack'. -/
def wordsBackUptoCard : Claim7 := { stood := { row := wordsBackUptoRow, standIns := [], harness := (true, "7f74418b43cfee3e16a8935a7718554759ca7405b61a37b9e57573a24dda82d9"), looks := true }, kinds := [], alts := [], laidByText := true, laidKinds := [.data, .data, .data, .sentinel, .sentinel], laidTests := true, laidLooks := .later }
def WordsBackUptoCardSaid : Prop := Claim7.holds Tryd.pinned (.plain (OpenSpec.upto wordsBackSpec)) wordsBackUptoCard

/-- THE SECOND FORM's CARD OF 'pergolalaw03.WordsOrder'. -/
def wordsOrderUptoCard : Claim7 := { stood := { row := wordsOrderUptoRow, standIns := [], harness := (true, "7f74418b43cfee3e16a8935a7718554759ca7405b61a37b9e57573a24dda82d9"), looks := true }, kinds := [], alts := [], laidByText := true, laidKinds := [.data, .data, .data, .sentinel, .sentinel], laidTests := true, laidLooks := .later }
def WordsOrderUptoCardSaid : Prop := Claim7.holds Tryd.pinned (.plain (OpenSpec.upto wordsOrderSpec)) wordsOrderUptoCard

/-- THE SECOND FORM's CARD OF 'pergolalaw03.WordsTakesBack'. -/
def wordsTakesBackUptoCard : Claim7 := { stood := { row := wordsTakesBackUptoRow, standIns := [], harness := (true, "7f74418b43cfee3e16a8935a7718554759ca7405b61a37b9e57573a24dda82d9"), looks := true }, kinds := [], alts := [], laidByText := true, laidKinds := [.data, .data, .data, .sentinel, .sentinel], laidTests := true, laidLooks := .later }
def WordsTakesBackUptoCardSaid : Prop := Claim7.holds Tryd.pinned (.plain (OpenSpec.upto wordsTakesBackSpec)) wordsTakesBackUptoCard
end Rows
end Go.Proofs.YtmdffggegnngjaaDoor
