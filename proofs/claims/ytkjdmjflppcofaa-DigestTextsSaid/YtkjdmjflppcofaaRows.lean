/-
  No cell of these rows narrows 'for every input' (looked for: loops, veiled, ifaces, maps, wideKeys, modest, calm, conditions, laid).
  DERIVED. THE GIVEN ROWS OF THIS SEAT. 7 by the template 'for every input the law returns true; each argument reads behind the call as it read before'; 0 by the template 'total and deterministic' (their statements: YtkjdmjflppcofaaTotals.lean).
  GIVEN WITH THE SEED: the statements are not yours to turn. If you find one false, say at which input.
  Laid BY PROGRAM, IN A SANDBOX (cutbox-rows.mjs): the forced cells as the released guide's own fill.sh prints them over the translation 02c24e59c58dc45a… (all of the seat's roots in one cut). By AI agents, Wed Nov 11 2026. No macro, syntax, notation, axiom, sorry.
-/
import Derived.Test.YtkjdmjflppcofaaChecked
import GoSem.Claim
import GoSem.ClaimJoined
import GoSem.ClaimMapViews
import Derived.JoinedTies
import Derived.KernelRfl
namespace Go.Proofs.Ytkjdmjflppcofaa
/- THE CELL 'sum', in the pinned program and in every row, IS THE sha256 OF THE DUMP (.gsa) THAT YtkjdmjflppcofaaProg.lean LOADS. Nothing in Lean hashes anything: it is a label: what it is worth is what the hold of that sum in a sandbox is worth. -/
noncomputable def Try.pinned : Pinned := { name := "ytkjdmjflppcofaa", sum := "02c24e59c58dc45a08763fc18f9fadbe90b4859b75aeebf6ef71d38985bdec84", checked := Try.checked }
namespace Rows
def none {H : Type} : Left H := { results := [], args := [] }

/-- 'pergolalaw03.WordsSums': WHATEVER THE INPUT: true; the input reads as it did. -/
def wordsSumsSpec : ChangeSpec := { name := "wordsSums", fn := fun _ => fun
  | [d1, d2] => { results := [.lit (.bool true)], args := [d1, d2] }
  | _ => none }
def wordsSumsRow : OpenClaim := { program := "ytkjdmjflppcofaa", sum := "02c24e59c58dc45a08763fc18f9fadbe90b4859b75aeebf6ef71d38985bdec84", func := "pergola/pergolalaw03.WordsSums", spec := "wordsSums", inPlace := ["math/bits.Add64"], apart := false }
def WordsSumsSaid : Prop := wordsSumsRow.holds Try.pinned (OpenSpec.ofChange wordsSumsSpec)

/-- ITS FALSE NEIGHBOUR: 'it returns false'. Refute it at one input. -/
def wordsSumsWrong : ChangeSpec := { name := "wordsSums", fn := fun _ => fun
  | [d1, d2] => { results := [.lit (.bool false)], args := [d1, d2] }
  | _ => none }
def WordsSumsWrongFalsely : Prop := wordsSumsRow.holds Try.pinned (OpenSpec.ofChange wordsSumsWrong)

/-- 'pergolalaw01.DigestOf': WHATEVER THE INPUT: true; the input reads as it did. -/
def digestOfSpec : ChangeSpec := { name := "digestOf", fn := fun _ => fun
  | [d] => { results := [.lit (.bool true)], args := [d] }
  | _ => none }
def digestOfRow : OpenClaim := { program := "ytkjdmjflppcofaa", sum := "02c24e59c58dc45a08763fc18f9fadbe90b4859b75aeebf6ef71d38985bdec84", func := "pergola/pergolalaw01.DigestOf", spec := "digestOf", apart := false }
def DigestOfSaid : Prop := digestOfRow.holds Try.pinned (OpenSpec.ofChange digestOfSpec)

/-- ITS FALSE NEIGHBOUR: 'it returns false'. Refute it at one input. -/
def digestOfWrong : ChangeSpec := { name := "digestOf", fn := fun _ => fun
  | [d] => { results := [.lit (.bool false)], args := [d] }
  | _ => none }
def DigestOfWrongFalsely : Prop := digestOfRow.holds Try.pinned (OpenSpec.ofChange digestOfWrong)

/-- 'pergolalaw01.DigestTexts': WHATEVER THE INPUT: true; the input reads as it did. -/
def digestTextsSpec : ChangeSpec := { name := "digestTexts", fn := fun _ => fun
  | [d1, d2] => { results := [.lit (.bool true)], args := [d1, d2] }
  | _ => none }
def digestTextsRow : OpenClaim := { program := "ytkjdmjflppcofaa", sum := "02c24e59c58dc45a08763fc18f9fadbe90b4859b75aeebf6ef71d38985bdec84", func := "pergola/pergolalaw01.DigestTexts", spec := "digestTexts", apart := false }
def DigestTextsSaid : Prop := digestTextsRow.holds Try.pinned (OpenSpec.ofChange digestTextsSpec)

/-- ITS FALSE NEIGHBOUR: 'it returns false'. Refute it at one input. -/
def digestTextsWrong : ChangeSpec := { name := "digestTexts", fn := fun _ => fun
  | [d1, d2] => { results := [.lit (.bool false)], args := [d1, d2] }
  | _ => none }
def DigestTextsWrongFalsely : Prop := digestTextsRow.holds Try.pinned (OpenSpec.ofChange digestTextsWrong)

/-- 'pergolalaw01.DigestBack': WHATEVER THE INPUT: true; the input reads as it did. -/
def digestBackSpec : ChangeSpec := { name := "digestBack", fn := fun _ => fun
  | [d1, d2] => { results := [.lit (.bool true)], args := [d1, d2] }
  | _ => none }
def digestBackRow : OpenClaim := { program := "ytkjdmjflppcofaa", sum := "02c24e59c58dc45a08763fc18f9fadbe90b4859b75aeebf6ef71d38985bdec84", func := "pergola/pergolalaw01.DigestBack", spec := "digestBack", apart := false }
def DigestBackSaid : Prop := digestBackRow.holds Try.pinned (OpenSpec.ofChange digestBackSpec)

/-- ITS FALSE NEIGHBOUR: 'it returns false'. Refute it at one input. -/
def digestBackWrong : ChangeSpec := { name := "digestBack", fn := fun _ => fun
  | [d1, d2] => { results := [.lit (.bool false)], args := [d1, d2] }
  | _ => none }
def DigestBackWrongFalsely : Prop := digestBackRow.holds Try.pinned (OpenSpec.ofChange digestBackWrong)

/-- 'pergolalaw01.DigestPieces': WHATEVER THE INPUT: true; the input reads as it did. -/
def digestPiecesSpec : ChangeSpec := { name := "digestPieces", fn := fun _ => fun
  | [d] => { results := [.lit (.bool true)], args := [d] }
  | _ => none }
def digestPiecesRow : OpenClaim := { program := "ytkjdmjflppcofaa", sum := "02c24e59c58dc45a08763fc18f9fadbe90b4859b75aeebf6ef71d38985bdec84", func := "pergola/pergolalaw01.DigestPieces", spec := "digestPieces", apart := false }
def DigestPiecesSaid : Prop := digestPiecesRow.holds Try.pinned (OpenSpec.ofChange digestPiecesSpec)

/-- ITS FALSE NEIGHBOUR: 'it returns false'. Refute it at one input. -/
def digestPiecesWrong : ChangeSpec := { name := "digestPieces", fn := fun _ => fun
  | [d] => { results := [.lit (.bool false)], args := [d] }
  | _ => none }
def DigestPiecesWrongFalsely : Prop := digestPiecesRow.holds Try.pinned (OpenSpec.ofChange digestPiecesWrong)

/-- 'pergolalaw01.DigestClones': WHATEVER THE INPUT: true; the input reads as it did. -/
def digestClonesSpec : ChangeSpec := { name := "digestClones", fn := fun _ => fun
  | [d1, d2, d3] => { results := [.lit (.bool true)], args := [d1, d2, d3] }
  | _ => none }
def digestClonesRow : OpenClaim := { program := "ytkjdmjflppcofaa", sum := "02c24e59c58dc45a08763fc18f9fadbe90b4859b75aeebf6ef71d38985bdec84", func := "pergola/pergolalaw01.DigestClones", spec := "digestClones", apart := false }
def DigestClonesSaid : Prop := digestClonesRow.holds Try.pinned (OpenSpec.ofChange digestClonesSpec)

/-- ITS FALSE NEIGHBOUR: 'it returns false'. Refute it at one input. -/
def digestClonesWrong : ChangeSpec := { name := "digestClones", fn := fun _ => fun
  | [d1, d2, d3] => { results := [.lit (.bool false)], args := [d1, d2, d3] }
  | _ => none }
def DigestClonesWrongFalsely : Prop := digestClonesRow.holds Try.pinned (OpenSpec.ofChange digestClonesWrong)

/-- 'pergolalaw01.DigestLess': WHATEVER THE INPUT: true; the input reads as it did. -/
def digestLessSpec : ChangeSpec := { name := "digestLess", fn := fun _ => fun
  | [d1, d2, d3] => { results := [.lit (.bool true)], args := [d1, d2, d3] }
  | _ => none }
def digestLessRow : OpenClaim := { program := "ytkjdmjflppcofaa", sum := "02c24e59c58dc45a08763fc18f9fadbe90b4859b75aeebf6ef71d38985bdec84", func := "pergola/pergolalaw01.DigestLess", spec := "digestLess", inPlace := ["internal/bytealg.Compare"], apart := false }
def DigestLessSaid : Prop := digestLessRow.holds Try.pinned (OpenSpec.ofChange digestLessSpec)

/-- ITS FALSE NEIGHBOUR: 'it returns false'. Refute it at one input. -/
def digestLessWrong : ChangeSpec := { name := "digestLess", fn := fun _ => fun
  | [d1, d2, d3] => { results := [.lit (.bool false)], args := [d1, d2, d3] }
  | _ => none }
def DigestLessWrongFalsely : Prop := digestLessRow.holds Try.pinned (OpenSpec.ofChange digestLessWrong)

/- THE SECOND FORM. 'bulk': how many values and letters a reading holds, each counted each time it is reached (what is shared counts as often as it is met; a slice's spare places count too). A statement '..UptoSaid' is the law's where the arguments, and the package variables that the reading takes, are together of bulk at most 1048576: NARROWER than '..Said'. Prove '..Said' where nothing that the law and all that it calls make is longer than what came in: it says more and counts as full. Else prove '..UptoSaid'. A law counts once. -/
mutual
def uptoBulk {H : Type} : DataW H → Nat
  | .lit (.string bytes) => bytes.length + 1
  | .lit _ => 1
  | .nil => 1
  | .ptr d => uptoBulk d + 1
  | .slice elems spare => uptoBulkAll elems + uptoBulkAll spare + 1
  | .agg parts => uptoBulkAll parts + 1
  | .iface _ d => uptoBulk d + 1
  | .map entries => uptoBulkEntries entries + 1
  | .held _ => 1
def uptoBulkAll {H : Type} : List (DataW H) → Nat
  | [] => 0
  | d :: r => uptoBulk d + uptoBulkAll r
def uptoBulkEntries {H : Type} : List (Lit × DataW H) → Nat
  | [] => 0
  | x :: r => uptoBulkEntry x + uptoBulkEntries r
def uptoBulkEntry {H : Type} : Lit × DataW H → Nat
  | (.string bytes, d) => bytes.length + uptoBulk d + 1
  | (_, d) => uptoBulk d + 1
 end
def uptoSmall : (H : Type) → List (DataW H) → Bool := fun _ ds => decide (uptoBulkAll ds ≤ 1048576)
def OpenSpec.upto (s : _root_.Go.ChangeSpec) : _root_.Go.OpenSpec := { _root_.Go.OpenSpec.ofChange s with cond := some uptoSmall }

/-- 'pergolalaw03.WordsSums', WHERE WHAT IT READS IS OF BULK AT MOST 1048576: true; the input reads as it did. -/
def wordsSumsUptoRow : OpenClaim := { program := "ytkjdmjflppcofaa", sum := "02c24e59c58dc45a08763fc18f9fadbe90b4859b75aeebf6ef71d38985bdec84", func := "pergola/pergolalaw03.WordsSums", spec := "wordsSums", inPlace := ["math/bits.Add64"], apart := false, narrowed := true }
def WordsSumsUptoSaid : Prop := wordsSumsUptoRow.holds Try.pinned (OpenSpec.upto wordsSumsSpec)

/-- 'pergolalaw01.DigestOf', WHERE WHAT IT READS IS OF BULK AT MOST 1048576: true; the input reads as it did. -/
def digestOfUptoRow : OpenClaim := { program := "ytkjdmjflppcofaa", sum := "02c24e59c58dc45a08763fc18f9fadbe90b4859b75aeebf6ef71d38985bdec84", func := "pergola/pergolalaw01.DigestOf", spec := "digestOf", apart := false, narrowed := true }
def DigestOfUptoSaid : Prop := digestOfUptoRow.holds Try.pinned (OpenSpec.upto digestOfSpec)

/-- 'pergolalaw01.DigestTexts', WHERE WHAT IT READS IS OF BULK AT MOST 1048576: true; the input reads as it did. -/
def digestTextsUptoRow : OpenClaim := { program := "ytkjdmjflppcofaa", sum := "02c24e59c58dc45a08763fc18f9fadbe90b4859b75aeebf6ef71d38985bdec84", func := "pergola/pergolalaw01.DigestTexts", spec := "digestTexts", apart := false, narrowed := true }
def DigestTextsUptoSaid : Prop := digestTextsUptoRow.holds Try.pinned (OpenSpec.upto digestTextsSpec)

/-- 'pergolalaw01.DigestBack', WHERE WHAT IT READS IS OF BULK AT MOST 1048576: true; the input reads as it did. -/
def digestBackUptoRow : OpenClaim := { program := "ytkjdmjflppcofaa", sum := "02c24e59c58dc45a08763fc18f9fadbe90b4859b75aeebf6ef71d38985bdec84", func := "pergola/pergolalaw01.DigestBack", spec := "digestBack", apart := false, narrowed := true }
def DigestBackUptoSaid : Prop := digestBackUptoRow.holds Try.pinned (OpenSpec.upto digestBackSpec)

/-- 'pergolalaw01.DigestPieces', WHERE WHAT IT READS IS OF BULK AT MOST 1048576: true; the input reads as it did. -/
def digestPiecesUptoRow : OpenClaim := { program := "ytkjdmjflppcofaa", sum := "02c24e59c58dc45a08763fc18f9fadbe90b4859b75aeebf6ef71d38985bdec84", func := "pergola/pergolalaw01.DigestPieces", spec := "digestPieces", apart := false, narrowed := true }
def DigestPiecesUptoSaid : Prop := digestPiecesUptoRow.holds Try.pinned (OpenSpec.upto digestPiecesSpec)

/-- 'pergolalaw01.DigestClones', WHERE WHAT IT READS IS OF BULK AT MOST 1048576: true; the input reads as it did. -/
def digestClonesUptoRow : OpenClaim := { program := "ytkjdmjflppcofaa", sum := "02c24e59c58dc45a08763fc18f9fadbe90b4859b75aeebf6ef71d38985bdec84", func := "pergola/pergolalaw01.DigestClones", spec := "digestClones", apart := false, narrowed := true }
def DigestClonesUptoSaid : Prop := digestClonesUptoRow.holds Try.pinned (OpenSpec.upto digestClonesSpec)

/-- 'pergolalaw01.DigestLess', WHERE WHAT IT READS IS OF BULK AT MOST 1048576: true; the input reads as it did. -/
def digestLessUptoRow : OpenClaim := { program := "ytkjdmjflppcofaa", sum := "02c24e59c58dc45a08763fc18f9fadbe90b4859b75aeebf6ef71d38985bdec84", func := "pergola/pergolalaw01.DigestLess", spec := "digestLess", inPlace := ["internal/bytealg.Compare"], apart := false, narrowed := true }
def DigestLessUptoSaid : Prop := digestLessUptoRow.holds Try.pinned (OpenSpec.upto digestLessSpec)

end Rows
end Go.Proofs.Ytkjdmjflppcofaa
