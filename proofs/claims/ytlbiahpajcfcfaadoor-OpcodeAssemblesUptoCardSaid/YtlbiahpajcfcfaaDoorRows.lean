/-
  NARROWER THAN 'FOR EVERY INPUT', by the rows' own cells (each row's printed sentence says how): OpcodeInfos: laid · OpcodeMarks: laid · OpcodeAssembles: laid · OpcodePrints: laid · OpcodeBack: laid · OpcodeAgain: laid · OpcodeJoins: laid · OpcodePieces: laid.
  DERIVED. THE GIVEN ROWS OF THIS SEAT. 8 by the template 'for every input the law returns true; each argument reads behind the call as it read before'; 0 by the template 'total and deterministic' (their statements: YtlbiahpajcfcfaaDoorTotals.lean).
  GIVEN WITH THE SEED: the statements are not yours to turn. If you find one false, say at which input.
  Laid BY PROGRAM, IN A SANDBOX (cutbox-rows.mjs): the forced cells as the released guide's own fill.sh prints them over the translation 64cd0319c28cee0c… (all of the seat's roots in one cut). By AI agents, Wed Nov 11 2026. No macro, syntax, notation, axiom, sorry.
-/
import Derived.Test.YtlbiahpajcfcfaaDoorChecked
import GoSem.Claim
import GoSem.ClaimJoined
import GoSem.ClaimMapViews
import Derived.JoinedTies
import Derived.KernelRfl
namespace Go.Proofs.YtlbiahpajcfcfaaDoor
/- THE CELL 'sum', in the pinned program and in every row, IS THE sha256 OF THE DUMP (.gsa) THAT YtlbiahpajcfcfaaDoorProg.lean LOADS. Nothing in Lean hashes anything: it is a label: what it is worth is what the hold of that sum in a sandbox is worth. -/
noncomputable def Tryd.pinned : Pinned := { name := "ytlbiahpajcfcfaadoor", sum := "64cd0319c28cee0c279647189317e847ddacc57ca412ca4b3bf0ad7d3ff2a90a", checked := Tryd.checked }
namespace Rows
def none {H : Type} : Left H := { results := [], args := [] }

/- WHAT THE LISTED PACKAGE-LEVEL VARIABLES READ AS WHEN THE CALL BEGINS. Each datum BY PROGRAM (the guide's laid-datum.mjs) off the statement by which the dump's own 'gosem.cut.vars' lays the variable. In a bare row this is a premise. The card (YtlbiahpajcfcfaaDoorCards.lean) ties it to the program's text. -/
def laid_math_bits_deBruijn32tab {H : Type} : DataW H := .agg [.lit (.int .u8 0), .lit (.int .u8 1), .lit (.int .u8 28), .lit (.int .u8 2), .lit (.int .u8 29), .lit (.int .u8 14), .lit (.int .u8 24), .lit (.int .u8 3), .lit (.int .u8 30), .lit (.int .u8 22), .lit (.int .u8 20), .lit (.int .u8 15), .lit (.int .u8 25), .lit (.int .u8 17), .lit (.int .u8 4), .lit (.int .u8 8), .lit (.int .u8 31), .lit (.int .u8 27), .lit (.int .u8 13), .lit (.int .u8 23), .lit (.int .u8 21), .lit (.int .u8 19), .lit (.int .u8 16), .lit (.int .u8 7), .lit (.int .u8 26), .lit (.int .u8 12), .lit (.int .u8 18), .lit (.int .u8 6), .lit (.int .u8 11), .lit (.int .u8 5), .lit (.int .u8 10), .lit (.int .u8 9)]
def laid_math_bits_deBruijn64tab {H : Type} : DataW H := .agg [.lit (.int .u8 0), .lit (.int .u8 1), .lit (.int .u8 56), .lit (.int .u8 2), .lit (.int .u8 57), .lit (.int .u8 49), .lit (.int .u8 28), .lit (.int .u8 3), .lit (.int .u8 61), .lit (.int .u8 58), .lit (.int .u8 42), .lit (.int .u8 50), .lit (.int .u8 38), .lit (.int .u8 29), .lit (.int .u8 17), .lit (.int .u8 4), .lit (.int .u8 62), .lit (.int .u8 47), .lit (.int .u8 59), .lit (.int .u8 36), .lit (.int .u8 45), .lit (.int .u8 43), .lit (.int .u8 51), .lit (.int .u8 22), .lit (.int .u8 53), .lit (.int .u8 39), .lit (.int .u8 33), .lit (.int .u8 30), .lit (.int .u8 24), .lit (.int .u8 18), .lit (.int .u8 12), .lit (.int .u8 5), .lit (.int .u8 63), .lit (.int .u8 55), .lit (.int .u8 48), .lit (.int .u8 27), .lit (.int .u8 60), .lit (.int .u8 41), .lit (.int .u8 37), .lit (.int .u8 16), .lit (.int .u8 46), .lit (.int .u8 35), .lit (.int .u8 44), .lit (.int .u8 21), .lit (.int .u8 52), .lit (.int .u8 32), .lit (.int .u8 23), .lit (.int .u8 11), .lit (.int .u8 54), .lit (.int .u8 26), .lit (.int .u8 40), .lit (.int .u8 15), .lit (.int .u8 34), .lit (.int .u8 20), .lit (.int .u8 31), .lit (.int .u8 10), .lit (.int .u8 25), .lit (.int .u8 14), .lit (.int .u8 19), .lit (.int .u8 9), .lit (.int .u8 13), .lit (.int .u8 8), .lit (.int .u8 7), .lit (.int .u8 6)]
def laid_internal_strconv_uint64pow10 {H : Type} : DataW H := .agg [.lit (.int .u64 1), .lit (.int .u64 10), .lit (.int .u64 100), .lit (.int .u64 1000), .lit (.int .u64 10000), .lit (.int .u64 100000), .lit (.int .u64 1000000), .lit (.int .u64 10000000), .lit (.int .u64 100000000), .lit (.int .u64 1000000000), .lit (.int .u64 10000000000), .lit (.int .u64 100000000000), .lit (.int .u64 1000000000000), .lit (.int .u64 10000000000000), .lit (.int .u64 100000000000000), .lit (.int .u64 1000000000000000), .lit (.int .u64 10000000000000000), .lit (.int .u64 100000000000000000), .lit (.int .u64 1000000000000000000), .lit (.int .u64 10000000000000000000)]
def laid_strconv_ErrRange {H : Type} : DataW H := .iface "*errors.errorString" (.ptr (.agg [.lit (.string [118, 97, 108, 117, 101, 32, 111, 117, 116, 32, 111, 102, 32, 114, 97, 110, 103, 101])]))
def laid_strconv_ErrSyntax {H : Type} : DataW H := .iface "*errors.errorString" (.ptr (.agg [.lit (.string [105, 110, 118, 97, 108, 105, 100, 32, 115, 121, 110, 116, 97, 120])]))

/-- 'pergolalaw14.OpcodeInfos': WHATEVER THE INPUT: true; the input reads as it did. -/
def opcodeInfosSpec : ChangeSpec := { name := "opcodeInfos", fn := fun _ => fun
  | [d] => { results := [.lit (.bool true)], args := [d] }
  | _ => none }
def opcodeInfosRow : OpenClaim := { program := "ytlbiahpajcfcfaadoor", sum := "64cd0319c28cee0c279647189317e847ddacc57ca412ca4b3bf0ad7d3ff2a90a", func := "pergola/pergolalaw14.OpcodeInfos", spec := "opcodeInfos", inPlace := ["internal/abi.NoEscape", "internal/bytealg.MakeNoZero"], named := ["strconv.ErrSyntax", "strconv.ErrRange", "internal/strconv.uint64pow10", "math/bits.deBruijn32tab", "math/bits.deBruijn64tab"], apart := false, laid := [("math/bits.deBruijn32tab", laid_math_bits_deBruijn32tab), ("math/bits.deBruijn64tab", laid_math_bits_deBruijn64tab), ("internal/strconv.uint64pow10", laid_internal_strconv_uint64pow10), ("strconv.ErrRange", laid_strconv_ErrRange), ("strconv.ErrSyntax", laid_strconv_ErrSyntax)] }
def OpcodeInfosSaid : Prop := opcodeInfosRow.holds Tryd.pinned (OpenSpec.ofChange opcodeInfosSpec)

/-- ITS FALSE NEIGHBOUR: 'it returns false'. Refute it at one input. -/
def opcodeInfosWrong : ChangeSpec := { name := "opcodeInfos", fn := fun _ => fun
  | [d] => { results := [.lit (.bool false)], args := [d] }
  | _ => none }
def OpcodeInfosWrongFalsely : Prop := opcodeInfosRow.holds Tryd.pinned (OpenSpec.ofChange opcodeInfosWrong)

/-- 'pergolalaw14.OpcodeMarks': WHATEVER THE INPUT: true; the input reads as it did. -/
def opcodeMarksSpec : ChangeSpec := { name := "opcodeMarks", fn := fun _ => fun
  | [d] => { results := [.lit (.bool true)], args := [d] }
  | _ => none }
def opcodeMarksRow : OpenClaim := { program := "ytlbiahpajcfcfaadoor", sum := "64cd0319c28cee0c279647189317e847ddacc57ca412ca4b3bf0ad7d3ff2a90a", func := "pergola/pergolalaw14.OpcodeMarks", spec := "opcodeMarks", inPlace := ["internal/abi.NoEscape", "internal/bytealg.MakeNoZero"], named := ["strconv.ErrSyntax", "strconv.ErrRange", "internal/strconv.uint64pow10", "math/bits.deBruijn32tab", "math/bits.deBruijn64tab"], apart := false, laid := [("math/bits.deBruijn32tab", laid_math_bits_deBruijn32tab), ("math/bits.deBruijn64tab", laid_math_bits_deBruijn64tab), ("internal/strconv.uint64pow10", laid_internal_strconv_uint64pow10), ("strconv.ErrRange", laid_strconv_ErrRange), ("strconv.ErrSyntax", laid_strconv_ErrSyntax)] }
def OpcodeMarksSaid : Prop := opcodeMarksRow.holds Tryd.pinned (OpenSpec.ofChange opcodeMarksSpec)

/-- ITS FALSE NEIGHBOUR: 'it returns false'. Refute it at one input. -/
def opcodeMarksWrong : ChangeSpec := { name := "opcodeMarks", fn := fun _ => fun
  | [d] => { results := [.lit (.bool false)], args := [d] }
  | _ => none }
def OpcodeMarksWrongFalsely : Prop := opcodeMarksRow.holds Tryd.pinned (OpenSpec.ofChange opcodeMarksWrong)

/-- 'pergolalaw14.OpcodeAssembles': WHATEVER THE INPUT: true; the input reads as it did. -/
def opcodeAssemblesSpec : ChangeSpec := { name := "opcodeAssembles", fn := fun _ => fun
  | [d] => { results := [.lit (.bool true)], args := [d] }
  | _ => none }
def opcodeAssemblesRow : OpenClaim := { program := "ytlbiahpajcfcfaadoor", sum := "64cd0319c28cee0c279647189317e847ddacc57ca412ca4b3bf0ad7d3ff2a90a", func := "pergola/pergolalaw14.OpcodeAssembles", spec := "opcodeAssembles", inPlace := ["internal/abi.NoEscape", "internal/bytealg.MakeNoZero"], named := ["strconv.ErrSyntax", "strconv.ErrRange", "internal/strconv.uint64pow10", "math/bits.deBruijn32tab", "math/bits.deBruijn64tab"], apart := false, laid := [("math/bits.deBruijn32tab", laid_math_bits_deBruijn32tab), ("math/bits.deBruijn64tab", laid_math_bits_deBruijn64tab), ("internal/strconv.uint64pow10", laid_internal_strconv_uint64pow10), ("strconv.ErrRange", laid_strconv_ErrRange), ("strconv.ErrSyntax", laid_strconv_ErrSyntax)] }
def OpcodeAssemblesSaid : Prop := opcodeAssemblesRow.holds Tryd.pinned (OpenSpec.ofChange opcodeAssemblesSpec)

/-- ITS FALSE NEIGHBOUR: 'it returns false'. Refute it at one input. -/
def opcodeAssemblesWrong : ChangeSpec := { name := "opcodeAssembles", fn := fun _ => fun
  | [d] => { results := [.lit (.bool false)], args := [d] }
  | _ => none }
def OpcodeAssemblesWrongFalsely : Prop := opcodeAssemblesRow.holds Tryd.pinned (OpenSpec.ofChange opcodeAssemblesWrong)

/-- 'pergolalaw14.OpcodePrints': WHATEVER THE INPUT: true; the input reads as it did. -/
def opcodePrintsSpec : ChangeSpec := { name := "opcodePrints", fn := fun _ => fun
  | [d] => { results := [.lit (.bool true)], args := [d] }
  | _ => none }
def opcodePrintsRow : OpenClaim := { program := "ytlbiahpajcfcfaadoor", sum := "64cd0319c28cee0c279647189317e847ddacc57ca412ca4b3bf0ad7d3ff2a90a", func := "pergola/pergolalaw14.OpcodePrints", spec := "opcodePrints", inPlace := ["internal/abi.NoEscape", "internal/bytealg.MakeNoZero"], named := ["internal/strconv.uint64pow10", "math/bits.deBruijn32tab", "math/bits.deBruijn64tab", "strconv.ErrSyntax", "strconv.ErrRange"], apart := false, laid := [("math/bits.deBruijn32tab", laid_math_bits_deBruijn32tab), ("math/bits.deBruijn64tab", laid_math_bits_deBruijn64tab), ("internal/strconv.uint64pow10", laid_internal_strconv_uint64pow10), ("strconv.ErrRange", laid_strconv_ErrRange), ("strconv.ErrSyntax", laid_strconv_ErrSyntax)] }
def OpcodePrintsSaid : Prop := opcodePrintsRow.holds Tryd.pinned (OpenSpec.ofChange opcodePrintsSpec)

/-- ITS FALSE NEIGHBOUR: 'it returns false'. Refute it at one input. -/
def opcodePrintsWrong : ChangeSpec := { name := "opcodePrints", fn := fun _ => fun
  | [d] => { results := [.lit (.bool false)], args := [d] }
  | _ => none }
def OpcodePrintsWrongFalsely : Prop := opcodePrintsRow.holds Tryd.pinned (OpenSpec.ofChange opcodePrintsWrong)

/-- 'pergolalaw14.OpcodeBack': WHATEVER THE INPUT: true; the input reads as it did. -/
def opcodeBackSpec : ChangeSpec := { name := "opcodeBack", fn := fun _ => fun
  | [d] => { results := [.lit (.bool true)], args := [d] }
  | _ => none }
def opcodeBackRow : OpenClaim := { program := "ytlbiahpajcfcfaadoor", sum := "64cd0319c28cee0c279647189317e847ddacc57ca412ca4b3bf0ad7d3ff2a90a", func := "pergola/pergolalaw14.OpcodeBack", spec := "opcodeBack", inPlace := ["internal/abi.NoEscape", "internal/bytealg.MakeNoZero"], named := ["internal/strconv.uint64pow10", "math/bits.deBruijn32tab", "math/bits.deBruijn64tab", "strconv.ErrSyntax", "strconv.ErrRange"], apart := false, laid := [("math/bits.deBruijn32tab", laid_math_bits_deBruijn32tab), ("math/bits.deBruijn64tab", laid_math_bits_deBruijn64tab), ("internal/strconv.uint64pow10", laid_internal_strconv_uint64pow10), ("strconv.ErrRange", laid_strconv_ErrRange), ("strconv.ErrSyntax", laid_strconv_ErrSyntax)] }
def OpcodeBackSaid : Prop := opcodeBackRow.holds Tryd.pinned (OpenSpec.ofChange opcodeBackSpec)

/-- ITS FALSE NEIGHBOUR: 'it returns false'. Refute it at one input. -/
def opcodeBackWrong : ChangeSpec := { name := "opcodeBack", fn := fun _ => fun
  | [d] => { results := [.lit (.bool false)], args := [d] }
  | _ => none }
def OpcodeBackWrongFalsely : Prop := opcodeBackRow.holds Tryd.pinned (OpenSpec.ofChange opcodeBackWrong)

/-- 'pergolalaw14.OpcodeAgain': WHATEVER THE INPUT: true; the input reads as it did. -/
def opcodeAgainSpec : ChangeSpec := { name := "opcodeAgain", fn := fun _ => fun
  | [d] => { results := [.lit (.bool true)], args := [d] }
  | _ => none }
def opcodeAgainRow : OpenClaim := { program := "ytlbiahpajcfcfaadoor", sum := "64cd0319c28cee0c279647189317e847ddacc57ca412ca4b3bf0ad7d3ff2a90a", func := "pergola/pergolalaw14.OpcodeAgain", spec := "opcodeAgain", inPlace := ["internal/abi.NoEscape", "internal/bytealg.MakeNoZero"], named := ["strconv.ErrSyntax", "strconv.ErrRange", "internal/strconv.uint64pow10", "math/bits.deBruijn32tab", "math/bits.deBruijn64tab"], apart := false, laid := [("math/bits.deBruijn32tab", laid_math_bits_deBruijn32tab), ("math/bits.deBruijn64tab", laid_math_bits_deBruijn64tab), ("internal/strconv.uint64pow10", laid_internal_strconv_uint64pow10), ("strconv.ErrRange", laid_strconv_ErrRange), ("strconv.ErrSyntax", laid_strconv_ErrSyntax)] }
def OpcodeAgainSaid : Prop := opcodeAgainRow.holds Tryd.pinned (OpenSpec.ofChange opcodeAgainSpec)

/-- ITS FALSE NEIGHBOUR: 'it returns false'. Refute it at one input. -/
def opcodeAgainWrong : ChangeSpec := { name := "opcodeAgain", fn := fun _ => fun
  | [d] => { results := [.lit (.bool false)], args := [d] }
  | _ => none }
def OpcodeAgainWrongFalsely : Prop := opcodeAgainRow.holds Tryd.pinned (OpenSpec.ofChange opcodeAgainWrong)

/-- 'pergolalaw14.OpcodeJoins': WHATEVER THE INPUT: true; the input reads as it did. -/
def opcodeJoinsSpec : ChangeSpec := { name := "opcodeJoins", fn := fun _ => fun
  | [d1, d2] => { results := [.lit (.bool true)], args := [d1, d2] }
  | _ => none }
def opcodeJoinsRow : OpenClaim := { program := "ytlbiahpajcfcfaadoor", sum := "64cd0319c28cee0c279647189317e847ddacc57ca412ca4b3bf0ad7d3ff2a90a", func := "pergola/pergolalaw14.OpcodeJoins", spec := "opcodeJoins", inPlace := ["internal/abi.NoEscape", "internal/bytealg.MakeNoZero"], named := ["strconv.ErrSyntax", "strconv.ErrRange", "internal/strconv.uint64pow10", "math/bits.deBruijn32tab", "math/bits.deBruijn64tab"], apart := false, laid := [("math/bits.deBruijn32tab", laid_math_bits_deBruijn32tab), ("math/bits.deBruijn64tab", laid_math_bits_deBruijn64tab), ("internal/strconv.uint64pow10", laid_internal_strconv_uint64pow10), ("strconv.ErrRange", laid_strconv_ErrRange), ("strconv.ErrSyntax", laid_strconv_ErrSyntax)] }
def OpcodeJoinsSaid : Prop := opcodeJoinsRow.holds Tryd.pinned (OpenSpec.ofChange opcodeJoinsSpec)

/-- ITS FALSE NEIGHBOUR: 'it returns false'. Refute it at one input. -/
def opcodeJoinsWrong : ChangeSpec := { name := "opcodeJoins", fn := fun _ => fun
  | [d1, d2] => { results := [.lit (.bool false)], args := [d1, d2] }
  | _ => none }
def OpcodeJoinsWrongFalsely : Prop := opcodeJoinsRow.holds Tryd.pinned (OpenSpec.ofChange opcodeJoinsWrong)

/-- 'pergolalaw14.OpcodePieces': WHATEVER THE INPUT: true; the input reads as it did. -/
def opcodePiecesSpec : ChangeSpec := { name := "opcodePieces", fn := fun _ => fun
  | [d1, d2] => { results := [.lit (.bool true)], args := [d1, d2] }
  | _ => none }
def opcodePiecesRow : OpenClaim := { program := "ytlbiahpajcfcfaadoor", sum := "64cd0319c28cee0c279647189317e847ddacc57ca412ca4b3bf0ad7d3ff2a90a", func := "pergola/pergolalaw14.OpcodePieces", spec := "opcodePieces", inPlace := ["internal/abi.NoEscape", "internal/bytealg.MakeNoZero"], named := ["internal/strconv.uint64pow10", "math/bits.deBruijn32tab", "math/bits.deBruijn64tab", "strconv.ErrSyntax", "strconv.ErrRange"], apart := false, laid := [("math/bits.deBruijn32tab", laid_math_bits_deBruijn32tab), ("math/bits.deBruijn64tab", laid_math_bits_deBruijn64tab), ("internal/strconv.uint64pow10", laid_internal_strconv_uint64pow10), ("strconv.ErrRange", laid_strconv_ErrRange), ("strconv.ErrSyntax", laid_strconv_ErrSyntax)] }
def OpcodePiecesSaid : Prop := opcodePiecesRow.holds Tryd.pinned (OpenSpec.ofChange opcodePiecesSpec)

/-- ITS FALSE NEIGHBOUR: 'it returns false'. Refute it at one input. -/
def opcodePiecesWrong : ChangeSpec := { name := "opcodePieces", fn := fun _ => fun
  | [d1, d2] => { results := [.lit (.bool false)], args := [d1, d2] }
  | _ => none }
def OpcodePiecesWrongFalsely : Prop := opcodePiecesRow.holds Tryd.pinned (OpenSpec.ofChange opcodePiecesWrong)

/- THE SECOND FORM. 'bulk': how many values and letters a reading holds, each counted each time it is reached (what is shared counts as often as it is met; a slice's spare places count too). A statement '..UptoSaid' is the law's where the arguments, and the package variables that the reading takes, are together of bulk at most 1048576: NARROWER than '..Said'. Prove '..Said' where nothing that the law and all that it calls make is longer than what came in: it says more and counts as full. Else prove '..UptoSaid'. A law counts once. -/
mutual
def uptoBulk {H : Type} : DataW H → Nat
  | .lit (.string bytes) => bytes.length + 1
  | .lit _ => 1
  | .nil => 1
  | .ptr d => uptoBulk d + 1
  | .slice elems spare => uptoBulkAll elems + uptoBulkAll spare + 1
  | .agg parts => uptoBulkAll parts + 1
  | .iface _ d => uptoBulk d + 1
  | .map entries => uptoBulkEntries entries + 1
  | .held _ => 1
def uptoBulkAll {H : Type} : List (DataW H) → Nat
  | [] => 0
  | d :: r => uptoBulk d + uptoBulkAll r
def uptoBulkEntries {H : Type} : List (Lit × DataW H) → Nat
  | [] => 0
  | x :: r => uptoBulkEntry x + uptoBulkEntries r
def uptoBulkEntry {H : Type} : Lit × DataW H → Nat
  | (.string bytes, d) => bytes.length + uptoBulk d + 1
  | (_, d) => uptoBulk d + 1
 end
def uptoSmall : (H : Type) → List (DataW H) → Bool := fun _ ds => decide (uptoBulkAll ds ≤ 1048576)
def OpenSpec.upto (s : _root_.Go.ChangeSpec) : _root_.Go.OpenSpec := { _root_.Go.OpenSpec.ofChange s with cond := some uptoSmall }

/-- 'pergolalaw14.OpcodeInfos', WHERE WHAT IT READS IS OF BULK AT MOST 1048576: true; the input reads as it did. -/
def opcodeInfosUptoRow : OpenClaim := { program := "ytlbiahpajcfcfaadoor", sum := "64cd0319c28cee0c279647189317e847ddacc57ca412ca4b3bf0ad7d3ff2a90a", func := "pergola/pergolalaw14.OpcodeInfos", spec := "opcodeInfos", inPlace := ["internal/abi.NoEscape", "internal/bytealg.MakeNoZero"], named := ["strconv.ErrSyntax", "strconv.ErrRange", "internal/strconv.uint64pow10", "math/bits.deBruijn32tab", "math/bits.deBruijn64tab"], apart := false, laid := [("math/bits.deBruijn32tab", laid_math_bits_deBruijn32tab), ("math/bits.deBruijn64tab", laid_math_bits_deBruijn64tab), ("internal/strconv.uint64pow10", laid_internal_strconv_uint64pow10), ("strconv.ErrRange", laid_strconv_ErrRange), ("strconv.ErrSyntax", laid_strconv_ErrSyntax)], narrowed := true }
def OpcodeInfosUptoSaid : Prop := opcodeInfosUptoRow.holds Tryd.pinned (OpenSpec.upto opcodeInfosSpec)

/-- 'pergolalaw14.OpcodeMarks', WHERE WHAT IT READS IS OF BULK AT MOST 1048576: true; the input reads as it did. -/
def opcodeMarksUptoRow : OpenClaim := { program := "ytlbiahpajcfcfaadoor", sum := "64cd0319c28cee0c279647189317e847ddacc57ca412ca4b3bf0ad7d3ff2a90a", func := "pergola/pergolalaw14.OpcodeMarks", spec := "opcodeMarks", inPlace := ["internal/abi.NoEscape", "internal/bytealg.MakeNoZero"], named := ["strconv.ErrSyntax", "strconv.ErrRange", "internal/strconv.uint64pow10", "math/bits.deBruijn32tab", "math/bits.deBruijn64tab"], apart := false, laid := [("math/bits.deBruijn32tab", laid_math_bits_deBruijn32tab), ("math/bits.deBruijn64tab", laid_math_bits_deBruijn64tab), ("internal/strconv.uint64pow10", laid_internal_strconv_uint64pow10), ("strconv.ErrRange", laid_strconv_ErrRange), ("strconv.ErrSyntax", laid_strconv_ErrSyntax)], narrowed := true }
def OpcodeMarksUptoSaid : Prop := opcodeMarksUptoRow.holds Tryd.pinned (OpenSpec.upto opcodeMarksSpec)

/-- 'pergolalaw14.OpcodeAssembles', WHERE WHAT IT READS IS OF BULK AT MOST 1048576: true; the input reads as it did. -/
def opcodeAssemblesUptoRow : OpenClaim := { program := "ytlbiahpajcfcfaadoor", sum := "64cd0319c28cee0c279647189317e847ddacc57ca412ca4b3bf0ad7d3ff2a90a", func := "pergola/pergolalaw14.OpcodeAssembles", spec := "opcodeAssembles", inPlace := ["internal/abi.NoEscape", "internal/bytealg.MakeNoZero"], named := ["strconv.ErrSyntax", "strconv.ErrRange", "internal/strconv.uint64pow10", "math/bits.deBruijn32tab", "math/bits.deBruijn64tab"], apart := false, laid := [("math/bits.deBruijn32tab", laid_math_bits_deBruijn32tab), ("math/bits.deBruijn64tab", laid_math_bits_deBruijn64tab), ("internal/strconv.uint64pow10", laid_internal_strconv_uint64pow10), ("strconv.ErrRange", laid_strconv_ErrRange), ("strconv.ErrSyntax", laid_strconv_ErrSyntax)], narrowed := true }
def OpcodeAssemblesUptoSaid : Prop := opcodeAssemblesUptoRow.holds Tryd.pinned (OpenSpec.upto opcodeAssemblesSpec)

/-- 'pergolalaw14.OpcodePrints', WHERE WHAT IT READS IS OF BULK AT MOST 1048576: true; the input reads as it did. -/
def opcodePrintsUptoRow : OpenClaim := { program := "ytlbiahpajcfcfaadoor", sum := "64cd0319c28cee0c279647189317e847ddacc57ca412ca4b3bf0ad7d3ff2a90a", func := "pergola/pergolalaw14.OpcodePrints", spec := "opcodePrints", inPlace := ["internal/abi.NoEscape", "internal/bytealg.MakeNoZero"], named := ["internal/strconv.uint64pow10", "math/bits.deBruijn32tab", "math/bits.deBruijn64tab", "strconv.ErrSyntax", "strconv.ErrRange"], apart := false, laid := [("math/bits.deBruijn32tab", laid_math_bits_deBruijn32tab), ("math/bits.deBruijn64tab", laid_math_bits_deBruijn64tab), ("internal/strconv.uint64pow10", laid_internal_strconv_uint64pow10), ("strconv.ErrRange", laid_strconv_ErrRange), ("strconv.ErrSyntax", laid_strconv_ErrSyntax)], narrowed := true }
def OpcodePrintsUptoSaid : Prop := opcodePrintsUptoRow.holds Tryd.pinned (OpenSpec.upto opcodePrintsSpec)

/-- 'pergolalaw14.OpcodeBack', WHERE WHAT IT READS IS OF BULK AT MOST 1048576: true; the input reads as it did. -/
def opcodeBackUptoRow : OpenClaim := { program := "ytlbiahpajcfcfaadoor", sum := "64cd0319c28cee0c279647189317e847ddacc57ca412ca4b3bf0ad7d3ff2a90a", func := "pergola/pergolalaw14.OpcodeBack", spec := "opcodeBack", inPlace := ["internal/abi.NoEscape", "internal/bytealg.MakeNoZero"], named := ["internal/strconv.uint64pow10", "math/bits.deBruijn32tab", "math/bits.deBruijn64tab", "strconv.ErrSyntax", "strconv.ErrRange"], apart := false, laid := [("math/bits.deBruijn32tab", laid_math_bits_deBruijn32tab), ("math/bits.deBruijn64tab", laid_math_bits_deBruijn64tab), ("internal/strconv.uint64pow10", laid_internal_strconv_uint64pow10), ("strconv.ErrRange", laid_strconv_ErrRange), ("strconv.ErrSyntax", laid_strconv_ErrSyntax)], narrowed := true }
def OpcodeBackUptoSaid : Prop := opcodeBackUptoRow.holds Tryd.pinned (OpenSpec.upto opcodeBackSpec)

/-- 'pergolalaw14.OpcodeAgain', WHERE WHAT IT READS IS OF BULK AT MOST 1048576: true; the input reads as it did. -/
def opcodeAgainUptoRow : OpenClaim := { program := "ytlbiahpajcfcfaadoor", sum := "64cd0319c28cee0c279647189317e847ddacc57ca412ca4b3bf0ad7d3ff2a90a", func := "pergola/pergolalaw14.OpcodeAgain", spec := "opcodeAgain", inPlace := ["internal/abi.NoEscape", "internal/bytealg.MakeNoZero"], named := ["strconv.ErrSyntax", "strconv.ErrRange", "internal/strconv.uint64pow10", "math/bits.deBruijn32tab", "math/bits.deBruijn64tab"], apart := false, laid := [("math/bits.deBruijn32tab", laid_math_bits_deBruijn32tab), ("math/bits.deBruijn64tab", laid_math_bits_deBruijn64tab), ("internal/strconv.uint64pow10", laid_internal_strconv_uint64pow10), ("strconv.ErrRange", laid_strconv_ErrRange), ("strconv.ErrSyntax", laid_strconv_ErrSyntax)], narrowed := true }
def OpcodeAgainUptoSaid : Prop := opcodeAgainUptoRow.holds Tryd.pinned (OpenSpec.upto opcodeAgainSpec)

/-- 'pergolalaw14.OpcodeJoins', WHERE WHAT IT READS IS OF BULK AT MOST 1048576: true; the input reads as it did. -/
def opcodeJoinsUptoRow : OpenClaim := { program := "ytlbiahpajcfcfaadoor", sum := "64cd0319c28cee0c279647189317e847ddacc57ca412ca4b3bf0ad7d3ff2a90a", func := "pergola/pergolalaw14.OpcodeJoins", spec := "opcodeJoins", inPlace := ["internal/abi.NoEscape", "internal/bytealg.MakeNoZero"], named := ["strconv.ErrSyntax", "strconv.ErrRange", "internal/strconv.uint64pow10", "math/bits.deBruijn32tab", "math/bits.deBruijn64tab"], apart := false, laid := [("math/bits.deBruijn32tab", laid_math_bits_deBruijn32tab), ("math/bits.deBruijn64tab", laid_math_bits_deBruijn64tab), ("internal/strconv.uint64pow10", laid_internal_strconv_uint64pow10), ("strconv.ErrRange", laid_strconv_ErrRange), ("strconv.ErrSyntax", laid_strconv_ErrSyntax)], narrowed := true }
def OpcodeJoinsUptoSaid : Prop := opcodeJoinsUptoRow.holds Tryd.pinned (OpenSpec.upto opcodeJoinsSpec)

/-- 'pergolalaw14.OpcodePieces', WHERE WHAT IT READS IS OF BULK AT MOST 1048576: true; the input reads as it did. -/
def opcodePiecesUptoRow : OpenClaim := { program := "ytlbiahpajcfcfaadoor", sum := "64cd0319c28cee0c279647189317e847ddacc57ca412ca4b3bf0ad7d3ff2a90a", func := "pergola/pergolalaw14.OpcodePieces", spec := "opcodePieces", inPlace := ["internal/abi.NoEscape", "internal/bytealg.MakeNoZero"], named := ["internal/strconv.uint64pow10", "math/bits.deBruijn32tab", "math/bits.deBruijn64tab", "strconv.ErrSyntax", "strconv.ErrRange"], apart := false, laid := [("math/bits.deBruijn32tab", laid_math_bits_deBruijn32tab), ("math/bits.deBruijn64tab", laid_math_bits_deBruijn64tab), ("internal/strconv.uint64pow10", laid_internal_strconv_uint64pow10), ("strconv.ErrRange", laid_strconv_ErrRange), ("strconv.ErrSyntax", laid_strconv_ErrSyntax)], narrowed := true }
def OpcodePiecesUptoSaid : Prop := opcodePiecesUptoRow.holds Tryd.pinned (OpenSpec.upto opcodePiecesSpec)

end Rows
end Go.Proofs.YtlbiahpajcfcfaaDoor
