/-
  No cell of these rows narrows 'for every input' (looked for: loops, veiled, ifaces, maps, wideKeys, modest, calm, conditions, laid).
  DERIVED. THE GIVEN ROWS OF THIS SEAT. 6 by the template 'for every input the law returns true; each argument reads behind the call as it read before'; 0 by the template 'total and deterministic' (their statements: YtgpaiphjbhkadaaTotals.lean).
  GIVEN WITH THE SEED: the statements are not yours to turn. If you find one false, say at which input.
  Laid BY PROGRAM, IN A SANDBOX (cutbox-rows.mjs): the forced cells as the released guide's own fill.sh prints them over the translation 8d05971142bb411e… (all of the seat's roots in one cut). By AI agents, Wed Nov 11 2026. No macro, syntax, notation, axiom, sorry.
-/
import Derived.Test.YtgpaiphjbhkadaaChecked
import GoSem.Claim
import GoSem.ClaimJoined
import GoSem.ClaimMapViews
import Derived.JoinedTies
import Derived.KernelRfl
namespace Go.Proofs.Ytgpaiphjbhkadaa
/- THE CELL 'sum', in the pinned program and in every row, IS THE sha256 OF THE DUMP (.gsa) THAT YtgpaiphjbhkadaaProg.lean LOADS. Nothing in Lean hashes anything: it is a label: what it is worth is what the hold of that sum in a sandbox is worth. -/
noncomputable def Try.pinned : Pinned := { name := "ytgpaiphjbhkadaa", sum := "8d05971142bb411edb4dce5b107131fbe16a78dc0b69a3ad4bd1166aa4bdbd3f", checked := Try.checked }
namespace Rows
def none {H : Type} : Left H := { results := [], args := [] }

/-- 'pergolalaw16.TxEncodes': WHATEVER THE INPUT: true; the input reads as it did. -/
def txEncodesSpec : ChangeSpec := { name := "txEncodes", fn := fun _ => fun
  | [d] => { results := [.lit (.bool true)], args := [d] }
  | _ => none }
def txEncodesRow : OpenClaim := { program := "ytgpaiphjbhkadaa", sum := "8d05971142bb411edb4dce5b107131fbe16a78dc0b69a3ad4bd1166aa4bdbd3f", func := "pergola/pergolalaw16.TxEncodes", spec := "txEncodes", recurses := true, apart := false }
def TxEncodesSaid : Prop := txEncodesRow.holds Try.pinned (OpenSpec.ofChange txEncodesSpec)

/-- ITS FALSE NEIGHBOUR: 'it returns false'. Refute it at one input. -/
def txEncodesWrong : ChangeSpec := { name := "txEncodes", fn := fun _ => fun
  | [d] => { results := [.lit (.bool false)], args := [d] }
  | _ => none }
def TxEncodesWrongFalsely : Prop := txEncodesRow.holds Try.pinned (OpenSpec.ofChange txEncodesWrong)

/-- 'pergolalaw16.TxDecodes': WHATEVER THE INPUT: true; the input reads as it did. -/
def txDecodesSpec : ChangeSpec := { name := "txDecodes", fn := fun _ => fun
  | [d] => { results := [.lit (.bool true)], args := [d] }
  | _ => none }
def txDecodesRow : OpenClaim := { program := "ytgpaiphjbhkadaa", sum := "8d05971142bb411edb4dce5b107131fbe16a78dc0b69a3ad4bd1166aa4bdbd3f", func := "pergola/pergolalaw16.TxDecodes", spec := "txDecodes", recurses := true, apart := false }
def TxDecodesSaid : Prop := txDecodesRow.holds Try.pinned (OpenSpec.ofChange txDecodesSpec)

/-- ITS FALSE NEIGHBOUR: 'it returns false'. Refute it at one input. -/
def txDecodesWrong : ChangeSpec := { name := "txDecodes", fn := fun _ => fun
  | [d] => { results := [.lit (.bool false)], args := [d] }
  | _ => none }
def TxDecodesWrongFalsely : Prop := txDecodesRow.holds Try.pinned (OpenSpec.ofChange txDecodesWrong)

/-- 'pergolalaw16.TxBack': WHATEVER THE INPUT: true; the input reads as it did. -/
def txBackSpec : ChangeSpec := { name := "txBack", fn := fun _ => fun
  | [d] => { results := [.lit (.bool true)], args := [d] }
  | _ => none }
def txBackRow : OpenClaim := { program := "ytgpaiphjbhkadaa", sum := "8d05971142bb411edb4dce5b107131fbe16a78dc0b69a3ad4bd1166aa4bdbd3f", func := "pergola/pergolalaw16.TxBack", spec := "txBack", recurses := true, apart := false }
def TxBackSaid : Prop := txBackRow.holds Try.pinned (OpenSpec.ofChange txBackSpec)

/-- ITS FALSE NEIGHBOUR: 'it returns false'. Refute it at one input. -/
def txBackWrong : ChangeSpec := { name := "txBack", fn := fun _ => fun
  | [d] => { results := [.lit (.bool false)], args := [d] }
  | _ => none }
def TxBackWrongFalsely : Prop := txBackRow.holds Try.pinned (OpenSpec.ofChange txBackWrong)

/-- 'pergolalaw16.TxOnly': WHATEVER THE INPUT: true; the input reads as it did. -/
def txOnlySpec : ChangeSpec := { name := "txOnly", fn := fun _ => fun
  | [d] => { results := [.lit (.bool true)], args := [d] }
  | _ => none }
def txOnlyRow : OpenClaim := { program := "ytgpaiphjbhkadaa", sum := "8d05971142bb411edb4dce5b107131fbe16a78dc0b69a3ad4bd1166aa4bdbd3f", func := "pergola/pergolalaw16.TxOnly", spec := "txOnly", recurses := true, apart := false }
def TxOnlySaid : Prop := txOnlyRow.holds Try.pinned (OpenSpec.ofChange txOnlySpec)

/-- ITS FALSE NEIGHBOUR: 'it returns false'. Refute it at one input. -/
def txOnlyWrong : ChangeSpec := { name := "txOnly", fn := fun _ => fun
  | [d] => { results := [.lit (.bool false)], args := [d] }
  | _ => none }
def TxOnlyWrongFalsely : Prop := txOnlyRow.holds Try.pinned (OpenSpec.ofChange txOnlyWrong)

/-- 'pergolalaw16.TxMemory': WHATEVER THE INPUT: true; the input reads as it did. -/
def txMemorySpec : ChangeSpec := { name := "txMemory", fn := fun _ => fun
  | [d] => { results := [.lit (.bool true)], args := [d] }
  | _ => none }
def txMemoryRow : OpenClaim := { program := "ytgpaiphjbhkadaa", sum := "8d05971142bb411edb4dce5b107131fbe16a78dc0b69a3ad4bd1166aa4bdbd3f", func := "pergola/pergolalaw16.TxMemory", spec := "txMemory", recurses := true, apart := false }
def TxMemorySaid : Prop := txMemoryRow.holds Try.pinned (OpenSpec.ofChange txMemorySpec)

/-- ITS FALSE NEIGHBOUR: 'it returns false'. Refute it at one input. -/
def txMemoryWrong : ChangeSpec := { name := "txMemory", fn := fun _ => fun
  | [d] => { results := [.lit (.bool false)], args := [d] }
  | _ => none }
def TxMemoryWrongFalsely : Prop := txMemoryRow.holds Try.pinned (OpenSpec.ofChange txMemoryWrong)

/-- 'pergolalaw16.TxCosts': WHATEVER THE INPUT: true; the input reads as it did. -/
def txCostsSpec : ChangeSpec := { name := "txCosts", fn := fun _ => fun
  | [d1, d2, d3] => { results := [.lit (.bool true)], args := [d1, d2, d3] }
  | _ => none }
def txCostsRow : OpenClaim := { program := "ytgpaiphjbhkadaa", sum := "8d05971142bb411edb4dce5b107131fbe16a78dc0b69a3ad4bd1166aa4bdbd3f", func := "pergola/pergolalaw16.TxCosts", spec := "txCosts", recurses := true, apart := false }
def TxCostsSaid : Prop := txCostsRow.holds Try.pinned (OpenSpec.ofChange txCostsSpec)

/-- ITS FALSE NEIGHBOUR: 'it returns false'. Refute it at one input. -/
def txCostsWrong : ChangeSpec := { name := "txCosts", fn := fun _ => fun
  | [d1, d2, d3] => { results := [.lit (.bool false)], args := [d1, d2, d3] }
  | _ => none }
def TxCostsWrongFalsely : Prop := txCostsRow.holds Try.pinned (OpenSpec.ofChange txCostsWrong)

/- THE SECOND FORM. 'bulk': how many values and letters a reading holds, each counted each time it is reached (what is shared counts as often as it is met; a slice's spare places count too). A statement '..UptoSaid' is the law's where the arguments, and the package variables that the reading takes, are together of bulk at most 1048576: NARROWER than '..Said'. Prove '..Said' where nothing that the law and all that it calls make is longer than what came in: it says more and counts as full. Else prove '..UptoSaid'. A law counts once. -/
mutual
def uptoBulk {H : Type} : DataW H → Nat
  | .lit (.string bytes) => bytes.length + 1
  | .lit _ => 1
  | .nil => 1
  | .ptr d => uptoBulk d + 1
  | .slice elems spare => uptoBulkAll elems + uptoBulkAll spare + 1
  | .agg parts => uptoBulkAll parts + 1
  | .iface _ d => uptoBulk d + 1
  | .map entries => uptoBulkEntries entries + 1
  | .held _ => 1
def uptoBulkAll {H : Type} : List (DataW H) → Nat
  | [] => 0
  | d :: r => uptoBulk d + uptoBulkAll r
def uptoBulkEntries {H : Type} : List (Lit × DataW H) → Nat
  | [] => 0
  | x :: r => uptoBulkEntry x + uptoBulkEntries r
def uptoBulkEntry {H : Type} : Lit × DataW H → Nat
  | (.string bytes, d) => bytes.length + uptoBulk d + 1
  | (_, d) => uptoBulk d + 1
 end
def uptoSmall : (H : Type) → List (DataW H) → Bool := fun _ ds => decide (uptoBulkAll ds ≤ 1048576)
def OpenSpec.upto (s : _root_.Go.ChangeSpec) : _root_.Go.OpenSpec := { _root_.Go.OpenSpec.ofChange s with cond := some uptoSmall }

/-- 'pergolalaw16.TxEncodes', WHERE WHAT IT READS IS OF BULK AT MOST 1048576: true; the input reads as it did. -/
def txEncodesUptoRow : OpenClaim := { program := "ytgpaiphjbhkadaa", sum := "8d05971142bb411edb4dce5b107131fbe16a78dc0b69a3ad4bd1166aa4bdbd3f", func := "pergola/pergolalaw16.TxEncodes", spec := "txEncodes", recurses := true, apart := false, narrowed := true }
def TxEncodesUptoSaid : Prop := txEncodesUptoRow.holds Try.pinned (OpenSpec.upto txEncodesSpec)

/-- 'pergolalaw16.TxDecodes', WHERE WHAT IT READS IS OF BULK AT MOST 1048576: true; the input reads as it did. -/
def txDecodesUptoRow : OpenClaim := { program := "ytgpaiphjbhkadaa", sum := "8d05971142bb411edb4dce5b107131fbe16a78dc0b69a3ad4bd1166aa4bdbd3f", func := "pergola/pergolalaw16.TxDecodes", spec := "txDecodes", recurses := true, apart := false, narrowed := true }
def TxDecodesUptoSaid : Prop := txDecodesUptoRow.holds Try.pinned (OpenSpec.upto txDecodesSpec)

/-- 'pergolalaw16.TxBack', WHERE WHAT IT READS IS OF BULK AT MOST 1048576: true; the input reads as it did. -/
def txBackUptoRow : OpenClaim := { program := "ytgpaiphjbhkadaa", sum := "8d05971142bb411edb4dce5b107131fbe16a78dc0b69a3ad4bd1166aa4bdbd3f", func := "pergola/pergolalaw16.TxBack", spec := "txBack", recurses := true, apart := false, narrowed := true }
def TxBackUptoSaid : Prop := txBackUptoRow.holds Try.pinned (OpenSpec.upto txBackSpec)

/-- 'pergolalaw16.TxOnly', WHERE WHAT IT READS IS OF BULK AT MOST 1048576: true; the input reads as it did. -/
def txOnlyUptoRow : OpenClaim := { program := "ytgpaiphjbhkadaa", sum := "8d05971142bb411edb4dce5b107131fbe16a78dc0b69a3ad4bd1166aa4bdbd3f", func := "pergola/pergolalaw16.TxOnly", spec := "txOnly", recurses := true, apart := false, narrowed := true }
def TxOnlyUptoSaid : Prop := txOnlyUptoRow.holds Try.pinned (OpenSpec.upto txOnlySpec)

/-- 'pergolalaw16.TxMemory', WHERE WHAT IT READS IS OF BULK AT MOST 1048576: true; the input reads as it did. -/
def txMemoryUptoRow : OpenClaim := { program := "ytgpaiphjbhkadaa", sum := "8d05971142bb411edb4dce5b107131fbe16a78dc0b69a3ad4bd1166aa4bdbd3f", func := "pergola/pergolalaw16.TxMemory", spec := "txMemory", recurses := true, apart := false, narrowed := true }
def TxMemoryUptoSaid : Prop := txMemoryUptoRow.holds Try.pinned (OpenSpec.upto txMemorySpec)

/-- 'pergolalaw16.TxCosts', WHERE WHAT IT READS IS OF BULK AT MOST 1048576: true; the input reads as it did. -/
def txCostsUptoRow : OpenClaim := { program := "ytgpaiphjbhkadaa", sum := "8d05971142bb411edb4dce5b107131fbe16a78dc0b69a3ad4bd1166aa4bdbd3f", func := "pergola/pergolalaw16.TxCosts", spec := "txCosts", recurses := true, apart := false, narrowed := true }
def TxCostsUptoSaid : Prop := txCostsUptoRow.holds Try.pinned (OpenSpec.upto txCostsSpec)

end Rows
end Go.Proofs.Ytgpaiphjbhkadaa
