/-
  NARROWER THAN 'FOR EVERY INPUT', by the rows' own cells (each row's printed sentence says how): NestAhead: loops · NestBody: loops · NestShorter: loops · NestMakes: loops · NestEncodes: loops · NestBack: loops.
  DERIVED. THE GIVEN ROWS OF THIS SEAT. 10 by the template 'for every input the law returns true; each argument reads behind the call as it read before'; 0 by the template 'total and deterministic' (their statements: YtfolidaonnblbaaTotals.lean).
  GIVEN WITH THE SEED: the statements are not yours to turn. If you find one false, say at which input.
  Laid BY PROGRAM, IN A SANDBOX (cutbox-rows.mjs): the forced cells as the released guide's own fill.sh prints them over the translation 690a2f2541c1ec40… (all of the seat's roots in one cut). By AI agents, Wed Nov 11 2026. No macro, syntax, notation, axiom, sorry.
-/
import Derived.Test.YtfolidaonnblbaaChecked
import GoSem.Claim
import GoSem.ClaimJoined
import GoSem.ClaimMapViews
import Derived.JoinedTies
import Derived.KernelRfl
namespace Go.Proofs.Ytfolidaonnblbaa
/- THE CELL 'sum', in the pinned program and in every row, IS THE sha256 OF THE DUMP (.gsa) THAT YtfolidaonnblbaaProg.lean LOADS. Nothing in Lean hashes anything: it is a label: what it is worth is what the hold of that sum in a sandbox is worth. -/
noncomputable def Try.pinned : Pinned := { name := "ytfolidaonnblbaa", sum := "690a2f2541c1ec40bb27322386d8b4ad5f0714f92b8c5d707cbe21a9d8b6eed1", checked := Try.checked }
namespace Rows
def none {H : Type} : Left H := { results := [], args := [] }

/-- 'pergolalaw02.NestFirsts': WHATEVER THE INPUT: true; the input reads as it did. -/
def nestFirstsSpec : ChangeSpec := { name := "nestFirsts", fn := fun _ => fun
  | [d] => { results := [.lit (.bool true)], args := [d] }
  | _ => none }
def nestFirstsRow : OpenClaim := { program := "ytfolidaonnblbaa", sum := "690a2f2541c1ec40bb27322386d8b4ad5f0714f92b8c5d707cbe21a9d8b6eed1", func := "pergola/pergolalaw02.NestFirsts", spec := "nestFirsts", recurses := true, apart := false }
def NestFirstsSaid : Prop := nestFirstsRow.holds Try.pinned (OpenSpec.ofChange nestFirstsSpec)

/-- ITS FALSE NEIGHBOUR: 'it returns false'. Refute it at one input. -/
def nestFirstsWrong : ChangeSpec := { name := "nestFirsts", fn := fun _ => fun
  | [d] => { results := [.lit (.bool false)], args := [d] }
  | _ => none }
def NestFirstsWrongFalsely : Prop := nestFirstsRow.holds Try.pinned (OpenSpec.ofChange nestFirstsWrong)

/-- 'pergolalaw02.NestDecodes': WHATEVER THE INPUT: true; the input reads as it did. -/
def nestDecodesSpec : ChangeSpec := { name := "nestDecodes", fn := fun _ => fun
  | [d] => { results := [.lit (.bool true)], args := [d] }
  | _ => none }
def nestDecodesRow : OpenClaim := { program := "ytfolidaonnblbaa", sum := "690a2f2541c1ec40bb27322386d8b4ad5f0714f92b8c5d707cbe21a9d8b6eed1", func := "pergola/pergolalaw02.NestDecodes", spec := "nestDecodes", recurses := true, apart := false }
def NestDecodesSaid : Prop := nestDecodesRow.holds Try.pinned (OpenSpec.ofChange nestDecodesSpec)

/-- ITS FALSE NEIGHBOUR: 'it returns false'. Refute it at one input. -/
def nestDecodesWrong : ChangeSpec := { name := "nestDecodes", fn := fun _ => fun
  | [d] => { results := [.lit (.bool false)], args := [d] }
  | _ => none }
def NestDecodesWrongFalsely : Prop := nestDecodesRow.holds Try.pinned (OpenSpec.ofChange nestDecodesWrong)

/-- 'pergolalaw02.NestAhead': WHATEVER THE INPUT: true; the input reads as it did. -/
def nestAheadSpec : ChangeSpec := { name := "nestAhead", fn := fun _ => fun
  | [d1, d2, d3] => { results := [.lit (.bool true)], args := [d1, d2, d3] }
  | _ => none }
def nestAheadRow : OpenClaim := { program := "ytfolidaonnblbaa", sum := "690a2f2541c1ec40bb27322386d8b4ad5f0714f92b8c5d707cbe21a9d8b6eed1", func := "pergola/pergolalaw02.NestAhead", spec := "nestAhead", recurses := true, loops := true, apart := false }
def NestAheadSaid : Prop := nestAheadRow.holds Try.pinned (OpenSpec.ofChange nestAheadSpec)

/-- ITS FALSE NEIGHBOUR: 'it returns false'. Refute it at one input. -/
def nestAheadWrong : ChangeSpec := { name := "nestAhead", fn := fun _ => fun
  | [d1, d2, d3] => { results := [.lit (.bool false)], args := [d1, d2, d3] }
  | _ => none }
def NestAheadWrongFalsely : Prop := nestAheadRow.holds Try.pinned (OpenSpec.ofChange nestAheadWrong)

/-- 'pergolalaw02.NestBody': WHATEVER THE INPUT: true; the input reads as it did. -/
def nestBodySpec : ChangeSpec := { name := "nestBody", fn := fun _ => fun
  | [d] => { results := [.lit (.bool true)], args := [d] }
  | _ => none }
def nestBodyRow : OpenClaim := { program := "ytfolidaonnblbaa", sum := "690a2f2541c1ec40bb27322386d8b4ad5f0714f92b8c5d707cbe21a9d8b6eed1", func := "pergola/pergolalaw02.NestBody", spec := "nestBody", recurses := true, loops := true, apart := false }
def NestBodySaid : Prop := nestBodyRow.holds Try.pinned (OpenSpec.ofChange nestBodySpec)

/-- ITS FALSE NEIGHBOUR: 'it returns false'. Refute it at one input. -/
def nestBodyWrong : ChangeSpec := { name := "nestBody", fn := fun _ => fun
  | [d] => { results := [.lit (.bool false)], args := [d] }
  | _ => none }
def NestBodyWrongFalsely : Prop := nestBodyRow.holds Try.pinned (OpenSpec.ofChange nestBodyWrong)

/-- 'pergolalaw02.NestShorter': WHATEVER THE INPUT: true; the input reads as it did. -/
def nestShorterSpec : ChangeSpec := { name := "nestShorter", fn := fun _ => fun
  | [d1, d2] => { results := [.lit (.bool true)], args := [d1, d2] }
  | _ => none }
def nestShorterRow : OpenClaim := { program := "ytfolidaonnblbaa", sum := "690a2f2541c1ec40bb27322386d8b4ad5f0714f92b8c5d707cbe21a9d8b6eed1", func := "pergola/pergolalaw02.NestShorter", spec := "nestShorter", recurses := true, loops := true, apart := false }
def NestShorterSaid : Prop := nestShorterRow.holds Try.pinned (OpenSpec.ofChange nestShorterSpec)

/-- ITS FALSE NEIGHBOUR: 'it returns false'. Refute it at one input. -/
def nestShorterWrong : ChangeSpec := { name := "nestShorter", fn := fun _ => fun
  | [d1, d2] => { results := [.lit (.bool false)], args := [d1, d2] }
  | _ => none }
def NestShorterWrongFalsely : Prop := nestShorterRow.holds Try.pinned (OpenSpec.ofChange nestShorterWrong)

/-- 'pergolalaw02.NestMemory': WHATEVER THE INPUT: true; the input reads as it did. -/
def nestMemorySpec : ChangeSpec := { name := "nestMemory", fn := fun _ => fun
  | [d] => { results := [.lit (.bool true)], args := [d] }
  | _ => none }
def nestMemoryRow : OpenClaim := { program := "ytfolidaonnblbaa", sum := "690a2f2541c1ec40bb27322386d8b4ad5f0714f92b8c5d707cbe21a9d8b6eed1", func := "pergola/pergolalaw02.NestMemory", spec := "nestMemory", recurses := true, apart := false }
def NestMemorySaid : Prop := nestMemoryRow.holds Try.pinned (OpenSpec.ofChange nestMemorySpec)

/-- ITS FALSE NEIGHBOUR: 'it returns false'. Refute it at one input. -/
def nestMemoryWrong : ChangeSpec := { name := "nestMemory", fn := fun _ => fun
  | [d] => { results := [.lit (.bool false)], args := [d] }
  | _ => none }
def NestMemoryWrongFalsely : Prop := nestMemoryRow.holds Try.pinned (OpenSpec.ofChange nestMemoryWrong)

/-- 'pergolalaw02.NestMakes': WHATEVER THE INPUT: true; the input reads as it did. -/
def nestMakesSpec : ChangeSpec := { name := "nestMakes", fn := fun _ => fun
  | [d1, d2] => { results := [.lit (.bool true)], args := [d1, d2] }
  | _ => none }
def nestMakesRow : OpenClaim := { program := "ytfolidaonnblbaa", sum := "690a2f2541c1ec40bb27322386d8b4ad5f0714f92b8c5d707cbe21a9d8b6eed1", func := "pergola/pergolalaw02.NestMakes", spec := "nestMakes", recurses := true, loops := true, apart := false }
def NestMakesSaid : Prop := nestMakesRow.holds Try.pinned (OpenSpec.ofChange nestMakesSpec)

/-- ITS FALSE NEIGHBOUR: 'it returns false'. Refute it at one input. -/
def nestMakesWrong : ChangeSpec := { name := "nestMakes", fn := fun _ => fun
  | [d1, d2] => { results := [.lit (.bool false)], args := [d1, d2] }
  | _ => none }
def NestMakesWrongFalsely : Prop := nestMakesRow.holds Try.pinned (OpenSpec.ofChange nestMakesWrong)

/-- 'pergolalaw02.NestEncodes': WHATEVER THE INPUT: true; the input reads as it did. -/
def nestEncodesSpec : ChangeSpec := { name := "nestEncodes", fn := fun _ => fun
  | [d] => { results := [.lit (.bool true)], args := [d] }
  | _ => none }
def nestEncodesRow : OpenClaim := { program := "ytfolidaonnblbaa", sum := "690a2f2541c1ec40bb27322386d8b4ad5f0714f92b8c5d707cbe21a9d8b6eed1", func := "pergola/pergolalaw02.NestEncodes", spec := "nestEncodes", recurses := true, loops := true, apart := false }
def NestEncodesSaid : Prop := nestEncodesRow.holds Try.pinned (OpenSpec.ofChange nestEncodesSpec)

/-- ITS FALSE NEIGHBOUR: 'it returns false'. Refute it at one input. -/
def nestEncodesWrong : ChangeSpec := { name := "nestEncodes", fn := fun _ => fun
  | [d] => { results := [.lit (.bool false)], args := [d] }
  | _ => none }
def NestEncodesWrongFalsely : Prop := nestEncodesRow.holds Try.pinned (OpenSpec.ofChange nestEncodesWrong)

/-- 'pergolalaw02.NestBack': WHATEVER THE INPUT: true; the input reads as it did. -/
def nestBackSpec : ChangeSpec := { name := "nestBack", fn := fun _ => fun
  | [d] => { results := [.lit (.bool true)], args := [d] }
  | _ => none }
def nestBackRow : OpenClaim := { program := "ytfolidaonnblbaa", sum := "690a2f2541c1ec40bb27322386d8b4ad5f0714f92b8c5d707cbe21a9d8b6eed1", func := "pergola/pergolalaw02.NestBack", spec := "nestBack", recurses := true, loops := true, apart := false }
def NestBackSaid : Prop := nestBackRow.holds Try.pinned (OpenSpec.ofChange nestBackSpec)

/-- ITS FALSE NEIGHBOUR: 'it returns false'. Refute it at one input. -/
def nestBackWrong : ChangeSpec := { name := "nestBack", fn := fun _ => fun
  | [d] => { results := [.lit (.bool false)], args := [d] }
  | _ => none }
def NestBackWrongFalsely : Prop := nestBackRow.holds Try.pinned (OpenSpec.ofChange nestBackWrong)

/-- 'pergolalaw02.NestOnly': WHATEVER THE INPUT: true; the input reads as it did. -/
def nestOnlySpec : ChangeSpec := { name := "nestOnly", fn := fun _ => fun
  | [d] => { results := [.lit (.bool true)], args := [d] }
  | _ => none }
def nestOnlyRow : OpenClaim := { program := "ytfolidaonnblbaa", sum := "690a2f2541c1ec40bb27322386d8b4ad5f0714f92b8c5d707cbe21a9d8b6eed1", func := "pergola/pergolalaw02.NestOnly", spec := "nestOnly", recurses := true, apart := false }
def NestOnlySaid : Prop := nestOnlyRow.holds Try.pinned (OpenSpec.ofChange nestOnlySpec)

/-- ITS FALSE NEIGHBOUR: 'it returns false'. Refute it at one input. -/
def nestOnlyWrong : ChangeSpec := { name := "nestOnly", fn := fun _ => fun
  | [d] => { results := [.lit (.bool false)], args := [d] }
  | _ => none }
def NestOnlyWrongFalsely : Prop := nestOnlyRow.holds Try.pinned (OpenSpec.ofChange nestOnlyWrong)

/- THE SECOND FORM. 'bulk': how many values and letters a reading holds, each counted each time it is reached (what is shared counts as often as it is met; a slice's spare places count too). A statement '..UptoSaid' is the law's where the arguments, and the package variables that the reading takes, are together of bulk at most 1048576: NARROWER than '..Said'. Prove '..Said' where nothing that the law and all that it calls make is longer than what came in: it says more and counts as full. Else prove '..UptoSaid'. A law counts once. -/
mutual
def uptoBulk {H : Type} : DataW H → Nat
  | .lit (.string bytes) => bytes.length + 1
  | .lit _ => 1
  | .nil => 1
  | .ptr d => uptoBulk d + 1
  | .slice elems spare => uptoBulkAll elems + uptoBulkAll spare + 1
  | .agg parts => uptoBulkAll parts + 1
  | .iface _ d => uptoBulk d + 1
  | .map entries => uptoBulkEntries entries + 1
  | .held _ => 1
def uptoBulkAll {H : Type} : List (DataW H) → Nat
  | [] => 0
  | d :: r => uptoBulk d + uptoBulkAll r
def uptoBulkEntries {H : Type} : List (Lit × DataW H) → Nat
  | [] => 0
  | x :: r => uptoBulkEntry x + uptoBulkEntries r
def uptoBulkEntry {H : Type} : Lit × DataW H → Nat
  | (.string bytes, d) => bytes.length + uptoBulk d + 1
  | (_, d) => uptoBulk d + 1
 end
def uptoSmall : (H : Type) → List (DataW H) → Bool := fun _ ds => decide (uptoBulkAll ds ≤ 1048576)
def OpenSpec.upto (s : _root_.Go.ChangeSpec) : _root_.Go.OpenSpec := { _root_.Go.OpenSpec.ofChange s with cond := some uptoSmall }

/-- 'pergolalaw02.NestFirsts', WHERE WHAT IT READS IS OF BULK AT MOST 1048576: true; the input reads as it did. -/
def nestFirstsUptoRow : OpenClaim := { program := "ytfolidaonnblbaa", sum := "690a2f2541c1ec40bb27322386d8b4ad5f0714f92b8c5d707cbe21a9d8b6eed1", func := "pergola/pergolalaw02.NestFirsts", spec := "nestFirsts", recurses := true, apart := false, narrowed := true }
def NestFirstsUptoSaid : Prop := nestFirstsUptoRow.holds Try.pinned (OpenSpec.upto nestFirstsSpec)

/-- 'pergolalaw02.NestDecodes', WHERE WHAT IT READS IS OF BULK AT MOST 1048576: true; the input reads as it did. -/
def nestDecodesUptoRow : OpenClaim := { program := "ytfolidaonnblbaa", sum := "690a2f2541c1ec40bb27322386d8b4ad5f0714f92b8c5d707cbe21a9d8b6eed1", func := "pergola/pergolalaw02.NestDecodes", spec := "nestDecodes", recurses := true, apart := false, narrowed := true }
def NestDecodesUptoSaid : Prop := nestDecodesUptoRow.holds Try.pinned (OpenSpec.upto nestDecodesSpec)

/-- 'pergolalaw02.NestAhead', WHERE WHAT IT READS IS OF BULK AT MOST 1048576: true; the input reads as it did. -/
def nestAheadUptoRow : OpenClaim := { program := "ytfolidaonnblbaa", sum := "690a2f2541c1ec40bb27322386d8b4ad5f0714f92b8c5d707cbe21a9d8b6eed1", func := "pergola/pergolalaw02.NestAhead", spec := "nestAhead", recurses := true, loops := true, apart := false, narrowed := true }
def NestAheadUptoSaid : Prop := nestAheadUptoRow.holds Try.pinned (OpenSpec.upto nestAheadSpec)

/-- 'pergolalaw02.NestBody', WHERE WHAT IT READS IS OF BULK AT MOST 1048576: true; the input reads as it did. -/
def nestBodyUptoRow : OpenClaim := { program := "ytfolidaonnblbaa", sum := "690a2f2541c1ec40bb27322386d8b4ad5f0714f92b8c5d707cbe21a9d8b6eed1", func := "pergola/pergolalaw02.NestBody", spec := "nestBody", recurses := true, loops := true, apart := false, narrowed := true }
def NestBodyUptoSaid : Prop := nestBodyUptoRow.holds Try.pinned (OpenSpec.upto nestBodySpec)

/-- 'pergolalaw02.NestShorter', WHERE WHAT IT READS IS OF BULK AT MOST 1048576: true; the input reads as it did. -/
def nestShorterUptoRow : OpenClaim := { program := "ytfolidaonnblbaa", sum := "690a2f2541c1ec40bb27322386d8b4ad5f0714f92b8c5d707cbe21a9d8b6eed1", func := "pergola/pergolalaw02.NestShorter", spec := "nestShorter", recurses := true, loops := true, apart := false, narrowed := true }
def NestShorterUptoSaid : Prop := nestShorterUptoRow.holds Try.pinned (OpenSpec.upto nestShorterSpec)

/-- 'pergolalaw02.NestMemory', WHERE WHAT IT READS IS OF BULK AT MOST 1048576: true; the input reads as it did. -/
def nestMemoryUptoRow : OpenClaim := { program := "ytfolidaonnblbaa", sum := "690a2f2541c1ec40bb27322386d8b4ad5f0714f92b8c5d707cbe21a9d8b6eed1", func := "pergola/pergolalaw02.NestMemory", spec := "nestMemory", recurses := true, apart := false, narrowed := true }
def NestMemoryUptoSaid : Prop := nestMemoryUptoRow.holds Try.pinned (OpenSpec.upto nestMemorySpec)

/-- 'pergolalaw02.NestMakes', WHERE WHAT IT READS IS OF BULK AT MOST 1048576: true; the input reads as it did. -/
def nestMakesUptoRow : OpenClaim := { program := "ytfolidaonnblbaa", sum := "690a2f2541c1ec40bb27322386d8b4ad5f0714f92b8c5d707cbe21a9d8b6eed1", func := "pergola/pergolalaw02.NestMakes", spec := "nestMakes", recurses := true, loops := true, apart := false, narrowed := true }
def NestMakesUptoSaid : Prop := nestMakesUptoRow.holds Try.pinned (OpenSpec.upto nestMakesSpec)

/-- 'pergolalaw02.NestEncodes', WHERE WHAT IT READS IS OF BULK AT MOST 1048576: true; the input reads as it did. -/
def nestEncodesUptoRow : OpenClaim := { program := "ytfolidaonnblbaa", sum := "690a2f2541c1ec40bb27322386d8b4ad5f0714f92b8c5d707cbe21a9d8b6eed1", func := "pergola/pergolalaw02.NestEncodes", spec := "nestEncodes", recurses := true, loops := true, apart := false, narrowed := true }
def NestEncodesUptoSaid : Prop := nestEncodesUptoRow.holds Try.pinned (OpenSpec.upto nestEncodesSpec)

/-- 'pergolalaw02.NestBack', WHERE WHAT IT READS IS OF BULK AT MOST 1048576: true; the input reads as it did. -/
def nestBackUptoRow : OpenClaim := { program := "ytfolidaonnblbaa", sum := "690a2f2541c1ec40bb27322386d8b4ad5f0714f92b8c5d707cbe21a9d8b6eed1", func := "pergola/pergolalaw02.NestBack", spec := "nestBack", recurses := true, loops := true, apart := false, narrowed := true }
def NestBackUptoSaid : Prop := nestBackUptoRow.holds Try.pinned (OpenSpec.upto nestBackSpec)

/-- 'pergolalaw02.NestOnly', WHERE WHAT IT READS IS OF BULK AT MOST 1048576: true; the input reads as it did. -/
def nestOnlyUptoRow : OpenClaim := { program := "ytfolidaonnblbaa", sum := "690a2f2541c1ec40bb27322386d8b4ad5f0714f92b8c5d707cbe21a9d8b6eed1", func := "pergola/pergolalaw02.NestOnly", spec := "nestOnly", recurses := true, apart := false, narrowed := true }
def NestOnlyUptoSaid : Prop := nestOnlyUptoRow.holds Try.pinned (OpenSpec.upto nestOnlySpec)

end Rows
end Go.Proofs.Ytfolidaonnblbaa
