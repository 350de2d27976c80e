/- A region that draws its order, gone through in the order of the text: what is held may grow on the way. -/
import Derived.Deep.RegionHeld3
import Derived.Deep.DrawnRows
namespace Go.Proofs.YtlbiahpajcfcfaaDoor
open Go
set_option linter.unusedVariables false
set_option maxRecDepth 100000
theorem wpAnyH_mono {P : Program} {md : Region.Mode} {ops : Array Oper} {Q : Exit → Act → World → Prop} {S S' : World → Prop} (h : ∀ w, S' w → S w) :
    ∀ {fuel : Nat} {listed : Array Bool} {a : Act} {w : World}, wpAnyH P md ops Q S' fuel listed a w → wpAnyH P md ops Q S fuel listed a w
  | 0, _, _, _, hh => hh
  | fuel + 1, _, _, _, hh => ⟨hh.1, fun i hi => wpOp_mono (fun _ _ h' => ⟨h _ h'.1, wpAnyH_mono h h'.2⟩) (hh.2 i hi)⟩
theorem wpAnyH_and {P : Program} {md : Region.Mode} {ops : Array Oper} {Q : Exit → Act → World → Prop} {S N : World → Prop} {fuel : Nat} {listed : Array Bool} {a : Act} {w : World}
    (h : wpAnyH P md ops Q (fun W => S W ∧ N W) fuel listed a w) : wpAnyH P md ops Q S fuel listed a w := wpAnyH_mono (fun _ h => h.1) h
end Go.Proofs.YtlbiahpajcfcfaaDoor
