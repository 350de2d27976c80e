/- string(b) of bytes that are read. No program in sight. -/
import Derived.Test.YtlbiahpajcfcfaaDoorMem2
import Derived.ProofKit
import Derived.OpenShut
import Derived.Lib.LazyBuf
import Derived.WalkLawsBesides
namespace Go.Proofs.YtlbiahpajcfcfaaDoor
open Go.ChangeShapes Go.WideShapes Go.RowKit
set_option linter.unusedVariables false
set_option maxRecDepth 100000

def wintC (l : List Int) : List Value := l.map (Value.int .u8)
theorem wintC_one (l : List Int) : ∀ u ∈ wintC l, u.oneCell' = true := by
  intro u hu
  obtain ⟨x, _, rfl⟩ := List.mem_map.1 hu
  rfl

/-- 'string(b)'. -/
theorem wconv_rd {P : Program} (w : World) (src e dst : TypeId) (hs : P.underlying src = some (.slice e)) (he : P.underlying e = some (.int .u8)) (hd : P.underlying dst = some .string) (A : Option Addr) (n c : Nat) (l : List Int)
    (hr : Rd w A (wintC l)) (hn : l.length = n) : (convert src dst (.slice A n c)).run P w = .ok (.string (strOfNums l)) w := by
  rcases A with _ | a
  · have hl : l = [] := by
      cases l with
      | nil => rfl
      | cons x xs =>
        obtain ⟨g, off, h, _⟩ := hr (by simp [wintC])
        cases h
    subst hl
    exact run_convert_bytes_nil w src e hs he n c dst hd
  · by_cases hl : l = []
    · subst hl
      simp at hn
      subst hn
      have h2 : (loadCells a 0).run P w = .ok (([] : List Int).map (Value.int .u8)).toArray w := by
        simp [loadCells, loadCellsFrom]
      rw [run_convert_bytes_string w src dst e _ 0 c hs he hd, run_bytesToString w _ 0 c [] h2]
      rfl
    · obtain ⟨g, off, h, _, hc⟩ := hr (by simpa [wintC] using hl)
      injection h with h
      subst h
      refine run_convert_bytes_arg w src e hs he g off n c l hn (fun i hi => ?_) dst hd
      refine hc i _ ?_
      have hi' : i < l.length := by omega
      simp [wintC, List.getD, hi']

theorem wconv_bs {P : Program} (w : World) (src e dst : TypeId) (hs : P.underlying src = some (.slice e)) (he : P.underlying e = some (.int .u8)) (hd : P.underlying dst = some .string) (A : Option Addr) (n c : Nat) (xs : List UInt8)
    (hr : Rd w A (bs xs)) (hn : xs.length = n) : (convert src dst (.slice A n c)).run P w = .ok (.string ⟨xs.toArray⟩) w := by
  have h := wconv_rd (P := P) w src e dst hs he hd A n c (xs.map fun u => (u.toNat : Int)) (by
    have e : wintC (xs.map fun u => (u.toNat : Int)) = bs xs := by simp [wintC, bs, bv, Function.comp_def]
    rw [e]; exact hr) (by simpa using hn)
  rw [h, Go.Lib.Lz.strOfNums_map]


end Go.Proofs.YtlbiahpajcfcfaaDoor
