/- Items that are the same; string(b). -/
import Derived.Test.YtgpaiphjbhkadaaNsRef3
import Derived.Lib.LazyBuf
import Derived.WalkLawsBesides
import Derived.StillTailTactics
namespace Go.Proofs.Ytgpaiphjbhkadaa
open Go.ChangeShapes Go.WideShapes Go.RowKit
set_option linter.unusedVariables false
set_option maxRecDepth 100000

def intC (l : List Int) : List Value := l.map (Value.int .u8)
theorem intC_one (l : List Int) : ∀ u ∈ intC l, u.oneCell' = true := by
  intro u hu
  obtain ⟨x, _, rfl⟩ := List.mem_map.1 hu
  rfl

/-- 'string(b)'. -/
theorem conv_rd {P : Program} (w : World) (src e dst : TypeId) (hs : P.underlying src = some (.slice e)) (he : P.underlying e = some (.int .u8)) (hd : P.underlying dst = some .string) (A : Option Addr) (n c : Nat) (l : List Int)
    (hr : Rd w A (intC l)) (hn : l.length = n) : (convert src dst (.slice A n c)).run P w = .ok (.string (strOfNums l)) w := by
  rcases A with _ | a
  · have hl : l = [] := by
      cases l with
      | nil => rfl
      | cons x xs =>
        obtain ⟨g, off, h, _⟩ := hr (by simp [intC])
        cases h
    subst hl
    exact run_convert_bytes_nil w src e hs he n c dst hd
  · by_cases hl : l = []
    · subst hl
      simp at hn
      subst hn
      have h2 : (loadCells a 0).run P w = .ok (([] : List Int).map (Value.int .u8)).toArray w := by
        simp [loadCells, loadCellsFrom]
      rw [run_convert_bytes_string w src dst e _ 0 c hs he hd, run_bytesToString w _ 0 c [] h2]
      rfl
    · obtain ⟨g, off, h, _, hc⟩ := hr (by simpa [intC] using hl)
      injection h with h
      subst h
      refine run_convert_bytes_arg w src e hs he g off n c l hn (fun i hi => ?_) dst hd
      refine hc i _ ?_
      have hi' : i < l.length := by omega
      simp [intC, List.getD, hi']

theorem conv_bs {P : Program} (w : World) (src e dst : TypeId) (hs : P.underlying src = some (.slice e)) (he : P.underlying e = some (.int .u8)) (hd : P.underlying dst = some .string) (A : Option Addr) (n c : Nat) (xs : List UInt8)
    (hr : Rd w A (bs xs)) (hn : xs.length = n) : (convert src dst (.slice A n c)).run P w = .ok (.string ⟨xs.toArray⟩) w := by
  have h := conv_rd (P := P) w src e dst hs he hd A n c (xs.map fun u => (u.toNat : Int)) (by
    have e : intC (xs.map fun u => (u.toNat : Int)) = bs xs := by simp [intC, bs, bv, Function.comp_def]
    rw [e]; exact hr) (by simpa using hn)
  rw [h, Go.Lib.Lz.strOfNums_map]


mutual
def sameT : Tree → Tree → Bool
  | .mk l b its, u => l == u.l && (b == u.b && (its.length == u.its.length && sameL its u.its))
def sameL : List Tree → List Tree → Bool
  | [], _ => true
  | t :: ts, us => match us with
    | [] => true
    | u :: us => sameT t u && sameL ts us
end

theorem its_size {l : Bool} {b : List UInt8} {its : List Tree} {i : Nat} (h : i < its.length) : SizeOf.sizeOf its[i] < SizeOf.sizeOf (Tree.mk l b its) := by
  have h1 := List.sizeOf_lt_of_mem (List.getElem_mem h)
  simp only [Tree.mk.sizeOf_spec]
  omega

mutual
theorem sameT_refl : ∀ t : Tree, sameT t t = true
  | .mk l b its => by simp [sameT, Tree.l, Tree.b, Tree.its, sameL_refl its]
theorem sameL_refl : ∀ ts : List Tree, sameL ts ts = true
  | [] => by simp [sameL]
  | t :: ts => by simp [sameL, sameT_refl t, sameL_refl ts]
end
mutual
theorem sameT_eq : ∀ t u : Tree, sameT t u = true → t = u
  | .mk l b its, .mk l' b' its', h => by
    simp only [sameT, Tree.l, Tree.b, Tree.its, Bool.and_eq_true, beq_iff_eq] at h
    obtain ⟨rfl, rfl, h1, h2⟩ := h
    rw [sameL_eq its its' h1 h2]
theorem sameL_eq : ∀ ts us : List Tree, ts.length = us.length → sameL ts us = true → ts = us
  | [], [], _, _ => rfl
  | [], _ :: _, h, _ => by simp at h
  | _ :: _, [], h, _ => by simp at h
  | t :: ts, u :: us, h, hs => by
    simp only [sameL, Bool.and_eq_true] at hs
    rw [sameT_eq t u hs.1, sameL_eq ts us (by simpa using h) hs.2]
end

end Go.Proofs.Ytgpaiphjbhkadaa
