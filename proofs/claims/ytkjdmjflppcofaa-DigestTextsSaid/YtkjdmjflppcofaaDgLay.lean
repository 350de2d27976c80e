/- The digest's 'lay': a word written into eight bytes. -/
import Derived.Test.YtkjdmjflppcofaaDgLeaf
namespace Go.Proofs.Ytkjdmjflppcofaa
open Go.ChangeShapes Go.WideShapes Go.ChangeAt Go.RowKit
set_option linter.unusedVariables false

/-- The i-th of a word's eight bytes, the highest first. -/
def lb (n : Int) (i : Nat) : Int := n / 2 ^ (56 - 8 * i) % 256

/-- The world behind k stores. -/
def layW (w : World) (g off : Nat) (n : Int) : Nat → World
  | 0 => w
  | k + 1 => (layW w g off n k).setCell ⟨g, off + k, none⟩ (.int .u8 (lb n k))

set_option maxHeartbeats 1000000 in
theorem digest_lay (g off N c : Nat) (n : Int) (hN : 8 ≤ N) (hc : N ≤ c) (hmx : c ≤ 9223372036854775807) (w : World)
    (hcell : ∀ i, i < 8 → ∃ u, w.cell? ⟨g, off + i, none⟩ = some u) (hfro : ∀ j, w.frozen? ⟨g, j, none⟩ = false) :
    Calls Try.prog 39 #[.slice (some ⟨g, off, none⟩) N c, .int .u64 n] w fun e w' => e = .returned (.tuple #[]) ∧ layW w g off n 8 = w' := by
  obtain ⟨u0, h0⟩ := hcell 0 (by decide)
  obtain ⟨u1, h1⟩ := hcell 1 (by decide)
  obtain ⟨u2, h2⟩ := hcell 2 (by decide)
  obtain ⟨u3, h3⟩ := hcell 3 (by decide)
  obtain ⟨u4, h4⟩ := hcell 4 (by decide)
  obtain ⟨u5, h5⟩ := hcell 5 (by decide)
  obtain ⟨u6, h6⟩ := hcell 6 (by decide)
  obtain ⟨u7, h7⟩ := hcell 7 (by decide)
  clear hcell
  simp only [Nat.add_zero] at h0
  have b0 : (0 : Int) < (N : Int) := by omega
  have b1 : (1 : Int) < (N : Int) := by omega
  have b2 : (2 : Int) < (N : Int) := by omega
  have b3 : (3 : Int) < (N : Int) := by omega
  have b4 : (4 : Int) < (N : Int) := by omega
  have b5 : (5 : Int) < (N : Int) := by omega
  have b6 : (6 : Int) < (N : Int) := by omega
  have b7 : (7 : Int) < (N : Int) := by omega
  go_enter Try.func39, Try.ntmps39
  go_wp2
  refine wp_loop_rounds 9 ?_
  rw [rounds_succ]
  go_wp2
  rw [rounds_succ]
  go_wp2
  rw [rounds_succ]
  go_wp2
  rw [rounds_succ]
  go_wp2
  rw [rounds_succ]
  go_wp2
  rw [rounds_succ]
  go_wp2
  rw [rounds_succ]
  go_wp2
  rw [rounds_succ]
  go_wp2
  rw [rounds_succ]
  go_wp2
  go_end0
  exact ⟨rfl, by simp [layW, lb]⟩

/-- What the stores leave of a slice that the call owns: its eight bytes from a place on are the word's. -/
theorem own_layW {w : World} {base : Nat} {E : TypeId} {A : Option Addr} {N c : Nat} {cs : List Value} {g off : Nat} (h : Own w base E 1 A N c cs) (hA : A = some ⟨g, off, none⟩) (at_ : Nat) (n : Int) :
    ∀ k, at_ + k ≤ cs.length → Own (layW w g (off + at_) n k) base E 1 A N c (cs.take at_ ++ (List.range k).map (fun i => Value.int .u8 (lb n i)) ++ cs.drop (at_ + k))
  | 0, _ => by simpa [layW] using h
  | k + 1, hk => by
    have ih := own_layW h hA at_ n k (by omega)
    have := ih.store hA (at_ + k) (by simp; omega) (.int .u8 (lb n k))
    rw [← Nat.add_assoc] at this
    simp only [layW]
    refine cast ?_ this
    congr 1
    have e2 : cs.take at_ ++ (List.range (k + 1)).map (fun i => Value.int .u8 (lb n i)) = (cs.take at_ ++ (List.range k).map (fun i => Value.int .u8 (lb n i))) ++ [.int .u8 (lb n k)] := by
      rw [List.range_succ, List.map_append, ← List.append_assoc]; rfl
    have hl : (cs.take at_ ++ (List.range k).map (fun i => Value.int .u8 (lb n i))).length = at_ + k := by simp; omega
    rw [e2]
    generalize cs.take at_ ++ (List.range k).map (fun i => Value.int .u8 (lb n i)) = pre at hl ⊢
    rw [List.set_append_right _ _ (by omega), hl, Nat.sub_self, List.append_assoc]
    congr 1
    have hd : cs.drop (at_ + k) = cs[at_ + k] :: cs.drop (at_ + k + 1) := List.drop_eq_getElem_cons (by omega)
    rw [hd]
    rfl

theorem kp_layW (w : World) (g off : Nat) (n : Int) : ∀ k, Kp (fun b => b = g) w (layW w g off n k)
  | 0 => Kp.refl _ _
  | k + 1 => (kp_layW w g off n k).trans (Kp.setCell _ (S := fun b => b = g) (p := ⟨g, off + k, none⟩) rfl _)

end Go.Proofs.Ytkjdmjflppcofaa
