/- Lists of bytes that came in, opened. -/
import Derived.Test.YtkjdmjflppcofaaDgPieces
import Derived.Test.YtkjdmjflppcofaaLawKit2
import Derived.Test.YtkjdmjflppcofaaBulk
namespace Go.Proofs.Ytkjdmjflppcofaa
open Go.ChangeShapes Go.WideShapes Go.RowKit
set_option linter.unusedVariables false

section
variable {H : Type} {enc : TypeId × Value → H}

theorem open_bytes_up {P : Program} {t e : TypeId} {cs : List Value} {x : DataW H × List MemPlace} {w : World} {fuel : Nat} (ht : P.underlying t = some (.slice e)) (he : P.underlying e = some (.int .u8)) (hc : P.cellsOf e = 1)
    (hf : DataW.trod enc P w 0 (fun _ => true) true fuel t cs = some x) :
    ∃ (A : Option Addr) (c : Nat) (xs : List UInt8), cs = [.slice A xs.length c] ∧ xs.length ≤ c ∧ c + 1 ≤ Rows.uptoBulk x.1 ∧ Rd w A (bs xs) := by
  rcases open_ints ht he hc hf with ⟨hcs, hx⟩ | ⟨a, len', cap', zs, hcs, _, hl, hm, hz, hx, hcell, hwz⟩
  · exact ⟨none, 0, [], hcs, Nat.le_refl _, bulks.one_le _, Rd.nil _ _⟩
  · subst hx
    simp only [if_true] at hz
    have hcap : cap' + 1 ≤ Rows.uptoBulk (DataW.slice (lits (H := H) .u8 (zs.take len')) (lits (H := H) .u8 (zs.drop len'))) := by
      have := bulks.slice_le (lits (H := H) .u8 (zs.take len')) (lits (H := H) .u8 (zs.drop len'))
      simp only [lits, List.length_map, List.length_take, List.length_drop] at this ⊢
      omega
    have hlen : ((zs.take len').map fun z => UInt8.ofNat z.toNat).length = len' := by simp; omega
    refine ⟨some a, cap', (zs.take len').map fun z => UInt8.ofNat z.toNat, by rw [hlen]; exact hcs, by rw [hlen]; exact hl, hcap, ?_⟩
    intro hne
    have hpos : 0 < len' := by
      rcases Nat.eq_zero_or_pos len' with h0 | h0
      · subst h0; simp [bs] at hne
      · exact h0
    obtain ⟨b, off, rfl, hc2⟩ := ints_at hcell (by omega)
    have hlt : b < w.heap.size := by
      have h0 := hc2 0 (by omega)
      rcases Nat.lt_or_ge b w.heap.size with h | h
      · exact h
      · simp [World.cell?, Array.getElem?_eq_none h] at h0
    refine ⟨b, off, rfl, hlt, fun j u hu => ?_⟩
    have hj : j < len' := by
      have := (List.getElem?_eq_some_iff.1 hu).1
      simp [bs] at this
      omega
    rw [hc2 j (by omega)]
    have hwv := wf_u8 (hwz (zs.getD j 0) (by
      have : j < zs.length := by omega
      simp [List.getD, this]))
    have hju : j < zs.length := by omega
    simp only [bs, List.getElem?_map, List.getElem?_take, hj, if_true, List.getElem?_eq_getElem hju, Option.map_some, Option.some.injEq] at hu
    subst hu
    simp only [List.getD, List.getElem?_eq_getElem hju, Option.getD_some, bv] at hwv ⊢
    rw [UInt8.toNat_ofNat', Nat.mod_eq_of_lt (by omega), Int.toNat_of_nonneg hwv.1]

theorem RdB.snoc {w : World} : ∀ {ys : List (List UInt8)} {cl : List Value} {A : Option Addr} {c : Nat} {y : List UInt8}, RdB w ys cl → y.length ≤ c → c ≤ 1048576 → Rd w A (bs y) → RdB w (ys ++ [y]) (cl ++ [.slice A y.length c])
  | [], cl, A, c, y, h, h1, h2, h3 => by
    simp only [RdB] at h
    subst h
    simp only [List.nil_append, RdB]
    exact ⟨A, c, [], rfl, h1, h2, h3, rfl⟩
  | z :: ys, cl, A, c, y, h, h1, h2, h3 => by
    simp only [RdB, List.cons_append] at h ⊢
    obtain ⟨A', c', rest, rfl, g1, g2, g3, g4⟩ := h
    exact ⟨A', c', rest ++ [.slice A y.length c], rfl, g1, g2, g3, RdB.snoc g4 h1 h2 h3⟩
theorem catB_snoc : ∀ (ys : List (List UInt8)) (y : List UInt8), catB (ys ++ [y]) = catB ys ++ y
  | [], y => by simp [catB]
  | z :: ys, y => by simp [catB, catB_snoc ys y]

end
end Go.Proofs.Ytkjdmjflppcofaa
