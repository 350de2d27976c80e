/- The statement of a word, as the reference finds it. No program in sight. -/
import Derived.Test.YtlbiahpajcfcfaaDoorOpReadP
namespace Go.Proofs.YtlbiahpajcfcfaaDoor
open Go Go.RowKit
set_option linter.unusedVariables false
set_option maxRecDepth 100000

/-- Is a byte the operation, without bytes of its own, that a word names? -/
def hits (wd : List UInt8) (op : Nat) : Prop := ∃ i, ofI op = some i ∧ i.word = wd ∧ i.behind = 0
theorem hits_simple {wd : List UInt8} {op : Nat} (h : hits wd op) : simpleG wd = some op := by
  obtain ⟨i, h1, h2, h3⟩ := h
  unfold ofI at h1
  split at h1
  · injection h1 with h1
    subst h1
    simp at h3
  · rw [Option.map_eq_some_iff] at h1
    obtain ⟨r, hr, rfl⟩ := h1
    have hr1 := List.mem_of_find?_eq_some hr
    have hr2 := List.find?_some hr
    have hr3 : r.1 = op := by simpa using hr2
    rw [← h2, ← hr3]
    exact simple_tbl r hr1 h3
theorem of_tbl : ∀ r ∈ tbl, ∃ i, ofI r.1 = some i ∧ i.word = r.2.word ∧ i.behind = r.2.behind := by
  intro r hr
  have h : ∀ r ∈ tbl, (ofI r.1).map (fun i => (i.word, i.behind)) = some (r.2.word, r.2.behind) := by decide +kernel
  have := h r hr
  rw [Option.map_eq_some_iff] at this
  obtain ⟨i, h1, h2⟩ := this
  simp only [Prod.mk.injEq] at h2
  exact ⟨i, h1, h2.1, h2.2⟩
theorem simple_hits {wd : List UInt8} {op : Nat} (h : simpleG wd = some op) : op < 256 ∧ hits wd op := by
  unfold simpleG at h
  rw [Option.map_eq_some_iff] at h
  obtain ⟨r, hr, rfl⟩ := h
  have hr1 := List.mem_of_find?_eq_some hr
  have hr2 := List.find?_some hr
  have hr3 : r.2.word = wd ∧ r.2.behind = 0 := by simpa using hr2
  have h256 : ∀ r ∈ tbl, r.1 < 256 := by decide
  obtain ⟨i, h1, h2, h3⟩ := of_tbl r hr1
  exact ⟨h256 r hr1, i, h1, h2.trans hr3.1, h3.trans hr3.2⟩
theorem miss_none {wd : List UInt8} (h : ∀ k, k < 256 → ¬ hits wd k) : simpleG wd = none := by
  cases hs : simpleG wd with
  | none => rfl
  | some op =>
    obtain ⟨h1, h2⟩ := simple_hits hs
    exact absurd h2 (h op h1)

/-- The kinds of a word that takes a number. -/
theorem takes_kinds (wd : List UInt8) : (wd = pushW ∧ wideG wd = some 0 ∧ takesN wd = true) ∨ (wd ≠ pushW ∧ wideG wd = none ∧ widthG wd = 0 ∧ wd = dupW ∧ takesN wd = true) ∨ (wd ≠ pushW ∧ wideG wd = none ∧ widthG wd = 0 ∧ wd = swapW ∧ takesN wd = true) ∨
    (wd ≠ pushW ∧ wideG wd = none ∧ widthG wd = 0 ∧ wd = byteW ∧ takesN wd = true) ∨ (wd ≠ pushW ∧ wd ≠ dupW ∧ wd ≠ swapW ∧ wd ≠ byteW ∧ widthG wd ≠ 0 ∧ wideG wd = some (widthG wd) ∧ takesN wd = true) ∨
    (wd ≠ pushW ∧ wd ≠ dupW ∧ wd ≠ swapW ∧ wd ≠ byteW ∧ widthG wd = 0 ∧ takesN wd = false) := by
  have hw := wideG_width wd
  by_cases hp : wd = pushW
  · rw [if_pos hp] at hw
    exact .inl ⟨hp, hw, by unfold takesN; rw [hw]; rfl⟩
  · rw [if_neg hp] at hw
    by_cases h0 : widthG wd = 0
    · rw [if_pos h0] at hw
      by_cases hd : wd = dupW
      · exact .inr (.inl ⟨hp, hw, h0, hd, by unfold takesN; rw [hd]; simp⟩)
      · by_cases hs : wd = swapW
        · exact .inr (.inr (.inl ⟨hp, hw, h0, hs, by unfold takesN; rw [hs]; simp⟩))
        · by_cases hb : wd = byteW
          · exact .inr (.inr (.inr (.inl ⟨hp, hw, h0, hb, by unfold takesN; rw [hb]; simp⟩)))
          · refine .inr (.inr (.inr (.inr (.inr ⟨hp, hd, hs, hb, h0, ?_⟩))))
            unfold takesN
            rw [hw]
            simp [hd, hs, hb]
    · rw [if_neg h0] at hw
      refine .inr (.inr (.inr (.inr (.inl ⟨hp, ?_, ?_, ?_, h0, hw, by unfold takesN; rw [hw]; rfl⟩))))
      · intro h; rw [h] at h0; exact h0 (by decide)
      · intro h; rw [h] at h0; exact h0 (by decide)
      · intro h; rw [h] at h0; exact h0 (by decide)

end Go.Proofs.YtlbiahpajcfcfaaDoor
