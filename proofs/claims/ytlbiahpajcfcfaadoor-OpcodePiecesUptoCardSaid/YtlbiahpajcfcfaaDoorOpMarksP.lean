/- The marks of a code: they rise, and are marks. No program in sight. -/
import Derived.Test.YtlbiahpajcfcfaaDoorOpMarks
namespace Go.Proofs.YtlbiahpajcfcfaaDoor
open Go Go.RowKit
set_option linter.unusedVariables false
set_option maxRecDepth 100000

theorem marksP_prop : ∀ (n : Nat) (xs : List UInt8) (pos : Nat), xs.length - pos ≤ n → pos ≤ xs.length →
    (∀ m ∈ marksP pos (pieces (xs.drop pos)), pos ≤ m ∧ m < xs.length ∧ xs[m]? = some 66) ∧ (marksP pos (pieces (xs.drop pos))).Pairwise (· < ·) := by
  intro n
  induction n with
  | zero =>
    intro xs pos h h2
    have : xs.drop pos = [] := List.drop_eq_nil_of_le (by omega)
    rw [this]
    simp [pieces_nil, marksP]
  | succ n ih =>
    intro xs pos h h2
    cases hd : xs.drop pos with
    | nil => simp [pieces_nil, marksP]
    | cons x ys =>
      have hl : xs.length - pos = ys.length + 1 := by
        have := congrArg List.length hd
        rwa [List.length_drop, List.length_cons] at this
      have hk1 := pieceN_pos (x :: ys)
      have hk2 := pieceN_le x ys
      obtain ⟨k, hk⟩ : ∃ k, pieceN (x :: ys) = k := ⟨_, rfl⟩
      rw [hk] at hk1 hk2
      rw [marks_step hk pos]
      have hd2 : (x :: ys).drop k = xs.drop (pos + k) := by rw [← hd, List.drop_drop]
      rw [hd2]
      obtain ⟨h3, h4⟩ := ih xs (pos + k) (by omega) (by omega)
      have hx : xs[pos]? = some x := by
        have := List.getElem?_drop (xs := xs) (i := pos) (j := 0)
        rw [hd] at this
        simpa using this.symm
      by_cases hm : (pieceI (x :: ys)).isSome = true ∧ x = 66
      · rw [if_pos hm]
        refine ⟨fun m hmm => ?_, ?_⟩
        · rcases List.mem_append.1 hmm with hmm | hmm
          · have : m = pos := by simpa using hmm
            subst this
            exact ⟨Nat.le_refl _, by omega, by rw [hx, hm.2]⟩
          · have := h3 m hmm
            exact ⟨by omega, this.2⟩
        · rw [List.singleton_append, List.pairwise_cons]
          exact ⟨fun m hmm => by have := (h3 m hmm).1; omega, h4⟩
      · rw [if_neg hm, List.nil_append]
        exact ⟨fun m hmm => by have := h3 m hmm; exact ⟨by omega, this.2⟩, h4⟩
theorem marks_at {xs : List UInt8} {j : Nat} (h : j < (marksL xs).length) : (marksL xs)[j] < xs.length ∧ xs[(marksL xs)[j]]? = some 66 := by
  have := (marksP_prop xs.length xs 0 (by omega) (Nat.zero_le _)).1 ((marksL xs)[j]) (by rw [List.drop_zero]; exact List.getElem_mem h)
  exact this.2
theorem marks_rise {xs : List UInt8} {k : Nat} (h : k + 1 < (marksL xs).length) : (marksL xs)[k] < (marksL xs)[k + 1] := by
  have := (marksP_prop xs.length xs 0 (by omega) (Nat.zero_le _)).2
  rw [List.drop_zero] at this
  exact List.pairwise_iff_getElem.1 this k (k + 1) (by exact Nat.lt_of_succ_lt h) h (by omega)
theorem marksL_len (xs : List UInt8) : (marksL xs).length ≤ xs.length := by
  have key : ∀ (n : Nat) (xs : List UInt8) (pos : Nat), xs.length ≤ n → (marksP pos (pieces xs)).length ≤ xs.length := by
    intro n
    induction n with
    | zero => intro xs pos h; have : xs = [] := List.eq_nil_of_length_eq_zero (by omega); subst this; simp [pieces_nil, marksP]
    | succ n ih =>
      intro xs pos h
      cases xs with
      | nil => simp [pieces_nil, marksP]
      | cons x ys =>
        have hk1 := pieceN_pos (x :: ys)
        have hk2 := pieceN_le x ys
        rw [marks_step rfl pos, List.length_append]
        have := ih ((x :: ys).drop (pieceN (x :: ys))) (pos + pieceN (x :: ys)) (by rw [List.length_drop]; simp only [List.length_cons] at h ⊢; omega)
        rw [List.length_drop] at this
        simp only [List.length_cons] at this ⊢
        split <;> simp only [List.length_cons, List.length_nil] <;> omega
  exact key xs.length xs 0 (Nat.le_refl _)

end Go.Proofs.YtlbiahpajcfcfaaDoor
