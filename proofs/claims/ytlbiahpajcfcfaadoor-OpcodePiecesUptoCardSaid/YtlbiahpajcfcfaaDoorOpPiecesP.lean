/- A code with a push and a mark behind it: its marks. No program in sight. -/
import Derived.Test.YtlbiahpajcfcfaaDoorOpMarksP
namespace Go.Proofs.YtlbiahpajcfcfaaDoor
open Go Go.RowKit
set_option linter.unusedVariables false
set_option maxRecDepth 100000

/-- A piece that is whole, or no operation at all, is the same piece with bytes behind the code. -/
theorem pieceI_more {x : UInt8} {ys : List UInt8} (h : pieceI (x :: ys) = none → ofI x.toNat = none) (zs : List UInt8) : pieceI (x :: (ys ++ zs)) = pieceI (x :: ys) := by
  cases hp : pieceI (x :: ys) with
  | none => simp [pieceI, h hp]
  | some i =>
    obtain ⟨h1, h2, _⟩ := pieceI_behind hp
    simp only [pieceI, h1, Option.bind_some]
    rw [if_neg (by rw [List.length_append]; omega)]

/-- What is known of a code's marks up to a place, whatever stands behind the code. -/
def MkA (xs : List UInt8) (pos : Nat) : Prop := ∀ zs, ∃ L, marksL (xs ++ zs) = L ++ marksP pos (pieces (xs.drop pos ++ zs)) ∧ marksL xs = L ++ marksP pos (pieces (xs.drop pos))
theorem MkA.start (xs : List UInt8) : MkA xs 0 := fun zs => ⟨[], by rw [List.drop_zero]; rfl, by rw [List.drop_zero]; rfl⟩
theorem MkA.step {xs ys : List UInt8} {x : UInt8} {pos k : Nat} (h : MkA xs pos) (hd : xs.drop pos = x :: ys) (hk : pieceN (x :: ys) = k) (hw : pieceI (x :: ys) = none → ofI x.toNat = none) : MkA xs (pos + k) := by
  intro zs
  obtain ⟨L, h1, h2⟩ := h zs
  have hm := pieceI_more hw zs
  have hk2 : pieceN (x :: (ys ++ zs)) = k := by unfold pieceN at hk ⊢; rw [hm]; exact hk
  have hle := pieceN_le x ys
  have hd2 : xs.drop (pos + k) = (x :: ys).drop k := by rw [← hd, List.drop_drop]
  rw [hd] at h1 h2
  rw [List.cons_append, marks_step hk2 pos, hm] at h1
  rw [marks_step hk pos] at h2
  refine ⟨L ++ (if (pieceI (x :: ys)).isSome = true ∧ x = 66 then [pos] else []), ?_, ?_⟩
  · rw [h1, hd2, ← List.drop_append_of_le_length (by rw [List.length_cons]; omega), List.cons_append, List.append_assoc]
  · rw [h2, hd2, List.append_assoc]
theorem MkA.done {xs : List UInt8} (h : MkA xs xs.length) (zs : List UInt8) : marksL (xs ++ zs) = marksL xs ++ marksP xs.length (pieces zs) := by
  obtain ⟨L, h1, h2⟩ := h zs
  rw [List.drop_length] at h1 h2
  have h3 : marksL xs = L := by rw [h2]; simp [pieces_nil, marksP]
  rw [h1, h3]
  rfl
def Whole (xs : List UInt8) : Prop := ∀ zs, marksL (xs ++ zs) = marksL xs ++ marksP xs.length (pieces zs)
theorem Whole.nil : Whole [] := fun zs => by
  show marksL zs = _
  simp [marksL, pieces_nil, marksP]
theorem push_mark (n p : Nat) : marksP p (pieces (39 :: (be 8 n ++ [66]))) = [p + 9] := by
  have h1 : pieceN (39 :: (be 8 n ++ [66])) = 9 := by
    unfold pieceN
    have : pieceI (39 :: (be 8 n ++ [66])) = some ⟨pushW, 8, 0, 1, 1⟩ := by
      simp only [pieceI]
      rw [show ofI (39 : UInt8).toNat = some ⟨pushW, 8, 0, 1, 1⟩ by rfl]
      simp
    rw [this]
    rfl
  have h2 : pieceN [66] = 1 := by rfl
  rw [marks_step h1 p, if_neg (by simp)]
  have h3 : (39 :: (be 8 n ++ [66])).drop 9 = [66] := by
    rw [List.drop_succ_cons]
    exact List.drop_left' (be_length 8 n)
  rw [h3, marks_step h2 (p + 9), if_pos ⟨by rfl, rfl⟩]
  simp [pieces_nil, marksP]
/-- The marks of a code with a push and a mark behind it. -/
theorem longer_marks {xs : List UInt8} (h : Whole xs) (n : Nat) : marksL (xs ++ 39 :: (be 8 n ++ [66])) = marksL xs ++ [xs.length + 9] := by
  rw [h, push_mark]
theorem printL_nil : printL [] = [] := by simp [printL, pieces_nil, joinB]
theorem joinB_first (w : List UInt8) (l : List (List UInt8)) (h : w ≠ []) : joinB (w :: l) ≠ [] := by
  cases l with
  | nil => exact h
  | cons x l => show w ++ 32 :: joinB (x :: l) ≠ []; simp
theorem printL_ne (x : UInt8) (ys : List UInt8) : printL (x :: ys) ≠ [] := by
  show joinB (tells (x :: ys)) ≠ []
  rw [tells_cons]
  cases h : pieceI (x :: ys) with
  | none => rw [tell_none h]; exact joinB_first _ _ (by decide)
  | some i =>
    have hw : i.word ≠ [] := by
      have h1 := (pieceI_behind h).1
      unfold ofI at h1
      split at h1
      · injection h1 with h1; subst h1; exact (by decide : pushW ≠ [])
      · have h2 : ∀ r ∈ tbl, r.2.word ≠ [] := by decide
        rw [Option.map_eq_some_iff] at h1
        obtain ⟨r, hr, rfl⟩ := h1
        exact h2 r (List.mem_of_find?_eq_some hr)
    by_cases h0 : i.behind = 0
    · rw [tell_bare h h0]; exact joinB_first _ _ hw
    · rw [tell_own h h0]
      refine joinB_first _ _ ?_
      split
      · simp [hw]
      · exact hw

end Go.Proofs.YtlbiahpajcfcfaaDoor
