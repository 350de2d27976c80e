/- The text of a code: one step. No program in sight. -/
import Derived.Test.YtlbiahpajcfcfaaDoorOpAsmP
import Derived.Lib.Join
namespace Go.Proofs.YtlbiahpajcfcfaaDoor
open Go Go.RowKit
set_option linter.unusedVariables false
set_option maxRecDepth 100000

theorem pieceI_take (x : UInt8) (ys : List UInt8) : pieceI ((x :: ys).take (pieceN (x :: ys))) = pieceI (x :: ys) := by
  cases h : pieceI (x :: ys) with
  | none =>
    have e : pieceN (x :: ys) = 1 := by simp [pieceN, h]
    rw [e]
    simp only [List.take_succ_cons, List.take_zero]
    simp only [pieceI] at h ⊢
    cases ho : ofI x.toNat with
    | none => rfl
    | some i =>
      rw [ho] at h
      simp only [Option.bind_some] at h ⊢
      by_cases hl : ys.length + 1 ≤ i.behind
      · rw [if_pos (by simp; omega)]
      · rw [if_neg hl] at h; cases h
  | some i =>
    obtain ⟨h1, h2, h3⟩ := pieceI_behind h
    have e : pieceN (x :: ys) = i.behind + 1 := by simp [pieceN, h]
    rw [e, List.take_succ_cons]
    simp only [pieceI, h1, Option.bind_some]
    rw [if_neg (by rw [List.length_take]; omega)]
theorem ofI_word {op : Nat} {i : InfoD} (h : ofI op = some i) : i.word.length ≤ 8 := by
  unfold ofI at h
  split at h
  · injection h with h
    subst h
    exact (by decide : pushW.length ≤ 8)
  · have : ∀ r ∈ tbl, r.2.word.length ≤ 8 := by decide
    rw [Option.map_eq_some_iff] at h
    obtain ⟨r, hr, rfl⟩ := h
    exact this r (List.mem_of_find?_eq_some hr)

/-- The words of a piece, by what it is. -/
theorem tell_none {x : UInt8} {ys : List UInt8} (h : pieceI (x :: ys) = none) : tellP ((x :: ys).take (pieceN (x :: ys))) = [byteW, Lib.decDigits x.toNat] := by
  unfold tellP
  rw [pieceI_take, h]
  have e : pieceN (x :: ys) = 1 := by simp [pieceN, h]
  rw [e]
  rfl
theorem tell_bare {x : UInt8} {ys : List UInt8} {i : InfoD} (h : pieceI (x :: ys) = some i) (h0 : i.behind = 0) : tellP ((x :: ys).take (pieceN (x :: ys))) = [i.word] := by
  unfold tellP
  rw [pieceI_take, h]
  simp only
  rw [if_pos h0]
/-- The words of an operation with bytes of its own. -/
def tellI (i : InfoD) (own : List UInt8) : List (List UInt8) := [if i.word = pushW ∧ leastN (wval own) < i.behind then i.word ++ Lib.decDigits i.behind else i.word, Lib.decDigits (wval own)]
theorem tell_own {x : UInt8} {ys : List UInt8} {i : InfoD} (h : pieceI (x :: ys) = some i) (h0 : i.behind ≠ 0) : tellP ((x :: ys).take (pieceN (x :: ys))) = tellI i (ys.take i.behind) := by
  unfold tellP
  rw [pieceI_take, h]
  simp only
  rw [if_neg h0]
  have e : pieceN (x :: ys) = i.behind + 1 := by simp [pieceN, h]
  rw [e, List.take_succ_cons]
  rfl
def tells (xs : List UInt8) : List (List UInt8) := (pieces xs).flatMap tellP
theorem tells_cons (x : UInt8) (ys : List UInt8) : tells (x :: ys) = tellP ((x :: ys).take (pieceN (x :: ys))) ++ tells ((x :: ys).drop (pieceN (x :: ys))) := by
  unfold tells
  rw [pieces_cons, List.flatMap_cons]

theorem dec_len20 {u : Nat} (h : u < 18446744073709551616) : (Lib.decDigits u).length ≤ 20 := by rw [Lib.decDigits_length]; exact nDigits_le20 h
theorem tellP_len {x : UInt8} {ys : List UInt8} : (∀ s ∈ tellP ((x :: ys).take (pieceN (x :: ys))), s.length ≤ 28) ∧ (tellP ((x :: ys).take (pieceN (x :: ys)))).length ≤ 2 := by
  have hx := x.toNat_lt
  cases h : pieceI (x :: ys) with
  | none =>
    rw [tell_none h]
    refine ⟨fun s hs => ?_, by simp⟩
    simp only [List.mem_cons, List.not_mem_nil, or_false] at hs
    rcases hs with rfl | rfl
    · decide
    · have := dec_len20 (u := x.toNat) (by omega)
      omega
  | some i =>
    have hp := pieceI_behind h
    have hw := ofI_word hp.1
    by_cases h0 : i.behind = 0
    · rw [tell_bare h h0]
      refine ⟨fun s hs => ?_, by simp⟩
      simp only [List.mem_cons, List.not_mem_nil, or_false] at hs
      subst hs
      omega
    · rw [tell_own h h0]
      refine ⟨fun s hs => ?_, by simp [tellI]⟩
      have hv : wval (ys.take i.behind) < 18446744073709551616 := wval_lt8 (by rw [List.length_take]; omega)
      have h1 := dec_len20 hv
      have h2 := dec_len20 (u := i.behind) (by omega)
      simp only [tellI, List.mem_cons, List.not_mem_nil, or_false] at hs
      rcases hs with rfl | rfl
      · split
        · rw [List.length_append]; omega
        · omega
      · omega
theorem tells_len : ∀ (n : Nat) (xs : List UInt8), xs.length ≤ n → (∀ s ∈ tells xs, s.length ≤ 28) ∧ (tells xs).length ≤ 2 * xs.length
  | _, [], _ => by simp [tells, pieces_nil]
  | 0, x :: ys, h => by simp at h
  | n + 1, x :: ys, h => by
    have hp := pieceN_pos (x :: ys)
    have hl : ((x :: ys).drop (pieceN (x :: ys))).length ≤ n := by
      rw [List.length_drop]
      simp only [List.length_cons] at h ⊢
      omega
    have ih := tells_len n _ hl
    have ht := tellP_len (x := x) (ys := ys)
    rw [tells_cons]
    refine ⟨fun s hs => ?_, ?_⟩
    · rcases List.mem_append.1 hs with hs | hs
      · exact ht.1 s hs
      · exact ih.1 s hs
    · rw [List.length_append]
      have h2 := ih.2
      have h3 := ht.2
      rw [List.length_drop] at h2
      have h4 := pieceN_le x ys
      simp only [List.length_cons] at h2 ⊢
      omega
theorem joinB_join : ∀ l : List (List UInt8), joinB l = Lib.join l [32]
  | [] => rfl
  | [w] => by rw [Lib.join_one]; rfl
  | w :: x :: l => by
    rw [Lib.join_cons]
    show w ++ 32 :: joinB (x :: l) = _
    rw [joinB_join (x :: l), Lib.join_cons]
    simp [Lib.joinTail]
theorem joinB_len : ∀ l : List (List UInt8), (∀ s ∈ l, s.length ≤ 28) → (joinB l).length ≤ 29 * l.length
  | [], _ => by simp [joinB]
  | [w], h => by
    have := h w (by simp)
    show w.length ≤ _
    simp
    omega
  | w :: x :: l, h => by
    have h1 := h w (by simp)
    have h2 := joinB_len (x :: l) (fun s hs => h s (by simp [List.mem_cons.1 hs]))
    show (w ++ 32 :: joinB (x :: l)).length ≤ _
    simp only [List.length_append, List.length_cons] at h2 ⊢
    omega
theorem printL_len (xs : List UInt8) : (printL xs).length ≤ 58 * xs.length := by
  have h := tells_len xs.length xs (Nat.le_refl _)
  have := joinB_len (tells xs) h.1
  show (joinB (tells xs)).length ≤ _
  omega

end Go.Proofs.YtlbiahpajcfcfaaDoor
