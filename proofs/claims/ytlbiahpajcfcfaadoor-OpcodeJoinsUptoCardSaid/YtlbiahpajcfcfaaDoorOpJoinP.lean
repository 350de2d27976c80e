/- The code of two texts, one behind the other. No program in sight. -/
import Derived.Test.YtlbiahpajcfcfaaDoorOpAsmP
import Derived.Test.YtlbiahpajcfcfaaDoorOpSplitP
namespace Go.Proofs.YtlbiahpajcfcfaaDoor
open Go Go.RowKit
set_option linter.unusedVariables false
set_option maxRecDepth 100000

def sh (d : Nat) (l : List (List UInt8 × Nat)) : List (List UInt8 × Nat) := l.map fun p => (p.1, p.2 + d)
theorem sh_cons (d : Nat) (w : List UInt8) (p : Nat) (l : List (List UInt8 × Nat)) : sh d ((w, p) :: l) = (w, p + d) :: sh d l := rfl
theorem scanW_shift (d : Nat) : ∀ (l : List UInt8) (pos : Nat) (o : Option (Nat × List UInt8)), scanW (pos + d) (o.map fun x => (x.1 + d, x.2)) l = sh d (scanW pos o l)
  | [], pos, none => rfl
  | [], pos, some (f, w) => rfl
  | c :: cs, pos, none => by
    simp only [Option.map_none, scanW]
    split
    · rw [show pos + d + 1 = pos + 1 + d by omega]
      exact scanW_shift d cs (pos + 1) none
    · rw [show pos + d + 1 = pos + 1 + d by omega]
      exact scanW_shift d cs (pos + 1) (some (pos, [c]))
  | c :: cs, pos, some (f, w) => by
    simp only [Option.map_some, scanW]
    split
    · rw [show pos + d + 1 = pos + 1 + d by omega, sh_cons]
      congr 1
      exact scanW_shift d cs (pos + 1) none
    · rw [show pos + d + 1 = pos + 1 + d by omega]
      exact scanW_shift d cs (pos + 1) (some (f, w ++ [c]))
theorem scanW_cut (r : List UInt8) : ∀ (l : List UInt8) (pos : Nat) (o : Option (Nat × List UInt8)), scanW pos o (l ++ 10 :: r) = scanW pos o l ++ scanW (pos + l.length + 1) none r
  | [], pos, none => by simp [scanW, isBl]
  | [], pos, some (f, w) => by simp [scanW, isBl]
  | c :: cs, pos, none => by
    have e : pos + (c :: cs).length + 1 = pos + 1 + cs.length + 1 := by simp only [List.length_cons]; omega
    rw [List.cons_append, e]
    simp only [scanW]
    split <;> exact scanW_cut r cs _ _
  | c :: cs, pos, some (f, w) => by
    have e : pos + (c :: cs).length + 1 = pos + 1 + cs.length + 1 := by simp only [List.length_cons]; omega
    rw [List.cons_append, e]
    simp only [scanW]
    split
    · rw [scanW_cut r cs _ _, List.cons_append]
    · exact scanW_cut r cs _ _
/-- The words of two texts with a line's end between, and a blank behind. -/
theorem words_join (s t : List UInt8) : wordsL (s ++ 10 :: (t ++ [32])) = wordsL s ++ sh (s.length + 1) (wordsL t) := by
  have h := scanW_shift (s.length + 1) t 0 none
  unfold wordsL
  rw [scanW_cut, scanW_tail, show 0 + s.length + 1 = 0 + (s.length + 1) by omega]
  exact congrArg (scanW 0 none s ++ ·) h

theorem asm_prefix : ∀ (n : Nat) (l : List (List UInt8 × Nat)), l.length ≤ n → ∀ (s : Nat) (c a : List UInt8) (p : Nat), asmL s l c = (a, p, 0) → ∀ s' r, asmL s' (l ++ r) c = asmL s' r a := by
  intro n
  induction n with
  | zero =>
    intro l h s c a p he s' r
    have : l = [] := List.eq_nil_of_length_eq_zero (by omega)
    subst this
    simp only [asmL, Prod.mk.injEq] at he
    rw [← he.1]
    rfl
  | succ n ih =>
    intro l h s c a p he s' r
    cases l with
    | nil =>
      simp only [asmL, Prod.mk.injEq] at he
      rw [← he.1]
      rfl
    | cons x l =>
      obtain ⟨w, q⟩ := x
      simp only [List.length_cons] at h
      cases hs : simpleG w with
      | some op =>
        rw [asm_simple hs] at he
        rw [List.cons_append, asm_simple hs]
        by_cases hl : c.length + 1 > 256
        · rw [if_pos hl] at he; simp at he
        · rw [if_neg hl] at he ⊢
          exact ih l (by omega) s _ a p he s' r
      | none =>
        cases ht : takesN w with
        | false => rw [asm_word hs ht] at he; simp at he
        | true =>
          cases l with
          | nil => rw [asm_end hs ht] at he; simp at he
          | cons x2 l =>
            obtain ⟨v, q2⟩ := x2
            simp only [List.length_cons] at h
            cases hn : (parW v).bind (numG w) with
            | none => rw [asm_bad hs ht hn] at he; simp at he
            | some b =>
              rw [asm_num hs ht hn] at he
              rw [List.cons_append, List.cons_append, asm_num hs ht hn]
              by_cases hl : c.length + b.length > 256
              · rw [if_pos hl] at he; simp at he
              · rw [if_neg hl] at he ⊢
                exact ih l (by omega) s _ a p he s' r
theorem asm_grows : ∀ (n : Nat) (l : List (List UInt8 × Nat)), l.length ≤ n → ∀ (s : Nat) (c : List UInt8), (asmL s l c).2.2 = 0 → c.length ≤ (asmL s l c).1.length := by
  intro n
  induction n with
  | zero =>
    intro l h s c he
    have : l = [] := List.eq_nil_of_length_eq_zero (by omega)
    subst this
    simp [asmL]
  | succ n ih =>
    intro l h s c he
    cases l with
    | nil => simp [asmL]
    | cons x l =>
      obtain ⟨w, q⟩ := x
      simp only [List.length_cons] at h
      cases hs : simpleG w with
      | some op =>
        rw [asm_simple hs] at he ⊢
        by_cases hl : c.length + 1 > 256
        · rw [if_pos hl] at he; simp at he
        · rw [if_neg hl] at he ⊢
          have := ih l (by omega) s _ he
          rw [List.length_append] at this
          omega
      | none =>
        cases ht : takesN w with
        | false => rw [asm_word hs ht] at he; simp at he
        | true =>
          cases l with
          | nil => rw [asm_end hs ht] at he; simp at he
          | cons x2 l =>
            obtain ⟨v, q2⟩ := x2
            simp only [List.length_cons] at h
            cases hn : (parW v).bind (numG w) with
            | none => rw [asm_bad hs ht hn] at he; simp at he
            | some b =>
              rw [asm_num hs ht hn] at he ⊢
              by_cases hl : c.length + b.length > 256
              · rw [if_pos hl] at he; simp at he
              · rw [if_neg hl] at he ⊢
                have := ih l (by omega) s _ he
                rw [List.length_append] at this
                omega

/-- How the code of a text behind another one's is told: R of the text alone, Q of both. -/
structure JoinR (a : List UInt8) (d : Nat) (R Q : List UInt8 × Nat × Nat) : Prop where
  ok : R.2.2 = 0 → a.length + R.1.length ≤ 256 → Q = (a ++ R.1, 0, 0)
  long : R.2.2 = 0 → 256 < a.length + R.1.length → Q.2.2 = 142
  word : R.2.2 = 140 → Q.2.2 = 142 ∨ Q.2.2 = 140 ∧ Q.2.1 = R.2.1 + d
  other : R.2.2 ≠ 0 → Q.2.2 ≠ 0
theorem JoinR.toolong {a : List UInt8} {d : Nat} {R Q : List UInt8 × Nat × Nat} (h : Q.2.2 = 142) (h2 : R.2.2 = 0 → 256 < a.length + R.1.length) : JoinR a d R Q :=
  ⟨fun h0 hl => by have := h2 h0; omega, fun _ _ => h, fun _ => .inl h, fun _ => by omega⟩
theorem asm_behind (a : List UInt8) (d : Nat) : ∀ (n : Nat) (l : List (List UInt8 × Nat)), l.length ≤ n → ∀ (s s' : Nat) (c : List UInt8), a.length + c.length ≤ 256 → JoinR a d (asmL s l c) (asmL s' (sh d l) (a ++ c)) := by
  have nil : ∀ (s s' : Nat) (c : List UInt8), a.length + c.length ≤ 256 → JoinR a d (asmL s [] c) (asmL s' (sh d []) (a ++ c)) := by
    intro s s' c hc
    simp only [sh, List.map_nil, asmL]
    exact ⟨fun _ _ => rfl, fun _ h => by simp only at h; omega, fun h => by simp at h, fun h => absurd rfl h⟩
  intro n
  induction n with
  | zero =>
    intro l h s s' c hc
    have : l = [] := List.eq_nil_of_length_eq_zero (by omega)
    subst this
    exact nil s s' c hc
  | succ n ih =>
    intro l h s s' c hc
    cases l with
    | nil => exact nil s s' c hc
    | cons x l =>
      obtain ⟨w, q⟩ := x
      simp only [List.length_cons] at h
      rw [sh_cons]
      cases hs : simpleG w with
      | some op =>
        rw [asm_simple hs, asm_simple hs]
        by_cases hl : (a ++ c).length + 1 > 256
        · rw [if_pos hl]
          refine JoinR.toolong rfl ?_
          intro he
          rw [List.length_append] at hl
          by_cases hl2 : c.length + 1 > 256
          · rw [if_pos hl2] at he; simp at he
          · rw [if_neg hl2] at he ⊢
            have := asm_grows _ l (Nat.le_refl _) s _ he
            rw [List.length_append] at this
            simp only [List.length_cons, List.length_nil] at this
            omega
        · rw [List.length_append] at hl
          rw [if_neg (by omega), if_neg (by rw [List.length_append]; omega), List.append_assoc]
          exact ih l (by omega) s s' _ (by rw [List.length_append]; simp; omega)
      | none =>
        cases ht : takesN w with
        | false =>
          rw [asm_word hs ht, asm_word hs ht]
          exact ⟨fun h => by simp at h, fun h => by simp at h, fun _ => .inr ⟨rfl, rfl⟩, fun _ => by simp⟩
        | true =>
          cases l with
          | nil =>
            rw [show sh d [] = [] from rfl, asm_end hs ht, asm_end hs ht]
            exact ⟨fun h => by simp at h, fun h => by simp at h, fun h => by simp at h, fun _ => by simp⟩
          | cons x2 l =>
            obtain ⟨v, q2⟩ := x2
            simp only [List.length_cons] at h
            rw [sh_cons]
            cases hn : (parW v).bind (numG w) with
            | none =>
              rw [asm_bad hs ht hn, asm_bad hs ht hn]
              exact ⟨fun h => by simp at h, fun h => by simp at h, fun h => by simp at h, fun _ => by simp⟩
            | some b =>
              rw [asm_num hs ht hn, asm_num hs ht hn]
              by_cases hl : (a ++ c).length + b.length > 256
              · rw [if_pos hl]
                refine JoinR.toolong rfl ?_
                intro he
                rw [List.length_append] at hl
                by_cases hl2 : c.length + b.length > 256
                · rw [if_pos hl2] at he; simp at he
                · rw [if_neg hl2] at he ⊢
                  have := asm_grows _ l (Nat.le_refl _) s _ he
                  rw [List.length_append] at this
                  omega
              · rw [List.length_append] at hl
                rw [if_neg (by omega), if_neg (by rw [List.length_append]; omega), List.append_assoc]
                exact ih l (by omega) s s' _ (by rw [List.length_append]; omega)
/-- The code of two texts. -/
theorem asm_join {s t a : List UInt8} {p : Nat} (h : asmT s = (a, p, 0)) (ha : a.length ≤ 256) : JoinR a (s.length + 1) (asmT t) (asmT (s ++ 10 :: (t ++ [32]))) := by
  unfold asmT at h ⊢
  rw [words_join, asm_prefix _ (wordsL s) (Nat.le_refl _) s.length [] a p h]
  have := asm_behind a (s.length + 1) _ (wordsL t) (Nat.le_refl _) t.length (s ++ 10 :: (t ++ [32])).length [] (by simpa using ha)
  rw [List.append_nil] at this
  exact this

/-! ### Where the places are -/
theorem scanW_place : ∀ (l : List UInt8) (pos : Nat) (o : Option (Nat × List UInt8)), (∀ x, o = some x → x.1 ≤ pos) → ∀ x ∈ scanW pos o l, x.2 ≤ pos + l.length
  | [], pos, none, _ => by simp [scanW]
  | [], pos, some (f, w), h => by
    intro x hx
    have := h _ rfl
    simp [scanW] at hx
    subst hx
    simpa using this
  | c :: cs, pos, none, h => by
    intro x hx
    simp only [scanW] at hx
    have e : pos + (c :: cs).length = pos + 1 + cs.length := by simp only [List.length_cons]; omega
    rw [e]
    split at hx
    · exact scanW_place cs _ none (fun x hx => by cases hx) x hx
    · exact scanW_place cs _ (some _) (fun x hx => by injection hx with hx; subst hx; simp) x hx
  | c :: cs, pos, some (f, w), h => by
    intro x hx
    have hf := h _ rfl
    simp only [scanW] at hx
    have e : pos + (c :: cs).length = pos + 1 + cs.length := by simp only [List.length_cons]; omega
    rw [e]
    split at hx
    · rcases List.mem_cons.1 hx with rfl | hx
      · simp only at hf ⊢; omega
      · exact scanW_place cs _ none (fun x hx => by cases hx) x hx
    · exact scanW_place cs _ (some _) (fun x hx => by injection hx with hx; subst hx; simp only at hf ⊢; omega) x hx
theorem asm_place (N : Nat) : ∀ (n : Nat) (l : List (List UInt8 × Nat)), l.length ≤ n → (∀ x ∈ l, x.2 ≤ N) → ∀ (s : Nat) (c : List UInt8), s ≤ N → (asmL s l c).2.1 ≤ N := by
  intro n
  induction n with
  | zero =>
    intro l h _ s c hs
    have : l = [] := List.eq_nil_of_length_eq_zero (by omega)
    subst this
    simp [asmL]
  | succ n ih =>
    intro l h hN s c hsN
    cases l with
    | nil => simp [asmL]
    | cons x l =>
      obtain ⟨w, q⟩ := x
      simp only [List.length_cons] at h
      have hq : q ≤ N := hN (w, q) (by simp)
      cases hs : simpleG w with
      | some op =>
        rw [asm_simple hs]
        split
        · exact hq
        · exact ih l (by omega) (fun x hx => hN x (by simp [hx])) s _ hsN
      | none =>
        cases ht : takesN w with
        | false => rw [asm_word hs ht]; exact hq
        | true =>
          cases l with
          | nil => rw [asm_end hs ht]; exact hsN
          | cons x2 l =>
            obtain ⟨v, q2⟩ := x2
            simp only [List.length_cons] at h
            cases hn : (parW v).bind (numG w) with
            | none => rw [asm_bad hs ht hn]; exact hN (v, q2) (by simp)
            | some b =>
              rw [asm_num hs ht hn]
              split
              · exact hq
              · exact ih l (by omega) (fun x hx => hN x (by simp [hx])) s _ hsN
theorem asmT_place (s : List UInt8) : (asmT s).2.1 ≤ s.length :=
  asm_place s.length _ (wordsL s) (Nat.le_refl _) (fun x hx => by have := scanW_place s 0 none (fun x h => by cases h) x hx; omega) s.length [] (Nat.le_refl _)

end Go.Proofs.YtlbiahpajcfcfaaDoor
