/- A text read word by word, as the reference reads it; what the reference says of a push's word. No program in sight. -/
import Derived.Test.YtlbiahpajcfcfaaDoorOpBackP
import Derived.Test.YtlbiahpajcfcfaaDoorWdRef
namespace Go.Proofs.YtlbiahpajcfcfaaDoor
open Go Go.RowKit
set_option linter.unusedVariables false
set_option maxRecDepth 100000

/-! ### The next word -/
def notBl (c : UInt8) : Bool := !isBl c
/-- How many blanks a text begins with; its first word. -/
def skipN (l : List UInt8) : Nat := (l.takeWhile isBl).length
def wordOf (l : List UInt8) : List UInt8 := (l.drop (skipN l)).takeWhile notBl
def nextAt (S : List UInt8) (pos : Nat) : Nat := pos + skipN (S.drop pos)
def nextW (S : List UInt8) (pos : Nat) : List UInt8 := wordOf (S.drop pos)
def nextTo (S : List UInt8) (pos : Nat) : Nat := nextAt S pos + (nextW S pos).length

theorem skipN_le (l : List UInt8) : skipN l ≤ l.length := (List.takeWhile_sublist _).length_le
theorem wordOf_le (l : List UInt8) : skipN l + (wordOf l).length ≤ l.length := by
  have h1 := skipN_le l
  have h2 : (wordOf l).length ≤ (l.drop (skipN l)).length := (List.takeWhile_sublist _).length_le
  rw [List.length_drop] at h2
  omega
theorem skipN_cons (c : UInt8) (cs : List UInt8) : skipN (c :: cs) = if isBl c then skipN cs + 1 else 0 := by
  unfold skipN
  rw [List.takeWhile_cons]
  split <;> simp
theorem scan_skip : ∀ (l : List UInt8) (pos : Nat), scanW pos none l = scanW (pos + skipN l) none (l.drop (skipN l))
  | [], pos => rfl
  | c :: cs, pos => by
    rw [skipN_cons]
    by_cases h : isBl c = true
    · rw [if_pos h, List.drop_succ_cons, show pos + (skipN cs + 1) = pos + 1 + skipN cs by omega, ← scan_skip cs (pos + 1)]
      simp only [scanW]
      rw [if_pos h]
    · rw [if_neg h]
      simp
theorem wordOf_good (l : List UInt8) : ∀ c ∈ wordOf l, isBl c = false := by
  intro c hc
  have h := List.all_takeWhile (l := l.drop (skipN l)) (p := notBl)
  rw [List.all_eq_true] at h
  have := h c hc
  simpa [notBl] using this
theorem drop_skip_head (l : List UInt8) : ∀ c cs, l.drop (skipN l) = c :: cs → isBl c = false := by
  induction l with
  | nil => intro c cs h; simp at h
  | cons x xs ih =>
    intro c cs h
    rw [skipN_cons] at h
    by_cases hx : isBl x = true
    · rw [if_pos hx, List.drop_succ_cons] at h
      exact ih c cs h
    · rw [if_neg hx, List.drop_zero] at h
      injection h with h1 h2
      rw [← h1]
      simpa using hx
/-- No word is left: the text has ended. -/
theorem wordOf_nil {l : List UInt8} (h : wordOf l = []) : l.drop (skipN l) = [] := by
  cases hd : l.drop (skipN l) with
  | nil => rfl
  | cons c cs =>
    have := drop_skip_head l c cs hd
    unfold wordOf at h
    rw [hd, List.takeWhile_cons, if_pos (by simp [notBl, this])] at h
    cases h
theorem rest_head (l : List UInt8) : ∀ c cs, l.drop (skipN l + (wordOf l).length) = c :: cs → isBl c = true := by
  have key : ∀ (m : List UInt8) c cs, m.drop (m.takeWhile notBl).length = c :: cs → isBl c = true := by
    intro m
    induction m with
    | nil => intro c cs h; simp at h
    | cons x xs ih =>
      intro c cs h
      rw [List.takeWhile_cons] at h
      by_cases hx : notBl x = true
      · rw [if_pos hx, List.length_cons, List.drop_succ_cons] at h
        exact ih c cs h
      · rw [if_neg hx] at h
        simp only [List.length_nil, List.drop_zero] at h
        injection h with h1 h2
        rw [← h1]
        simpa [notBl] using hx
  intro c cs h
  rw [← List.drop_drop] at h
  exact key _ c cs h
theorem word_split (l : List UInt8) : l.drop (skipN l) = wordOf l ++ l.drop (skipN l + (wordOf l).length) := by
  have key : ∀ m : List UInt8, m = m.takeWhile notBl ++ m.drop (m.takeWhile notBl).length := by
    intro m
    induction m with
    | nil => rfl
    | cons x xs ih =>
      rw [List.takeWhile_cons]
      by_cases hx : notBl x = true
      · rw [if_pos hx, List.length_cons, List.drop_succ_cons, List.cons_append, ← ih]
      · rw [if_neg hx]; rfl
  rw [← List.drop_drop]
  exact key _
theorem scan_rest (l : List UInt8) (pos f : Nat) (w : List UInt8) (h : ∀ c cs, l = c :: cs → isBl c = true) : scanW pos (some (f, w)) l = (w, f) :: scanW pos none l := by
  cases l with
  | nil => rfl
  | cons c cs =>
    have hb := h c cs rfl
    simp only [scanW]
    rw [if_pos hb, if_pos hb]
theorem scan_wordOf (l : List UInt8) (pos : Nat) : scanW pos none l = if wordOf l = [] then [] else (wordOf l, pos + skipN l) :: scanW (pos + skipN l + (wordOf l).length) none (l.drop (skipN l + (wordOf l).length)) := by
  rw [scan_skip]
  by_cases h : wordOf l = []
  · rw [if_pos h, wordOf_nil h]
    rfl
  · rw [if_neg h, word_split l]
    rw [scan_word1 ⟨h, wordOf_good l⟩, scan_rest _ _ _ _ (rest_head l)]
theorem nextW_len {S : List UInt8} {pos : Nat} (h : pos ≤ S.length) : nextTo S pos ≤ S.length := by
  have := wordOf_le (S.drop pos)
  rw [List.length_drop] at this
  unfold nextTo nextAt nextW
  omega
/-- The words from a place on. -/
def wordsAt (S : List UInt8) (pos : Nat) : List (List UInt8 × Nat) := scanW pos none (S.drop pos)
theorem wordsAt_start (S : List UInt8) : wordsAt S 0 = wordsL S := by unfold wordsAt wordsL; rw [List.drop_zero]
theorem words_next (S : List UInt8) (pos : Nat) : wordsAt S pos = if nextW S pos = [] then [] else (nextW S pos, nextAt S pos) :: wordsAt S (nextTo S pos) := by
  unfold wordsAt
  rw [scan_wordOf, List.drop_drop]
  unfold nextTo nextAt nextW
  rw [Nat.add_assoc]
theorem next_end {S : List UInt8} {pos : Nat} (hp : pos ≤ S.length) (h : nextW S pos = []) : nextAt S pos = S.length := by
  have h1 := wordOf_nil h
  have h2 := skipN_le (S.drop pos)
  have h3 := congrArg List.length h1
  rw [List.length_drop, List.length_drop, List.length_nil] at h3
  rw [List.length_drop] at h2
  unfold nextAt
  omega

/-! ### The letters, one by one -/
theorem skip_yes {S : List UInt8} {pos : Nat} {c : UInt8} (hc : S[pos]? = some c) (hb : isBl c = true) : nextAt S (pos + 1) = nextAt S pos ∧ nextW S (pos + 1) = nextW S pos := by
  have hlt : pos < S.length := (List.getElem?_eq_some_iff.1 hc).1
  have hd : S.drop pos = c :: S.drop (pos + 1) := by rw [List.drop_eq_getElem_cons hlt, (List.getElem?_eq_some_iff.1 hc).2]
  unfold nextAt nextW wordOf
  rw [hd, skipN_cons, if_pos hb, List.drop_succ_cons]
  exact ⟨by omega, rfl⟩
theorem skip_no {S : List UInt8} {pos : Nat} (h : ∀ c, S[pos]? = some c → isBl c = false) : nextAt S pos = pos ∧ nextW S pos = (S.drop pos).takeWhile notBl := by
  have hk : skipN (S.drop pos) = 0 := by
    cases hd : S.drop pos with
    | nil => rfl
    | cons c cs =>
      have hc : S[pos]? = some c := by
        have := List.getElem?_drop (xs := S) (i := pos) (j := 0)
        rw [hd] at this
        simpa using this.symm
      rw [skipN_cons, if_neg (by rw [h c hc]; simp)]
  unfold nextAt nextW wordOf
  rw [hk]
  exact ⟨rfl, rfl⟩
/-- A word's end. -/
def runN (S : List UInt8) (pos : Nat) : Nat := ((S.drop pos).takeWhile notBl).length
theorem run_yes {S : List UInt8} {pos : Nat} {c : UInt8} (hc : S[pos]? = some c) (hb : isBl c = false) : runN S pos = runN S (pos + 1) + 1 := by
  have hlt : pos < S.length := (List.getElem?_eq_some_iff.1 hc).1
  have hd : S.drop pos = c :: S.drop (pos + 1) := by rw [List.drop_eq_getElem_cons hlt, (List.getElem?_eq_some_iff.1 hc).2]
  unfold runN
  rw [hd, List.takeWhile_cons, if_pos (by simp [notBl, hb]), List.length_cons]
theorem run_no {S : List UInt8} {pos : Nat} (h : ∀ c, S[pos]? = some c → isBl c = true) : runN S pos = 0 := by
  unfold runN
  cases hd : S.drop pos with
  | nil => rfl
  | cons c cs =>
    have hc : S[pos]? = some c := by
      have := List.getElem?_drop (xs := S) (i := pos) (j := 0)
      rw [hd] at this
      simpa using this.symm
    rw [List.takeWhile_cons, if_neg (by simp [notBl, h c hc])]
    rfl
theorem run_le {S : List UInt8} {pos : Nat} (h : pos ≤ S.length) : pos + runN S pos ≤ S.length := by
  have : runN S pos ≤ (S.drop pos).length := (List.takeWhile_sublist _).length_le
  rw [List.length_drop] at this
  omega
theorem run_take {S : List UInt8} {pos : Nat} (h : pos ≤ S.length) : (S.drop pos).takeWhile notBl = (S.take (pos + runN S pos)).drop pos := by
  have key : ∀ m : List UInt8, m.takeWhile notBl = m.take (m.takeWhile notBl).length := by
    intro m
    induction m with
    | nil => rfl
    | cons x xs ih =>
      rw [List.takeWhile_cons]
      by_cases hx : notBl x = true
      · rw [if_pos hx, List.length_cons, List.take_succ_cons, ← ih]
      · rw [if_neg hx]; rfl
  rw [List.drop_take, Nat.add_sub_cancel_left]
  exact key _

/-! ### A push's word -/
def widthG (w : List UInt8) : Nat := if w.length = 5 ∧ w.take 4 = pushW then (if 49 ≤ (w.getD 4 0).toNat ∧ (w.getD 4 0).toNat ≤ 56 then (w.getD 4 0).toNat - 48 else 0) else 0
theorem widthG_le (w : List UInt8) : widthG w ≤ 8 := by
  unfold widthG
  split
  · split <;> omega
  · omega
theorem dec_small : ∀ v, v < 9 → Lib.decDigits v = [UInt8.ofNat (48 + v)] := by decide +kernel
theorem wideG_width (w : List UInt8) : wideG w = if w = pushW then some 0 else if widthG w = 0 then none else some (widthG w) := by
  by_cases ht : w.take 4 = pushW
  · have hw : w = pushW ++ w.drop 4 := by rw [← ht]; exact (List.take_append_drop 4 w).symm
    obtain ⟨r, hr⟩ : ∃ r, r = w.drop 4 := ⟨_, rfl⟩
    rw [← hr] at hw
    have hlen : w.length = 4 + r.length := by rw [hw]; simp [pushW]; omega
    cases r with
    | nil =>
      rw [List.append_nil] at hw
      rw [if_pos hw, hw]
      exact wide_push
    | cons c r2 =>
      have hne : w ≠ pushW := by
        intro h
        have := congrArg List.length h
        rw [hlen] at this
        simp [pushW] at this
      rw [if_neg hne]
      have hwg : wideG w = (parW (c :: r2)).bind fun n => if n < 1 ∨ 8 < n then none else some n := by
        unfold wideG
        rw [if_pos ht, if_neg (by rw [hlen]; simp), hr]
      rw [hwg]
      have one : ∀ v, parW (c :: r2) = some v → 1 ≤ v → v ≤ 8 → r2 = [] ∧ c.toNat = 48 + v := by
        intro v hv h1 h8
        have h := (parW_some hv).1
        rw [dec_small v (by omega)] at h
        injection h with h2 h3
        refine ⟨h3.symm, ?_⟩
        rw [← h2, UInt8.toNat_ofNat']
        omega
      cases r2 with
      | nil =>
        have hget : w.getD 4 0 = c := by rw [hw]; rfl
        have hwd : widthG w = if 49 ≤ c.toNat ∧ c.toNat ≤ 56 then c.toNat - 48 else 0 := by
          unfold widthG
          rw [if_pos ⟨by rw [hlen]; rfl, ht⟩, hget]
        by_cases hc : 49 ≤ c.toNat ∧ c.toNat ≤ 56
        · have hp : parW [c] = some (c.toNat - 48) := by
            have h := parW_digits (u := c.toNat - 48) (by omega)
            rw [dec_small _ (by omega), show 48 + (c.toNat - 48) = c.toNat by omega] at h
            simpa using h
          rw [hwd, if_pos hc, hp, Option.bind_some, if_neg (by omega), if_neg (by omega)]
        · rw [hwd, if_neg hc, if_pos rfl]
          cases hp : parW [c] with
          | none => rfl
          | some v =>
            rw [Option.bind_some]
            by_cases hv : v < 1 ∨ 8 < v
            · rw [if_pos hv]
            · have := (one v hp (by omega) (by omega)).2
              omega
      | cons c2 r3 =>
        have hwd : widthG w = 0 := by
          unfold widthG
          rw [if_neg (by intro h; rw [hlen] at h; have := h.1; simp only [List.length_cons] at this; omega)]
        rw [hwd, if_pos rfl]
        cases hp : parW (c :: c2 :: r3) with
        | none => rfl
        | some v =>
          rw [Option.bind_some]
          by_cases hv : v < 1 ∨ 8 < v
          · rw [if_pos hv]
          · have := (one v hp (by omega) (by omega)).1
            cases this
  · have h1 : wideG w = none := wide_not ht
    have h2 : widthG w = 0 := by unfold widthG; rw [if_neg (fun h => ht h.2)]
    have h3 : w ≠ pushW := by intro h; rw [h] at ht; exact ht rfl
    rw [h1, if_neg h3, h2, if_pos rfl]

/-! ### Which numbers fit -/
/-- The first bytes of a number's key are zero just if it needs no more than the others. -/
theorem zeros_least {n k : Nat} (hn : n < 18446744073709551616) (h1 : 1 ≤ k) (h8 : k ≤ 8) : (∀ i, i < 8 - k → (be 8 n)[i]? = some 0) ↔ leastN n ≤ k := by
  have hb := wbytes_len n
  have hl : leastN n ≤ k ↔ (wbytes n).length ≤ k := by unfold leastN; omega
  rw [hl, key_form n hn]
  constructor
  · intro h
    by_cases hlt : (wbytes n).length ≤ k
    · exact hlt
    · exfalso
      have := h (8 - (wbytes n).length) (by omega)
      rw [List.getElem?_append_right (by simp), List.length_replicate, Nat.sub_self] at this
      cases hw : wbytes n with
      | nil => rw [hw] at hlt; simp at hlt
      | cons c r =>
        rw [hw] at this
        simp only [List.getElem?_cons_zero, Option.some.injEq] at this
        exact strip_head (be 8 n) c r hw this
  · intro h i hi
    rw [List.getElem?_append_left (by simp; omega), List.getElem?_replicate, if_pos (by omega)]

end Go.Proofs.YtlbiahpajcfcfaaDoor
