/- The code of words: one step. No program in sight. -/
import Derived.Test.YtlbiahpajcfcfaaDoorOpPure2
namespace Go.Proofs.YtlbiahpajcfcfaaDoor
open Go Go.RowKit
set_option linter.unusedVariables false
set_option maxRecDepth 100000

theorem scanW_len : ∀ (l : List UInt8) (pos : Nat) (o : Option (Nat × List UInt8)) (N : Nat), (∀ p, o = some p → p.2.length + l.length ≤ N) → l.length ≤ N → ∀ x ∈ scanW pos o l, x.1.length ≤ N
  | [], pos, none, N, _, _ => by simp [scanW]
  | [], pos, some (f, w), N, h, _ => by
    intro x hx
    simp [scanW] at hx
    subst hx
    have := h _ rfl
    simpa using this
  | c :: cs, pos, none, N, h, hN => by
    intro x hx
    simp only [List.length_cons] at hN
    simp only [scanW] at hx
    split at hx
    · exact scanW_len cs _ none N (fun p hp => by cases hp) (by omega) x hx
    · exact scanW_len cs _ (some _) N (fun p hp => by injection hp with hp; subst hp; simp; omega) (by omega) x hx
  | c :: cs, pos, some (f, w), N, h, hN => by
    intro x hx
    have hw := h _ rfl
    simp only [List.length_cons] at hN hw
    simp only [scanW] at hx
    split at hx
    · rcases List.mem_cons.1 hx with rfl | hx
      · simp only; omega
      · exact scanW_len cs _ none N (fun p hp => by cases hp) (by omega) x hx
    · exact scanW_len cs _ (some _) N (fun p hp => by injection hp with hp; subst hp; simp; omega) (by omega) x hx
theorem words_len (l : List UInt8) : ∀ x ∈ wordsL l, x.1.length ≤ l.length := scanW_len l 0 none l.length (fun p hp => by cases hp) (Nat.le_refl _)

theorem wideG_le {l : List UInt8} {k : Nat} (h : wideG l = some k) : k ≤ 8 := by
  unfold wideG at h
  split at h
  · split at h
    · injection h with h; omega
    · rw [Option.bind_eq_some_iff] at h
      obtain ⟨n, _, h⟩ := h
      split at h
      · cases h
      · injection h with h; omega
  · cases h
theorem leastN_bd (n : Nat) : 1 ≤ leastN n ∧ leastN n ≤ 8 := by
  have := wbytes_len n
  unfold leastN
  omega
theorem pushG_len {n k : Nat} {b : List UInt8} (hk : k ≤ 8) (h : pushG n k = some b) : b.length ≤ 9 := by
  have := leastN_bd n
  obtain ⟨k', hk'⟩ : ∃ k', k' = if k = 0 then leastN n else k := ⟨_, rfl⟩
  have e : pushG n k = if k' < leastN n then none else some (UInt8.ofNat (32 + k' - 1) :: (be 8 n).drop (8 - k')) := by rw [hk']; rfl
  have h8 : k' ≤ 8 := by rw [hk']; split <;> omega
  rw [e] at h
  by_cases hl : k' < leastN n
  · rw [if_pos hl] at h; cases h
  · rw [if_neg hl] at h
    injection h with h
    subst h
    simp
theorem numG_len {w : List UInt8} {n : Nat} {b : List UInt8} (h : numG w n = some b) : b.length ≤ 9 := by
  unfold numG at h
  split at h
  · rename_i k hk
    exact pushG_len (wideG_le hk) h
  · split at h
    · cases h
    · split at h
      · injection h with h; subst h; simp
      · split at h
        · injection h with h; subst h; simp
        · injection h with h; subst h; simp

theorem asm_simple {s p op : Nat} {w : List UInt8} {l : List (List UInt8 × Nat)} {code : List UInt8} (h : simpleG w = some op) :
    asmL s ((w, p) :: l) code = if code.length + 1 > 256 then ([], p, 142) else asmL s l (code ++ [UInt8.ofNat op]) := by
  cases l with
  | nil => simp [asmL, h]
  | cons x l => obtain ⟨v, q⟩ := x; simp [asmL, h]
theorem asm_word {s p : Nat} {w : List UInt8} {l : List (List UInt8 × Nat)} {code : List UInt8} (h : simpleG w = none) (ht : takesN w = false) : asmL s ((w, p) :: l) code = ([], p, 140) := by
  cases l with
  | nil => simp [asmL, h, ht]
  | cons x l => obtain ⟨v, q⟩ := x; simp [asmL, h, ht]
theorem asm_end {s p : Nat} {w : List UInt8} {code : List UInt8} (h : simpleG w = none) (ht : takesN w = true) : asmL s [(w, p)] code = ([], s, 141) := by simp [asmL, h, ht]
theorem asm_bad {s p q : Nat} {w v : List UInt8} {l : List (List UInt8 × Nat)} {code : List UInt8} (h : simpleG w = none) (ht : takesN w = true) (hn : (parW v).bind (numG w) = none) : asmL s ((w, p) :: (v, q) :: l) code = ([], q, 141) := by simp [asmL, h, ht, hn]
theorem asm_num {s p q : Nat} {w v b : List UInt8} {l : List (List UInt8 × Nat)} {code : List UInt8} (h : simpleG w = none) (ht : takesN w = true) (hn : (parW v).bind (numG w) = some b) :
    asmL s ((w, p) :: (v, q) :: l) code = if code.length + b.length > 256 then ([], p, 142) else asmL s l (code ++ b) := by
  simp [asmL, h, ht, hn]

end Go.Proofs.YtlbiahpajcfcfaaDoor
