/- Decimal numerals of words: the plain side. No program in sight. -/
import Derived.WalkKit
import Derived.Lib.ItoaNum
import Derived.Lib.ParseIntB
namespace Go.Proofs.YtlbiahpajcfcfaaDoor
open Go Go.RowKit
set_option linter.unusedVariables false
set_option maxRecDepth 100000

/-- One more letter, as the reference reads it: what is no digit is passed over; it wraps round. -/
def decV (a : Nat) (c : UInt8) : Nat := if 48 ≤ c.toNat ∧ c.toNat ≤ 57 then (a * 10 + (c.toNat - 48)) % 18446744073709551616 else a
def decN (l : List UInt8) : Nat := l.foldl decV 0
/-- What a text says, if it is some word's numeral. -/
def parW (l : List UInt8) : Option Nat := if l.length ≤ 20 ∧ Lib.decDigits (decN l) = l then some (decN l) else none

theorem decN_snoc (l : List UInt8) (c : UInt8) : decN (l ++ [c]) = decV (decN l) c := by simp [decN, List.foldl_append]
theorem decV_lt {a : Nat} (c : UInt8) (h : a < 18446744073709551616) : decV a c < 18446744073709551616 := by
  unfold decV
  split
  · exact Nat.mod_lt _ (by decide)
  · exact h
theorem foldl_decV_lt : ∀ (l : List UInt8) (a : Nat), a < 18446744073709551616 → l.foldl decV a < 18446744073709551616
  | [], a, h => h
  | c :: r, a, h => foldl_decV_lt r _ (decV_lt c h)
theorem decN_lt (l : List UInt8) : decN l < 18446744073709551616 := foldl_decV_lt l 0 (by decide)
theorem digit_nat {d : Nat} (h : d < 10) : (UInt8.ofNat (48 + d)).toNat = 48 + d := by
  rw [UInt8.toNat_ofNat']
  omega
theorem decV_digit {a d : Nat} (h : d < 10) : decV a (UInt8.ofNat (48 + d)) = (a * 10 + d) % 18446744073709551616 := by
  unfold decV
  rw [digit_nat h, if_pos (by omega)]
  congr 2
  omega
theorem decN_digits (u : Nat) (h : u < 18446744073709551616) : decN (Lib.decDigits u) = u := by
  induction u using Nat.strongRecOn with
  | _ u ih =>
    by_cases hu : u < 10
    · rw [Lib.decDigits, dif_pos hu]
      show decV 0 _ = u
      rw [decV_digit hu]
      omega
    · rw [Lib.decDigits, dif_neg hu, decN_snoc, ih (u / 10) (by omega) (by omega), decV_digit (by omega)]
      omega
theorem nDigits_le20 {u : Nat} (h : u < 18446744073709551616) : Lib.nDigits u ≤ 20 := by
  rcases Nat.lt_or_ge 20 (Lib.nDigits u) with h2 | h2
  · exfalso
    have key : ∀ k u, k + 1 ≤ Lib.nDigits u → 10 ^ k ≤ u ∨ k = 0 := by
      intro k
      induction k with
      | zero => intro u _; exact .inr rfl
      | succ k ih =>
        intro u hk
        by_cases hu : u < 10
        · rw [Lib.nDigits_small hu] at hk; omega
        · rw [Lib.nDigits_big hu] at hk
          rcases ih (u / 10) (by omega) with h1 | h1
          · left
            rw [Nat.pow_succ]
            omega
          · subst h1
            left
            simp
            omega
    rcases key 20 u (by omega) with h3 | h3
    · have : (10 : Nat) ^ 20 = 100000000000000000000 := by decide
      omega
    · omega
  · exact h2
theorem parW_digits {u : Nat} (h : u < 18446744073709551616) : parW (Lib.decDigits u) = some u := by
  unfold parW
  rw [decN_digits u h, if_pos ⟨by rw [Lib.decDigits_length]; exact nDigits_le20 h, rfl⟩]
theorem parW_some {l : List UInt8} {v : Nat} (h : parW l = some v) : Lib.decDigits v = l ∧ v < 18446744073709551616 := by
  unfold parW at h
  split at h
  · rename_i hc
    injection h with h
    subst h
    exact ⟨hc.2, decN_lt l⟩
  · cases h
/-- It says nothing but words' numerals. -/
theorem parW_iff {l : List UInt8} {v : Nat} : parW l = some v ↔ Lib.decDigits v = l ∧ v < 18446744073709551616 :=
  ⟨parW_some, fun h => by rw [← h.1]; exact parW_digits h.2⟩

theorem parM_append (M : Nat) : ∀ (a b : List UInt8) (acc v : Nat), Lib.parseUintM M acc a = .ok v → Lib.parseUintM M acc (a ++ b) = Lib.parseUintM M v b
  | [], b, acc, v, h => by
    simp only [Lib.parseUintM] at h
    injection h with h
    subst h
    rfl
  | c :: r, b, acc, v, h => by
    simp only [Lib.parseUintM, List.cons_append] at h ⊢
    split at h
    · rename_i hc
      rw [if_pos hc]
      split at h
      · cases h
      · rename_i h1
        rw [if_neg h1]
        split at h
        · cases h
        · rename_i h2
          rw [if_neg h2]
          exact parM_append M r b _ v h
    · cases h
theorem parM_digit {M acc d : Nat} (hd : d < 10) (h1 : acc < 1844674407370955162) (h2 : acc * 10 + d ≤ M) : Lib.parseUintM M acc [UInt8.ofNat (48 + d)] = .ok (acc * 10 + d) := by
  simp only [Lib.parseUintM, digit_nat hd]
  rw [if_pos (by omega), if_neg (by omega), if_neg (by omega)]
  congr 1
  omega
theorem parM_digits (u : Nat) (h : u < 18446744073709551616) : Lib.parseUintM 18446744073709551615 0 (Lib.decDigits u) = .ok u := by
  induction u using Nat.strongRecOn with
  | _ u ih =>
    by_cases hu : u < 10
    · rw [Lib.decDigits, dif_pos hu, parM_digit hu (by omega) (by omega)]
      congr 1
      omega
    · rw [Lib.decDigits, dif_neg hu, parM_append _ _ _ _ _ (ih (u / 10) (by omega) (by omega)), parM_digit (by omega) (by omega) (by omega)]
      congr 1
      omega
theorem digits_ne (u : Nat) : Lib.decDigits u ≠ [] := by
  intro h
  have := congrArg List.length h
  rw [Lib.decDigits_length] at this
  have := Lib.nDigits_pos u
  simp at *
  omega
theorem parB_digits (u : Nat) (h : u < 18446744073709551616) : Lib.parseUintB 64 (Lib.decDigits u) = .ok u := by
  unfold Lib.parseUintB
  rw [if_neg (digits_ne u)]
  exact parM_digits u h
theorem parM_lt (M : Nat) : ∀ (l : List UInt8) (acc u : Nat), acc ≤ M → Lib.parseUintM M acc l = .ok u → u ≤ M
  | [], acc, u, ha, h => by
    simp only [Lib.parseUintM] at h
    injection h with h
    omega
  | c :: r, acc, u, ha, h => by
    simp only [Lib.parseUintM] at h
    split at h
    · split at h
      · cases h
      · split at h
        · cases h
        · exact parM_lt M r _ u (by omega) h
    · cases h
theorem parB_lt {l : List UInt8} {u : Nat} (h : Lib.parseUintB 64 l = .ok u) : u < 18446744073709551616 := by
  unfold Lib.parseUintB at h
  split at h
  · cases h
  · have := parM_lt _ l 0 u (by omega) h
    have e : (2 : Nat) ^ 64 - 1 = 18446744073709551615 := by decide
    omega
/-- What the program's Parse comes to. -/
theorem parB_yes {l : List UInt8} {u : Nat} (h : Lib.parseUintB 64 l = .ok u) (hd : Lib.decDigits u = l) : parW l = some u := parW_iff.2 ⟨hd, parB_lt h⟩
theorem parB_no {l : List UInt8} {u : Nat} (h : Lib.parseUintB 64 l = .ok u) (hd : Lib.decDigits u ≠ l) : parW l = none := by
  cases hp : parW l with
  | none => rfl
  | some v =>
    obtain ⟨h1, h2⟩ := parW_some hp
    have := parB_digits v h2
    rw [h1, h] at this
    injection this with this
    subst this
    exact absurd h1 hd
theorem parB_bad {l : List UInt8} (h : ∀ u, Lib.parseUintB 64 l ≠ .ok u) : parW l = none := by
  cases hp : parW l with
  | none => rfl
  | some v =>
    obtain ⟨h1, h2⟩ := parW_some hp
    have := parB_digits v h2
    rw [h1] at this
    exact absurd this (h v)

/-- A number's digits; of 0 none. -/
def preD (m : Nat) : List UInt8 := if m = 0 then [] else Lib.decDigits m
theorem preD_step {m : Nat} (h : 0 < m) : preD m = preD (m / 10) ++ [UInt8.ofNat (48 + m % 10)] := by
  unfold preD
  rw [if_neg (by omega), Lib.decDigits]
  by_cases hm : m < 10
  · rw [dif_pos hm, if_pos (by omega), Nat.mod_eq_of_lt hm]
    rfl
  · rw [dif_neg hm, if_neg (by omega)]

end Go.Proofs.YtlbiahpajcfcfaaDoor
