/- Words as bytes: the plain side. No program in sight. -/
import Derived.WalkKit
namespace Go.Proofs.YtlbiahpajcfcfaaDoor
open Go Go.RowKit
set_option linter.unusedVariables false
set_option maxRecDepth 100000

/-- The k lowest bytes of a number, the highest first. -/
def be : Nat → Nat → List UInt8
  | 0, _ => []
  | k + 1, n => be k (n / 256) ++ [UInt8.ofNat (n % 256)]
/-- What bytes say. -/
def wval (b : List UInt8) : Nat := b.foldl (fun a c => a * 256 + c.toNat) 0
/-- Without the zeros ahead. -/
def strip : List UInt8 → List UInt8
  | [] => []
  | c :: r => if c = 0 then strip r else c :: r
def wbytes (n : Nat) : List UInt8 := strip (be 8 n)

@[simp] theorem be_length : ∀ k n, (be k n).length = k
  | 0, _ => rfl
  | k + 1, n => by simp [be, be_length k]
theorem wval_nil : wval [] = 0 := rfl
theorem wval_snoc (b : List UInt8) (c : UInt8) : wval (b ++ [c]) = wval b * 256 + c.toNat := by simp [wval, List.foldl_append]
theorem foldl_shift (b : List UInt8) : ∀ a : Nat, b.foldl (fun a c => a * 256 + c.toNat) a = a * 256 ^ b.length + wval b := by
  induction b with
  | nil => intro a; simp [wval]
  | cons c r ih =>
    intro a
    simp only [List.foldl_cons, List.length_cons, wval]
    rw [ih (a * 256 + c.toNat), ih (0 * 256 + c.toNat), Nat.pow_succ, Nat.add_mul, Nat.zero_mul, Nat.zero_add, Nat.mul_assoc, Nat.mul_comm 256 (256 ^ r.length)]
    omega
theorem wval_cons (c : UInt8) (b : List UInt8) : wval (c :: b) = c.toNat * 256 ^ b.length + wval b := by
  have := foldl_shift b (0 * 256 + c.toNat)
  simp only [wval, List.foldl_cons] at this ⊢
  rw [this]
  simp
theorem wval_append (a b : List UInt8) : wval (a ++ b) = wval a * 256 ^ b.length + wval b := by
  simp only [wval, List.foldl_append]
  exact foldl_shift b _
theorem wval_lt : ∀ b : List UInt8, wval b < 256 ^ b.length
  | [] => by simp [wval]
  | c :: r => by
    rw [wval_cons, List.length_cons, Nat.pow_succ]
    have h1 := wval_lt r
    have h2 : c.toNat ≤ 255 := by have := c.toNat_lt; omega
    have h3 : c.toNat * 256 ^ r.length ≤ 255 * 256 ^ r.length := Nat.mul_le_mul_right _ h2
    omega
theorem toNat_byte (m : Nat) : (UInt8.ofNat (m % 256)).toNat = m % 256 := by
  rw [UInt8.toNat_ofNat']
  omega
theorem wval_be : ∀ k n, wval (be k n) = n % 256 ^ k
  | 0, n => by simp [be, wval, Nat.mod_one]
  | k + 1, n => by
    rw [be, wval_snoc, wval_be k, toNat_byte, Nat.pow_succ, Nat.mul_comm (256 ^ k) 256, Nat.mod_mul]
    omega
theorem be_wval : ∀ (k : Nat) (b : List UInt8), b.length = k → be k (wval b) = b
  | 0, b, h => by rw [List.eq_nil_of_length_eq_zero h]; rfl
  | k + 1, b, h => by
    have hne : b ≠ [] := by intro e; rw [e] at h; simp at h
    obtain ⟨a, c, rfl⟩ : ∃ a c, b = a ++ [c] := ⟨b.dropLast, b.getLast hne, (List.dropLast_concat_getLast hne).symm⟩
    have hc := c.toNat_lt
    have h1 : a.length = k := by simpa using h
    rw [wval_snoc, be, show (wval a * 256 + c.toNat) / 256 = wval a from by omega, show (wval a * 256 + c.toNat) % 256 = c.toNat from by omega, be_wval k a h1]
    simp
theorem be_add (j : Nat) : ∀ k n, be (k + j) n = be k (n / 256 ^ j) ++ be j n := by
  induction j with
  | zero => intro k n; simp [be]
  | succ j ih =>
    intro k n
    rw [← Nat.add_assoc, be, ih k (n / 256), be, Nat.div_div_eq_div_mul, Nat.pow_succ, Nat.mul_comm (256 ^ j) 256, List.append_assoc]
theorem be_zero : ∀ k, be k 0 = List.replicate k 0
  | 0 => rfl
  | k + 1 => by rw [be, Nat.zero_div, be_zero k, List.replicate_succ']; rfl
theorem wval_zeros : ∀ k, wval (List.replicate k 0) = 0
  | 0 => rfl
  | k + 1 => by rw [List.replicate_succ', wval_snoc, wval_zeros k]; rfl

theorem strip_zeros (b : List UInt8) : ∀ k, strip (List.replicate k 0 ++ b) = strip b
  | 0 => rfl
  | k + 1 => by rw [List.replicate_succ, List.cons_append, strip, if_pos rfl, strip_zeros b k]
theorem strip_form : ∀ b : List UInt8, ∃ k, b = List.replicate k 0 ++ strip b
  | [] => ⟨0, rfl⟩
  | c :: r => by
    rw [strip]
    by_cases h : c = 0
    · obtain ⟨k, hk⟩ := strip_form r
      rw [if_pos h]
      exact ⟨k + 1, by rw [List.replicate_succ, List.cons_append, ← hk, h]⟩
    · rw [if_neg h]
      exact ⟨0, rfl⟩
theorem strip_head : ∀ b : List UInt8, ∀ c r, strip b = c :: r → c ≠ 0
  | [], c, r, h => by cases h
  | x :: b, c, r, h => by
    rw [strip] at h
    by_cases hx : x = 0
    · rw [if_pos hx] at h
      exact strip_head b c r h
    · rw [if_neg hx] at h
      injection h with h1 h2
      exact h1 ▸ hx
theorem strip_id {b : List UInt8} (h : ∀ c r, b = c :: r → c ≠ 0) : strip b = b := by
  cases b with
  | nil => rfl
  | cons c r => rw [strip, if_neg (h c r rfl)]
theorem strip_len (b : List UInt8) : (strip b).length ≤ b.length := by
  obtain ⟨k, hk⟩ := strip_form b
  have := congrArg List.length hk
  simp at this
  omega
theorem wval_strip (b : List UInt8) : wval (strip b) = wval b := by
  obtain ⟨k, hk⟩ := strip_form b
  have h : wval b = wval (List.replicate k 0 ++ strip b) := congrArg wval hk
  rw [h, wval_append, wval_zeros, Nat.zero_mul, Nat.zero_add]

theorem wbytes_len (n : Nat) : (wbytes n).length ≤ 8 := by have := strip_len (be 8 n); rw [be_length] at this; exact this
theorem wval_wbytes (n : Nat) (h : n < 18446744073709551616) : wval (wbytes n) = n := by
  rw [wbytes, wval_strip, wval_be]
  exact Nat.mod_eq_of_lt (by simpa using h)
theorem wval_key (n : Nat) (h : n < 18446744073709551616) : wval (be 8 n) = n := by
  rw [wval_be]
  exact Nat.mod_eq_of_lt (by simpa using h)
theorem wval_lt8 {b : List UInt8} (h : b.length ≤ 8) : wval b < 18446744073709551616 := by
  have h1 := wval_lt b
  have h2 : 256 ^ b.length ≤ 256 ^ 8 := Nat.pow_le_pow_right (by decide) h
  have h3 : (256 : Nat) ^ 8 = 18446744073709551616 := by decide
  omega
/-- Which bytes are a word's. -/
def isWord (b : List UInt8) : Bool := decide (b.length ≤ 8) && !(b.head? == some 0)
theorem isWord_iff (b : List UInt8) : isWord b = true ↔ b.length ≤ 8 ∧ ∀ c r, b = c :: r → c ≠ 0 := by
  cases b <;> simp [isWord]
theorem wbytes_isWord (n : Nat) : isWord (wbytes n) = true := (isWord_iff _).2 ⟨wbytes_len n, strip_head _⟩
theorem wbytes_wval {b : List UInt8} (h : isWord b = true) : wbytes (wval b) = b := by
  obtain ⟨h1, h2⟩ := (isWord_iff b).1 h
  have e : be 8 (wval b) = List.replicate (8 - b.length) 0 ++ b := by
    have := be_wval 8 (List.replicate (8 - b.length) 0 ++ b) (by simp; omega)
    rw [wval_append, wval_zeros, Nat.zero_mul, Nat.zero_add] at this
    exact this
  rw [wbytes, e, strip_zeros, strip_id h2]
/-- Bytes that some word's bytes are, are their own word's. -/
theorem wbytes_eq_iff {b : List UInt8} (h : b.length ≤ 8) : wbytes (wval b) = b ↔ isWord b = true :=
  ⟨fun e => e ▸ wbytes_isWord _, wbytes_wval⟩
/-- The shortest form. -/
theorem wbytes_be {n j : Nat} (hj : j ≤ 8) (h0 : n / 256 ^ j = 0) (h1 : j = 0 ∨ n / 256 ^ (j - 1) ≠ 0) : wbytes n = be j n := by
  have e : be 8 n = List.replicate (8 - j) 0 ++ be j n := by
    have := be_add j (8 - j) n
    rw [show 8 - j + j = 8 from by omega, h0, be_zero] at this
    exact this
  rw [wbytes, e, strip_zeros]
  apply strip_id
  intro c r hc
  cases j with
  | zero => cases hc
  | succ j =>
    have h2 : n / 256 ^ j ≠ 0 := by rcases h1 with h | h; · omega
                                    · simpa using h
    have h3 := be_add j 1 n
    rw [Nat.add_comm 1 j] at h3
    rw [h3] at hc
    simp only [be, List.nil_append, List.cons_append] at hc
    injection hc with hc _
    have h4 : n / 256 ^ j < 256 := by
      rw [Nat.pow_succ, ← Nat.div_div_eq_div_mul] at h0
      omega
    intro h
    have h5 := congrArg UInt8.toNat (hc.trans h)
    rw [toNat_byte, Nat.mod_eq_of_lt h4] at h5
    exact h2 h5
theorem be_inj {k a b : Nat} (ha : a < 256 ^ k) (hb : b < 256 ^ k) (h : be k a = be k b) : a = b := by
  have := congrArg wval h
  rw [wval_be, wval_be, Nat.mod_eq_of_lt ha, Nat.mod_eq_of_lt hb] at this
  exact this
theorem wbytes_inj {a b : Nat} (ha : a < 18446744073709551616) (hb : b < 18446744073709551616) (h : wbytes a = wbytes b) : a = b := by
  have := congrArg wval h
  rw [wval_wbytes a ha, wval_wbytes b hb] at this
  exact this
/-- A key written out. -/
theorem be8 (n : Nat) : be 8 n = [UInt8.ofNat (n / 72057594037927936 % 256), UInt8.ofNat (n / 281474976710656 % 256), UInt8.ofNat (n / 1099511627776 % 256), UInt8.ofNat (n / 4294967296 % 256), UInt8.ofNat (n / 16777216 % 256), UInt8.ofNat (n / 65536 % 256), UInt8.ofNat (n / 256 % 256), UInt8.ofNat (n % 256)] := by
  simp only [be, List.nil_append, List.cons_append, Nat.div_div_eq_div_mul]

end Go.Proofs.YtlbiahpajcfcfaaDoor
