/- The plain side of the digest: words out of bytes. No program in sight. -/
import Derived.WalkKit
namespace Go.Proofs.YtlbiahpajcfcfaaDoor
open Go Go.RowKit

/-- What k bytes say, the highest first. -/
def beN (f : Nat → Int) : Nat → Int
  | 0 => 0
  | k + 1 => beN f k * 256 + f k

theorem beN_bd (f : Nat → Int) (hf : ∀ i, 0 ≤ f i ∧ f i ≤ 255) : ∀ k, 0 ≤ beN f k ∧ beN f k < 256 ^ k
  | 0 => by simp [beN]
  | k + 1 => by
    have h := beN_bd f hf k
    have h2 := hf k
    have e : (256 : Int) ^ (k + 1) = 256 ^ k * 256 := Int.pow_succ _ _
    rw [e]
    simp only [beN]
    omega

theorem beN_bd7 (f : Nat → Int) (hf : ∀ i, 0 ≤ f i ∧ f i ≤ 255) (k : Nat) (hk : k < 8) : 0 ≤ beN f k ∧ beN f k ≤ 72057594037927935 := by
  have h := beN_bd f hf k
  have : (256 : Int) ^ k ≤ 256 ^ 7 := by
    have : (256 : Nat) ^ k ≤ 256 ^ 7 := Nat.pow_le_pow_right (by decide) (by omega)
    have h2 : ((256 ^ k : Nat) : Int) ≤ ((256 ^ 7 : Nat) : Int) := by omega
    simpa using h2
  have e : (256 : Int) ^ 7 = 72057594037927936 := by decide
  omega

theorem beN_bd8 (f : Nat → Int) (hf : ∀ i, 0 ≤ f i ∧ f i ≤ 255) : 0 ≤ beN f 8 ∧ beN f 8 ≤ 18446744073709551615 := by
  have h := beN_bd f hf 8
  have e : (256 : Int) ^ 8 = 18446744073709551616 := by decide
  omega

theorem or_byte (a b : Int) (h0 : 0 ≤ a) (h1 : a ≤ 72057594037927935) (h2 : 0 ≤ b) (h3 : b ≤ 255) : bits .or .u64 (a * 256) b = a * 256 + b := by
  rw [u64_or _ _ (by omega) (by omega) (by omega) (by omega), nat_join 8 _ _ (by omega) (by omega)]
  omega

/-- A word, turned left. -/
def rotC (x : Int) (n : Nat) : Int := bits .or .u64 (IntKind.u64.wrap (x * 2 ^ n)) (x / 2 ^ (64 - n))

end Go.Proofs.YtlbiahpajcfcfaaDoor
