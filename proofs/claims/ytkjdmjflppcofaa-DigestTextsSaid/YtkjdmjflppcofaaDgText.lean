/- The plain side of the digest: the state behind k pieces, the padded text, the digest's bytes. -/
import Derived.Test.YtkjdmjflppcofaaDgMix
import Derived.Test.YtkjdmjflppcofaaDgLay
namespace Go.Proofs.Ytkjdmjflppcofaa
open Go Go.RowKit
set_option linter.unusedVariables false

theorem beN_congr {f g : Nat → Int} : ∀ {k : Nat}, (∀ i, i < k → f i = g i) → beN f k = beN g k
  | 0, _ => rfl
  | k + 1, h => by
    simp only [beN]
    rw [beN_congr (k := k) fun i hi => h i (by omega), h k (by omega)]

theorem rnds_congr {m m' : Nat → Int} (h : ∀ j, j < 4 → m j = m' j) (s : St) : ∀ r, rnds m s r = rnds m' s r
  | 0 => rfl
  | r + 1 => by simp only [rnds]; rw [rnds_congr h s r, h (r % 4) (Nat.mod_lt _ (by decide))]

theorem mixS_congr {m m' : Nat → Int} (h : ∀ j, j < 4 → m j = m' j) (s : St) : mixS s m = mixS s m' := by
  unfold mixS
  rw [rnds_congr h, h 0 (by decide), h 1 (by decide), h 2 (by decide), h 3 (by decide)]

/-- The words of the piece that begins at a place. -/
def mAt (F : Nat → Int) (p j : Nat) : Int := beN (fun i => F (p + 8 * j + i)) 8

def initS : St := ⟨11400714819323198485, 4354685564936845354, 15755400384260043839, 8709371129873690708⟩

/-- The state behind k pieces of a text. -/
def stN (F : Nat → Int) : Nat → St
  | 0 => initS
  | k + 1 => mixS (stN F k) (mAt F (32 * k))

theorem mAt_congr {F G : Nat → Int} {p q : Nat} (h : ∀ i, i < 32 → F (p + i) = G (q + i)) : ∀ j, j < 4 → mAt F p j = mAt G q j := by
  intro j hj
  unfold mAt
  refine beN_congr fun i hi => ?_
  rw [Nat.add_assoc, Nat.add_assoc]
  exact h (8 * j + i) (by omega)

theorem stN_congr {F G : Nat → Int} : ∀ {k : Nat}, (∀ i, i < 32 * k → F i = G i) → stN F k = stN G k
  | 0, _ => rfl
  | k + 1, h => by
    simp only [stN]
    rw [stN_congr (k := k) fun i hi => h i (by omega), mixS_congr (mAt_congr (p := 32 * k) (q := 32 * k) fun i hi => h _ (by omega))]

/-- How many zeros stand behind the mark. -/
def zerosOf (n : Nat) : Nat := (55 - n % 32) % 32
def padOf (n : Nat) : List UInt8 := 128 :: List.replicate (zerosOf n) 0 ++ (List.range 8).map fun i => UInt8.ofNat (n / 2 ^ (56 - 8 * i) % 256)
def paddedOf (xs : List UInt8) : List UInt8 := xs ++ padOf xs.length

theorem padOf_length (n : Nat) : (padOf n).length = zerosOf n + 9 := by simp [padOf]
theorem padded_32 (n : Nat) : (n + (zerosOf n + 9)) % 32 = 0 := by unfold zerosOf; omega

/-- The digest's i-th byte, out of the last state. -/
def outB (s : St) (i : Nat) : Int := lb (if i < 8 then s.a else if i < 16 then s.b else if i < 24 then s.c else s.d) (i % 8)

def digB (xs : List UInt8) (i : Nat) : Int := outB (stN (byteF (paddedOf xs)) ((paddedOf xs).length / 32)) i

/-- 32 bytes as a value. -/
def digV (f : Nat → Int) : Value := .agg ((List.range 32).map fun i => Value.int .u8 (f i)).toArray

theorem lb_bd (n : Int) (i : Nat) : 0 ≤ lb n i ∧ lb n i ≤ 255 := by unfold lb; omega
theorem outB_bd (s : St) (i : Nat) : 0 ≤ outB s i ∧ outB s i ≤ 255 := lb_bd _ _

/-- Four words that fit 64 bits. -/
def St.ok (s : St) : Prop := (0 ≤ s.a ∧ s.a ≤ 18446744073709551615) ∧ (0 ≤ s.b ∧ s.b ≤ 18446744073709551615) ∧ (0 ≤ s.c ∧ s.c ≤ 18446744073709551615) ∧ (0 ≤ s.d ∧ s.d ≤ 18446744073709551615)

theorem lb_nat (n i : Nat) : lb (n : Int) i = ((UInt8.ofNat (n / 2 ^ (56 - 8 * i) % 256)).toNat : Int) := by
  unfold lb
  have h : (UInt8.ofNat (n / 2 ^ (56 - 8 * i) % 256)).toNat = n / 2 ^ (56 - 8 * i) % 256 := by
    rw [UInt8.toNat_ofNat']
    omega
  rw [h, Int.natCast_emod, Int.natCast_ediv, Int.natCast_pow]
  rfl

end Go.Proofs.Ytkjdmjflppcofaa
