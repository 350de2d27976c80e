/- The order of keys: the plain side. No program in sight. -/
import Derived.Test.YtmdffggegnngjaaDoorWdPure
namespace Go.Proofs.YtmdffggegnngjaaDoor
open Go Go.RowKit
set_option linter.unusedVariables false

/-- Texts of one length are ordered as what they say. -/
theorem lt_iff_wval : ∀ (a b : List UInt8), a.length = b.length → (a < b ↔ wval a < wval b)
  | [], [], _ => by simp [wval]
  | [], _ :: _, h => by simp at h
  | _ :: _, [], h => by simp at h
  | x :: a, y :: b, h => by
    have hl : a.length = b.length := by simpa using h
    have ih := lt_iff_wval a b hl
    have h1 := wval_lt a
    have h2 := wval_lt b
    rw [wval_cons, wval_cons, List.cons_lt_cons_iff, ih, hl, UInt8.lt_iff_toNat_lt]
    rw [hl] at h1
    generalize 256 ^ b.length = p at *
    constructor
    · rintro (h | ⟨rfl, h⟩)
      · have h3 : x.toNat * p + p ≤ y.toNat * p := by
          have := Nat.mul_le_mul_right p (show x.toNat + 1 ≤ y.toNat from h)
          rw [Nat.add_mul, Nat.one_mul] at this
          exact this
        omega
      · omega
    · intro h3
      rcases Nat.lt_trichotomy x.toNat y.toNat with h4 | h4 | h4
      · exact .inl h4
      · right
        have e := UInt8.toNat_inj.1 h4
        subst e
        exact ⟨rfl, by omega⟩
      · exfalso
        have h5 : y.toNat * p + p ≤ x.toNat * p := by
          have := Nat.mul_le_mul_right p (show y.toNat + 1 ≤ x.toNat from h4)
          rw [Nat.add_mul, Nat.one_mul] at this
          exact this
        omega
theorem bytesLess_iff : ∀ (a b : List UInt8), a.length = b.length → (Op.bytesLess a b = true ↔ a < b)
  | [], [], _ => by simp [Op.bytesLess]
  | [], _ :: _, h => by simp at h
  | _ :: _, [], h => by simp at h
  | x :: a, y :: b, h => by
    have ih := bytesLess_iff a b (by simpa using h)
    rw [List.cons_lt_cons_iff, Op.bytesLess, Bool.or_eq_true, Bool.and_eq_true, ih, beq_iff_eq, decide_eq_true_iff]
theorem keyLess {a b : Nat} (ha : a < 18446744073709551616) (hb : b < 18446744073709551616) : Op.bytesLess (be 8 a) (be 8 b) = decide (a < b) := by
  rw [Bool.eq_iff_iff, bytesLess_iff _ _ (by simp), decide_eq_true_iff, lt_iff_wval _ _ (by simp), wval_key a ha, wval_key b hb]
theorem key_lt_iff {a b : Nat} (ha : a < 18446744073709551616) (hb : b < 18446744073709551616) : be 8 a < be 8 b ↔ a < b := by
  rw [lt_iff_wval _ _ (by simp), wval_key a ha, wval_key b hb]
/-- A greater word has no fewer bytes. -/
theorem wbytes_mono {a b : Nat} (h : a ≤ b) (hb : b < 18446744073709551616) : (wbytes a).length ≤ (wbytes b).length := by
  rcases Nat.lt_or_ge (wbytes b).length (wbytes a).length with hl | hl
  · exfalso
    have ha : a < 18446744073709551616 := by omega
    have h1 := wval_lt (wbytes b)
    rw [wval_wbytes b hb] at h1
    have h2 : 256 ^ ((wbytes a).length - 1) ≤ a := by
      cases hw : wbytes a with
      | nil => rw [hw] at hl; simp at hl
      | cons c r =>
        have hc : c ≠ 0 := strip_head _ c r hw
        have hv := wval_wbytes a ha
        rw [hw, wval_cons] at hv
        have hcn : 1 ≤ c.toNat := by
          rcases Nat.eq_zero_or_pos c.toNat with h0 | h0
          · exact absurd (UInt8.toNat_inj.1 (by simpa using h0)) hc
          · exact h0
        have := Nat.mul_le_mul_right (256 ^ r.length) hcn
        rw [Nat.one_mul] at this
        simp only [List.length_cons, Nat.add_sub_cancel]
        omega
    have h3 : 256 ^ (wbytes b).length ≤ 256 ^ ((wbytes a).length - 1) := Nat.pow_le_pow_right (by decide) (by omega)
    omega
  · exact hl

end Go.Proofs.YtmdffggegnngjaaDoor
