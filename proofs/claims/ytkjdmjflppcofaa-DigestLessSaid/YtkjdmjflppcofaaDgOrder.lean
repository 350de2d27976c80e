/- DigestLess: the walk. -/
import Derived.Test.YtkjdmjflppcofaaDgPar
namespace Go.Proofs.Ytkjdmjflppcofaa
open Go.ChangeShapes Go.WideShapes Go.ChangeAt Go.RowKit
set_option linter.unusedVariables false

theorem less_eq (f g : Nat → Int) : ∀ n i, (∀ j, i ≤ j → j < i + n → f j = g j) → lessK f g n i = false
  | 0, _, _ => rfl
  | n + 1, i, h => by
    rw [lessK, if_pos (h i (by omega) (by omega))]
    exact less_eq f g n (i + 1) fun j h1 h2 => h j (by omega) (by omega)
theorem less_ne (f g : Nat → Int) : ∀ n i, (∃ j, i ≤ j ∧ j < i + n ∧ f j ≠ g j) → lessK g f n i = !lessK f g n i
  | 0, i, ⟨j, h1, h2, _⟩ => by omega
  | n + 1, i, ⟨j, h1, h2, h3⟩ => by
    rw [lessK, lessK]
    by_cases e : f i = g i
    · rw [if_pos e, if_pos e.symm]
      refine less_ne f g n (i + 1) ⟨j, ?_, by omega, h3⟩
      rcases Nat.lt_or_ge i j with h | h
      · exact h
      · exact absurd (by rw [show j = i from by omega]; exact e) h3
    · rw [if_neg e, if_neg (fun h => e h.symm)]
      by_cases h : f i < g i
      · simp [h, show ¬ g i < f i from by omega]
      · simp [h, show g i < f i from by omega]
theorem less_trans (f g h : Nat → Int) : ∀ n i, lessK f g n i = true → lessK g h n i = true → lessK f h n i = true
  | 0, _, h1, _ => by cases h1
  | n + 1, i, h1, h2 => by
    rw [lessK] at h1 h2 ⊢
    split at h1
    · split at h2
      · rw [if_pos (by omega)]
        exact less_trans f g h n (i + 1) h1 h2
      · rw [if_neg (by omega)]
        simp at h2 ⊢
        omega
    · split at h2
      · rw [if_neg (by omega)]
        simp at h1 ⊢
        omega
      · simp at h1 h2
        rw [if_neg (by omega)]
        simp
        omega
theorem eqD_true {f g : Nat → Int} (h : eqD f g = true) (i : Nat) (hi : i < 32) : f i = g i := by
  simp [eqD] at h
  exact h i hi
theorem eqD_false {f g : Nat → Int} (h : eqD f g = false) : ∃ i, i < 32 ∧ f i ≠ g i := by
  simpa [eqD] using h

/-- What may be, of a < b, b < a, b < c, a < c, a = b. -/
def orderly (x y z u e : Bool) : Bool := (if e then !x && !y else y == !x) && (!x || !z || u)
theorem orderly_less (f g h : Nat → Int) : orderly (lessK f g 32 0) (lessK g f 32 0) (lessK g h 32 0) (lessK f h 32 0) (eqD f g) = true := by
  unfold orderly
  have ht := less_trans f g h 32 0
  have h1 : (!lessK f g 32 0 || !lessK g h 32 0 || lessK f h 32 0) = true := by
    revert ht
    cases lessK f g 32 0 <;> cases lessK g h 32 0 <;> simp
  rw [h1, Bool.and_true]
  cases he : eqD f g with
  | true =>
    have e := eqD_true he
    rw [less_eq f g 32 0 fun j _ hj => e j (by omega), less_eq g f 32 0 fun j _ hj => (e j (by omega)).symm]
    rfl
  | false =>
    obtain ⟨i, hi, hne⟩ := eqD_false he
    rw [less_ne f g 32 0 ⟨i, by omega, by omega, hne⟩]
    simp

set_option maxHeartbeats 8000000 in
set_option maxRecDepth 100000 in
theorem less_core (f : Nat → Int) (hf : Hid (∀ i, 0 ≤ f i ∧ f i ≤ 255)) (g : Nat → Int) (hg : Hid (∀ i, 0 ≤ g i ∧ g i ≤ 255)) (h : Nat → Int) (hh : Hid (∀ i, 0 ≤ h i ∧ h i ≤ 255)) (w : World)
    (x y z u e : Bool) (hx : Hid (lessK f g 32 0 = x)) (hy : Hid (lessK g f 32 0 = y)) (hz : Hid (lessK g h 32 0 = z)) (hu : Hid (lessK f h 32 0 = u)) (he : eqD f g = e) (ho : orderly x y z u e = true) :
    Calls Try.prog 9 #[.agg (dA f), .agg (dA g), .agg (dA h)] w fun e w' => e = .returned (.bool true) ∧ Below w.heap.size w w' := by
  cases x <;> cases y <;> cases z <;> cases u <;> cases e <;> first
    | (exact absurd ho (by decide))
    | skip
  all_goals
    clear ho
    have q1 : rowOf (((w.alloc (.cells (dA f) 28)).alloc (.cells (dA g) 28)).alloc (.cells (dA h) 28)) w.heap.size = some (dA f) := by
      rw [rowOf_old _ _ _ (by simp; omega), rowOf_old _ _ _ (by simp), rowOf_new]
    have q2 : rowOf (((w.alloc (.cells (dA f) 28)).alloc (.cells (dA g) 28)).alloc (.cells (dA h) 28)) (w.heap.size + 1) = some (dA g) := by
      rw [rowOf_old _ _ _ (by simp)]
      have := rowOf_new (w.alloc (.cells (dA f) 28)) (dA g) 28
      simpa using this
    have q3 : rowOf (((w.alloc (.cells (dA f) 28)).alloc (.cells (dA g) 28)).alloc (.cells (dA h) 28)) (w.heap.size + 1 + 1) = some (dA h) := by
      have := rowOf_new ((w.alloc (.cells (dA f) 28)).alloc (.cells (dA g) 28)) (dA h) 28
      simpa using this
    go_enter Try.func9, Try.ntmps9
    go_wp2_with fail
    refine (digest_Less f g hf.out hg.out _).mono ?_
    rintro e w1 ⟨rfl, hb1⟩
    rw [hx.out]
    have s1 : w.heap.size + 1 + 1 < w1.heap.size := by have := hb1.size; simp at this; omega
    have r11 : rowOf w1 w.heap.size = some (dA f) := (rowOf_below hb1 (by first | omega | (simp; done) | (simp; omega))).trans q1
    have r12 : rowOf w1 (w.heap.size + 1) = some (dA g) := (rowOf_below hb1 (by first | omega | (simp; done) | (simp; omega))).trans q2
    have r13 : rowOf w1 (w.heap.size + 1 + 1) = some (dA h) := (rowOf_below hb1 (by first | omega | (simp; done) | (simp; omega))).trans q3
    go_wp2_with fail
    refine (digest_Less g f hg.out hf.out _).mono ?_
    rintro e w2 ⟨rfl, hb2⟩
    rw [hy.out]
    have s2 : w.heap.size + 1 + 1 < w2.heap.size := by have := hb2.size; omega
    have r21 : rowOf w2 w.heap.size = some (dA f) := (rowOf_below hb2 (by first | omega | (simp; done) | (simp; omega))).trans r11
    have r22 : rowOf w2 (w.heap.size + 1) = some (dA g) := (rowOf_below hb2 (by first | omega | (simp; done) | (simp; omega))).trans r12
    have r23 : rowOf w2 (w.heap.size + 1 + 1) = some (dA h) := (rowOf_below hb2 (by first | omega | (simp; done) | (simp; omega))).trans r13
    go_wp2_with fail
    refine (digest_Less g h hg.out hh.out _).mono ?_
    rintro e w3 ⟨rfl, hb3⟩
    rw [hz.out]
    have s3 : w.heap.size + 1 + 1 < w3.heap.size := by have := hb3.size; omega
    have r31 : rowOf w3 w.heap.size = some (dA f) := (rowOf_below hb3 (by first | omega | (simp; done) | (simp; omega))).trans r21
    have r32 : rowOf w3 (w.heap.size + 1) = some (dA g) := (rowOf_below hb3 (by first | omega | (simp; done) | (simp; omega))).trans r22
    have r33 : rowOf w3 (w.heap.size + 1 + 1) = some (dA h) := (rowOf_below hb3 (by first | omega | (simp; done) | (simp; omega))).trans r23
    go_wp2_with fail
    refine (digest_Less f h hf.out hh.out _).mono ?_
    rintro e w4 ⟨rfl, hb4⟩
    rw [hu.out]
    have s4 : w.heap.size + 1 + 1 < w4.heap.size := by have := hb4.size; omega
    have r41 : rowOf w4 w.heap.size = some (dA f) := (rowOf_below hb4 (by first | omega | (simp; done) | (simp; omega))).trans r31
    have r42 : rowOf w4 (w.heap.size + 1) = some (dA g) := (rowOf_below hb4 (by first | omega | (simp; done) | (simp; omega))).trans r32
    have r43 : rowOf w4 (w.heap.size + 1 + 1) = some (dA h) := (rowOf_below hb4 (by first | omega | (simp; done) | (simp; omega))).trans r33
    go_wp2_with fail
    refine (law_alive _).mono ?_
    rintro e w5 ⟨rfl, hb5⟩
    have s5 : w.heap.size + 1 + 1 < w5.heap.size := by have := hb5.size; omega
    have r51 : rowOf w5 w.heap.size = some (dA f) := (rowOf_below hb5 (by first | omega | (simp; done) | (simp; omega))).trans r41
    have r52 : rowOf w5 (w.heap.size + 1) = some (dA g) := (rowOf_below hb5 (by first | omega | (simp; done) | (simp; omega))).trans r42
    have r53 : rowOf w5 (w.heap.size + 1 + 1) = some (dA h) := (rowOf_below hb5 (by first | omega | (simp; done) | (simp; omega))).trans r43
    go_wp2_with fail
    refine (ref_Less f g hf.out hg.out _).mono ?_
    rintro e w6 ⟨rfl, hb6⟩
    rw [hx.out]
    have s6 : w.heap.size + 1 + 1 < w6.heap.size := by have := hb6.size; omega
    have r61 : rowOf w6 w.heap.size = some (dA f) := (rowOf_below hb6 (by first | omega | (simp; done) | (simp; omega))).trans r51
    have r62 : rowOf w6 (w.heap.size + 1) = some (dA g) := (rowOf_below hb6 (by first | omega | (simp; done) | (simp; omega))).trans r52
    have r63 : rowOf w6 (w.heap.size + 1 + 1) = some (dA h) := (rowOf_below hb6 (by first | omega | (simp; done) | (simp; omega))).trans r53
    go_wp2_with fail
    refine (ref_Less g f hg.out hf.out _).mono ?_
    rintro e w7 ⟨rfl, hb7⟩
    rw [hy.out]
    have s7 : w.heap.size + 1 + 1 < w7.heap.size := by have := hb7.size; omega
    have r71 : rowOf w7 w.heap.size = some (dA f) := (rowOf_below hb7 (by first | omega | (simp; done) | (simp; omega))).trans r61
    have r72 : rowOf w7 (w.heap.size + 1) = some (dA g) := (rowOf_below hb7 (by first | omega | (simp; done) | (simp; omega))).trans r62
    have r73 : rowOf w7 (w.heap.size + 1 + 1) = some (dA h) := (rowOf_below hb7 (by first | omega | (simp; done) | (simp; omega))).trans r63
    go_wp2_with fail
    go_ret
    exact ⟨rfl, btr (btr (btr (btr (btr (btr (btr (bal (bal (bal (Below.refl _ _) _) _) _) hb1) hb2) hb3) hb4) hb5) hb6) hb7⟩

theorem less_walk (f : Nat → Int) (hf : ∀ i, 0 ≤ f i ∧ f i ≤ 255) (g : Nat → Int) (hg : ∀ i, 0 ≤ g i ∧ g i ≤ 255) (h : Nat → Int) (hh : ∀ i, 0 ≤ h i ∧ h i ≤ 255) (w : World) :
    Calls Try.prog 9 #[.agg (dA f), .agg (dA g), .agg (dA h)] w fun e w' => e = .returned (.bool true) ∧ Below w.heap.size w w' :=
  less_core f (Go.Lib.hid hf) g (Go.Lib.hid hg) h (Go.Lib.hid hh) w _ _ _ _ _ (Go.Lib.hid rfl) (Go.Lib.hid rfl) (Go.Lib.hid rfl) (Go.Lib.hid rfl) rfl (orderly_less f g h)

end Go.Proofs.Ytkjdmjflppcofaa
