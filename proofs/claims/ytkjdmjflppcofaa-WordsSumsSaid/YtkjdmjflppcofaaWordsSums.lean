/- The functions of 'words' and of its reference that only reckon: Add, Sub, Mul. -/
import Derived.Test.YtkjdmjflppcofaaRows
import Derived.Test.YtkjdmjflppcofaaShelf
import Derived.WalkKit
import Derived.ProofKit
import Derived.OpenShut
import Derived.WalkSpells
import Derived.WalkLawsBesides
import Derived.Lib.Hide
namespace Go.Proofs.Ytkjdmjflppcofaa
open Go.ChangeShapes Go.WideShapes Go.ChangeAt Go.RowKit
set_option linter.unusedVariables false

set_option maxHeartbeats 400000 in
theorem words_Sub_lt (a b : Int) (h : a < b) (w : World) :
    Calls Try.prog 11 #[.int .u64 a, .int .u64 b] w fun e w' => e = .returned (.tuple #[.int .u64 0, .bool false]) ∧ w = w' := by
  go_enter Try.func11, Try.ntmps11
  go_wp2
  go_ret2
  exact ⟨rfl, rfl⟩

set_option maxHeartbeats 400000 in
theorem words_Sub_ge (a b : Int) (h0 : 0 ≤ b) (h : b ≤ a) (h1 : a ≤ 18446744073709551615) (w : World) :
    Calls Try.prog 11 #[.int .u64 a, .int .u64 b] w fun e w' => e = .returned (.tuple #[.int .u64 (a - b), .bool true]) ∧ w = w' := by
  go_enter Try.func11, Try.ntmps11
  go_wp2
  go_ret2
  exact ⟨rfl, rfl⟩

set_option maxHeartbeats 400000 in
theorem ref_Sub_lt (a b : Int) (h : a < b) (w : World) :
    Calls Try.prog 14 #[.int .u64 a, .int .u64 b] w fun e w' => e = .returned (.tuple #[.int .u64 0, .bool false]) ∧ w = w' := by
  go_enter Try.func14, Try.ntmps14
  go_wp2
  go_ret2
  exact ⟨rfl, rfl⟩

set_option maxHeartbeats 400000 in
theorem ref_Sub_ge (a b : Int) (h0 : 0 ≤ b) (h : b ≤ a) (h1 : a ≤ 18446744073709551615) (w : World) :
    Calls Try.prog 14 #[.int .u64 a, .int .u64 b] w fun e w' => e = .returned (.tuple #[.int .u64 (a - b), .bool true]) ∧ w = w' := by
  go_enter Try.func14, Try.ntmps14
  go_wp2
  go_ret2
  exact ⟨rfl, rfl⟩

set_option maxHeartbeats 400000 in
theorem ref_Add_big (a b : Int) (h0 : 0 ≤ a) (h2 : a ≤ 18446744073709551615) (h : 18446744073709551615 - a < b) (w : World) :
    Calls Try.prog 13 #[.int .u64 a, .int .u64 b] w fun e w' => e = .returned (.tuple #[.int .u64 0, .bool false]) ∧ w = w' := by
  go_enter Try.func13, Try.ntmps13
  go_wp2
  go_ret2
  exact ⟨rfl, rfl⟩

set_option maxHeartbeats 400000 in
theorem ref_Add_fits (a b : Int) (h0 : 0 ≤ a) (h2 : a ≤ 18446744073709551615) (h1 : 0 ≤ b) (h : b ≤ 18446744073709551615 - a) (w : World) :
    Calls Try.prog 13 #[.int .u64 a, .int .u64 b] w fun e w' => e = .returned (.tuple #[.int .u64 (a + b), .bool true]) ∧ w = w' := by
  go_enter Try.func13, Try.ntmps13
  go_wp2
  go_ret2
  exact ⟨rfl, rfl⟩

theorem call_Add64 (x y : Int) (hx : 0 ≤ x) (hy : 0 ≤ y) (w : World) :
    (callFunc 31 #[.int .u64 x, .int .u64 y, .int .u64 0]).run Try.prog w =
      .ok (.value (.tuple #[.int .u64 ((x + y) % 18446744073709551616), .int .u64 ((x + y) / 18446744073709551616)])) w := by
  rw [run_callFunc_extern Try.func31 (by kernel_rfl) (by kernel_rfl) (by kernel_rfl) (e := add64Entry) (by kernel_rfl), run_add64 x y 0 hx hy (by decide) (by decide)]
  simp only [Result.andThen, Int.add_zero]

set_option maxHeartbeats 400000 in
theorem words_Add_big (a b : Int) (h0 : 0 ≤ a) (h2 : a ≤ 18446744073709551615) (h1 : 0 ≤ b) (h3 : b ≤ 18446744073709551615) (h : 18446744073709551615 - a < b) (w : World) :
    Calls Try.prog 10 #[.int .u64 a, .int .u64 b] w fun e w' => e = .returned (.tuple #[.int .u64 0, .bool false]) ∧ w = w' := by
  have hq : (a + b) / 18446744073709551616 = 1 := by omega
  have hc := call_Add64 a b h0 h1
  rw [hq] at hc
  clear hq
  go_enter Try.func10, Try.ntmps10
  go_wp2
  go_ret2
  exact ⟨rfl, rfl⟩

set_option maxHeartbeats 400000 in
theorem words_Add_fits (a b : Int) (h0 : 0 ≤ a) (h2 : a ≤ 18446744073709551615) (h1 : 0 ≤ b) (h : b ≤ 18446744073709551615 - a) (w : World) :
    Calls Try.prog 10 #[.int .u64 a, .int .u64 b] w fun e w' => e = .returned (.tuple #[.int .u64 (a + b), .bool true]) ∧ w = w' := by
  have hq : (a + b) / 18446744073709551616 = 0 := by omega
  have hr : (a + b) % 18446744073709551616 = a + b := by omega
  have hc := call_Add64 a b h0 h1
  rw [hq, hr] at hc
  clear hq hr
  go_enter Try.func10, Try.ntmps10
  go_wp2
  go_ret2
  exact ⟨rfl, rfl⟩

set_option maxHeartbeats 400000 in
theorem words_Mul_big (a b : Int) (h0 : 0 ≤ a) (h2 : a ≤ 18446744073709551615) (h1 : 0 ≤ b) (h3 : b ≤ 18446744073709551615) (h : 18446744073709551615 < a * b) (w : World) :
    Calls Try.prog 12 #[.int .u64 a, .int .u64 b] w fun e w' => e = .returned (.tuple #[.int .u64 0, .bool false]) ∧ w = w' := by
  obtain ⟨x, rfl⟩ := Int.eq_ofNat_of_zero_le h0
  obtain ⟨y, rfl⟩ := Int.eq_ofNat_of_zero_le h1
  have hm := Try.bits_Mul64 x y (by omega) (by omega)
  have hq : (0 : Int) < ((x * y / 18446744073709551616 : Nat) : Int) := by
    have : 18446744073709551616 ≤ x * y := by rw [← Int.natCast_mul] at h; omega
    have := (Nat.le_div_iff_mul_le (k := 18446744073709551616) (by decide) (x := 1) (y := x * y)).2 (by omega)
    omega
  generalize ((x * y / 18446744073709551616 : Nat) : Int) = q at *
  have HM := Go.Lib.hid hm
  clear hm h
  go_enter Try.func12, Try.ntmps12
  go_wp2_with (go_at_call 32; refine (HM.out _).mono ?_; rintro e w' ⟨rfl, rfl⟩)
  go_ret2
  exact ⟨rfl, rfl⟩

set_option maxHeartbeats 400000 in
theorem words_Mul_fits (a b : Int) (h0 : 0 ≤ a) (h2 : a ≤ 18446744073709551615) (h1 : 0 ≤ b) (h3 : b ≤ 18446744073709551615) (h : a * b ≤ 18446744073709551615) (w : World) :
    Calls Try.prog 12 #[.int .u64 a, .int .u64 b] w fun e w' => e = .returned (.tuple #[.int .u64 (a * b), .bool true]) ∧ w = w' := by
  obtain ⟨x, rfl⟩ := Int.eq_ofNat_of_zero_le h0
  obtain ⟨y, rfl⟩ := Int.eq_ofNat_of_zero_le h1
  have hm := Try.bits_Mul64 x y (by omega) (by omega)
  have hl : x * y < 18446744073709551616 := by
    rw [← Int.natCast_mul] at h; omega
  rw [Nat.div_eq_of_lt hl, Nat.mod_eq_of_lt hl] at hm
  rw [show ((x : Int) * (y : Int)) = ((x * y : Nat) : Int) from (Int.natCast_mul _ _).symm]
  generalize ((x * y : Nat) : Int) = q at *
  have HM := Go.Lib.hid hm
  clear hm h hl
  go_enter Try.func12, Try.ntmps12
  go_wp2_with (go_at_call 32; refine (HM.out _).mono ?_; rintro e w' ⟨rfl, rfl⟩)
  go_ret2
  exact ⟨rfl, rfl⟩

set_option maxHeartbeats 400000 in
theorem ref_Mul_zero (b : Int) (h1 : 0 ≤ b) (h3 : b ≤ 18446744073709551615) (w : World) :
    Calls Try.prog 15 #[.int .u64 0, .int .u64 b] w fun e w' => e = .returned (.tuple #[.int .u64 0, .bool true]) ∧ w = w' := by
  go_enter Try.func15, Try.ntmps15
  go_wp2
  go_ret2
  exact ⟨rfl, rfl⟩

set_option maxHeartbeats 400000 in
theorem ref_Mul_big (a b : Int) (h0 : 1 ≤ a) (h2 : a ≤ 18446744073709551615) (h1 : 0 ≤ b) (h3 : b ≤ 18446744073709551615) (h : 18446744073709551615 / a < b) (w : World) :
    Calls Try.prog 15 #[.int .u64 a, .int .u64 b] w fun e w' => e = .returned (.tuple #[.int .u64 0, .bool false]) ∧ w = w' := by
  have ha : (a != 0) = true := by rw [bne_iff_ne]; omega
  go_enter Try.func15, Try.ntmps15
  go_wp2
  go_ret2
  exact ⟨rfl, rfl⟩

set_option maxHeartbeats 400000 in
theorem ref_Mul_fits (a b : Int) (h0 : 1 ≤ a) (h2 : a ≤ 18446744073709551615) (h1 : 0 ≤ b) (h3 : b ≤ 18446744073709551615) (h : b ≤ 18446744073709551615 / a) (hm : a * b ≤ 18446744073709551615) (hm0 : 0 ≤ a * b) (w : World) :
    Calls Try.prog 15 #[.int .u64 a, .int .u64 b] w fun e w' => e = .returned (.tuple #[.int .u64 (a * b), .bool true]) ∧ w = w' := by
  have ha : (a != 0) = true := by rw [bne_iff_ne]; omega
  go_enter Try.func15, Try.ntmps15
  go_wp2
  go_ret2
  exact ⟨rfl, rfl⟩

set_option maxHeartbeats 1000000 in
theorem sums_walk (a b : Int) (h0 : 0 ≤ a) (h2 : a ≤ 18446744073709551615) (h1 : 0 ≤ b) (h3 : b ≤ 18446744073709551615) (w : World) :
    Calls Try.prog 3 #[.int .u64 a, .int .u64 b] w fun e w' => e = .returned (.bool true) ∧ w = w' := by
  have add : ∃ x : Int, ∃ p : Bool, (∀ w, Calls Try.prog 10 #[.int .u64 a, .int .u64 b] w fun e w' => e = .returned (.tuple #[.int .u64 x, .bool p]) ∧ w = w') ∧
      (∀ w, Calls Try.prog 13 #[.int .u64 a, .int .u64 b] w fun e w' => e = .returned (.tuple #[.int .u64 x, .bool p]) ∧ w = w') := by
    by_cases h : 18446744073709551615 - a < b
    · exact ⟨0, false, words_Add_big a b h0 h2 h1 h3 h, ref_Add_big a b h0 h2 h⟩
    · exact ⟨a + b, true, words_Add_fits a b h0 h2 h1 (by omega), ref_Add_fits a b h0 h2 h1 (by omega)⟩
  have sub : ∃ x : Int, ∃ p : Bool, (∀ w, Calls Try.prog 11 #[.int .u64 a, .int .u64 b] w fun e w' => e = .returned (.tuple #[.int .u64 x, .bool p]) ∧ w = w') ∧
      (∀ w, Calls Try.prog 14 #[.int .u64 a, .int .u64 b] w fun e w' => e = .returned (.tuple #[.int .u64 x, .bool p]) ∧ w = w') := by
    by_cases h : a < b
    · exact ⟨0, false, words_Sub_lt a b h, ref_Sub_lt a b h⟩
    · exact ⟨a - b, true, words_Sub_ge a b h1 (by omega) h2, ref_Sub_ge a b h1 (by omega) h2⟩
  have mul : ∃ x : Int, ∃ p : Bool, (∀ w, Calls Try.prog 12 #[.int .u64 a, .int .u64 b] w fun e w' => e = .returned (.tuple #[.int .u64 x, .bool p]) ∧ w = w') ∧
      (∀ w, Calls Try.prog 15 #[.int .u64 a, .int .u64 b] w fun e w' => e = .returned (.tuple #[.int .u64 x, .bool p]) ∧ w = w') := by
    by_cases hz : a = 0
    · subst hz
      refine ⟨0, true, ?_, ref_Mul_zero b h1 h3⟩
      have := words_Mul_fits 0 b h0 h2 h1 h3 (by omega)
      rw [Int.zero_mul] at this
      exact this
    · have hp : 0 < a := by omega
      by_cases h : 18446744073709551615 < a * b
      · have hd : 18446744073709551615 / a < b := Int.ediv_lt_of_lt_mul hp (by rw [Int.mul_comm]; exact h)
        exact ⟨0, false, words_Mul_big a b h0 h2 h1 h3 h, ref_Mul_big a b (by omega) h2 h1 h3 hd⟩
      · have hd : b ≤ 18446744073709551615 / a := Int.le_ediv_of_mul_le hp (by rw [Int.mul_comm]; omega)
        exact ⟨a * b, true, words_Mul_fits a b h0 h2 h1 h3 (by omega), ref_Mul_fits a b (by omega) h2 h1 h3 hd (by omega) (Int.mul_nonneg h0 h1)⟩
  obtain ⟨x, p, ha, hb⟩ := add
  obtain ⟨y, q, hc, hd⟩ := sub
  obtain ⟨z, r, he, hf⟩ := mul
  have Ha := Go.Lib.hid ha
  have Hb := Go.Lib.hid hb
  have Hc := Go.Lib.hid hc
  have Hd := Go.Lib.hid hd
  have He := Go.Lib.hid he
  have Hf := Go.Lib.hid hf
  clear ha hb hc hd he hf
  go_enter Try.func3, Try.ntmps3
  go_wp2_with (first | (go_at_call 10; refine (Ha.out _).mono ?_; rintro e w' ⟨rfl, rfl⟩) | (go_at_call 11; refine (Hc.out _).mono ?_; rintro e w' ⟨rfl, rfl⟩) | (go_at_call 12; refine (He.out _).mono ?_; rintro e w' ⟨rfl, rfl⟩) | (go_at_call 13; refine (Hb.out _).mono ?_; rintro e w' ⟨rfl, rfl⟩) | (go_at_call 14; refine (Hd.out _).mono ?_; rintro e w' ⟨rfl, rfl⟩) | (go_at_call 15; refine (Hf.out _).mono ?_; rintro e w' ⟨rfl, rfl⟩))
  go_ret
  exact ⟨rfl, rfl⟩

end Go.Proofs.Ytkjdmjflppcofaa
