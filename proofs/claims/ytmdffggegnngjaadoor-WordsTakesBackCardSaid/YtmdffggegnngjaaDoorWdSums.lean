/- The functions of 'words' that only reckon: Add, Sub, Mul. -/
import Derived.Test.YtmdffggegnngjaaDoorRows
import Derived.Test.YtmdffggegnngjaaDoorShelf
import Derived.WalkKit
import Derived.ProofKit
import Derived.OpenShut
import Derived.WalkSpells
import Derived.WalkLawsBesides
import Derived.Lib.Hide
namespace Go.Proofs.YtmdffggegnngjaaDoor
open Go.ChangeShapes Go.WideShapes Go.ChangeAt Go.RowKit
set_option linter.unusedVariables false

set_option maxHeartbeats 400000 in
theorem words_Sub_lt (a b : Int) (h : a < b) (w : World) :
    Calls Tryd.prog 24 #[.int .u64 a, .int .u64 b] w fun e w' => e = .returned (.tuple #[.int .u64 0, .bool false]) ∧ w = w' := by
  go_enter Tryd.func24, Tryd.ntmps24
  go_wp2
  go_ret2
  exact ⟨rfl, rfl⟩

set_option maxHeartbeats 400000 in
theorem words_Sub_ge (a b : Int) (h0 : 0 ≤ b) (h : b ≤ a) (h1 : a ≤ 18446744073709551615) (w : World) :
    Calls Tryd.prog 24 #[.int .u64 a, .int .u64 b] w fun e w' => e = .returned (.tuple #[.int .u64 (a - b), .bool true]) ∧ w = w' := by
  go_enter Tryd.func24, Tryd.ntmps24
  go_wp2
  go_ret2
  exact ⟨rfl, rfl⟩

theorem call_Add64 (x y : Int) (hx : 0 ≤ x) (hy : 0 ≤ y) (w : World) :
    (callFunc 28 #[.int .u64 x, .int .u64 y, .int .u64 0]).run Tryd.prog w =
      .ok (.value (.tuple #[.int .u64 ((x + y) % 18446744073709551616), .int .u64 ((x + y) / 18446744073709551616)])) w := by
  rw [run_callFunc_extern Tryd.func28 (by kernel_rfl) (by kernel_rfl) (by kernel_rfl) (e := add64Entry) (by kernel_rfl), run_add64 x y 0 hx hy (by decide) (by decide)]
  simp only [Result.andThen, Int.add_zero]

set_option maxHeartbeats 400000 in
theorem words_Add_big (a b : Int) (h0 : 0 ≤ a) (h2 : a ≤ 18446744073709551615) (h1 : 0 ≤ b) (h3 : b ≤ 18446744073709551615) (h : 18446744073709551615 - a < b) (w : World) :
    Calls Tryd.prog 22 #[.int .u64 a, .int .u64 b] w fun e w' => e = .returned (.tuple #[.int .u64 0, .bool false]) ∧ w = w' := by
  have hq : (a + b) / 18446744073709551616 = 1 := by omega
  have hc := call_Add64 a b h0 h1
  rw [hq] at hc
  clear hq
  go_enter Tryd.func22, Tryd.ntmps22
  go_wp2
  go_ret2
  exact ⟨rfl, rfl⟩

set_option maxHeartbeats 400000 in
theorem words_Add_fits (a b : Int) (h0 : 0 ≤ a) (h2 : a ≤ 18446744073709551615) (h1 : 0 ≤ b) (h : b ≤ 18446744073709551615 - a) (w : World) :
    Calls Tryd.prog 22 #[.int .u64 a, .int .u64 b] w fun e w' => e = .returned (.tuple #[.int .u64 (a + b), .bool true]) ∧ w = w' := by
  have hq : (a + b) / 18446744073709551616 = 0 := by omega
  have hr : (a + b) % 18446744073709551616 = a + b := by omega
  have hc := call_Add64 a b h0 h1
  rw [hq, hr] at hc
  clear hq hr
  go_enter Tryd.func22, Tryd.ntmps22
  go_wp2
  go_ret2
  exact ⟨rfl, rfl⟩

set_option maxHeartbeats 400000 in
theorem words_Mul_big (a b : Int) (h0 : 0 ≤ a) (h2 : a ≤ 18446744073709551615) (h1 : 0 ≤ b) (h3 : b ≤ 18446744073709551615) (h : 18446744073709551615 < a * b) (w : World) :
    Calls Tryd.prog 23 #[.int .u64 a, .int .u64 b] w fun e w' => e = .returned (.tuple #[.int .u64 0, .bool false]) ∧ w = w' := by
  obtain ⟨x, rfl⟩ := Int.eq_ofNat_of_zero_le h0
  obtain ⟨y, rfl⟩ := Int.eq_ofNat_of_zero_le h1
  have hm := Tryd.bits_Mul64 x y (by omega) (by omega)
  have hq : (0 : Int) < ((x * y / 18446744073709551616 : Nat) : Int) := by
    have : 18446744073709551616 ≤ x * y := by rw [← Int.natCast_mul] at h; omega
    have := (Nat.le_div_iff_mul_le (k := 18446744073709551616) (by decide) (x := 1) (y := x * y)).2 (by omega)
    omega
  generalize ((x * y / 18446744073709551616 : Nat) : Int) = q at *
  have HM := Go.Lib.hid hm
  clear hm h
  go_enter Tryd.func23, Tryd.ntmps23
  go_wp2_with (go_at_call 29; refine (HM.out _).mono ?_; rintro e w' ⟨rfl, rfl⟩)
  go_ret2
  exact ⟨rfl, rfl⟩

set_option maxHeartbeats 400000 in
theorem words_Mul_fits (a b : Int) (h0 : 0 ≤ a) (h2 : a ≤ 18446744073709551615) (h1 : 0 ≤ b) (h3 : b ≤ 18446744073709551615) (h : a * b ≤ 18446744073709551615) (w : World) :
    Calls Tryd.prog 23 #[.int .u64 a, .int .u64 b] w fun e w' => e = .returned (.tuple #[.int .u64 (a * b), .bool true]) ∧ w = w' := by
  obtain ⟨x, rfl⟩ := Int.eq_ofNat_of_zero_le h0
  obtain ⟨y, rfl⟩ := Int.eq_ofNat_of_zero_le h1
  have hm := Tryd.bits_Mul64 x y (by omega) (by omega)
  have hl : x * y < 18446744073709551616 := by
    rw [← Int.natCast_mul] at h; omega
  rw [Nat.div_eq_of_lt hl, Nat.mod_eq_of_lt hl] at hm
  rw [show ((x : Int) * (y : Int)) = ((x * y : Nat) : Int) from (Int.natCast_mul _ _).symm]
  generalize ((x * y : Nat) : Int) = q at *
  have HM := Go.Lib.hid hm
  clear hm h hl
  go_enter Tryd.func23, Tryd.ntmps23
  go_wp2_with (go_at_call 29; refine (HM.out _).mono ?_; rintro e w' ⟨rfl, rfl⟩)
  go_ret2
  exact ⟨rfl, rfl⟩

end Go.Proofs.YtmdffggegnngjaaDoor
