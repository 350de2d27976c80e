/- WordsTakesBack: the walk. -/
import Derived.Test.YtmdffggegnngjaaDoorWdAlive
import Derived.Test.YtmdffggegnngjaaDoorWdSums
namespace Go.Proofs.YtmdffggegnngjaaDoor
open Go.ChangeShapes Go.WideShapes Go.ChangeAt Go.RowKit Go.Sort Go.Lib
set_option linter.unusedVariables false

/-- Mul of any two words. -/
theorem words_Mul_any (a b : Int) (h0 : 0 ≤ a) (h2 : a ≤ 18446744073709551615) (h1 : 0 ≤ b) (h3 : b ≤ 18446744073709551615) :
    ∃ (v : Int) (p : Bool), (∀ w, Calls Tryd.prog 23 #[.int .u64 a, .int .u64 b] w fun e w' => e = .returned (.tuple #[.int .u64 v, .bool p]) ∧ w = w') ∧
      (∀ w, Calls Tryd.prog 23 #[.int .u64 b, .int .u64 a] w fun e w' => e = .returned (.tuple #[.int .u64 v, .bool p]) ∧ w = w') := by
  by_cases h : a * b ≤ 18446744073709551615
  · refine ⟨a * b, true, fun w => words_Mul_fits a b h0 h2 h1 h3 h w, fun w => ?_⟩
    rw [Int.mul_comm] at h ⊢
    exact words_Mul_fits b a h1 h3 h0 h2 h w
  · exact ⟨0, false, fun w => words_Mul_big a b h0 h2 h1 h3 (by omega) w, fun w => words_Mul_big b a h1 h3 h0 h2 (by rw [Int.mul_comm]; omega) w⟩

set_option maxHeartbeats 2000000 in
set_option maxRecDepth 100000 in
theorem wtakes_walk (a : Nat) (ha : a < 18446744073709551616) (b : Nat) (hb : b < 18446744073709551616) (w : World) (hw : WL w) :
    Calls Tryd.prog 8 #[.int .u64 (a : Int), .int .u64 (b : Int)] w fun e w' => e = .returned (.bool true) ∧ Below w.heap.size w w' := by
  have HW := Lib.hid hw
  obtain ⟨v, p, hm1, hm2⟩ := words_Mul_any a b (by omega) (by omega) (by omega) (by omega)
  have HM1 := Lib.hid hm1
  have HM2 := Lib.hid hm2
  have HA := Lib.hid ha
  have HB := Lib.hid hb
  clear hw hm1 hm2 ha hb
  by_cases hs : a + b < 18446744073709551616
  · have HS := Lib.hid hs
    clear hs
    go_enter Tryd.func8, Tryd.ntmps8
    go_wp2_with fail
    refine (words_Add_fits a b (by omega) (by have := HA.out; omega) (by omega) (by have := HS.out; omega) _).mono ?_
    rintro e w1 ⟨rfl, rfl⟩
    go_wp2_with fail
    refine (words_Add_fits b a (by omega) (by have := HB.out; omega) (by omega) (by have := HS.out; omega) _).mono ?_
    rintro e w1 ⟨rfl, rfl⟩
    rw [Int.add_comm (b : Int) (a : Int)]
    go_wp2_with fail
    refine (HM1.out _).mono ?_
    rintro e w1 ⟨rfl, rfl⟩
    go_wp2_with fail
    refine (HM2.out _).mono ?_
    rintro e w1 ⟨rfl, rfl⟩
    go_wp2_with fail
    refine (law_wAlive _ HW.out).mono ?_
    rintro e w2 ⟨rfl, hb2⟩
    have HB2 := Lib.hid hb2
    clear hb2
    go_wp2_with fail
    refine (words_Sub_ge ((a : Int) + (b : Int)) b (by omega) (by omega) (by have := HS.out; omega) _).mono ?_
    rintro e w3 ⟨rfl, rfl⟩
    rw [show (a : Int) + (b : Int) - (b : Int) = (a : Int) from by omega]
    go_wp2_with fail
    go_ret
    exact ⟨rfl, HB2.out⟩
  · have HS := Lib.hid hs
    clear hs
    go_enter Tryd.func8, Tryd.ntmps8
    go_wp2_with fail
    refine (words_Add_big a b (by omega) (by have := HA.out; omega) (by omega) (by have := HB.out; omega) (by have := HS.out; omega) _).mono ?_
    rintro e w1 ⟨rfl, rfl⟩
    go_wp2_with fail
    refine (words_Add_big b a (by omega) (by have := HB.out; omega) (by omega) (by have := HA.out; omega) (by have := HS.out; omega) _).mono ?_
    rintro e w1 ⟨rfl, rfl⟩
    go_wp2_with fail
    refine (HM1.out _).mono ?_
    rintro e w1 ⟨rfl, rfl⟩
    go_wp2_with fail
    refine (HM2.out _).mono ?_
    rintro e w1 ⟨rfl, rfl⟩
    go_wp2_with fail
    refine (law_wAlive _ HW.out).mono ?_
    rintro e w2 ⟨rfl, hb2⟩
    have HB2 := Lib.hid hb2
    clear hb2
    go_wp2_with fail
    refine (words_Sub_ge 18446744073709551615 a (by omega) (by have := HA.out; omega) (by omega) _).mono ?_
    rintro e w3 ⟨rfl, rfl⟩
    obtain ⟨d, hd⟩ : ∃ d : Int, d = 18446744073709551615 - (a : Int) := ⟨_, rfl⟩
    rw [← hd]
    have hlt : d < (b : Int) := by have := HS.out; omega
    clear hd
    go_wp2_with fail
    go_ret
    exact ⟨rfl, HB2.out⟩

end Go.Proofs.YtmdffggegnngjaaDoor
