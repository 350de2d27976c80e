/- Right of the program and of the reference. -/
import Derived.Test.YtgpaiphjbhkadaaTxPure2
import Derived.Test.YtgpaiphjbhkadaaWdRefR
import Derived.Test.YtgpaiphjbhkadaaNsMake
import Derived.Test.YtgpaiphjbhkadaaNsREnc2
namespace Go.Proofs.Ytgpaiphjbhkadaa
open Go.ChangeShapes Go.WideShapes Go.ChangeAt Go.RowKit
set_option linter.unusedVariables false
set_option maxRecDepth 100000

set_option maxHeartbeats 2000000 in
theorem tx_Right (z0 z1 z2 z3 z5 : Int) (tt : Nat) (A B : Option Addr) (m d k c : Nat) (mk : Bool) (w : World) :
    Calls Try.prog 13 #[.agg #[.int .u64 z0, .int .u64 z1, .int .u64 z2, .int .u64 z3, .int .u64 (tt : Int), .int .u64 z5, .slice A m d, .bool mk, .slice B k c]] w fun r w' => r = .returned (.bool (rightB tt m mk k)) ∧ Below w.heap.size w w' := by
  cases mk with
  | true =>
    by_cases h0 : tt = 0
    · subst h0
      by_cases h1 : m = 0
      · subst h1
        have e : rightB 0 0 true k = decide (k ≤ 256) := by simp [rightB]
        rw [e]
        by_cases hk : k ≤ 256
        · have q : decide ((k : Int) ≤ 256) = true := by simp; omega
          rw [decide_eq_true hk]
          go_enter Try.func13, Try.ntmps13
          go_wp2
          go_ret
          exact ⟨rfl, bal (Below.refl _ _) _⟩
        · have q : decide ((k : Int) ≤ 256) = false := by simp; omega
          rw [decide_eq_false hk]
          go_enter Try.func13, Try.ntmps13
          go_wp2
          go_ret
          exact ⟨rfl, bal (Below.refl _ _) _⟩
      · have e : rightB 0 m true k = false := by simp [rightB, h1]
        rw [e]
        have q : ((m : Int) == 0) = false := by rw [beq_eq_false_iff_ne]; omega
        go_enter Try.func13, Try.ntmps13
        go_wp2
        go_ret
        exact ⟨rfl, bal (Below.refl _ _) _⟩
    · have e : rightB tt m true k = false := by simp [rightB, h0]
      rw [e]
      have q : ((tt : Int) == 0) = false := by rw [beq_eq_false_iff_ne]; omega
      go_enter Try.func13, Try.ntmps13
      go_wp2
      go_ret
      exact ⟨rfl, bal (Below.refl _ _) _⟩
  | false =>
    by_cases h1 : m ≤ 8
    · have e : rightB tt m false k = decide (k = 0) := by simp [rightB, h1]
      rw [e]
      have q : decide ((m : Int) ≤ 8) = true := by simp; omega
      by_cases h2 : k = 0
      · subst h2
        go_enter Try.func13, Try.ntmps13
        go_wp2
        go_ret
        exact ⟨rfl, bal (Below.refl _ _) _⟩
      · have q2 : ((k : Int) == 0) = false := by rw [beq_eq_false_iff_ne]; omega
        rw [decide_eq_false h2]
        go_enter Try.func13, Try.ntmps13
        go_wp2
        go_ret
        exact ⟨rfl, bal (Below.refl _ _) _⟩
    · have e : rightB tt m false k = false := by simp [rightB, h1]
      rw [e]
      have q : decide ((m : Int) ≤ 8) = false := by simp; omega
      go_enter Try.func13, Try.ntmps13
      go_wp2
      go_ret
      exact ⟨rfl, bal (Below.refl _ _) _⟩

set_option maxHeartbeats 2000000 in
theorem ref_Right (z0 z1 z2 z3 z5 : Int) (tt : Nat) (A B : Option Addr) (m d k c : Nat) (mk : Bool) (w : World) :
    Calls Try.prog 14 #[.agg #[.int .u64 z0, .int .u64 z1, .int .u64 z2, .int .u64 z3, .int .u64 (tt : Int), .int .u64 z5, .slice A m d, .bool mk, .slice B k c]] w fun r w' => r = .returned (.bool (rightB tt m mk k)) ∧ Below w.heap.size w w' := by
  by_cases h1 : 8 < m
  · have e : rightB tt m mk k = false := by cases mk <;> simp [rightB] <;> omega
    rw [e]
    have q : (8 : Int) < (m : Int) := by omega
    go_enter Try.func14, Try.ntmps14
    go_wp2
    go_ret
    exact ⟨rfl, bal (Below.refl _ _) _⟩
  · have q : ¬ (8 : Int) < (m : Int) := by omega
    by_cases h2 : 256 < k
    · have e : rightB tt m mk k = false := by cases mk <;> simp [rightB] <;> omega
      rw [e]
      have q2 : (256 : Int) < (k : Int) := by omega
      go_enter Try.func14, Try.ntmps14
      go_wp2
      go_ret
      exact ⟨rfl, bal (Below.refl _ _) _⟩
    · have q2 : ¬ (256 : Int) < (k : Int) := by omega
      cases mk with
      | true =>
        by_cases h0 : tt = 0
        · subst h0
          by_cases h1 : m = 0
          · subst h1
            have e : rightB 0 0 true k = true := by simp [rightB]; omega
            rw [e]
            go_enter Try.func14, Try.ntmps14
            go_wp2
            go_ret
            exact ⟨rfl, bal (Below.refl _ _) _⟩
          · have e : rightB 0 m true k = false := by simp [rightB, h1]
            rw [e]
            have q : ((m : Int) == 0) = false := by rw [beq_eq_false_iff_ne]; omega
            go_enter Try.func14, Try.ntmps14
            go_wp2
            go_ret
            exact ⟨rfl, bal (Below.refl _ _) _⟩
        · have e : rightB tt m true k = false := by simp [rightB, h0]
          rw [e]
          have q : ((tt : Int) == 0) = false := by rw [beq_eq_false_iff_ne]; omega
          go_enter Try.func14, Try.ntmps14
          go_wp2
          go_ret
          exact ⟨rfl, bal (Below.refl _ _) _⟩
      | false =>
        have h3 : m ≤ 8 := by omega
        by_cases h4 : k = 0
        · subst h4
          have e : rightB tt m false 0 = true := by simp [rightB, h3]
          rw [e]
          go_enter Try.func14, Try.ntmps14
          go_wp2
          go_ret
          exact ⟨rfl, bal (Below.refl _ _) _⟩
        · have e : rightB tt m false k = false := by simp [rightB, h4]
          rw [e]
          have q2 : ((k : Int) == 0) = false := by rw [beq_eq_false_iff_ne]; omega
          go_enter Try.func14, Try.ntmps14
          go_wp2
          go_ret
          exact ⟨rfl, bal (Below.refl _ _) _⟩

end Go.Proofs.Ytgpaiphjbhkadaa
