/- The digest as text: the plain side, and the program's digit. -/
import Derived.Test.YtkjdmjflppcofaaDgOf
import Derived.BigQuiet
import Derived.Deep.QuietTactic
namespace Go.Proofs.Ytkjdmjflppcofaa
open Go.ChangeShapes Go.WideShapes Go.ChangeAt Go.RowKit
set_option linter.unusedVariables false

def hexd (n : Int) : Int := if n < 10 then 48 + n else 97 + n - 10
def hexI (f : Nat → Int) : Nat → List Int
  | 0 => []
  | k + 1 => hexI f k ++ [hexd (f k / 16), hexd (f k % 16)]
def digitI (c : Int) : Int := if 48 ≤ c ∧ c ≤ 57 then c - 48 else if 97 ≤ c ∧ c ≤ 102 then c - 97 + 10 else 255
/-- The i-th byte out of two digits. -/
def pvI (g : Nat → Int) (i : Nat) : Int := digitI (g (2 * i)) * 16 + digitI (g (2 * i + 1))
/-- Are all 64 digits digits? -/
def okHex (g : Nat → Int) (k : Nat) : Prop := ∀ i, i < k → digitI (g i) ≤ 15

theorem hexI_length (f : Nat → Int) : ∀ k, (hexI f k).length = 2 * k
  | 0 => rfl
  | k + 1 => by simp [hexI, hexI_length f k]; omega

theorem digitI_bd (c : Int) : 0 ≤ digitI c ∧ digitI c ≤ 255 := by unfold digitI; split <;> (try split) <;> omega
theorem digit_hexd (n : Int) (h0 : 0 ≤ n) (h1 : n ≤ 15) : digitI (hexd n) = n := by unfold digitI hexd; split <;> split <;> (try split) <;> omega
theorem hexd_bd (n : Int) (h0 : 0 ≤ n) (h1 : n ≤ 15) : 48 ≤ hexd n ∧ hexd n ≤ 102 := by unfold hexd; split <;> omega
theorem hexd_digit (c : Int) (h : digitI c ≤ 15) : hexd (digitI c) = c := by
  unfold digitI at h ⊢
  unfold hexd
  split at h <;> (try split at h) <;> (try omega)

theorem hexI_get (f : Nat → Int) : ∀ k i, i < k → (hexI f k).getD (2 * i) 0 = hexd (f i / 16) ∧ (hexI f k).getD (2 * i + 1) 0 = hexd (f i % 16)
  | 0, i, h => by omega
  | k + 1, i, h => by
    have hl := hexI_length f k
    by_cases e : i = k
    · subst e
      simp only [hexI, List.getD]
      rw [List.getElem?_append_right (by omega), List.getElem?_append_right (by omega), hl]
      simp
    · have ih := hexI_get f k i (by omega)
      simp only [hexI, List.getD] at ih ⊢
      rw [List.getElem?_append_left (by omega), List.getElem?_append_left (by omega)]
      exact ih

set_option maxHeartbeats 400000 in
theorem digest_digit (c : Int) (h0 : 0 ≤ c) (h1 : c ≤ 255) (w : World) :
    Calls Try.prog 36 #[.int .u8 c] w fun e w' => e = .returned (.int .u8 (digitI c)) ∧ w' = w := by
  by_cases a : 48 ≤ c
  · by_cases b : c ≤ 57
    · have e : digitI c = c - 48 := by unfold digitI; rw [if_pos ⟨a, b⟩]
      rw [e]
      clear e
      go_enter Try.func36, Try.ntmps36
      go_wp2
      go_ret
      exact ⟨rfl, rfl⟩
    · by_cases d : 97 ≤ c ∧ c ≤ 102
      · obtain ⟨d1, d2⟩ := d
        have e : digitI c = c - 97 + 10 := by unfold digitI; rw [if_neg (by omega), if_pos ⟨d1, d2⟩]
        rw [e]
        clear e
        go_enter Try.func36, Try.ntmps36
        go_wp2
        go_ret
        exact ⟨rfl, rfl⟩
      · have e : digitI c = 255 := by unfold digitI; rw [if_neg (by omega), if_neg d]
        rw [e]
        clear e
        by_cases d1 : 97 ≤ c
        · have d2 : ¬ c ≤ 102 := by omega
          clear d
          go_enter Try.func36, Try.ntmps36
          go_wp2
          go_ret
          exact ⟨rfl, rfl⟩
        · clear d
          go_enter Try.func36, Try.ntmps36
          go_wp2
          go_ret
          exact ⟨rfl, rfl⟩
  · have e : digitI c = 255 := by unfold digitI; rw [if_neg (by omega), if_neg (by omega)]
    rw [e]
    clear e
    have d1 : ¬ 97 ≤ c := by omega
    go_enter Try.func36, Try.ntmps36
    go_wp2
    go_ret
    exact ⟨rfl, rfl⟩

end Go.Proofs.Ytkjdmjflppcofaa
