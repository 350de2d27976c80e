/- The digest's leaves: words out of bytes and into them, the turns. -/
import Derived.Test.YtkjdmjflppcofaaRows
import Derived.Test.YtkjdmjflppcofaaDgPure
import Derived.Test.YtkjdmjflppcofaaMem
import Derived.WalkKit
import Derived.ProofKit
import Derived.OpenShut
import Derived.WalkSpells
import Derived.WalkLawsBesides
import Derived.Lib.Hide
import Derived.BigQuiet
import Derived.Deep.QuietTactic
namespace Go.Proofs.Ytkjdmjflppcofaa
open Go.ChangeShapes Go.WideShapes Go.ChangeAt Go.RowKit
set_option linter.unusedVariables false

set_option maxHeartbeats 400000 in
theorem digest_word (g off n c : Nat) (f : Nat → Int) (hf : ∀ i, 0 ≤ f i ∧ f i ≤ 255) (hn : 8 ≤ n) (hc : n ≤ c) (hm : c ≤ 9223372036854775807) (w : World)
    (hcell : ∀ i, i < 8 → w.cell? ⟨g, off + i, none⟩ = some (.int .u8 (f i))) :
    Calls Try.prog 41 #[.slice (some ⟨g, off, none⟩) n c] w fun e w' => e = .returned (.int .u64 (beN f 8)) ∧ w = w' := by
  have hc0 : ¬ c = 0 := by omega
  have hc8 : (8 : Int) ≤ (c : Int) := by omega
  go_enter Try.func41, Try.ntmps41
  go_wp2
  go_loop [3, 5, 9] (fun t _ i => ∃ k : Nat, k ≤ 8 ∧ i = .int .i64 k ∧ t = .int .u64 (beN f k)) (fun _ _ i => 8 - (intOf i).toNat)
  case atStart => exact ⟨0, by omega, rfl, rfl⟩
  case round =>
    obtain ⟨k, hk, rfl, rfl⟩ := hrel
    by_cases hlt : k < 8
    · have h1 := hcell k hlt
      have h2 := hf k
      have h3 := beN_bd7 f hf k hlt
      go_wp2
      go_round
      case rel => exact ⟨k + 1, by omega, by go_num, by rw [or_byte _ _ h3.1 h3.2 h2.1 h2.2]; rfl⟩
      case measure => simp [intOf]; omega
    · obtain rfl : k = 8 := by omega
      go_wp2
      go_ret
      exact ⟨rfl, rfl⟩

set_option maxHeartbeats 400000 in
theorem ref_word (g off n c a : Nat) (f : Nat → Int) (hf : ∀ i, 0 ≤ f i ∧ f i ≤ 255) (hn : a + 8 ≤ n) (hm : n ≤ 9223372036854775807) (w : World)
    (hcell : ∀ i, i < 8 → w.cell? ⟨g, off + (a + i), none⟩ = some (.int .u8 (f i))) :
    Calls Try.prog 34 #[.slice (some ⟨g, off, none⟩) n c, .int .i64 a] w fun e w' => e = .returned (.int .u64 (beN f 8)) ∧ w = w' := by
  go_enter Try.func34, Try.ntmps34
  go_wp2
  go_loop [5, 6] (fun t i => ∃ k : Nat, k ≤ 8 ∧ i = .int .i64 k ∧ t = .int .u64 (beN f k)) (fun _ i => 8 - (intOf i).toNat)
  case atStart => exact ⟨0, by omega, rfl, rfl⟩
  case round =>
    obtain ⟨k, hk, rfl, rfl⟩ := hrel
    by_cases hlt : k < 8
    · have h1 := hcell k hlt
      have h2 := hf k
      have h3 := beN_bd7 f hf k hlt
      go_wp2
      go_round
      case rel => exact ⟨k + 1, by omega, by go_num, rfl⟩
      case measure => simp [intOf]; omega
    · obtain rfl : k = 8 := by omega
      go_wp2
      go_ret
      exact ⟨rfl, rfl⟩

set_option maxHeartbeats 400000 in
theorem bits_rot32 (x : Int) (w : World) :
    Calls Try.prog 42 #[.int .u64 x, .int .i64 32] w fun e w' => e = .returned (.int .u64 (rotC x 32)) ∧ w = w' := by
  have hb : bits .and .u64 32 63 = 32 := by decide
  go_enter Try.func42, Try.ntmps42
  go_wp2
  go_ret
  exact ⟨rfl, rfl⟩

set_option maxHeartbeats 400000 in
theorem ref_rot32 (x : Int) (w : World) :
    Calls Try.prog 35 #[.int .u64 x, .int .i64 32] w fun e w' => e = .returned (.int .u64 (rotC x 32)) ∧ ∃ n, w' = w.drewN n := by
  go_enter Try.func35, Try.ntmps35
  go_wp2
  go_quiet (fail)
  go_wp2
  go_ret
  exact ⟨rfl, _, rfl⟩

set_option maxHeartbeats 400000 in
theorem bits_rot24 (x : Int) (w : World) :
    Calls Try.prog 42 #[.int .u64 x, .int .i64 24] w fun e w' => e = .returned (.int .u64 (rotC x 24)) ∧ w = w' := by
  have hb : bits .and .u64 24 63 = 24 := by decide
  go_enter Try.func42, Try.ntmps42
  go_wp2
  go_ret
  exact ⟨rfl, rfl⟩

set_option maxHeartbeats 400000 in
theorem ref_rot24 (x : Int) (w : World) :
    Calls Try.prog 35 #[.int .u64 x, .int .i64 24] w fun e w' => e = .returned (.int .u64 (rotC x 24)) ∧ ∃ n, w' = w.drewN n := by
  go_enter Try.func35, Try.ntmps35
  go_wp2
  go_quiet (fail)
  go_wp2
  go_ret
  exact ⟨rfl, _, rfl⟩

set_option maxHeartbeats 400000 in
theorem bits_rot16 (x : Int) (w : World) :
    Calls Try.prog 42 #[.int .u64 x, .int .i64 16] w fun e w' => e = .returned (.int .u64 (rotC x 16)) ∧ w = w' := by
  have hb : bits .and .u64 16 63 = 16 := by decide
  go_enter Try.func42, Try.ntmps42
  go_wp2
  go_ret
  exact ⟨rfl, rfl⟩

set_option maxHeartbeats 400000 in
theorem ref_rot16 (x : Int) (w : World) :
    Calls Try.prog 35 #[.int .u64 x, .int .i64 16] w fun e w' => e = .returned (.int .u64 (rotC x 16)) ∧ ∃ n, w' = w.drewN n := by
  go_enter Try.func35, Try.ntmps35
  go_wp2
  go_quiet (fail)
  go_wp2
  go_ret
  exact ⟨rfl, _, rfl⟩

set_option maxHeartbeats 400000 in
theorem bits_rot63 (x : Int) (w : World) :
    Calls Try.prog 42 #[.int .u64 x, .int .i64 63] w fun e w' => e = .returned (.int .u64 (rotC x 63)) ∧ w = w' := by
  have hb : bits .and .u64 63 63 = 63 := by decide
  go_enter Try.func42, Try.ntmps42
  go_wp2
  go_ret
  exact ⟨rfl, rfl⟩

set_option maxHeartbeats 400000 in
theorem ref_rot63 (x : Int) (w : World) :
    Calls Try.prog 35 #[.int .u64 x, .int .i64 63] w fun e w' => e = .returned (.int .u64 (rotC x 63)) ∧ ∃ n, w' = w.drewN n := by
  go_enter Try.func35, Try.ntmps35
  go_wp2
  go_quiet (fail)
  go_wp2
  go_ret
  exact ⟨rfl, _, rfl⟩

theorem bits_rot (x K : Int) (hK : K = 32 ∨ K = 24 ∨ K = 16 ∨ K = 63) (w : World) :
    Calls Try.prog 42 #[.int .u64 x, .int .i64 K] w fun e w' => e = .returned (.int .u64 (rotC x K.toNat)) ∧ w = w' := by
  rcases hK with rfl | rfl | rfl | rfl
  · exact bits_rot32 x w
  · exact bits_rot24 x w
  · exact bits_rot16 x w
  · exact bits_rot63 x w

theorem ref_rot (x K : Int) (hK : K = 32 ∨ K = 24 ∨ K = 16 ∨ K = 63) (w : World) :
    Calls Try.prog 35 #[.int .u64 x, .int .i64 K] w fun e w' => e = .returned (.int .u64 (rotC x K.toNat)) ∧ ∃ n, w' = w.drewN n := by
  rcases hK with rfl | rfl | rfl | rfl
  · exact ref_rot32 x w
  · exact ref_rot24 x w
  · exact ref_rot16 x w
  · exact ref_rot63 x w

/-- The same, the result under a name. -/
theorem bits_rot_named (x K : Int) (hK : K = 32 ∨ K = 24 ∨ K = 16 ∨ K = 63) (w : World) :
    Calls Try.prog 42 #[.int .u64 x, .int .i64 K] w fun e w' => ∃ y, Hid (y = rotC x K.toNat) ∧ e = .returned (.int .u64 y) ∧ w = w' :=
  (bits_rot x K hK w).mono fun _ _ h => ⟨_, Go.Lib.hid rfl, h.1, h.2⟩

theorem ref_rot_named (x K : Int) (hK : K = 32 ∨ K = 24 ∨ K = 16 ∨ K = 63) (w : World) :
    Calls Try.prog 35 #[.int .u64 x, .int .i64 K] w fun e w' => ∃ y, Hid (y = rotC x K.toNat) ∧ e = .returned (.int .u64 y) ∧ ∃ n, w' = w.drewN n :=
  (ref_rot x K hK w).mono fun _ _ h => ⟨_, Go.Lib.hid rfl, h.1, h.2⟩

/-- The state ahead of all pieces. -/
def initV : Value := .agg #[.int .u64 11400714819323198485, .int .u64 4354685564936845354, .int .u64 15755400384260043839, .int .u64 8709371129873690708]

set_option maxHeartbeats 400000 in
theorem digest_begun (w : World) :
    Calls Try.prog 37 #[] w fun e w' => e = .returned (.agg #[.int .u64 11400714819323198485, .int .u64 4354685564936845354, .int .u64 15755400384260043839, .int .u64 8709371129873690708]) ∧ Below w.heap.size w w' := by
  have e1 : IntKind.u64.wrap 22801429638646396970 = 4354685564936845354 := by decide
  have e3 : IntKind.u64.wrap 27156115203583242324 = 8709371129873690708 := by decide
  go_enter Try.func37, Try.ntmps37
  go_wp2
  refine wp_loop_rounds 5 ?_
  rw [rounds_succ]
  go_wp2
  rw [rounds_succ]
  go_wp2
  rw [rounds_succ]
  go_wp2
  rw [rounds_succ]
  go_wp2
  rw [rounds_succ]
  go_wp2
  refine bodyPost_ret (v := .agg #[.int .u64 11400714819323198485, .int .u64 4354685564936845354, .int .u64 15755400384260043839, .int .u64 8709371129873690708]) (by simp [results, Try.results37, go_sem]) rfl ⟨rfl, ?_⟩
  exact ((Below.refl _ _).alloc (Nat.le_refl _) _).alloc (by simp) _

end Go.Proofs.Ytkjdmjflppcofaa
