/- The digest as text: the program's Parse at a text that is none. -/
import Derived.Test.YtkjdmjflppcofaaDgParse
namespace Go.Proofs.Ytkjdmjflppcofaa
open Go.ChangeShapes Go.WideShapes Go.ChangeAt Go.RowKit
set_option linter.unusedVariables false

theorem digV_zero : digV (fun _ => 0) = .agg #[.int .u8 0, .int .u8 0, .int .u8 0, .int .u8 0, .int .u8 0, .int .u8 0, .int .u8 0, .int .u8 0, .int .u8 0, .int .u8 0, .int .u8 0, .int .u8 0, .int .u8 0, .int .u8 0, .int .u8 0, .int .u8 0, .int .u8 0, .int .u8 0, .int .u8 0, .int .u8 0, .int .u8 0, .int .u8 0, .int .u8 0, .int .u8 0, .int .u8 0, .int .u8 0, .int .u8 0, .int .u8 0, .int .u8 0, .int .u8 0, .int .u8 0, .int .u8 0] := rfl

set_option maxHeartbeats 1000000 in
theorem digest_Parse_len (s : ByteArray) (w : World) (hs : s.size ≠ 64) (hm : s.size ≤ 9223372036854775807) :
    Calls Try.prog 20 #[.string s] w fun e w' => e = .returned (.tuple #[digV (fun _ => 0), .bool false]) ∧ Below w.heap.size w w' := by
  have hs2 : ((s.size : Int) != 64) = true := by rw [bne_iff_ne]; omega
  clear hs
  go_enter Try.func20, Try.ntmps20
  go_wp2_with (refine wpList_store_row rfl 28 (.tmp 2) (.tmp 11) rfl w.heap.size _ rfl rfl 28 _ (Go.heap_alloc2_old w z28 z28) size28 (by as_aux_lemma => rfl) (by as_aux_lemma => simp [Value.oneCell']) ?_)
  refine bodyPost_ret (results_row_tmp rfl _ _ _ w.heap.size _ rfl (run_loadVar_row _ w.heap.size 28 28 _ (0, 0) _ (setRow_heap _ _ _ _ _ _ (Go.heap_alloc2_old w z28 z28)) Try.underlying28 rfl size28)) rfl ?_
  exact ⟨rfl, below_row (bal (bal (Below.refl _ _) _) _) (Nat.le_refl _) _⟩

set_option maxHeartbeats 1000000 in
set_option maxRecDepth 100000 in
theorem digest_Parse_bad (s : ByteArray) (w : World) (hs : s.size = 64) (hok : ¬ okHex (sb s) 64) :
    Calls Try.prog 20 #[.string s] w fun e w' => e = .returned (.tuple #[digV (fun _ => 0), .bool false]) ∧ Below w.heap.size w w' := by
  have HOK := Go.Lib.hid hok
  have HS := Go.Lib.hid hs
  have hs1 : (64 : Int) ≤ (s.size : Int) := by omega
  have hs2 : ((s.size : Int) != 64) = false := by rw [bne_eq_false_iff_eq]; omega
  clear hok hs
  go_enter Try.func20, Try.ntmps20
  go_wp2
  go_loopg [5, 6, 7, 12] 32 (fun gk _ _ _ iv wr => ∃ (k nd : Nat), k ≤ 32 ∧ gk = 32 - k ∧ iv = .int .i64 k ∧ Hid (okHex (sb s) (2 * k)) ∧ wr = ((w.alloc z28).alloc (.cells (arrK (pvI (sb s)) k) 28)).drewN nd)
  case atStart => exact ⟨0, 0, by omega, rfl, rfl, Go.Lib.hid (fun i hi => by omega), by rw [arrK_zero]; rfl⟩
  case round =>
    obtain ⟨k, nd, hk, rfl, rfl, HKk, rfl⟩ := hrel
    by_cases hlt : k < 32
    · have e0 := sb_eq s (2 * k) (by have := HS.out; omega)
      have e1 := sb_eq s (2 * k + 1) (by have := HS.out; omega)
      have b0 := sb_bd s (2 * k)
      have b1 := sb_bd s (2 * k + 1)
      have hk2 : 2 * k < s.size := by have := HS.out; omega
      have hk3 : 2 * k + 1 < s.size := by have := HS.out; omega
      have hw1 : IntKind.i64.wrap (2 * (k : Int)) = 2 * (k : Int) := IntWalk.i64_in _ (by omega)
      have hw2 : IntKind.i64.wrap (2 * (k : Int) + 1) = 2 * (k : Int) + 1 := IntWalk.i64_in _ (by omega)
      have hn1 : (2 * (k : Int)).toNat = 2 * k := by omega
      have hn2 : (2 * (k : Int) + 1).toNat = 2 * k + 1 := by omega
      have d2 := digitI_bd (sb s (2 * k))
      have d3 := digitI_bd (sb s (2 * k + 1))
      by_cases d0 : digitI (sb s (2 * k)) ≤ 15
      · by_cases d1 : digitI (sb s (2 * k + 1)) ≤ 15
        · have hor := or4 _ _ d2.1 d0 d3.1 d1
          have harr := arrK_at (pvI (sb s)) k hlt
          have hset := arrK_set (pvI (sb s)) k
          have HSET := Go.Lib.hid hset
          have HK2 : Hid (okHex (sb s) (2 * (k + 1))) := Go.Lib.hid (fun i hi => by
            rcases (by omega : i < 2 * k ∨ i = 2 * k ∨ i = 2 * k + 1) with h | rfl | rfl
            · exact HKk.out i h
            · exact d0
            · exact d1)
          clear hset
          go_wp2
          go_region_with (go_at_call 36; refine (digest_digit _ (by omega) (by omega) _).mono ?_; rintro e w' ⟨rfl, rfl⟩)
          clear hw1 hw2 hn1 hn2 e0 e1
          all_goals
            go_wp2
            go_roundg (32 - (k + 1))
            case measure => omega
            case rel =>
              refine ⟨k + 1, nd + 1, by omega, rfl, by go_num, HK2, ?_⟩
              rw [← HSET.out]
              rfl
        · go_wp2
          go_region_with (go_at_call 36; refine (digest_digit _ (by omega) (by omega) _).mono ?_; rintro e w' ⟨rfl, rfl⟩)
          clear hw1 hw2 hn1 hn2 e0 e1
          all_goals
            go_wp2_with (refine wpList_store_row rfl 28 (.tmp 2) (.tmp 32) rfl w.heap.size _ rfl rfl 28 _ (Go.heap_alloc2_old w z28 (.cells (arrK (pvI (sb s)) k) 28)) size28 (by as_aux_lemma => rfl) (by as_aux_lemma => simp [Value.oneCell']) ?_)
            refine bodyPost_ret (results_row_tmp rfl _ _ _ w.heap.size _ rfl (run_loadVar_row _ w.heap.size 28 28 _ (0, 0) _ (setRow_heap _ _ _ _ _ _ (Go.heap_alloc2_old w z28 (.cells (arrK (pvI (sb s)) k) 28))) Try.underlying28 rfl size28)) rfl ?_
            exact ⟨rfl, below_row (bdn (bal (bal (Below.refl _ _) _) _) _) (Nat.le_refl _) _⟩
      · go_wp2
        go_region_with (go_at_call 36; refine (digest_digit _ (by omega) (by omega) _).mono ?_; rintro e w' ⟨rfl, rfl⟩)
        clear hw1 hw2 hn1 hn2 e0 e1
        all_goals
          go_wp2_with (refine wpList_store_row rfl 28 (.tmp 2) (.tmp 32) rfl w.heap.size _ rfl rfl 28 _ (Go.heap_alloc2_old w z28 (.cells (arrK (pvI (sb s)) k) 28)) size28 (by as_aux_lemma => rfl) (by as_aux_lemma => simp [Value.oneCell']) ?_)
          refine bodyPost_ret (results_row_tmp rfl _ _ _ w.heap.size _ rfl (run_loadVar_row _ w.heap.size 28 28 _ (0, 0) _ (setRow_heap _ _ _ _ _ _ (Go.heap_alloc2_old w z28 (.cells (arrK (pvI (sb s)) k) 28))) Try.underlying28 rfl size28)) rfl ?_
          exact ⟨rfl, below_row (bdn (bal (bal (Below.refl _ _) _) _) _) (Nat.le_refl _) _⟩
    · obtain rfl : k = 32 := by omega
      exact absurd HKk.out HOK.out

end Go.Proofs.Ytkjdmjflppcofaa
