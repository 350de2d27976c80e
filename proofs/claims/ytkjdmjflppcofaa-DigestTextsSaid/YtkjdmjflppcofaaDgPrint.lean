/- The digest as text: the program's Print. -/
import Derived.Test.YtkjdmjflppcofaaDgParse
namespace Go.Proofs.Ytkjdmjflppcofaa
open Go.ChangeShapes Go.WideShapes Go.ChangeAt Go.RowKit
set_option linter.unusedVariables false

/-- The cells of 32 bytes. -/
def dA (f : Nat → Int) : Array Value := ((List.range 32).map fun i => Value.int .u8 (f i)).toArray
theorem dA_size (f : Nat → Int) : (dA f).size = 32 := by simp [dA]
theorem dA_at (f : Nat → Int) (k : Nat) (hk : k < 32) : (dA f)[k]? = some (.int .u8 (f k)) := by simp [dA, hk]

/-- An array's element, at a place that is a variable. -/
theorem idx28 (f : Nat → Int) (k : Nat) (hk : k < 32) (w : World) : (Instr.index 28 (.agg (dA f)) (.int .i64 k)).run Try.prog w = .ok (.int .u8 (f k)) w := by
  have h := dA_at f k hk
  unfold Instr.index
  simp [asIntOf, run_underlying Try.underlying28, part, Try.isAgg5, Try.sizeOf5, hk, h]

theorem idx56_0 (a b : Int) (w : World) : (Instr.index 56 (.agg #[.int .u8 a, .int .u8 b]) (.int .i64 0)).run Try.prog w = .ok (.int .u8 a) w := by kernel_rfl
theorem idx56_1 (a b : Int) (w : World) : (Instr.index 56 (.agg #[.int .u8 a, .int .u8 b]) (.int .i64 1)).run Try.prog w = .ok (.int .u8 b) w := by kernel_rfl
theorem size28d (f : Nat → Int) : (Try.prog.info? 28).map (·.size) = some (dA f).size := by rw [dA_size]; exact size28

def intC (l : List Int) : List Value := l.map (Value.int .u8)
theorem intC_one (l : List Int) : ∀ u ∈ intC l, u.oneCell' = true := by
  intro u hu
  obtain ⟨x, _, rfl⟩ := List.mem_map.1 hu
  rfl

/-- 'string(b)'. -/
theorem conv_rd {P : Program} (w : World) (src e dst : TypeId) (hs : P.underlying src = some (.slice e)) (he : P.underlying e = some (.int .u8)) (hd : P.underlying dst = some .string) (A : Option Addr) (n c : Nat) (l : List Int)
    (hr : Rd w A (intC l)) (hn : l.length = n) : (convert src dst (.slice A n c)).run P w = .ok (.string (strOfNums l)) w := by
  rcases A with _ | a
  · have hl : l = [] := by
      cases l with
      | nil => rfl
      | cons x xs =>
        obtain ⟨g, off, h, _⟩ := hr (by simp [intC])
        cases h
    subst hl
    exact run_convert_bytes_nil w src e hs he n c dst hd
  · by_cases hl : l = []
    · subst hl
      simp at hn
      subst hn
      have h2 : (loadCells a 0).run P w = .ok (([] : List Int).map (Value.int .u8)).toArray w := by
        simp [loadCells, loadCellsFrom]
      rw [run_convert_bytes_string w src dst e _ 0 c hs he hd, run_bytesToString w _ 0 c [] h2]
      rfl
    · obtain ⟨g, off, h, _, hc⟩ := hr (by simpa [intC] using hl)
      injection h with h
      subst h
      refine run_convert_bytes_arg w src e hs he g off n c l hn (fun i hi => ?_) dst hd
      refine hc i _ ?_
      have hi' : i < l.length := by omega
      simp [intC, List.getD, hi']

set_option maxHeartbeats 1000000 in
set_option maxRecDepth 100000 in
theorem digest_Print (f : Nat → Int) (hf : ∀ i, 0 ≤ f i ∧ f i ≤ 255) (w : World) :
    Calls Try.prog 22 #[.agg (dA f)] w fun e w' => e = .returned (.string (strOfNums (hexI f 32))) ∧ Below w.heap.size w w' := by
  obtain ⟨i0, hi, hz0, hz1, hz2⟩ := info_parts info_u8
  go_enter Try.func22, Try.ntmps22
  go_wp2_with (refine wpList_load_row rfl 28 (.tmp 1) rfl w.heap.size rfl 28 (dA f) (0, 0) _ (Go.heap_alloc_new w _) Try.underlying28 rfl (size28d f) ?_)
  go_loopg [3, 5, 7, 9] 32 (fun gk v _ _ iv wr => ∃ (k : Nat) (A : Option Addr) (c : Nat), k ≤ 32 ∧ gk = 32 - k ∧ iv = .int .i64 k ∧ v = .slice A (2 * k) c ∧ Hid (Own wr (w.heap.size + 1) 5 1 A (2 * k) c (intC (hexI f k))) ∧ Hid (Below (w.alloc (.cells (dA f) 28)).heap.size (w.alloc (.cells (dA f) 28)) wr))
  case atStart => exact ⟨0, none, 0, by omega, rfl, rfl, rfl, Go.Lib.hid (Own.nil _ _ _ _), Go.Lib.hid (Below.refl _ _)⟩
  case round =>
    obtain ⟨k, A, c, hk, rfl, rfl, rfl, HOr, HLr⟩ := hrel
    by_cases hlt : k < 32
    · have hix := idx28 f k hlt
      have hfk := hf k
      have hand : bits .and .u8 (f k) 15 = f k % 16 := u8_and15 _ hfk.1 (by omega)
      have ix0 := idx56_0 (f k / 16) (f k % 16)
      have ix1 := idx56_1 (f k / 16) (f k % 16)
      have hb1 : 0 ≤ f k / 16 ∧ f k / 16 ≤ 15 := by omega
      have hb2 : 0 ≤ f k % 16 ∧ f k % 16 ≤ 15 := by omega
      have hk31 : k ≤ 31 := by omega
      by_cases c1 : f k / 16 < 10
      · by_cases c2 : f k % 16 < 10
        · skip
          have e1 : hexd (f k / 16) = 48 + f k / 16 := if_pos c1
          have e2 : hexd (f k % 16) = 48 + f k % 16 := if_pos c2
          have E1 := Go.Lib.hid e1
          have E2 := Go.Lib.hid e2
          clear e1 e2
          go_wp2
          refine wp_loop_rounds 3 ?_
          rw [rounds_succ]
          go_wp2_with (at_builtin; refine wpList_append_o _ rfl _ _ 26 rfl 5 i0 (.int .u8 0) 1 1 Try.underlying26 hi hz0 hz1 hz2 rfl (by decide) (w.heap.size + 1) A (2 * k) c _ rfl (HOr.out.alloc _) _ 1 1 _ rfl (by simp) (rd_new _ _ _) (by simp [Value.oneCell']) (by omega) (by unfold maxLen; omega) (by have := HLr.out.size; simp at this ⊢; omega) ?_)
          intro A1 c1 w1 hown1 hkp1 hlie1
          have HO1 : Hid (Own w1 (w.heap.size + 1) 5 1 A1 (2 * k + 1) c1 (intC (hexI f k) ++ [.int .u8 (hexd (f k / 16))])) := Go.Lib.hid (by rw [E1.out]; exact hown1)
          have HL1 : Hid (Below (w.alloc (.cells (dA f) 28)).heap.size (w.alloc (.cells (dA f) 28)) w1) := Go.Lib.hid (Kp.below (bal HLr.out _) hkp1 (fun i h => by simpa using (HOr.out.block_lt i h.symm).1))
          clear hown1 hkp1 hlie1
          go_wp2
          rw [rounds_succ]
          go_wp2_with (at_builtin; refine wpList_append_o _ rfl _ _ 26 rfl 5 i0 (.int .u8 0) 1 1 Try.underlying26 hi hz0 hz1 hz2 rfl (by decide) (w.heap.size + 1) A1 (2 * k + 1) c1 _ rfl (HO1.out.alloc _) _ 1 1 _ rfl (by simp) (rd_new _ _ _) (by simp [Value.oneCell']) (by omega) (by unfold maxLen; omega) (by have := HL1.out.size; simp at this ⊢; omega) ?_)
          intro A2 c2 w2 hown2 hkp2 hlie2
          have HO2 : Hid (Own w2 (w.heap.size + 1) 5 1 A2 (2 * (k + 1)) c2 (intC (hexI f (k + 1)))) := Go.Lib.hid (by
            have e : intC (hexI f (k + 1)) = intC (hexI f k) ++ [.int .u8 (hexd (f k / 16))] ++ [.int .u8 (hexd (f k % 16))] := by simp [hexI, intC]
            rw [e, E2.out, show 2 * (k + 1) = 2 * k + 1 + 1 from by omega]
            simpa using hown2)
          have HL2 : Hid (Below (w.alloc (.cells (dA f) 28)).heap.size (w.alloc (.cells (dA f) 28)) w2) := Go.Lib.hid (Kp.below (bal HL1.out _) hkp2 (fun i h => by simpa using (HO1.out.block_lt i h.symm).1))
          clear hown2 hkp2 hlie2
          go_wp2
          rw [rounds_succ]
          go_wp2
          go_roundg (32 - (k + 1))
          case measure => omega
          case rel => exact ⟨k + 1, A2, c2, by omega, rfl, by go_num, rfl, HO2, HL2⟩
        · skip
          have e1 : hexd (f k / 16) = 48 + f k / 16 := if_pos c1
          have e2 : hexd (f k % 16) = 97 + f k % 16 - 10 := if_neg c2
          have E1 := Go.Lib.hid e1
          have E2 := Go.Lib.hid e2
          clear e1 e2
          go_wp2
          refine wp_loop_rounds 3 ?_
          rw [rounds_succ]
          go_wp2_with (at_builtin; refine wpList_append_o _ rfl _ _ 26 rfl 5 i0 (.int .u8 0) 1 1 Try.underlying26 hi hz0 hz1 hz2 rfl (by decide) (w.heap.size + 1) A (2 * k) c _ rfl (HOr.out.alloc _) _ 1 1 _ rfl (by simp) (rd_new _ _ _) (by simp [Value.oneCell']) (by omega) (by unfold maxLen; omega) (by have := HLr.out.size; simp at this ⊢; omega) ?_)
          intro A1 c1 w1 hown1 hkp1 hlie1
          have HO1 : Hid (Own w1 (w.heap.size + 1) 5 1 A1 (2 * k + 1) c1 (intC (hexI f k) ++ [.int .u8 (hexd (f k / 16))])) := Go.Lib.hid (by rw [E1.out]; exact hown1)
          have HL1 : Hid (Below (w.alloc (.cells (dA f) 28)).heap.size (w.alloc (.cells (dA f) 28)) w1) := Go.Lib.hid (Kp.below (bal HLr.out _) hkp1 (fun i h => by simpa using (HOr.out.block_lt i h.symm).1))
          clear hown1 hkp1 hlie1
          go_wp2
          rw [rounds_succ]
          go_wp2_with (at_builtin; refine wpList_append_o _ rfl _ _ 26 rfl 5 i0 (.int .u8 0) 1 1 Try.underlying26 hi hz0 hz1 hz2 rfl (by decide) (w.heap.size + 1) A1 (2 * k + 1) c1 _ rfl (HO1.out.alloc _) _ 1 1 _ rfl (by simp) (rd_new _ _ _) (by simp [Value.oneCell']) (by omega) (by unfold maxLen; omega) (by have := HL1.out.size; simp at this ⊢; omega) ?_)
          intro A2 c2 w2 hown2 hkp2 hlie2
          have HO2 : Hid (Own w2 (w.heap.size + 1) 5 1 A2 (2 * (k + 1)) c2 (intC (hexI f (k + 1)))) := Go.Lib.hid (by
            have e : intC (hexI f (k + 1)) = intC (hexI f k) ++ [.int .u8 (hexd (f k / 16))] ++ [.int .u8 (hexd (f k % 16))] := by simp [hexI, intC]
            rw [e, E2.out, show 2 * (k + 1) = 2 * k + 1 + 1 from by omega]
            simpa using hown2)
          have HL2 : Hid (Below (w.alloc (.cells (dA f) 28)).heap.size (w.alloc (.cells (dA f) 28)) w2) := Go.Lib.hid (Kp.below (bal HL1.out _) hkp2 (fun i h => by simpa using (HO1.out.block_lt i h.symm).1))
          clear hown2 hkp2 hlie2
          go_wp2
          rw [rounds_succ]
          go_wp2
          go_roundg (32 - (k + 1))
          case measure => omega
          case rel => exact ⟨k + 1, A2, c2, by omega, rfl, by go_num, rfl, HO2, HL2⟩
      · by_cases c2 : f k % 16 < 10
        · skip
          have e1 : hexd (f k / 16) = 97 + f k / 16 - 10 := if_neg c1
          have e2 : hexd (f k % 16) = 48 + f k % 16 := if_pos c2
          have E1 := Go.Lib.hid e1
          have E2 := Go.Lib.hid e2
          clear e1 e2
          go_wp2
          refine wp_loop_rounds 3 ?_
          rw [rounds_succ]
          go_wp2_with (at_builtin; refine wpList_append_o _ rfl _ _ 26 rfl 5 i0 (.int .u8 0) 1 1 Try.underlying26 hi hz0 hz1 hz2 rfl (by decide) (w.heap.size + 1) A (2 * k) c _ rfl (HOr.out.alloc _) _ 1 1 _ rfl (by simp) (rd_new _ _ _) (by simp [Value.oneCell']) (by omega) (by unfold maxLen; omega) (by have := HLr.out.size; simp at this ⊢; omega) ?_)
          intro A1 c1 w1 hown1 hkp1 hlie1
          have HO1 : Hid (Own w1 (w.heap.size + 1) 5 1 A1 (2 * k + 1) c1 (intC (hexI f k) ++ [.int .u8 (hexd (f k / 16))])) := Go.Lib.hid (by rw [E1.out]; exact hown1)
          have HL1 : Hid (Below (w.alloc (.cells (dA f) 28)).heap.size (w.alloc (.cells (dA f) 28)) w1) := Go.Lib.hid (Kp.below (bal HLr.out _) hkp1 (fun i h => by simpa using (HOr.out.block_lt i h.symm).1))
          clear hown1 hkp1 hlie1
          go_wp2
          rw [rounds_succ]
          go_wp2_with (at_builtin; refine wpList_append_o _ rfl _ _ 26 rfl 5 i0 (.int .u8 0) 1 1 Try.underlying26 hi hz0 hz1 hz2 rfl (by decide) (w.heap.size + 1) A1 (2 * k + 1) c1 _ rfl (HO1.out.alloc _) _ 1 1 _ rfl (by simp) (rd_new _ _ _) (by simp [Value.oneCell']) (by omega) (by unfold maxLen; omega) (by have := HL1.out.size; simp at this ⊢; omega) ?_)
          intro A2 c2 w2 hown2 hkp2 hlie2
          have HO2 : Hid (Own w2 (w.heap.size + 1) 5 1 A2 (2 * (k + 1)) c2 (intC (hexI f (k + 1)))) := Go.Lib.hid (by
            have e : intC (hexI f (k + 1)) = intC (hexI f k) ++ [.int .u8 (hexd (f k / 16))] ++ [.int .u8 (hexd (f k % 16))] := by simp [hexI, intC]
            rw [e, E2.out, show 2 * (k + 1) = 2 * k + 1 + 1 from by omega]
            simpa using hown2)
          have HL2 : Hid (Below (w.alloc (.cells (dA f) 28)).heap.size (w.alloc (.cells (dA f) 28)) w2) := Go.Lib.hid (Kp.below (bal HL1.out _) hkp2 (fun i h => by simpa using (HO1.out.block_lt i h.symm).1))
          clear hown2 hkp2 hlie2
          go_wp2
          rw [rounds_succ]
          go_wp2
          go_roundg (32 - (k + 1))
          case measure => omega
          case rel => exact ⟨k + 1, A2, c2, by omega, rfl, by go_num, rfl, HO2, HL2⟩
        · skip
          have e1 : hexd (f k / 16) = 97 + f k / 16 - 10 := if_neg c1
          have e2 : hexd (f k % 16) = 97 + f k % 16 - 10 := if_neg c2
          have E1 := Go.Lib.hid e1
          have E2 := Go.Lib.hid e2
          clear e1 e2
          go_wp2
          refine wp_loop_rounds 3 ?_
          rw [rounds_succ]
          go_wp2_with (at_builtin; refine wpList_append_o _ rfl _ _ 26 rfl 5 i0 (.int .u8 0) 1 1 Try.underlying26 hi hz0 hz1 hz2 rfl (by decide) (w.heap.size + 1) A (2 * k) c _ rfl (HOr.out.alloc _) _ 1 1 _ rfl (by simp) (rd_new _ _ _) (by simp [Value.oneCell']) (by omega) (by unfold maxLen; omega) (by have := HLr.out.size; simp at this ⊢; omega) ?_)
          intro A1 c1 w1 hown1 hkp1 hlie1
          have HO1 : Hid (Own w1 (w.heap.size + 1) 5 1 A1 (2 * k + 1) c1 (intC (hexI f k) ++ [.int .u8 (hexd (f k / 16))])) := Go.Lib.hid (by rw [E1.out]; exact hown1)
          have HL1 : Hid (Below (w.alloc (.cells (dA f) 28)).heap.size (w.alloc (.cells (dA f) 28)) w1) := Go.Lib.hid (Kp.below (bal HLr.out _) hkp1 (fun i h => by simpa using (HOr.out.block_lt i h.symm).1))
          clear hown1 hkp1 hlie1
          go_wp2
          rw [rounds_succ]
          go_wp2_with (at_builtin; refine wpList_append_o _ rfl _ _ 26 rfl 5 i0 (.int .u8 0) 1 1 Try.underlying26 hi hz0 hz1 hz2 rfl (by decide) (w.heap.size + 1) A1 (2 * k + 1) c1 _ rfl (HO1.out.alloc _) _ 1 1 _ rfl (by simp) (rd_new _ _ _) (by simp [Value.oneCell']) (by omega) (by unfold maxLen; omega) (by have := HL1.out.size; simp at this ⊢; omega) ?_)
          intro A2 c2 w2 hown2 hkp2 hlie2
          have HO2 : Hid (Own w2 (w.heap.size + 1) 5 1 A2 (2 * (k + 1)) c2 (intC (hexI f (k + 1)))) := Go.Lib.hid (by
            have e : intC (hexI f (k + 1)) = intC (hexI f k) ++ [.int .u8 (hexd (f k / 16))] ++ [.int .u8 (hexd (f k % 16))] := by simp [hexI, intC]
            rw [e, E2.out, show 2 * (k + 1) = 2 * k + 1 + 1 from by omega]
            simpa using hown2)
          have HL2 : Hid (Below (w.alloc (.cells (dA f) 28)).heap.size (w.alloc (.cells (dA f) 28)) w2) := Go.Lib.hid (Kp.below (bal HL1.out _) hkp2 (fun i h => by simpa using (HO1.out.block_lt i h.symm).1))
          clear hown2 hkp2 hlie2
          go_wp2
          rw [rounds_succ]
          go_wp2
          go_roundg (32 - (k + 1))
          case measure => omega
          case rel => exact ⟨k + 1, A2, c2, by omega, rfl, by go_num, rfl, HO2, HL2⟩
    · obtain rfl : k = 32 := by omega
      have hc2 := conv_rd (P := Try.prog) wr 26 5 9 Try.underlying26 Try.underlying5 Try.underlying9 A (2 * 32) c (hexI f 32) HOr.out.rd (hexI_length f 32)
      go_wp2
      go_ret
      exact ⟨rfl, (bal (Below.refl _ _) _).trans (HLr.out.mono (by simp))⟩

end Go.Proofs.Ytkjdmjflppcofaa
