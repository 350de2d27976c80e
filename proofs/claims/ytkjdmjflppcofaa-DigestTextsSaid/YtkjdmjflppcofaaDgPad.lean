/- The reference's padded text. -/
import Derived.Test.YtkjdmjflppcofaaDgSum
namespace Go.Proofs.Ytkjdmjflppcofaa
open Go.ChangeShapes Go.WideShapes Go.ChangeAt Go.RowKit
set_option linter.unusedVariables false

theorem own_empty (w : World) (base : Nat) (E : TypeId) (hb : base ≤ w.heap.size) : Own (w.alloc (.cells #[] E)) base E 1 (some ⟨w.heap.size, 0, none⟩) 0 0 [] :=
  own_made w base E 1 #[] 0 0 hb (by simp [maxLen]) (Nat.le_refl _) rfl

/-- The first k of the eight bytes of a length. -/
def beK (L k : Nat) : List UInt8 := (List.range k).map fun i => UInt8.ofNat (L / 2 ^ (56 - 8 * i) % 256)
theorem beK_succ (L k : Nat) : bs (beK L (k + 1)) = bs (beK L k) ++ [.int .u8 (lb (L : Int) k)] := by
  simp only [beK, List.range_succ, List.map_append, List.map_cons, List.map_nil, bs_append, lb_nat]
  rfl

set_option maxHeartbeats 1000000 in
set_option maxRecDepth 100000 in
theorem ref_Padded (B : Option Addr) (n c : Nat) (xs : List UInt8) (w : World) (hn : n = xs.length) (hr : Rd w B (bs xs)) (hlen : xs.length + 64 ≤ 140737488355328) :
    Calls Try.prog 33 #[.slice B n c] w fun e w' => ∃ A' c', e = .returned (.slice A' (paddedOf xs).length c') ∧ Own w' w.heap.size 5 1 A' (paddedOf xs).length c' (bs (paddedOf xs)) ∧ Below w.heap.size w w' := by
  subst hn
  have HR := Go.Lib.hid hr
  clear hr
  obtain ⟨i0, hi, hz0, hz1, hz2⟩ := info_parts info_u8
  go_enter Try.func33, Try.ntmps33
  go_wp2_with (at_builtin; refine wpList_append_o _ rfl _ _ 26 rfl 5 i0 (.int .u8 0) 1 1 Try.underlying26 hi hz0 hz1 hz2 rfl (by decide) w.heap.size _ 0 0 [] rfl (own_empty _ _ _ (Nat.le_refl _)) B xs.length c (bs xs) rfl (by simp) (HR.out.alloc _) (bs_one _) (by omega) (by unfold maxLen; omega) (by simp) ?_)
  intro A1 n1 w1 hown1 hkp1 hlie1
  have HO1 : Hid (Own w1 w.heap.size 5 1 A1 xs.length n1 (bs xs)) := Go.Lib.hid hown1
  have hbel1 : Below w.heap.size w w1 := Kp.below (bal (Below.refl _ _) _) hkp1 (fun i h => by first | omega | (simp at h; omega))
  have HL1 := Go.Lib.hid hbel1
  clear hown1 hkp1 hlie1 hbel1
  go_wp2_with (at_builtin; refine wpList_append_o _ rfl _ _ 26 rfl 5 i0 (.int .u8 0) 1 1 Try.underlying26 hi hz0 hz1 hz2 rfl (by decide) w.heap.size A1 xs.length n1 (bs xs) rfl (HO1.out.alloc _) _ 1 1 (bs [128]) rfl (by simp) (rd_new _ _ _) (bs_one _) (by omega) (by unfold maxLen; omega) (by have := HL1.out.size; simp; omega) ?_)
  intro A2 n2 w2 hown2 hkp2 hlie2
  have HO2 : Hid (Own w2 w.heap.size 5 1 A2 (xs.length + 1) n2 (bs (xs ++ [128]))) := Go.Lib.hid (by rw [bs_append]; exact hown2)
  have HL2 : Hid (Below w.heap.size w w2) := Go.Lib.hid (Kp.below (bal HL1.out _) hkp2 (fun i h => (HO1.out.block_lt i h.symm).1))
  clear hown2 hkp2 hlie2
  obtain ⟨Z, hZ⟩ : ∃ Z, Z = zerosOf xs.length := ⟨_, rfl⟩
  have hZn : Z ≤ 31 ∧ (xs.length + Z) % 32 = 23 := by subst hZ; unfold zerosOf; omega
  have hZ31 : Z ≤ 31 := hZn.1
  have HZ := Go.Lib.hid hZ
  have HZN := Go.Lib.hid hZn
  clear hZ hZn
  go_wp2
  go_loopg [3] Z (fun g v wr => ∃ (j : Nat) (A' : Option Addr) (c' : Nat), j ≤ Z ∧ g = Z - j ∧ v = .slice A' (xs.length + 1 + j) c' ∧ Hid (Own wr w.heap.size 5 1 A' (xs.length + 1 + j) c' (bs (xs ++ 128 :: List.replicate j 0))) ∧ Hid (Below w.heap.size w wr))
  case atStart => exact ⟨0, A2, n2, by omega, rfl, rfl, HO2, HL2⟩
  case round =>
    obtain ⟨j, A', c', hj, rfl, rfl, HOr, HLr⟩ := hrel
    by_cases hlt : j < Z
    · have ht : (((xs.length : Int) + 1 + (j : Int)) % 32 != 24) = true := by rw [bne_iff_ne]; have := HZN.out; omega
      go_wp2_with (at_builtin; refine wpList_append_o _ rfl _ _ 26 rfl 5 i0 (.int .u8 0) 1 1 Try.underlying26 hi hz0 hz1 hz2 rfl (by decide) w.heap.size A' (xs.length + 1 + j) c' _ rfl (HOr.out.alloc _) _ 1 1 (bs [0]) rfl (by simp) (rd_new _ _ _) (bs_one _) (by omega) (by unfold maxLen; omega) (by have := HLr.out.size; simp; omega) ?_)
      intro A3 n3 w3 hown3 hkp3 hlie3
      have HO3 : Hid (Own w3 w.heap.size 5 1 A3 (xs.length + 1 + (j + 1)) n3 (bs (xs ++ 128 :: List.replicate (j + 1) 0))) := Go.Lib.hid (by
        rw [← bs_append, List.append_assoc] at hown3
        rw [List.replicate_succ']
        exact hown3)
      have HL3 : Hid (Below w.heap.size w w3) := Go.Lib.hid (Kp.below (bal HLr.out _) hkp3 (fun i h => (HOr.out.block_lt i h.symm).1))
      clear hown3 hkp3 hlie3
      go_wp2
      go_roundg (Z - (j + 1))
      case measure => omega
      case rel => exact ⟨j + 1, A3, n3, by omega, rfl, rfl, HO3, HL3⟩
    · obtain rfl : j = Z := by omega
      have ht : (((xs.length : Int) + 1 + (j : Int)) % 32 != 24) = false := by rw [bne_eq_false_iff_eq]; have := HZN.out; omega
      have hw2 : IntKind.u64.wrap (xs.length : Int) = (xs.length : Int) := by rw [IntKind.wrap_u64]; omega
      go_wp2
      go_loopg [3, 5] 8 (fun g v iv wr => ∃ (k : Nat) (A' : Option Addr) (c' : Nat), k ≤ 8 ∧ g = 8 - k ∧ iv = .int .i64 k ∧ v = .slice A' (xs.length + 1 + j + k) c' ∧ Hid (Own wr w.heap.size 5 1 A' (xs.length + 1 + j + k) c' (bs (xs ++ 128 :: List.replicate j 0) ++ bs (beK xs.length k))) ∧ Hid (Below w.heap.size w wr))
      case atStart => exact ⟨0, A', c', by omega, rfl, rfl, rfl, Go.Lib.hid (by simpa [beK, bs] using HOr.out), HLr⟩
      case round =>
        obtain ⟨k, A4, c4, hk, rfl, rfl, rfl, HOk, HLk⟩ := hrel
        by_cases hk8 : k < 8
        · rcases (by omega : k = 0 ∨ k = 1 ∨ k = 2 ∨ k = 3 ∨ k = 4 ∨ k = 5 ∨ k = 6 ∨ k = 7) with rfl | rfl | rfl | rfl | rfl | rfl | rfl | rfl
          all_goals
            go_wp2_with (at_builtin; refine wpList_append_o _ rfl _ _ 26 rfl 5 i0 (.int .u8 0) 1 1 Try.underlying26 hi hz0 hz1 hz2 rfl (by decide) w.heap.size A4 _ c4 _ rfl (HOk.out.alloc _) _ 1 1 _ rfl (by simp) (rd_new _ _ _) (by simp [Value.oneCell']) (by omega) (by unfold maxLen; omega) (by have := HLk.out.size; simp; omega) ?_)
          · intro A5 n5 w5 hown5 hkp5 hlie5
            have e : lb (xs.length : Int) 0 = (xs.length : Int) / 72057594037927936 := by simp only [lb, Nat.reduceMul, Nat.reduceSub, Int.reducePow]; try omega
            have HO5 : Hid (Own w5 w.heap.size 5 1 A5 (xs.length + 1 + j + 1) n5 (bs (xs ++ 128 :: List.replicate j 0) ++ bs (beK xs.length 1))) := Go.Lib.hid (by
              rw [beK_succ, e]
              exact hown5)
            have HL5 : Hid (Below w.heap.size w w5) := Go.Lib.hid (Kp.below (bal HLk.out _) hkp5 (fun i h => (HOk.out.block_lt i h.symm).1))
            clear hown5 hkp5 hlie5 e
            go_wp2
            go_roundg 7
            case measure => omega
            case rel => exact ⟨1, A5, n5, by omega, rfl, rfl, rfl, HO5, HL5⟩
          · intro A5 n5 w5 hown5 hkp5 hlie5
            have e : lb (xs.length : Int) 1 = (xs.length : Int) / 281474976710656 := by simp only [lb, Nat.reduceMul, Nat.reduceSub, Int.reducePow]; try omega
            have HO5 : Hid (Own w5 w.heap.size 5 1 A5 (xs.length + 1 + j + 2) n5 (bs (xs ++ 128 :: List.replicate j 0) ++ bs (beK xs.length 2))) := Go.Lib.hid (by
              rw [beK_succ, e]
              exact hown5)
            have HL5 : Hid (Below w.heap.size w w5) := Go.Lib.hid (Kp.below (bal HLk.out _) hkp5 (fun i h => (HOk.out.block_lt i h.symm).1))
            clear hown5 hkp5 hlie5 e
            go_wp2
            go_roundg 6
            case measure => omega
            case rel => exact ⟨2, A5, n5, by omega, rfl, rfl, rfl, HO5, HL5⟩
          · intro A5 n5 w5 hown5 hkp5 hlie5
            have e : lb (xs.length : Int) 2 = (xs.length : Int) / 1099511627776 := by simp only [lb, Nat.reduceMul, Nat.reduceSub, Int.reducePow]; try omega
            have HO5 : Hid (Own w5 w.heap.size 5 1 A5 (xs.length + 1 + j + 3) n5 (bs (xs ++ 128 :: List.replicate j 0) ++ bs (beK xs.length 3))) := Go.Lib.hid (by
              rw [beK_succ, e]
              exact hown5)
            have HL5 : Hid (Below w.heap.size w w5) := Go.Lib.hid (Kp.below (bal HLk.out _) hkp5 (fun i h => (HOk.out.block_lt i h.symm).1))
            clear hown5 hkp5 hlie5 e
            go_wp2
            go_roundg 5
            case measure => omega
            case rel => exact ⟨3, A5, n5, by omega, rfl, rfl, rfl, HO5, HL5⟩
          · intro A5 n5 w5 hown5 hkp5 hlie5
            have e : lb (xs.length : Int) 3 = (xs.length : Int) / 4294967296 % 256 := by simp only [lb, Nat.reduceMul, Nat.reduceSub, Int.reducePow]; try omega
            have HO5 : Hid (Own w5 w.heap.size 5 1 A5 (xs.length + 1 + j + 4) n5 (bs (xs ++ 128 :: List.replicate j 0) ++ bs (beK xs.length 4))) := Go.Lib.hid (by
              rw [beK_succ, e]
              exact hown5)
            have HL5 : Hid (Below w.heap.size w w5) := Go.Lib.hid (Kp.below (bal HLk.out _) hkp5 (fun i h => (HOk.out.block_lt i h.symm).1))
            clear hown5 hkp5 hlie5 e
            go_wp2
            go_roundg 4
            case measure => omega
            case rel => exact ⟨4, A5, n5, by omega, rfl, rfl, rfl, HO5, HL5⟩
          · intro A5 n5 w5 hown5 hkp5 hlie5
            have e : lb (xs.length : Int) 4 = (xs.length : Int) / 16777216 % 256 := by simp only [lb, Nat.reduceMul, Nat.reduceSub, Int.reducePow]; try omega
            have HO5 : Hid (Own w5 w.heap.size 5 1 A5 (xs.length + 1 + j + 5) n5 (bs (xs ++ 128 :: List.replicate j 0) ++ bs (beK xs.length 5))) := Go.Lib.hid (by
              rw [beK_succ, e]
              exact hown5)
            have HL5 : Hid (Below w.heap.size w w5) := Go.Lib.hid (Kp.below (bal HLk.out _) hkp5 (fun i h => (HOk.out.block_lt i h.symm).1))
            clear hown5 hkp5 hlie5 e
            go_wp2
            go_roundg 3
            case measure => omega
            case rel => exact ⟨5, A5, n5, by omega, rfl, rfl, rfl, HO5, HL5⟩
          · intro A5 n5 w5 hown5 hkp5 hlie5
            have e : lb (xs.length : Int) 5 = (xs.length : Int) / 65536 % 256 := by simp only [lb, Nat.reduceMul, Nat.reduceSub, Int.reducePow]; try omega
            have HO5 : Hid (Own w5 w.heap.size 5 1 A5 (xs.length + 1 + j + 6) n5 (bs (xs ++ 128 :: List.replicate j 0) ++ bs (beK xs.length 6))) := Go.Lib.hid (by
              rw [beK_succ, e]
              exact hown5)
            have HL5 : Hid (Below w.heap.size w w5) := Go.Lib.hid (Kp.below (bal HLk.out _) hkp5 (fun i h => (HOk.out.block_lt i h.symm).1))
            clear hown5 hkp5 hlie5 e
            go_wp2
            go_roundg 2
            case measure => omega
            case rel => exact ⟨6, A5, n5, by omega, rfl, rfl, rfl, HO5, HL5⟩
          · intro A5 n5 w5 hown5 hkp5 hlie5
            have e : lb (xs.length : Int) 6 = (xs.length : Int) / 256 % 256 := by simp only [lb, Nat.reduceMul, Nat.reduceSub, Int.reducePow]; try omega
            have HO5 : Hid (Own w5 w.heap.size 5 1 A5 (xs.length + 1 + j + 7) n5 (bs (xs ++ 128 :: List.replicate j 0) ++ bs (beK xs.length 7))) := Go.Lib.hid (by
              rw [beK_succ, e]
              exact hown5)
            have HL5 : Hid (Below w.heap.size w w5) := Go.Lib.hid (Kp.below (bal HLk.out _) hkp5 (fun i h => (HOk.out.block_lt i h.symm).1))
            clear hown5 hkp5 hlie5 e
            go_wp2
            go_roundg 1
            case measure => omega
            case rel => exact ⟨7, A5, n5, by omega, rfl, rfl, rfl, HO5, HL5⟩
          · intro A5 n5 w5 hown5 hkp5 hlie5
            have e : lb (xs.length : Int) 7 = (xs.length : Int) % 256 := by simp only [lb, Nat.reduceMul, Nat.reduceSub, Int.reducePow]; try omega
            have HO5 : Hid (Own w5 w.heap.size 5 1 A5 (xs.length + 1 + j + 8) n5 (bs (xs ++ 128 :: List.replicate j 0) ++ bs (beK xs.length 8))) := Go.Lib.hid (by
              rw [beK_succ, e]
              exact hown5)
            have HL5 : Hid (Below w.heap.size w w5) := Go.Lib.hid (Kp.below (bal HLk.out _) hkp5 (fun i h => (HOk.out.block_lt i h.symm).1))
            clear hown5 hkp5 hlie5 e
            go_wp2
            go_roundg 0
            case measure => omega
            case rel => exact ⟨8, A5, n5, by omega, rfl, rfl, rfl, HO5, HL5⟩
        · obtain rfl : k = 8 := by omega
          go_wp2
          go_ret
          have hl : (paddedOf xs).length = xs.length + 1 + j + 8 := by
            unfold paddedOf
            rw [List.length_append, padOf_length, ← HZ.out]
            omega
          have hp : bs (xs ++ 128 :: List.replicate j 0) ++ bs (beK xs.length 8) = bs (paddedOf xs) := by
            rw [← bs_append]
            unfold paddedOf padOf
            rw [← HZ.out, List.append_assoc]
            rfl
          rw [hl, ← hp]
          exact ⟨A4, c4, rfl, HOk.out, HLk.out⟩

end Go.Proofs.Ytkjdmjflppcofaa
