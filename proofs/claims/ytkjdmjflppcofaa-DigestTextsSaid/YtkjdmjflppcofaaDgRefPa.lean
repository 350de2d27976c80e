/- The digest as text: the reference's Parse. -/
import Derived.Test.YtkjdmjflppcofaaDgRefPr
namespace Go.Proofs.Ytkjdmjflppcofaa
open Go.ChangeShapes Go.WideShapes Go.ChangeAt Go.RowKit
set_option linter.unusedVariables false

theorem digits_at (j : Nat) (h : j < 16) (h' : j < digits16.size) : ((digits16[j]'h').toNat : Int) = hexd j := by
  have : j = 0 ∨ j = 1 ∨ j = 2 ∨ j = 3 ∨ j = 4 ∨ j = 5 ∨ j = 6 ∨ j = 7 ∨ j = 8 ∨ j = 9 ∨ j = 10 ∨ j = 11 ∨ j = 12 ∨ j = 13 ∨ j = 14 ∨ j = 15 := by omega
  rcases this with rfl | rfl | rfl | rfl | rfl | rfl | rfl | rfl | rfl | rfl | rfl | rfl | rfl | rfl | rfl | rfl <;> rfl

/-- Which digit is it, among the first ones; -1: none. -/
def fnd (c : Int) : Nat → Int
  | 0 => -1
  | j + 1 => if c = hexd j then j else fnd c j
theorem fnd_bd (c : Int) : ∀ j, -1 ≤ fnd c j ∧ fnd c j < j
  | 0 => by simp [fnd]
  | j + 1 => by
    have := fnd_bd c j
    simp only [fnd]
    split <;> omega
theorem fnd_none (c : Int) (h1 : ¬ (48 ≤ c ∧ c ≤ 57)) (h2 : ¬ (97 ≤ c ∧ c ≤ 102)) : ∀ j, j ≤ 16 → fnd c j = -1
  | 0, _ => rfl
  | j + 1, h => by
    rw [fnd, if_neg, fnd_none c h1 h2 j (by omega)]
    unfold hexd
    split <;> omega
theorem fnd_16 (c : Int) : fnd c 16 = if digitI c ≤ 15 then digitI c else -1 := by
  by_cases h1 : 48 ≤ c ∧ c ≤ 57
  · have : c = 48 ∨ c = 49 ∨ c = 50 ∨ c = 51 ∨ c = 52 ∨ c = 53 ∨ c = 54 ∨ c = 55 ∨ c = 56 ∨ c = 57 := by omega
    rcases this with rfl | rfl | rfl | rfl | rfl | rfl | rfl | rfl | rfl | rfl <;> decide
  · by_cases h2 : 97 ≤ c ∧ c ≤ 102
    · have : c = 97 ∨ c = 98 ∨ c = 99 ∨ c = 100 ∨ c = 101 ∨ c = 102 := by omega
      rcases this with rfl | rfl | rfl | rfl | rfl | rfl <;> decide
    · have e : digitI c = 255 := by unfold digitI; rw [if_neg h1, if_neg h2]
      rw [e, fnd_none c h1 h2 16 (by omega)]
      rfl

/-- The bytes behind i digits. -/
def pk (g : Nat → Int) (i m : Nat) : Int := if 2 * m + 2 ≤ i then pvI g m else if 2 * m + 1 = i then digitI (g (2 * m)) else 0
theorem pk_zero (g : Nat → Int) : dA (pk g 0) = dA zeroF := by
  simp [dA, pk, zeroF]
theorem pk_full (g : Nat → Int) : Value.agg (dA (pk g 64)) = digV (pvI g) := by
  unfold digV dA
  congr 2
theorem pk_step (g : Nat → Int) (i : Nat) : pk g (i + 1) (i / 2) = pk g i (i / 2) * 16 + digitI (g i) := by
  rcases (by omega : i = 2 * (i / 2) ∨ i = 2 * (i / 2) + 1) with h | h
  · generalize i / 2 = m at *
    subst h
    unfold pk
    rw [if_neg (by omega), if_pos rfl, if_neg (by omega), if_neg (by omega)]
    omega
  · generalize i / 2 = m at *
    subst h
    simp [pk, pvI]
theorem pk_bd (g : Nat → Int) (i : Nat) (h : ∀ j, j < i → digitI (g j) ≤ 15) : 0 ≤ pk g i (i / 2) ∧ pk g i (i / 2) ≤ 15 := by
  unfold pk
  rw [if_neg (by omega)]
  split
  · have := digitI_bd (g (2 * (i / 2)))
    have := h (2 * (i / 2)) (by omega)
    omega
  · omega
theorem pk_set (g : Nat → Int) (i : Nat) : (dA (pk g i)).setIfInBounds (i / 2) (.int .u8 (pk g i (i / 2) * 16 + digitI (g i))) = dA (pk g (i + 1)) := by
  rw [← pk_step]
  apply Array.ext
  · simp [dA]
  · intro j h1 h2
    have hj : j < 32 := by simpa [dA] using h2
    by_cases e : i / 2 = j
    · subst e
      simp [dA]
    · rw [Array.getElem_setIfInBounds_ne (by simpa [dA] using hj) e]
      simp only [dA_get]
      congr 1
      unfold pk
      by_cases h3 : 2 * j + 2 ≤ i
      · rw [if_pos h3, if_pos (by omega)]
      · rw [if_neg h3, if_neg (by omega), if_neg (by omega), if_neg (by omega)]
theorem dA_one' (f : Nat → Int) : (dA f).all (·.oneCell') = true := dA_one f

set_option maxHeartbeats 1000000 in
set_option maxRecDepth 100000 in
theorem ref_Parse_ok (s : ByteArray) (w : World) (hs : s.size = 64) (hok : okHex (sb s) 64) :
    Calls Try.prog 21 #[.string s] w fun e w' => e = .returned (.tuple #[digV (pvI (sb s)), .bool true]) ∧ Below w.heap.size w w' := by
  have HOK := Go.Lib.hid hok
  have HS := Go.Lib.hid hs
  have hs1 : (64 : Int) ≤ (s.size : Int) := by omega
  have hs2 : ((s.size : Int) != 64) = false := by rw [bne_eq_false_iff_eq]; omega
  clear hok hs
  go_enter Try.func21, Try.ntmps21
  go_wp2
  go_loopg [6, 7, 8] 64 (fun gk iv _ _ wr => ∃ (k nd : Nat), k ≤ 64 ∧ gk = 64 - k ∧ iv = .int .i64 k ∧ wr = ((w.alloc z28).alloc (.cells (dA (pk (sb s) k)) 28)).drewN nd)
  case atStart => exact ⟨0, 0, by omega, rfl, rfl, by rw [pk_zero, zero_lit]; rfl⟩
  case round =>
    obtain ⟨k, nd, hk, rfl, rfl, rfl⟩ := hrel
    by_cases hlt : k < 64
    · have e0 := sb_eq s k (by have := HS.out; omega)
      have b0 := sb_bd s k
      have hk2 : k < s.size := by have := HS.out; omega
      go_wp2
      go_loopg [7, 8] 16 (fun gj nv jv wr => ∃ (j nd : Nat), j ≤ 16 ∧ gj = 16 - j ∧ jv = .int .i64 j ∧ nv = .int .i64 (fnd (sb s k) j) ∧ wr = ((w.alloc z28).alloc (.cells (dA (pk (sb s) k)) 28)).drewN nd)
      case atStart => exact ⟨0, _, by omega, rfl, rfl, rfl, rfl⟩
      case round =>
        obtain ⟨j, nd, hj, rfl, rfl, rfl, rfl⟩ := hrel
        by_cases hlj : j < 16
        · have hdg : ∀ h : j < ByteArray.size { data := #[48, 49, 50, 51, 52, 53, 54, 55, 56, 57, 97, 98, 99, 100, 101, 102] }, ((ByteArray.get { data := #[48, 49, 50, 51, 52, 53, 54, 55, 56, 57, 97, 98, 99, 100, 101, 102] } j h).toNat : Int) = hexd j := fun h => digits_at j hlj h
          have hdg2 : ∀ h : j < ByteArray.size { data := #[48, 49, 50, 51, 52, 53, 54, 55, 56, 57, 97, 98, 99, 100, 101, 102] }, ((({ data := #[48, 49, 50, 51, 52, 53, 54, 55, 56, 57, 97, 98, 99, 100, 101, 102] } : ByteArray)[j]'h).toNat : Int) = hexd j := fun h => digits_at j hlj h
          by_cases he : sb s k = hexd j
          · have HF : Hid (fnd (sb s k) (j + 1) = j) := Go.Lib.hid (by rw [fnd, if_pos he])
            go_wp2
            go_region
            all_goals
              go_wp2
              go_roundg (16 - (j + 1))
              case measure => omega
              case rel => exact ⟨j + 1, nd + 1, by omega, rfl, by go_num, by rw [HF.out], rfl⟩
          · have HF : Hid (fnd (sb s k) (j + 1) = fnd (sb s k) j) := Go.Lib.hid (by rw [fnd, if_neg he])
            go_wp2
            go_region
            all_goals
              go_wp2
              go_roundg (16 - (j + 1))
              case measure => omega
              case rel => exact ⟨j + 1, nd + 1, by omega, rfl, by go_num, by rw [HF.out], rfl⟩
        · obtain rfl : j = 16 := by omega
          have hd : digitI (sb s k) ≤ 15 := HOK.out _ (by omega)
          have hd0 := (digitI_bd (sb s k)).1
          have hfn : fnd (sb s k) 16 = digitI (sb s k) := by rw [fnd_16, if_pos hd]
          have hpb := pk_bd (sb s) k fun i hi => HOK.out i (by omega)
          have hda := dA_at (pk (sb s) k) (k / 2) (by omega)
          have HSET := Go.Lib.hid (pk_set (sb s) k)
          have hn1 : ((k : Int) / 2).toNat = k / 2 := by omega
          have hn2 : 0 ≤ (k : Int) / 2 ∧ (k : Int) / 2 < 32 := by omega
          have hk22 : k / 2 < 32 := by omega
          have hw1 : IntKind.u8.wrap (pk (sb s) k (k / 2) * 16) = pk (sb s) k (k / 2) * 16 := IntWalk.u8_in _ (by omega)
          have hw2 : IntKind.u8.wrap (pk (sb s) k (k / 2) * 16 + digitI (sb s k)) = pk (sb s) k (k / 2) * 16 + digitI (sb s k) := IntWalk.u8_in _ (by omega)
          rw [hfn]
          clear hfn
          go_wp2
          go_roundg (64 - (k + 1))
          case measure => omega
          case rel => exact ⟨k + 1, nd, by omega, rfl, by go_num, by rw [← HSET.out]⟩
    · obtain rfl : k = 64 := by omega
      go_wp2_with (first | (refine wpList_load_row rfl 28 (.tmp 5) rfl (w.heap.size + 1) rfl 28 (dA (pk (sb s) 64)) (0, 0) _ (Go.heap_alloc2_new w z28 (.cells (dA (pk (sb s) 64)) 28)) Try.underlying28 rfl (size28d _) ?_) | refine wpList_store_row rfl 28 (.tmp 2) (.tmp 43) rfl w.heap.size (dA (pk (sb s) 64)) rfl rfl 28 _ (Go.heap_alloc2_old w z28 (.cells (dA (pk (sb s) 64)) 28)) (size28d _) (dA_size _).symm (dA_one _) ?_)
      refine bodyPost_ret (results_row_tmp rfl _ _ _ w.heap.size (dA (pk (sb s) 64)) rfl (run_loadVar_row _ w.heap.size 28 28 _ (0, 0) _ (setRow_heap _ _ _ _ _ _ (Go.heap_alloc2_old w z28 (.cells (dA (pk (sb s) 64)) 28))) Try.underlying28 rfl (size28d _))) rfl ?_
      refine ⟨?_, ?_⟩
      · rw [pk_full]
        rfl
      · exact below_row (bdn (bal (bal (Below.refl _ _) _) _) _) (Nat.le_refl _) _

set_option maxHeartbeats 1000000 in
set_option maxRecDepth 100000 in
theorem ref_Parse_bad (s : ByteArray) (w : World) (hs : s.size = 64) (hok : ¬ okHex (sb s) 64) :
    Calls Try.prog 21 #[.string s] w fun e w' => e = .returned (.tuple #[digV (fun _ => 0), .bool false]) ∧ Below w.heap.size w w' := by
  have HOK := Go.Lib.hid hok
  have HS := Go.Lib.hid hs
  have hs1 : (64 : Int) ≤ (s.size : Int) := by omega
  have hs2 : ((s.size : Int) != 64) = false := by rw [bne_eq_false_iff_eq]; omega
  clear hok hs
  go_enter Try.func21, Try.ntmps21
  go_wp2
  go_loopg [6, 7, 8] 64 (fun gk iv _ _ wr => ∃ (k nd : Nat), k ≤ 64 ∧ gk = 64 - k ∧ iv = .int .i64 k ∧ Hid (okHex (sb s) k) ∧ wr = ((w.alloc z28).alloc (.cells (dA (pk (sb s) k)) 28)).drewN nd)
  case atStart => exact ⟨0, 0, by omega, rfl, rfl, Go.Lib.hid (fun i hi => by omega), by rw [pk_zero, zero_lit]; rfl⟩
  case round =>
    obtain ⟨k, nd, hk, rfl, rfl, HKk, rfl⟩ := hrel
    by_cases hlt : k < 64
    · have e0 := sb_eq s k (by have := HS.out; omega)
      have b0 := sb_bd s k
      have hk2 : k < s.size := by have := HS.out; omega
      go_wp2
      go_loopg [7, 8] 16 (fun gj nv jv wr => ∃ (j nd : Nat), j ≤ 16 ∧ gj = 16 - j ∧ jv = .int .i64 j ∧ nv = .int .i64 (fnd (sb s k) j) ∧ wr = ((w.alloc z28).alloc (.cells (dA (pk (sb s) k)) 28)).drewN nd)
      case atStart => exact ⟨0, _, by omega, rfl, rfl, rfl, rfl⟩
      case round =>
        obtain ⟨j, nd, hj, rfl, rfl, rfl, rfl⟩ := hrel
        by_cases hlj : j < 16
        · have hdg : ∀ h : j < ByteArray.size { data := #[48, 49, 50, 51, 52, 53, 54, 55, 56, 57, 97, 98, 99, 100, 101, 102] }, ((ByteArray.get { data := #[48, 49, 50, 51, 52, 53, 54, 55, 56, 57, 97, 98, 99, 100, 101, 102] } j h).toNat : Int) = hexd j := fun h => digits_at j hlj h
          have hdg2 : ∀ h : j < ByteArray.size { data := #[48, 49, 50, 51, 52, 53, 54, 55, 56, 57, 97, 98, 99, 100, 101, 102] }, ((({ data := #[48, 49, 50, 51, 52, 53, 54, 55, 56, 57, 97, 98, 99, 100, 101, 102] } : ByteArray)[j]'h).toNat : Int) = hexd j := fun h => digits_at j hlj h
          by_cases he : sb s k = hexd j
          · have HF : Hid (fnd (sb s k) (j + 1) = j) := Go.Lib.hid (by rw [fnd, if_pos he])
            go_wp2
            go_region
            all_goals
              go_wp2
              go_roundg (16 - (j + 1))
              case measure => omega
              case rel => exact ⟨j + 1, nd + 1, by omega, rfl, by go_num, by rw [HF.out], rfl⟩
          · have HF : Hid (fnd (sb s k) (j + 1) = fnd (sb s k) j) := Go.Lib.hid (by rw [fnd, if_neg he])
            go_wp2
            go_region
            all_goals
              go_wp2
              go_roundg (16 - (j + 1))
              case measure => omega
              case rel => exact ⟨j + 1, nd + 1, by omega, rfl, by go_num, by rw [HF.out], rfl⟩
        · obtain rfl : j = 16 := by omega
          by_cases hd : digitI (sb s k) ≤ 15
          · have HK2 : Hid (okHex (sb s) (k + 1)) := Go.Lib.hid (fun i hi => by
              rcases (by omega : i < k ∨ i = k) with h | rfl
              · exact HKk.out i h
              · exact hd)
            have hd0 := (digitI_bd (sb s k)).1
            have hfn : fnd (sb s k) 16 = digitI (sb s k) := by rw [fnd_16, if_pos hd]
            have hpb := pk_bd (sb s) k HKk.out
            have hda := dA_at (pk (sb s) k) (k / 2) (by omega)
            have HSET := Go.Lib.hid (pk_set (sb s) k)
            have hn1 : ((k : Int) / 2).toNat = k / 2 := by omega
            have hn2 : 0 ≤ (k : Int) / 2 ∧ (k : Int) / 2 < 32 := by omega
            have hk22 : k / 2 < 32 := by omega
            have hw1 : IntKind.u8.wrap (pk (sb s) k (k / 2) * 16) = pk (sb s) k (k / 2) * 16 := IntWalk.u8_in _ (by omega)
            have hw2 : IntKind.u8.wrap (pk (sb s) k (k / 2) * 16 + digitI (sb s k)) = pk (sb s) k (k / 2) * 16 + digitI (sb s k) := IntWalk.u8_in _ (by omega)
            rw [hfn]
            clear hfn
            go_wp2
            go_roundg (64 - (k + 1))
            case measure => omega
            case rel => exact ⟨k + 1, nd, by omega, rfl, by go_num, HK2, by rw [← HSET.out]⟩
          · have hfn : fnd (sb s k) 16 = -1 := by rw [fnd_16, if_neg hd]
            rw [hfn]
            clear hfn
            go_wp2_with (refine wpList_store_row rfl 28 (.tmp 2) (.tmp 31) rfl w.heap.size (dA zeroF) rfl rfl 28 _ (Go.heap_alloc2_old w z28 (.cells (dA (pk (sb s) k)) 28)) (size28d _) (dA_size _).symm (dA_one _) ?_)
            refine bodyPost_ret (results_row_tmp rfl _ _ _ w.heap.size (dA zeroF) rfl (run_loadVar_row _ w.heap.size 28 28 _ (0, 0) _ (setRow_heap _ _ _ _ _ _ (Go.heap_alloc2_old w z28 (.cells (dA (pk (sb s) k)) 28))) Try.underlying28 rfl (size28d _))) rfl ?_
            refine ⟨rfl, ?_⟩
            exact below_row (bdn (bal (bal (Below.refl _ _) _) _) _) (Nat.le_refl _) _
    · obtain rfl : k = 64 := by omega
      exact absurd HKk.out HOK.out

set_option maxHeartbeats 1000000 in
theorem ref_Parse_len (s : ByteArray) (w : World) (hs : s.size ≠ 64) (hm : s.size ≤ 9223372036854775807) :
    Calls Try.prog 21 #[.string s] w fun e w' => e = .returned (.tuple #[digV (fun _ => 0), .bool false]) ∧ Below w.heap.size w w' := by
  have hs2 : ((s.size : Int) != 64) = true := by rw [bne_iff_ne]; omega
  clear hs
  go_enter Try.func21, Try.ntmps21
  go_wp2_with (first | (refine wpList_load_row rfl 28 (.tmp 5) rfl (w.heap.size + 1) rfl 28 (dA zeroF) (0, 0) _ (by rw [zero_lit]; exact Go.heap_alloc2_new w z28 z28) Try.underlying28 rfl (size28d _) ?_) | refine wpList_store_row rfl 28 (.tmp 2) (.tmp 12) rfl w.heap.size (dA zeroF) rfl rfl 28 _ (Go.heap_alloc2_old w z28 z28) (size28d _) (dA_size _).symm (dA_one _) ?_)
  refine bodyPost_ret (results_row_tmp rfl _ _ _ w.heap.size (dA zeroF) rfl (run_loadVar_row _ w.heap.size 28 28 _ (0, 0) _ (setRow_heap _ _ _ _ _ _ (Go.heap_alloc2_old w z28 z28)) Try.underlying28 rfl (size28d _))) rfl ?_
  exact ⟨rfl, below_row (bal (bal (Below.refl _ _) _) _) (Nat.le_refl _) _⟩

end Go.Proofs.Ytkjdmjflppcofaa
