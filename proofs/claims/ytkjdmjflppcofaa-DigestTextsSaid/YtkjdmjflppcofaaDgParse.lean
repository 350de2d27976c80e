/- The digest as text: the program's Parse. -/
import Derived.Test.YtkjdmjflppcofaaDgHex
namespace Go.Proofs.Ytkjdmjflppcofaa
open Go.ChangeShapes Go.WideShapes Go.ChangeAt Go.RowKit
set_option linter.unusedVariables false

theorem or4 (a b : Int) (h0 : 0 ≤ a) (h1 : a ≤ 15) (h2 : 0 ≤ b) (h3 : b ≤ 15) : bits .or .u8 (a * 16) b = a * 16 + b := by
  rw [u8_or _ _ (by omega) (by omega) (by omega) (by omega), nat_join 4 _ _ (by omega) (by omega)]
  omega

/-- The byte of a text at a place, as the walk writes it. -/
def sb (s : ByteArray) (i : Nat) : Int := if h : i < s.size then ((s[i]'h).toNat : Int) else 0
theorem sb_eq (s : ByteArray) (i : Nat) (h : i < s.size) : ((s[i]'h).toNat : Int) = sb s i := by unfold sb; rw [dif_pos h]
theorem sb_bd (s : ByteArray) (i : Nat) : 0 ≤ sb s i ∧ sb s i ≤ 255 := by
  unfold sb
  split
  · rename_i h
    have := (s[i]'h).toNat_lt
    omega
  · omega

/-- The array of which k bytes are read. -/
def arrK (f : Nat → Int) (k : Nat) : Array Value := ((List.range 32).map fun j => Value.int .u8 (if j < k then f j else 0)).toArray
theorem arrK_size (f : Nat → Int) (k : Nat) : (arrK f k).size = 32 := by simp [arrK]
theorem arrK_set (f : Nat → Int) (k : Nat) : (arrK f k).setIfInBounds k (.int .u8 (f k)) = arrK f (k + 1) := by
  apply Array.ext
  · simp [arrK]
  · intro i h1 h2
    have hi : i < 32 := by simpa [arrK] using h2
    by_cases e : k = i
    · subst e
      simp [arrK]
    · rw [Array.getElem_setIfInBounds_ne (by simpa [arrK] using hi) e]
      by_cases h : i < k
      · simp [arrK, h, show i < k + 1 from by omega]
      · simp [arrK, h, show ¬ i < k + 1 from by omega]
theorem arrK_at (f : Nat → Int) (k : Nat) (h : k < 32) : (arrK f k)[k]? = some (.int .u8 0) := by simp [arrK, h]
theorem arrK_full (f : Nat → Int) : Value.agg (arrK f 32) = digV f := by
  simp only [arrK, digV]
  congr 2
theorem arrK_zero (f : Nat → Int) : arrK f 0 = #[.int .u8 0, .int .u8 0, .int .u8 0, .int .u8 0, .int .u8 0, .int .u8 0, .int .u8 0, .int .u8 0, .int .u8 0, .int .u8 0, .int .u8 0, .int .u8 0, .int .u8 0, .int .u8 0, .int .u8 0, .int .u8 0, .int .u8 0, .int .u8 0, .int .u8 0, .int .u8 0, .int .u8 0, .int .u8 0, .int .u8 0, .int .u8 0, .int .u8 0, .int .u8 0, .int .u8 0, .int .u8 0, .int .u8 0, .int .u8 0, .int .u8 0, .int .u8 0] := by
  simp [arrK, List.range_succ]

/-- Two results, the first an array in a block. -/
theorem results_row_tmp {fn : Func} {p u : Tmp} {ty : TypeId} (h : fn.results = #[.cell p ty, .tmp u]) (tmps : Array Value) (P : Program) (w : World) (g : Nat) (cs : Array Value)
    (hp : tmps.getD p undef = .pointer (some ⟨g, 0, none⟩)) (hl : (loadVar ty ⟨g, 0, none⟩).run P w = .ok (.agg cs) w) :
    (results fn tmps).run P w = .ok (.tuple #[.agg cs, tmps.getD u undef]) w := by
  have hp' : tmps[p]?.getD undef = .pointer (some ⟨g, 0, none⟩) := by simpa using hp
  rw [results_cell_tmp h tmps P w]
  simp [hp', asAddr, hl, Result.andThen]

theorem size28k (f : Nat → Int) (k : Nat) : (Try.prog.info? 28).map (·.size) = some (arrK f k).size := by rw [arrK_size]; exact size28
theorem arrK_one (f : Nat → Int) (k : Nat) : (arrK f k).all (·.oneCell') = true := by simp [arrK, Value.oneCell']

set_option maxHeartbeats 1000000 in
set_option maxRecDepth 100000 in
theorem digest_Parse_ok (s : ByteArray) (w : World) (hs : s.size = 64) (hok : okHex (sb s) 64) :
    Calls Try.prog 20 #[.string s] w fun e w' => e = .returned (.tuple #[digV (pvI (sb s)), .bool true]) ∧ Below w.heap.size w w' := by
  have HOK := Go.Lib.hid hok
  have HS := Go.Lib.hid hs
  have hs1 : (64 : Int) ≤ (s.size : Int) := by omega
  have hs2 : ((s.size : Int) != 64) = false := by rw [bne_eq_false_iff_eq]; omega
  clear hok hs
  go_enter Try.func20, Try.ntmps20
  go_wp2
  go_loopg [5, 6, 7, 12] 32 (fun gk _ _ _ iv wr => ∃ (k nd : Nat), k ≤ 32 ∧ gk = 32 - k ∧ iv = .int .i64 k ∧ wr = ((w.alloc z28).alloc (.cells (arrK (pvI (sb s)) k) 28)).drewN nd)
  case atStart => exact ⟨0, 0, by omega, rfl, rfl, by rw [arrK_zero]; rfl⟩
  case round =>
    obtain ⟨k, nd, hk, rfl, rfl, rfl⟩ := hrel
    by_cases hlt : k < 32
    · have e0 := sb_eq s (2 * k) (by have := HS.out; omega)
      have e1 := sb_eq s (2 * k + 1) (by have := HS.out; omega)
      have b0 := sb_bd s (2 * k)
      have b1 := sb_bd s (2 * k + 1)
      have hk2 : 2 * k < s.size := by have := HS.out; omega
      have hk3 : 2 * k + 1 < s.size := by have := HS.out; omega
      have hw1 : IntKind.i64.wrap (2 * (k : Int)) = 2 * (k : Int) := IntWalk.i64_in _ (by omega)
      have hw2 : IntKind.i64.wrap (2 * (k : Int) + 1) = 2 * (k : Int) + 1 := IntWalk.i64_in _ (by omega)
      have hn1 : (2 * (k : Int)).toNat = 2 * k := by omega
      have hn2 : (2 * (k : Int) + 1).toNat = 2 * k + 1 := by omega
      have d0 : digitI (sb s (2 * k)) ≤ 15 := HOK.out _ (by omega)
      have d1 : digitI (sb s (2 * k + 1)) ≤ 15 := HOK.out _ (by omega)
      have d2 := (digitI_bd (sb s (2 * k))).1
      have d3 := (digitI_bd (sb s (2 * k + 1))).1
      have hor := or4 _ _ d2 d0 d3 d1
      have harr := arrK_at (pvI (sb s)) k hlt
      have hset := arrK_set (pvI (sb s)) k
      have HSET := Go.Lib.hid hset
      clear hset
      go_wp2
      go_region_with (go_at_call 36; refine (digest_digit _ (by omega) (by omega) _).mono ?_; rintro e w' ⟨rfl, rfl⟩)
      clear hw1 hw2 hn1 hn2 e0 e1
      all_goals
        go_wp2
        go_roundg (32 - (k + 1))
        case measure => omega
        case rel =>
          refine ⟨k + 1, nd + 1, by omega, rfl, by go_num, ?_⟩
          rw [← HSET.out]
          rfl
    · obtain rfl : k = 32 := by omega
      go_wp2_with (first | (refine wpList_load_row rfl 28 (.tmp 4) rfl (w.heap.size + 1) rfl 28 (arrK (pvI (sb s)) 32) (0, 0) _ (Go.heap_alloc2_new w z28 (.cells (arrK (pvI (sb s)) 32) 28)) Try.underlying28 rfl (size28k _ _) ?_) | refine wpList_store_row rfl 28 (.tmp 2) (.tmp 40) rfl w.heap.size (arrK (pvI (sb s)) 32) rfl rfl 28 _ (Go.heap_alloc2_old w z28 (.cells (arrK (pvI (sb s)) 32) 28)) (size28k _ _) (arrK_size _ _).symm (arrK_one _ _) ?_)
      refine bodyPost_ret (results_row_tmp rfl _ _ _ w.heap.size (arrK (pvI (sb s)) 32) rfl (run_loadVar_row _ w.heap.size 28 28 _ (0, 0) _ (setRow_heap _ _ _ _ _ _ (Go.heap_alloc2_old w z28 (.cells (arrK (pvI (sb s)) 32) 28))) Try.underlying28 rfl (size28k _ _))) rfl ?_
      refine ⟨?_, ?_⟩
      · rw [arrK_full]
        rfl
      · exact below_row (bdn (bal (bal (Below.refl _ _) _) _) _) (Nat.le_refl _) _

end Go.Proofs.Ytkjdmjflppcofaa
