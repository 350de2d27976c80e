/- The program's words as bytes: Key, number, Word, Read, Bytes. -/
import Derived.Test.YtgpaiphjbhkadaaRows
import Derived.Test.YtgpaiphjbhkadaaDgPure
import Derived.Test.YtgpaiphjbhkadaaWdPure
import Derived.Test.YtgpaiphjbhkadaaMem2
import Derived.WalkKit
import Derived.ProofKit
import Derived.OpenShut
import Derived.WalkSpells
import Derived.WalkLawsBesides
import Derived.Lib.Hide
import Derived.BigQuiet
import Derived.Deep.QuietTactic
import Derived.Deep.LoopGhost
namespace Go.Proofs.Ytgpaiphjbhkadaa
open Go.ChangeShapes Go.WideShapes Go.ChangeAt Go.RowKit
set_option linter.unusedVariables false
set_option maxRecDepth 100000

theorem wd_u8 : (Try.prog.info? 5).map (fun i => (i.zero, i.size, i.bytes)) = some (some (.int .u8 0), 1, 1) := by kernel_rfl

theorem wbv_mod (m : Nat) : bv (UInt8.ofNat (m % 256)) = .int .u8 ((m : Int) % 256) := by
  rw [bv, toNat_byte]
  rfl
theorem bs_be8 (n : Nat) : bs (be 8 n) = [.int .u8 ((n : Int) / 72057594037927936 % 256), .int .u8 ((n : Int) / 281474976710656 % 256), .int .u8 ((n : Int) / 1099511627776 % 256), .int .u8 ((n : Int) / 4294967296 % 256), .int .u8 ((n : Int) / 16777216 % 256), .int .u8 ((n : Int) / 65536 % 256), .int .u8 ((n : Int) / 256 % 256), .int .u8 ((n : Int) % 256)] := by
  rw [be8]
  simp only [bs, List.map_cons, List.map_nil, wbv_mod]
  rfl

set_option maxHeartbeats 1000000 in
theorem words_Key (n : Nat) (w : World) :
    Calls Try.prog 37 #[.int .u64 (n : Int)] w fun r w' => ∃ A, r = .returned (.slice A 8 8) ∧ Own w' w.heap.size 5 1 A 8 8 (bs (be 8 n)) ∧ Below w.heap.size w w' := by
  have hmk : ∀ w : World, (Instr.makeSlice 24 (.int .i64 8) (.int .i64 8)).run Try.prog w = .ok (.slice (some ⟨w.heap.size, 0, none⟩) 8 8) (w.alloc (.cells #[.int .u8 0, .int .u8 0, .int .u8 0, .int .u8 0, .int .u8 0, .int .u8 0, .int .u8 0, .int .u8 0] 5)) := fun _ => by kernel_rfl
  go_enter Try.func37, Try.ntmps37
  go_wp2
  refine wp_loop_rounds 9 ?_
  rw [rounds_succ]
  go_wp2
  rw [rounds_succ]
  go_wp2
  rw [rounds_succ]
  go_wp2
  rw [rounds_succ]
  go_wp2
  rw [rounds_succ]
  go_wp2
  rw [rounds_succ]
  go_wp2
  rw [rounds_succ]
  go_wp2
  rw [rounds_succ]
  go_wp2
  rw [rounds_succ]
  go_wp2
  go_ret
  refine ⟨_, rfl, ?_, bal (Below.refl _ _) _⟩
  rw [bs_be8]
  exact own_made w w.heap.size 5 1 #[.int .u8 ((n : Int) / 72057594037927936 % 256), .int .u8 ((n : Int) / 281474976710656 % 256), .int .u8 ((n : Int) / 1099511627776 % 256), .int .u8 ((n : Int) / 4294967296 % 256), .int .u8 ((n : Int) / 16777216 % 256), .int .u8 ((n : Int) / 65536 % 256), .int .u8 ((n : Int) / 256 % 256), .int .u8 ((n : Int) % 256)] 8 8 (Nat.le_refl _) (by unfold maxLen; omega) (by omega) rfl

theorem wval_take_bd (xs : List UInt8) (k : Nat) (h : k < 8) : ((wval (xs.take k) : Nat) : Int) ≤ 72057594037927935 := by
  have h1 := wval_lt (xs.take k)
  have h2 : 256 ^ (xs.take k).length ≤ 256 ^ 7 := Nat.pow_le_pow_right (by decide) (by rw [List.length_take]; omega)
  have h3 : (256 : Nat) ^ 7 = 72057594037927936 := by decide
  omega
theorem wval_take_succ (xs : List UInt8) (k : Nat) (h : k < xs.length) : ((wval (xs.take (k + 1)) : Nat) : Int) = (wval (xs.take k) : Nat) * 256 + byteF xs k := by
  rw [List.take_succ_eq_append_getElem h, wval_snoc, byteF, List.getD, List.getElem?_eq_getElem h]
  simp

set_option maxHeartbeats 400000 in
theorem words_number (A : Option Addr) (n c : Nat) (xs : List UInt8) (w : World) (hr : Rd w A (bs xs)) (hn : n = xs.length) (h8 : n ≤ 8) :
    Calls Try.prog 59 #[.slice A n c] w fun e w' => e = .returned (.int .u64 ((wval xs : Nat) : Int)) ∧ w = w' := by
  have HR := Go.Lib.hid hr
  have HN := Go.Lib.hid hn
  clear hr hn
  go_enter Try.func59, Try.ntmps59
  go_wp2
  go_loop [3, 4, 7] (fun t _ i => ∃ k : Nat, k ≤ n ∧ i = .int .i64 k ∧ t = .int .u64 ((wval (xs.take k) : Nat) : Int)) (fun _ _ i => n - (intOf i).toNat)
  case atStart => exact ⟨0, by omega, rfl, rfl⟩
  case round =>
    obtain ⟨k, hk, rfl, rfl⟩ := hrel
    by_cases hlt : k < n
    · obtain ⟨g, off, rfl, hg, hc⟩ := HR.out.at_ (by have := HN.out; simp; omega)
      have h1 := hc k _ (bs_at xs k (by have := HN.out; omega))
      have h2 := byteF_bd xs k
      have h3 := wval_take_bd xs k (by omega)
      have h4 : 0 ≤ ((wval (xs.take k) : Nat) : Int) := Int.natCast_nonneg _
      have HS := Go.Lib.hid (wval_take_succ xs k (by have := HN.out; omega))
      clear hc
      generalize ((wval (xs.take k) : Nat) : Int) = v at *
      generalize byteF xs k = x at *
      go_wp2
      go_round
      case rel => exact ⟨k + 1, by omega, by go_num, by rw [or_byte _ _ h4 h3 h2.1 h2.2, HS.out]⟩
      case measure => simp [intOf]; omega
    · go_wp2
      go_ret
      exact ⟨by rw [List.take_of_length_le (by have := HN.out; omega)]; rfl, rfl⟩


/-- What Word and Read answer. -/
def okW (b : Bool) (n : Nat) : Value := .tuple #[.int .u64 (if b then (n : Int) else 0), .bool b]

set_option maxHeartbeats 400000 in
theorem words_Word_yes (A : Option Addr) (n c : Nat) (xs : List UInt8) (w : World) (hr : Rd w A (bs xs)) (hn : n = xs.length) (h8 : n = 8) :
    Calls Try.prog 38 #[.slice A n c] w fun e w' => e = .returned (.tuple #[.int .u64 ((wval xs : Nat) : Int), .bool true]) ∧ w = w' := by
  have HR := Go.Lib.hid hr
  have HN := Go.Lib.hid hn
  subst h8
  clear hr hn
  go_enter Try.func38, Try.ntmps38
  go_wp2_with (go_at_call 59; refine (words_number A 8 c xs _ HR.out HN.out (by omega)).mono ?_; rintro e w' ⟨rfl, rfl⟩)
  go_ret2
  exact ⟨rfl, rfl⟩

set_option maxHeartbeats 400000 in
theorem words_Word_no (A : Option Addr) (n c : Nat) (w : World) (h8 : n ≠ 8) :
    Calls Try.prog 38 #[.slice A n c] w fun e w' => e = .returned (.tuple #[.int .u64 0, .bool false]) ∧ w = w' := by
  have h : ((n : Int) != 8) = true := by rw [bne_iff_ne]; omega
  go_enter Try.func38, Try.ntmps38
  go_wp2
  go_ret2
  exact ⟨rfl, rfl⟩

/-- Word of any bytes. -/
theorem words_Word (A : Option Addr) (n c : Nat) (xs : List UInt8) (w : World) (hr : Rd w A (bs xs)) (hn : n = xs.length) :
    Calls Try.prog 38 #[.slice A n c] w fun e w' => e = .returned (okW (decide (xs.length = 8)) (wval xs)) ∧ w = w' := by
  by_cases h : n = 8
  · rw [← hn, decide_eq_true h]
    exact words_Word_yes A n c xs w hr hn h
  · rw [← hn, decide_eq_false h]
    exact words_Word_no A n c w h

set_option maxHeartbeats 400000 in
theorem words_Read_long (A : Option Addr) (n c : Nat) (w : World) (h8 : 8 < n) :
    Calls Try.prog 51 #[.slice A n c] w fun e w' => e = .returned (.tuple #[.int .u64 0, .bool false]) ∧ w = w' := by
  have h : (8 : Int) < (n : Int) := by omega
  go_enter Try.func51, Try.ntmps51
  go_wp2
  go_ret2
  exact ⟨rfl, rfl⟩
set_option maxHeartbeats 400000 in
theorem words_Read_nil (A : Option Addr) (c : Nat) (w : World) :
    Calls Try.prog 51 #[.slice A 0 c] w fun e w' => e = .returned (.tuple #[.int .u64 0, .bool true]) ∧ w = w' := by
  go_enter Try.func51, Try.ntmps51
  go_wp2_with (go_at_call 59; refine (words_number A 0 c [] _ (Rd.nil _ _) rfl (by omega)).mono ?_; rintro e w' ⟨rfl, rfl⟩)
  go_ret2
  exact ⟨rfl, rfl⟩
set_option maxHeartbeats 400000 in
theorem words_Read_zero (g off n c : Nat) (w : World) (h8 : n ≤ 8) (h0 : 0 < n) (hc : w.cell? ⟨g, off, none⟩ = some (.int .u8 0)) :
    Calls Try.prog 51 #[.slice (some ⟨g, off, none⟩) n c] w fun e w' => e = .returned (.tuple #[.int .u64 0, .bool false]) ∧ w = w' := by
  have h : ¬ (8 : Int) < (n : Int) := by omega
  have h1 : (0 : Int) < (n : Int) := by omega
  go_enter Try.func51, Try.ntmps51
  go_wp2
  go_ret2
  exact ⟨rfl, rfl⟩
set_option maxHeartbeats 400000 in
theorem words_Read_some (g off n c : Nat) (xs : List UInt8) (x : Int) (w : World) (h8 : n ≤ 8) (h0 : 0 < n) (hx : (x == 0) = false) (hc : w.cell? ⟨g, off, none⟩ = some (.int .u8 x)) (hr : Rd w (some ⟨g, off, none⟩) (bs xs)) (hn : n = xs.length) :
    Calls Try.prog 51 #[.slice (some ⟨g, off, none⟩) n c] w fun e w' => e = .returned (.tuple #[.int .u64 ((wval xs : Nat) : Int), .bool true]) ∧ w = w' := by
  have HR := Go.Lib.hid hr
  have HN := Go.Lib.hid hn
  have h : ¬ (8 : Int) < (n : Int) := by omega
  have h1 : (0 : Int) < (n : Int) := by omega
  clear hr hn
  go_enter Try.func51, Try.ntmps51
  go_wp2_with (go_at_call 59; refine (words_number _ n c xs _ HR.out HN.out h8).mono ?_; rintro e w' ⟨rfl, rfl⟩)
  go_ret2
  exact ⟨rfl, rfl⟩

/-- Read of any bytes. -/
theorem words_Read (A : Option Addr) (n c : Nat) (xs : List UInt8) (w : World) (hr : Rd w A (bs xs)) (hn : n = xs.length) :
    Calls Try.prog 51 #[.slice A n c] w fun e w' => e = .returned (okW (isWord xs) (wval xs)) ∧ w = w' := by
  by_cases h : 8 < n
  · have e : isWord xs = false := by
      rw [Bool.eq_false_iff]
      intro h'
      have := ((isWord_iff xs).1 h').1
      omega
    rw [e]
    exact words_Read_long A n c w h
  · cases xs with
    | nil =>
      subst hn
      exact words_Read_nil A c w
    | cons x r =>
      obtain ⟨g, off, rfl, hg, hc⟩ := hr.at_ (by simp)
      have hc0 := hc 0 _ rfl
      rw [Nat.add_zero] at hc0
      by_cases hx : x = 0
      · subst hx
        have e : isWord (0 :: r) = false := by simp [isWord]
        rw [e]
        exact words_Read_zero g off n c w (by omega) (by simp at hn; omega) hc0
      · have e : isWord (x :: r) = true := (isWord_iff _).2 ⟨by omega, fun c r h => by injection h with h _; exact h ▸ hx⟩
        rw [e]
        refine words_Read_some g off n c (x :: r) _ w (by omega) (by simp at hn; omega) ?_ hc0 hr hn
        rw [beq_eq_false_iff_ne]
        intro h
        exact hx (UInt8.toNat_inj.1 (by simpa using h))

end Go.Proofs.Ytgpaiphjbhkadaa
