/- The reference's words as bytes: Word, Read. -/
import Derived.Test.YtgpaiphjbhkadaaWdRef
import Derived.Test.YtgpaiphjbhkadaaWdConv
namespace Go.Proofs.Ytgpaiphjbhkadaa
open Go.ChangeShapes Go.WideShapes Go.ChangeAt Go.RowKit
set_option linter.unusedVariables false
set_option maxRecDepth 100000

set_option maxHeartbeats 400000 in
set_option maxRecDepth 100000 in
theorem ref_WWord_yes (A : Option Addr) (c : Nat) (xs : List UInt8) (w : World) (hr : Rd w A (bs xs)) (hn : 8 = xs.length) :
    Calls Try.prog 41 #[.slice A 8 c] w fun e w' => e = .returned (.tuple #[.int .u64 ((wval xs : Nat) : Int), .bool true]) ∧ w = w' := by
  have HN := Go.Lib.hid hn
  obtain ⟨g, off, rfl, hg, hc⟩ := hr.at_ (by simp; omega)
  have HC := Go.Lib.hid hc
  clear hr hn hc
  go_enter Try.func41, Try.ntmps41
  go_wp2
  go_loop [4, 5] (fun t i => ∃ k : Nat, k ≤ 8 ∧ i = .int .i64 k ∧ t = .int .u64 ((wval (xs.take k) : Nat) : Int)) (fun _ i => 8 - (intOf i).toNat)
  case atStart => exact ⟨0, by omega, rfl, rfl⟩
  case round =>
    obtain ⟨k, hk, rfl, rfl⟩ := hrel
    by_cases hlt : k < 8
    · have h1 := HC.out k _ (bs_at xs k (by have := HN.out; omega))
      have h2 := byteF_bd xs k
      have h3 := wval_take_bd xs k (by omega)
      have h4 : 0 ≤ ((wval (xs.take k) : Nat) : Int) := Int.natCast_nonneg _
      have HS := Go.Lib.hid (wval_take_succ xs k (by have := HN.out; omega))
      generalize ((wval (xs.take k) : Nat) : Int) = v at *
      generalize byteF xs k = x at *
      go_wp2
      go_round
      case rel => exact ⟨k + 1, by omega, by go_num, by rw [HS.out]⟩
      case measure => simp [intOf]; omega
    · go_wp2
      go_ret2
      exact ⟨by rw [List.take_of_length_le (by have := HN.out; omega)]; rfl, rfl⟩
set_option maxHeartbeats 400000 in
set_option maxRecDepth 100000 in
theorem ref_WWord_no (A : Option Addr) (n c : Nat) (w : World) (h8 : n ≠ 8) :
    Calls Try.prog 41 #[.slice A n c] w fun e w' => e = .returned (.tuple #[.int .u64 0, .bool false]) ∧ w = w' := by
  have h : ((n : Int) != 8) = true := by rw [bne_iff_ne]; omega
  go_enter Try.func41, Try.ntmps41
  go_wp2
  go_ret2
  exact ⟨rfl, rfl⟩
theorem ref_WWord (A : Option Addr) (n c : Nat) (xs : List UInt8) (w : World) (hr : Rd w A (bs xs)) (hn : n = xs.length) :
    Calls Try.prog 41 #[.slice A n c] w fun e w' => e = .returned (okW (decide (xs.length = 8)) (wval xs)) ∧ w = w' := by
  by_cases h : n = 8
  · subst h
    rw [← hn, decide_eq_true rfl]
    exact ref_WWord_yes A c xs w hr hn
  · rw [← hn, decide_eq_false h]
    exact ref_WWord_no A n c w h

set_option maxHeartbeats 400000 in
set_option maxRecDepth 100000 in
theorem ref_WRead_long (A : Option Addr) (n c : Nat) (w : World) (h8 : 8 < n) :
    Calls Try.prog 33 #[.slice A n c] w fun e w' => e = .returned (.tuple #[.int .u64 0, .bool false]) ∧ Below w.heap.size w w' := by
  go_enter Try.func33, Try.ntmps33
  go_wp2
  go_ret2
  exact ⟨rfl, Below.refl _ _⟩

set_option maxHeartbeats 2000000 in
set_option maxRecDepth 100000 in
theorem ref_WRead_short (A : Option Addr) (n c : Nat) (xs : List UInt8) (w : World) (hr : Rd w A (bs xs)) (hn : n = xs.length) (h8 : n ≤ 8) :
    Calls Try.prog 33 #[.slice A n c] w fun e w' => e = .returned (okW (isWord xs) (wval xs)) ∧ Below w.heap.size w w' := by
  have HR := Go.Lib.hid hr
  have HN := Go.Lib.hid hn
  have kx : ∀ w', Rd w' A (bs xs) → (convert 24 9 (.slice A n c)).run Try.prog w' = .ok (.string ⟨xs.toArray⟩) w' := fun w' h =>
    wconv_bs w' _ 5 _ Try.underlying24 Try.underlying5 Try.underlying9 A n c xs h hn.symm
  have KX := Go.Lib.hid kx
  clear hr hn kx
  go_enter Try.func33, Try.ntmps33
  go_wp2
  go_loop [4, 5] (fun t i => ∃ k : Nat, k ≤ n ∧ i = .int .i64 k ∧ t = .int .u64 ((wval (xs.take k) : Nat) : Int)) (fun _ i => n - (intOf i).toNat)
  case atStart => exact ⟨0, by omega, rfl, rfl⟩
  case round =>
    obtain ⟨k, hk, rfl, rfl⟩ := hrel
    by_cases hlt : k < n
    · obtain ⟨g, off, rfl, hg, hc⟩ := HR.out.at_ (by have := HN.out; simp; omega)
      have h1 := hc k _ (bs_at xs k (by have := HN.out; omega))
      have h2 := byteF_bd xs k
      have h3 := wval_take_bd xs k (by omega)
      have h4 : 0 ≤ ((wval (xs.take k) : Nat) : Int) := Int.natCast_nonneg _
      have HS := Go.Lib.hid (wval_take_succ xs k (by have := HN.out; omega))
      clear hc
      generalize ((wval (xs.take k) : Nat) : Int) = v at *
      generalize byteF xs k = x at *
      go_wp2
      go_round
      case rel => exact ⟨k + 1, by omega, by go_num, by rw [HS.out]⟩
      case measure => simp [intOf]; omega
    · rw [List.take_of_length_le (by have := HN.out; omega)]
      have hlt8 : wval xs < 18446744073709551616 := wval_lt8 (by have := HN.out; omega)
      have HL8 := Go.Lib.hid hlt8
      have hW2 : wbytes (wval xs) = xs ↔ isWord xs = true := wbytes_eq_iff (by have := HN.out; omega)
      have HW2 := Go.Lib.hid hW2
      clear hlt8 hW2
      obtain ⟨V, hV⟩ : ∃ V, V = wval xs := ⟨_, rfl⟩
      rw [← hV]
      have HV := Go.Lib.hid hV
      clear hV
      obtain ⟨W, hW⟩ : ∃ W, W = wbytes V := ⟨_, rfl⟩
      have HW := Go.Lib.hid hW
      clear hW
      obtain ⟨wq, rfl⟩ : ∃ wq : World, wq = w := ⟨_, rfl⟩
      have kd := KX.out wq.drew HR.out
      cases hb : isWord xs with
      | true =>
        have hWx : W = xs := by rw [HW.out, HV.out]; exact HW2.out.2 hb
        have HWX := Go.Lib.hid hWx
        have HBI := Go.Lib.hid hb
        have HBI := Go.Lib.hid hb
        clear hWx hb
        go_wp2
        go_region_with (go_at_call 54; refine (ref_WBytes V (by rw [HV.out]; exact HL8.out) _).mono ?_; rintro e w1 ⟨A1, m1, c1, rfl, hm1, hown1, hb1⟩; rw [← HW.out, HWX.out] at hown1 hm1; have ka := wconv_bs w1 24 5 9 Try.underlying24 Try.underlying5 Try.underlying9 A1 m1 c1 xs hown1.rd hm1.symm; have kb := KX.out w1 (HR.out.below (btr (bdr (Below.refl _ _)) hb1)); have HB1 := Go.Lib.hid (btr (bdr (Below.refl _ _)) hb1); clear hm1 hown1 hb1)
        all_goals
          go_wp2
          go_ret2
          exact ⟨by rw [HV.out, HBI.out]; rfl, HB1.out⟩
      | false =>
        have hWx : W ≠ xs := by rw [HW.out, HV.out]; intro h; rw [HW2.out.1 h] at hb; cases hb
        have q1 : (W == xs) = false := beq_eq_false_iff_ne.2 hWx
        have q2 : (W != xs) = true := bne_iff_ne.2 hWx
        have HBI := Go.Lib.hid hb
        clear hb
        go_wp2
        go_region_with (go_at_call 54; refine (ref_WBytes V (by rw [HV.out]; exact HL8.out) _).mono ?_; rintro e w1 ⟨A1, m1, c1, rfl, hm1, hown1, hb1⟩; rw [← HW.out] at hown1 hm1; have ka := wconv_bs w1 24 5 9 Try.underlying24 Try.underlying5 Try.underlying9 A1 m1 c1 W hown1.rd hm1.symm; have kb := KX.out w1 (HR.out.below (btr (bdr (Below.refl _ _)) hb1)); have HB1 := Go.Lib.hid (btr (bdr (Below.refl _ _)) hb1); clear hm1 hown1 hb1)
        all_goals
          go_wp2
          go_ret2
          exact ⟨by rw [HBI.out]; rfl, HB1.out⟩

theorem ref_WRead (A : Option Addr) (n c : Nat) (xs : List UInt8) (w : World) (hr : Rd w A (bs xs)) (hn : n = xs.length) :
    Calls Try.prog 33 #[.slice A n c] w fun e w' => e = .returned (okW (isWord xs) (wval xs)) ∧ Below w.heap.size w w' := by
  by_cases h : 8 < n
  · have e : isWord xs = false := by
      rw [Bool.eq_false_iff]
      intro h'
      have := ((isWord_iff xs).1 h').1
      omega
    rw [e]
    exact ref_WRead_long A n c w h
  · exact ref_WRead_short A n c xs w hr hn (by omega)

end Go.Proofs.Ytgpaiphjbhkadaa
