/- The reference's Piece, number, least. -/
import Derived.Test.YtlbiahpajcfcfaaDoorOpRefOf
import Derived.Test.YtlbiahpajcfcfaaDoorOpPrintP
namespace Go.Proofs.YtlbiahpajcfcfaaDoor
open Go.ChangeShapes Go.WideShapes Go.ChangeAt Go.RowKit
set_option linter.unusedVariables false
set_option maxRecDepth 100000
attribute [local go_sem ↓] Go.wp_at_zero Go.wp_at_succ

theorem byte_at {xs ys : List UInt8} {x : UInt8} {p : Nat} (hd : xs.drop p = x :: ys) : (bs xs)[p]? = some (.int .u8 (x.toNat : Int)) := by
  have e : xs[p]? = some x := by
    have := List.getElem?_drop (xs := xs) (i := p) (j := 0)
    rw [hd] at this
    simpa using this.symm
  rw [bs, List.getElem?_map, e]
  rfl
theorem drop_len {xs ys : List UInt8} {x : UInt8} {p : Nat} (hd : xs.drop p = x :: ys) : p + ys.length + 1 = xs.length := by
  have := congrArg List.length hd
  rw [List.length_drop, List.length_cons] at this
  omega

def RPieceP (xs : List UInt8) (w : World) (r : Ending) (w' : World) : Prop := r = .returned (.tuple #[.int .i64 (pieceN xs : Int), .bool (pieceI xs).isSome]) ∧ Below w.heap.size w w'

set_option maxHeartbeats 4000000 in
theorem ref_Piece (A : Option Addr) (n c p : Nat) (xs : List UInt8) (x : UInt8) (ys : List UInt8) (w : World) (hd : xs.drop p = x :: ys) (hn : n = xs.length) (hz : n ≤ 9223372036854775807) (hr : Rd w A (bs xs)) :
    Calls Tryd.prog 26 #[.slice A n c, .int .i64 (p : Int)] w (RPieceP (x :: ys) w) := by
  have hdl := drop_len hd
  obtain ⟨g, off, rfl, hg, hc⟩ := hr.at_ (by simp; omega)
  have hc0 := hc p _ (byte_at hd)
  have hx256 : x.toNat < 256 := x.toNat_lt
  have hpn : (p : Int) < (n : Int) := by omega
  have hp0 : (0 : Int) ≤ (p : Int) := by omega
  obtain ⟨m, hm⟩ : ∃ m, m = ys.length := ⟨_, rfl⟩
  have hnm : (n : Int) = (p : Int) + (m : Int) + 1 := by omega
  obtain ⟨n2, hn2⟩ : ∃ n2 : Nat, n2 = n := ⟨_, rfl⟩
  have HM := Go.Lib.hid (And.intro hm hnm)
  clear hc hr hn hdl hd hm hnm hn2
  cases ho : ofI x.toNat with
  | none =>
    have HE := Go.Lib.hid (show pieceI (x :: ys) = none by simp [pieceI, ho])
    have HO := Go.Lib.hid ho
    clear ho
    go_enter Tryd.func26, Tryd.ntmps26
    go_wp2_with (go_at_call 12; refine (ref_Of _ _ hx256).mono ?_; rintro _ w3 ⟨rfl, hb3⟩; rw [HO.out]; simp only [Option.isSome_none]; have HB3 := Go.Lib.hid hb3; clear hb3)
    refine bodyPost_ret (v := .tuple #[.int .i64 1, .bool false]) (by simp [results, Tryd.results26, go_sem]) rfl ⟨?_, bal HB3.out _⟩
    have e : pieceN (x :: ys) = 1 := by simp [pieceN, HE.out]
    rw [e, HE.out]
    rfl
  | some i =>
    have hb8 := behind_le _ _ ho
    have HO := Go.Lib.hid (And.intro (show (ofI x.toNat).isSome = true by rw [ho]; rfl) (show ofG x.toNat = i by simp [ofG, ho]))
    by_cases hl : m < i.behind
    · have HE := Go.Lib.hid (show pieceI (x :: ys) = none by simp only [pieceI, ho, Option.bind_some]; rw [if_pos (by have := HM.out.1; omega)])
      have hq : (n : Int) - (p : Int) - 1 < (i.behind : Int) := by have := HM.out.2; omega
      clear ho
      go_enter Tryd.func26, Tryd.ntmps26
      go_wp2_with (go_at_call 12; refine (ref_Of _ _ hx256).mono ?_; rintro _ w3 ⟨rfl, hb3⟩; rw [HO.out.1, HO.out.2]; have HB3 := Go.Lib.hid hb3; clear hb3)
      refine bodyPost_ret (v := .tuple #[.int .i64 1, .bool false]) (by simp [results, Tryd.results26, go_sem]) rfl ⟨?_, bal HB3.out _⟩
      have e : pieceN (x :: ys) = 1 := by simp [pieceN, HE.out]
      rw [e, HE.out]
      rfl
    · have HE := Go.Lib.hid (show pieceI (x :: ys) = some i by simp only [pieceI, ho, Option.bind_some]; rw [if_neg (by have := HM.out.1; omega)])
      have hq : ¬ ((n : Int) - (p : Int) - 1 < (i.behind : Int)) := by have := HM.out.2; omega
      clear ho
      go_enter Tryd.func26, Tryd.ntmps26
      go_wp2_with (go_at_call 12; refine (ref_Of _ _ hx256).mono ?_; rintro _ w3 ⟨rfl, hb3⟩; rw [HO.out.1, HO.out.2]; have HB3 := Go.Lib.hid hb3; clear hb3)
      refine bodyPost_ret (v := .tuple #[.int .i64 ((i.behind : Int) + 1), .bool true]) (by simp [results, Tryd.results26, go_sem]) rfl ⟨?_, bal HB3.out _⟩
      have e : pieceN (x :: ys) = i.behind + 1 := by simp [pieceN, HE.out]
      rw [e, HE.out]
      simp

set_option maxHeartbeats 2000000 in
theorem ref_number (A : Option Addr) (n c : Nat) (xs : List UInt8) (w : World) (hr : Rd w A (bs xs)) (hn : n = xs.length) (h8 : n ≤ 8) :
    Calls Tryd.prog 52 #[.slice A n c] w fun e w' => e = .returned (.int .u64 ((wval xs : Nat) : Int)) ∧ w' = w := by
  have HR := Go.Lib.hid hr
  have HN := Go.Lib.hid hn
  clear hr hn
  go_enter Tryd.func52, Tryd.ntmps52
  go_wp2_with fail
  go_loop [3, 4] (fun t i => ∃ k : Nat, k ≤ n ∧ i = .int .i64 k ∧ t = .int .u64 ((wval (xs.take k) : Nat) : Int)) (fun _ i => n - (intOf i).toNat)
  case atStart => exact ⟨0, by omega, rfl, rfl⟩
  case round =>
    obtain ⟨k, hk, rfl, rfl⟩ := hrel
    by_cases hlt : k < n
    · obtain ⟨g, off, rfl, hg, hc⟩ := HR.out.at_ (by have := HN.out; simp; omega)
      have h1 := hc k _ (bs_at xs k (by have := HN.out; omega))
      have h2 := byteF_bd xs k
      have h3 := wval_take_bd xs k (by omega)
      have h4 : 0 ≤ ((wval (xs.take k) : Nat) : Int) := Int.natCast_nonneg _
      have HS := Go.Lib.hid (wval_take_succ xs k (by have := HN.out; omega))
      clear hc
      generalize ((wval (xs.take k) : Nat) : Int) = v at *
      generalize byteF xs k = x at *
      go_wp2_with fail
      go_round
      case rel => exact ⟨k + 1, by omega, by go_num, by rw [HS.out]⟩
      case measure => simp [intOf]; omega
    · go_wp2_with fail
      go_ret
      exact ⟨by rw [List.take_of_length_le (by have := HN.out; omega)]; rfl, rfl⟩

set_option maxHeartbeats 2000000 in
theorem ref_least (v : Nat) (hv : v < 18446744073709551616) (w : World) : Calls Tryd.prog 44 #[.int .u64 (v : Int)] w fun e w' => e = .returned (.int .i64 (leastN v : Int)) ∧ Below w.heap.size w w' := by
  obtain ⟨m, hm⟩ : ∃ m, m = (wbytes v).length := ⟨_, rfl⟩
  have hl8 := wbytes_len v
  rw [← hm] at hl8
  obtain ⟨q, hq⟩ : ∃ q, q = leastN v := ⟨_, rfl⟩
  have hls : q = max m 1 := by rw [hq, leastN, hm]
  have hmx : max (m : Int) 1 = (q : Int) := by omega
  have HQ := Go.Lib.hid hq
  have HM := Go.Lib.hid hm
  clear hm hq hls
  go_enter Tryd.func44, Tryd.ntmps44
  go_wp2_with (go_at_call 57; refine (ref_WBytes v hv _).mono ?_; rintro _ w3 ⟨A3, m3, c3, rfl, hm3, hown3, hb3⟩; rw [← HM.out] at hm3; subst hm3; have HB3 := Go.Lib.hid hb3; clear hb3 hown3)
  go_ret
  exact ⟨by rw [← HQ.out]; rfl, HB3.out⟩

end Go.Proofs.YtlbiahpajcfcfaaDoor
