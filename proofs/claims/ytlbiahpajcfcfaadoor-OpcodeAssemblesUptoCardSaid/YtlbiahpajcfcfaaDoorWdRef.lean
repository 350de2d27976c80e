/- The reference's words as bytes: Bytes, Key. -/
import Derived.Test.YtlbiahpajcfcfaaDoorWdBytes
namespace Go.Proofs.YtlbiahpajcfcfaaDoor
open Go.ChangeShapes Go.WideShapes Go.ChangeAt Go.RowKit
set_option linter.unusedVariables false
set_option maxRecDepth 100000

theorem own_one (w : World) (base : Nat) (hb : base ≤ w.heap.size) (v : Value) (E : TypeId) : Own (w.alloc (.cells #[v] E)) base E 1 (some ⟨w.heap.size, 0, none⟩) 1 1 [v] := by
  have := own_made w base E 1 #[v] 1 1 hb (by simp [maxLen]) (Nat.le_refl _) rfl
  simpa using this

set_option maxHeartbeats 1000000 in
set_option maxRecDepth 100000 in
theorem ref_WBytes (n : Nat) (hn : n < 18446744073709551616) (w : World) :
    Calls Tryd.prog 57 #[.int .u64 (n : Int)] w fun r w' => ∃ A m c, r = .returned (.slice A m c) ∧ m = (wbytes n).length ∧ Own w' w.heap.size 5 1 A m c (bs (wbytes n)) ∧ Below w.heap.size w w' := by
  obtain ⟨i0, hi, hz0, hz1, hz2⟩ := info_parts wd_u8
  have HN := Go.Lib.hid hn
  clear hn
  go_enter Tryd.func57, Tryd.ntmps57
  go_wp2
  go_loopg [0, 3] 9 (fun g v0 v wr => ∃ (j m : Nat) (A : Option Addr) (c : Nat), j ≤ 8 ∧ g = 9 - j ∧ v0 = .int .u64 (m : Int) ∧ v = .slice A j c ∧ Hid (m = n / 256 ^ j) ∧ Hid (j = 0 ∨ n / 256 ^ (j - 1) ≠ 0) ∧ Hid (Own wr w.heap.size 5 1 A j c (bs (be j n))) ∧ Hid (Below w.heap.size w wr))
  case atStart => exact ⟨0, n, none, 0, by omega, rfl, rfl, rfl, Go.Lib.hid (by simp), Go.Lib.hid (.inl rfl), Go.Lib.hid (Own.nil _ _ _ _), Go.Lib.hid (Below.refl _ _)⟩
  case round =>
    obtain ⟨j, m, A, c, hj, rfl, rfl, rfl, HM, HJ, HO, HB⟩ := hrel
    have hcap := HO.out.cap
    by_cases hm : 0 < m
    · have hj8 : j < 8 := by
        rcases Nat.lt_or_ge j 8 with h | h
        · exact h
        · exfalso
          have h8 : j = 8 := by omega
          have h1 := HM.out
          subst h8
          have e : (256 : Nat) ^ 8 = 18446744073709551616 := by decide
          rw [e] at h1
          have := HN.out
          omega
      have hsz := HB.out.size
      go_wp2_with (at_builtin; refine wpList_append_o _ rfl _ _ 32 rfl 5 i0 (.int .u8 0) 1 1 Tryd.underlying32 hi hz0 hz1 hz2 rfl (by decide) w.heap.size (some ⟨wr.heap.size, 0, none⟩) 1 1 [.int .u8 ((m : Int) % 256)] rfl (own_one wr w.heap.size hsz _ _) A j c (bs (be j n)) rfl (by simp) (HO.out.rd.alloc _) (bs_one _) (by omega) (by unfold maxLen; omega) (by simp; omega) ?_; intro A3 c3 w3 hown3 hk3 hl3; have HO3 := Go.Lib.hid hown3; have HK3 := Go.Lib.hid hk3; clear hown3 hk3 hl3)
      go_roundg (9 - (j + 1))
      case measure => omega
      case rel =>
        refine ⟨j + 1, m / 256, A3, c3, by omega, rfl, ?_, by rw [Nat.add_comm], Go.Lib.hid ?_, Go.Lib.hid ?_, Go.Lib.hid ?_, Go.Lib.hid ?_⟩
        · have hm64 : m < 18446744073709551616 := by
            have h1 := HM.out
            have h2 : n / 256 ^ j ≤ n := Nat.div_le_self _ _
            have h3 := HN.out
            omega
          have hw : IntKind.u64.wrap ((m : Int) / 256) = ((m / 256 : Nat) : Int) := by rw [IntKind.wrap_u64]; omega
          rw [hw]
        · rw [HM.out, Nat.pow_succ, Nat.div_div_eq_div_mul]
        · right
          rw [Nat.add_sub_cancel, ← HM.out]
          omega
        · have h := HO3.out
          have e : bs (be (1 + j) n) = [.int .u8 ((m : Int) % 256)] ++ bs (be j n) := by
            rw [be_add j 1 n, bs_append, ← HM.out]
            simp only [be, List.nil_append, bs, List.map_cons, List.map_nil, wbv_mod]
          rw [← e] at h
          rw [Nat.add_comm j 1]
          exact h
        · exact Kp.below (bal HB.out _) HK3.out (fun i h => by simp at h; omega)
    · have hst : wbytes n = be j n := wbytes_be hj (by rw [← HM.out]; omega) HJ.out
      have HST := Go.Lib.hid hst
      clear hst
      go_wp2
      go_ret
      exact ⟨A, j, c, rfl, by rw [HST.out, be_length], by rw [HST.out]; exact HO.out, HB.out⟩

theorem key_form (n : Nat) (h : n < 18446744073709551616) : be 8 n = List.replicate (8 - (wbytes n).length) 0 ++ wbytes n := by
  have e := be_wval 8 (List.replicate (8 - (wbytes n).length) 0 ++ wbytes n) (by have := wbytes_len n; simp; omega)
  rw [wval_append, wval_zeros, Nat.zero_mul, Nat.zero_add, wval_wbytes n h] at e
  exact e

set_option maxHeartbeats 1000000 in
set_option maxRecDepth 100000 in
theorem ref_WKey (n : Nat) (hn : n < 18446744073709551616) (w : World) :
    Calls Tryd.prog 58 #[.int .u64 (n : Int)] w fun r w' => ∃ A c, r = .returned (.slice A 8 c) ∧ Own w' w.heap.size 5 1 A 8 c (bs (be 8 n)) ∧ Below w.heap.size w w' := by
  obtain ⟨i0, hi, hz0, hz1, hz2⟩ := info_parts wd_u8
  have HN := Go.Lib.hid hn
  clear hn
  obtain ⟨W, hW⟩ : ∃ W, W = wbytes n := ⟨_, rfl⟩
  have HW := Go.Lib.hid hW
  have hl : W.length ≤ 8 := by rw [hW]; exact wbytes_len n
  clear hW
  go_enter Tryd.func58, Tryd.ntmps58
  go_wp2_with (go_at_call 57; refine (ref_WBytes n HN.out _).mono ?_; rintro r w1 ⟨A1, m1, c1, rfl, hm1, hown1, hb1⟩; rw [← HW.out] at hown1 hm1; have HM1 := Go.Lib.hid hm1; have HO1 := Go.Lib.hid hown1; have HB1 := Go.Lib.hid hb1; clear hown1 hb1 hm1)
  go_loopg [3] (9 - m1) (fun g v wr => ∃ (j k : Nat) (A : Option Addr) (c : Nat), k ≤ 8 ∧ g = 9 - k ∧ v = .slice A k c ∧ Hid (k = j + W.length) ∧ Hid (Own wr w.heap.size 5 1 A k c (bs (List.replicate j 0 ++ W))) ∧ Hid (Below w.heap.size w wr))
  case atStart => exact ⟨0, m1, A1, c1, by have := HM1.out; omega, rfl, rfl, Go.Lib.hid (by have := HM1.out; omega), Go.Lib.hid (by simpa using HO1.out), HB1⟩
  case round =>
    obtain ⟨j, k, A, c, hk, rfl, rfl, HKJ, HO, HB⟩ := hrel
    have hcap := HO.out.cap
    by_cases hlt : k < 8
    · have hsz := HB.out.size
      go_wp2_with (at_builtin; refine wpList_append_o _ rfl _ _ 32 rfl 5 i0 (.int .u8 0) 1 1 Tryd.underlying32 hi hz0 hz1 hz2 rfl (by decide) w.heap.size (some ⟨wr.heap.size, 0, none⟩) 1 1 [.int .u8 0] rfl (own_one wr w.heap.size hsz _ _) A k c (bs (List.replicate j 0 ++ W)) rfl (by have := HKJ.out; simp; omega) (HO.out.rd.alloc _) (bs_one _) (by omega) (by unfold maxLen; omega) (by simp; omega) ?_; intro A3 c3 w3 hown3 hk3 hl3; have HO3 := Go.Lib.hid hown3; have HK3 := Go.Lib.hid hk3; clear hown3 hk3 hl3)
      go_roundg (9 - (k + 1))
      case measure => omega
      case rel =>
        refine ⟨j + 1, k + 1, A3, c3, by omega, rfl, by rw [Nat.add_comm], Go.Lib.hid (by have := HKJ.out; omega), Go.Lib.hid ?_, Go.Lib.hid ?_⟩
        · have h := HO3.out
          rw [Nat.add_comm k 1]
          exact h
        · exact Kp.below (bal HB.out _) HK3.out (fun i h => by simp at h; omega)
    · have hst : be 8 n = List.replicate j 0 ++ W := by
        rw [key_form n HN.out, ← HW.out, show 8 - W.length = j from by have := HKJ.out; omega]
      have HST := Go.Lib.hid hst
      have hk8 : k = 8 := by omega
      have HK8 := Go.Lib.hid hk8
      clear hst hk8
      go_wp2
      go_ret
      refine ⟨A, c, by rw [← HK8.out]; rfl, ?_, HB.out⟩
      have h := HO.out
      rw [HST.out]
      rw [HK8.out] at h
      exact h

end Go.Proofs.YtlbiahpajcfcfaaDoor
