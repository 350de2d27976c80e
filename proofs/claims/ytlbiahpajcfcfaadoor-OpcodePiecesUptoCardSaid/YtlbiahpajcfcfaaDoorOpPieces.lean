/- OpcodePieces: the walk. Written by wip/bin/oppieces.py. -/
import Derived.Test.YtlbiahpajcfcfaaDoorOpCut
import Derived.Test.YtlbiahpajcfcfaaDoorOpGuard
import Derived.Test.YtlbiahpajcfcfaaDoorOpAlive
namespace Go.Proofs.YtlbiahpajcfcfaaDoor
open Go.ChangeShapes Go.WideShapes Go.ChangeAt Go.RowKit
set_option linter.unusedVariables false
set_option maxRecDepth 100000
attribute [local go_sem ↓] Go.wp_at_zero Go.wp_at_succ

theorem key_byte (m j : Nat) (hj : j < 8) : ∃ x : UInt8, (x.toNat : Int) = (m : Int) / (2 : Int) ^ (56 - 8 * j) % 256 ∧ (be 8 m).take (j + 1) = (be 8 m).take j ++ [x] := by
  have hl : j < (be 8 m).length := by simp; omega
  refine ⟨(be 8 m)[j], ?_, List.take_succ_eq_append_getElem hl⟩
  have e := be8 m
  obtain rfl | rfl | rfl | rfl | rfl | rfl | rfl | rfl : j = 0 ∨ j = 1 ∨ j = 2 ∨ j = 3 ∨ j = 4 ∨ j = 5 ∨ j = 6 ∨ j = 7 := by omega
  all_goals
    simp only [e, List.getElem_cons_zero, List.getElem_cons_succ, toNat_byte]
    simp
theorem rd_intz (w : World) (E : TypeId) {z : Int} {k : Nat} (h : z = (k : Int)) : Rd (w.alloc (.cells #[.int .i64 z] E)) (some ⟨w.heap.size, 0, none⟩) (ints [k]) := by
  subst h
  exact rd_new w _ _
theorem rd_byte (w : World) (E : TypeId) {z : Int} {x : UInt8} (h : z = (x.toNat : Int)) : Rd (w.alloc (.cells #[.int .u8 z] E)) (some ⟨w.heap.size, 0, none⟩) (bs [x]) := by
  subst h
  exact rd_new w _ _

set_option maxHeartbeats 16000000 in
theorem pieces_walk (w : World) (hw : WL w) (A : Option Addr) (n c : Nat) (xs : List UInt8) (hn : xs.length = n) (hc : n ≤ c) (hr : Rd w A (bs xs)) (hz : c ≤ 1048576) (m : Nat) (hm : m < 18446744073709551616) : Calls Tryd.prog 10 #[.slice A n c, .int .u64 (m : Int)] w fun r w' => r = .returned (.bool true) ∧ Below w.heap.size w w' := by
  have HWL := Go.Lib.hid hw
  have HR := Go.Lib.hid hr
  have HN := Go.Lib.hid hn
  obtain ⟨i0, hi, hz0, hz1, hz2⟩ := info_parts wd_u8
  obtain ⟨i1, hi1, hy0, hy1, hy2⟩ := info_parts wd_int
  obtain ⟨l, hl⟩ : ∃ l, l = marksL xs := ⟨_, rfl⟩
  have hlen := marksL_len xs
  rw [← hl] at hlen
  have HL := Go.Lib.hid hl
  obtain ⟨q, hq⟩ : ∃ q, q = l.length := ⟨_, rfl⟩
  have HQ := Go.Lib.hid hq
  rw [← hq] at hlen
  have hqz : q ≤ 1048576 := by omega
  clear hw hr hn hl hq hlen
  by_cases h256 : n > 256
  · have hne : xs.length > 256 := by rw [HN.out]; exact h256
    have HNE := Go.Lib.hid hne
    clear hne
    go_enter Tryd.func10, Tryd.ntmps10
    go_wp2_with fail
    refine (op_Marks A n c xs _ HN.out.symm hc (by omega) (by omega) HR.out).mono ?_
    rintro _ w3 ⟨A3, c3, rfl, hown3, hb3⟩
    rw [← HL.out] at hown3 ⊢
    rw [← HQ.out] at hown3 ⊢
    have HR3 := Go.Lib.hid hown3.rd
    have HB3 := Go.Lib.hid hb3
    clear hown3 hb3
    go_wp2_with fail
    refine (op_Print A n c xs _ HN.out.symm hc (by omega) (HR.out.below HB3.out) (HWL.out.below HB3.out)).mono ?_
    rintro _ w4 ⟨rfl, hb4⟩
    have HR4 := Go.Lib.hid (HR3.out.below hb4)
    have HB4 := Go.Lib.hid (btr HB3.out hb4)
    clear hb4
    rw [if_pos HNE.out]
    go_wp2_with fail
    refine (law_alive _ (HWL.out.below HB4.out)).mono ?_
    rintro _ w5 ⟨rfl, hb5⟩
    have HB5 := Go.Lib.hid (btr HB4.out hb5)
    clear hb5
    go_wp2_with fail
    refine bodyPost_ret (v := .bool true) (by simp [results, Tryd.results10, go_sem]) rfl ⟨rfl, HB5.out⟩
  · have hne : ¬ xs.length > 256 := by rw [HN.out]; exact h256
    have HNE := Go.Lib.hid hne
    clear hne
    by_cases h246 : n > 246
    · have hq246 : (n : Int) > 246 := by omega
      go_enter Tryd.func10, Tryd.ntmps10
      go_wp2_with fail
      refine (op_Marks A n c xs _ HN.out.symm hc (by omega) (by omega) HR.out).mono ?_
      rintro _ w3 ⟨A3, c3, rfl, hown3, hb3⟩
      rw [← HL.out] at hown3 ⊢
      rw [← HQ.out] at hown3 ⊢
      have HR3 := Go.Lib.hid hown3.rd
      have HB3 := Go.Lib.hid hb3
      clear hown3 hb3
      go_wp2_with fail
      refine (op_Print A n c xs _ HN.out.symm hc (by omega) (HR.out.below HB3.out) (HWL.out.below HB3.out)).mono ?_
      rintro _ w4 ⟨rfl, hb4⟩
      have HR4 := Go.Lib.hid (HR3.out.below hb4)
      have HB4 := Go.Lib.hid (btr HB3.out hb4)
      clear hb4
      rw [if_neg HNE.out]
      go_wp2_with fail
      refine (law_alive _ (HWL.out.below HB4.out)).mono ?_
      rintro _ w5 ⟨rfl, hb5⟩
      have HB5 := Go.Lib.hid (btr HB4.out hb5)
      clear hb5
      go_wp2_with fail
      refine bodyPost_ret (v := .bool true) (by simp [results, Tryd.results10, go_sem]) rfl ⟨rfl, HB5.out⟩
    · have hq246 : ¬ (n : Int) > 246 := by omega
      by_cases h0 : n = 0
      · have hx0 : xs = [] := List.eq_nil_of_length_eq_zero (by rw [HN.out]; exact h0)
        have HWH := Go.Lib.hid (show Whole xs by rw [hx0]; exact Whole.nil)
        have HP0 := Go.Lib.hid (show printL xs = [] by rw [hx0]; exact printL_nil)
        have HH0 := Go.Lib.hid h0
        clear hx0 h0
        go_enter Tryd.func10, Tryd.ntmps10
        go_wp2_with fail
        refine (op_Marks A n c xs _ HN.out.symm hc (by omega) (by omega) HR.out).mono ?_
        rintro _ w3 ⟨A3, c3, rfl, hown3, hb3⟩
        rw [← HL.out] at hown3 ⊢
        rw [← HQ.out] at hown3 ⊢
        have HR3 := Go.Lib.hid hown3.rd
        have HB3 := Go.Lib.hid hb3
        clear hown3 hb3
        go_wp2_with fail
        refine (op_Print A n c xs _ HN.out.symm hc (by omega) (HR.out.below HB3.out) (HWL.out.below HB3.out)).mono ?_
        rintro _ w4 ⟨rfl, hb4⟩
        have HR4 := Go.Lib.hid (HR3.out.below hb4)
        have HB4 := Go.Lib.hid (btr HB3.out hb4)
        clear hb4
        rw [if_neg HNE.out, HP0.out]
        have HB5 := HB4
        have HRL := Go.Lib.hid (show Rd w4 A3 (ints l) from HR4.out)
        have HML := Go.Lib.hid (longer_marks HWH.out m)
        have HRX := Go.Lib.hid (HR.out.below HB5.out)
        go_wp2_with (at_builtin; go_loud (refine wpList_append_o _ rfl _ _ 32 rfl 5 i0 (.int .u8 0) 1 1 Tryd.underlying32 hi hz0 hz1 hz2 rfl (by decide) w4.heap.size none 0 0 [] rfl (Own.nil _ _ _ _) A n c (bs xs) rfl (by have := HN.out; simp; omega) HRX.out (bs_one _) (by omega) (by unfold maxLen; omega) (Nat.le_refl _) ?_))
        intro A6 c6 w6 hown6 hkp6 hlie6
        have HB6 := Go.Lib.hid (show Below w4.heap.size w4 w6 from Kp.below (Below.refl _ _) hkp6 (fun i h => by simp at h))
        (try simp only [Nat.zero_add, List.nil_append] at hown6)
        have HO6 := Go.Lib.hid hown6
        have HR7 := Go.Lib.hid (rd_byte w6 5 (z := 39) (x := 39) rfl)
        clear hown6 hkp6 hlie6
        (try rw [Nat.zero_add])
        go_wp2_with (at_builtin; go_loud (refine wpList_append_o _ rfl _ _ 32 rfl 5 i0 (.int .u8 0) 1 1 Tryd.underlying32 hi hz0 hz1 hz2 rfl (by decide) w4.heap.size A6 n c6 (bs xs) rfl (HO6.out.alloc _) (some ⟨w6.heap.size, 0, none⟩) 1 1 (bs [39]) rfl (by simp) HR7.out (bs_one _) (by omega) (by unfold maxLen; omega) (bal HB6.out _).size ?_))
        intro A8 c8 w8 hown8 hkp8 hlie8
        have HB8 := Go.Lib.hid (show Below w4.heap.size w4 w8 from Kp.below (bal HB6.out _) hkp8 (fun i h => (HO6.out.block_lt i h.symm).1))
        rw [← bs_append] at hown8
        have HO8 := Go.Lib.hid hown8
        clear hown8 hkp8 hlie8
        go_wp2_with fail
        go_loopg [8, 9] 9 (fun g v8 v9 wr => ∃ (j : Nat) (z : Int) (B : Option Addr) (d : Nat), j ≤ 8 ∧ g = 9 - j ∧ v8 = .slice B (n + 1 + j) d ∧ v9 = .int .i64 z ∧ z = 56 - 8 * (j : Int) ∧ Hid (Own wr w4.heap.size 5 1 B (n + 1 + j) d (bs (xs ++ 39 :: (be 8 m).take j))) ∧ Hid (Below w4.heap.size w4 wr))
        case atStart => exact ⟨0, 56, A8, c8, by omega, rfl, rfl, rfl, rfl, HO8, HB8⟩
        case round =>
          obtain ⟨j, z, B, d, hj, rfl, rfl, rfl, hzj, HO, HB⟩ := hrel
          rcases (show j = 8 ∨ j = 0 ∨ j = 1 ∨ j = 2 ∨ j = 3 ∨ j = 4 ∨ j = 5 ∨ j = 6 ∨ j = 7 by omega) with rfl | rfl | rfl | rfl | rfl | rfl | rfl | rfl | rfl
          · obtain rfl : z = -8 := by omega
            have HO9 := Go.Lib.hid (show Own wr w4.heap.size 5 1 B (n + 9) d (bs (xs ++ 39 :: be 8 m)) by
              have h := HO.out
              rw [List.take_of_length_le (by simp)] at h
              exact h)
            have HR9 := Go.Lib.hid (rd_byte wr 5 (z := 66) (x := 66) rfl)
            clear hzj hj
            go_wp2_with (at_builtin; go_loud (refine wpList_append_o _ rfl _ _ 32 rfl 5 i0 (.int .u8 0) 1 1 Tryd.underlying32 hi hz0 hz1 hz2 rfl (by decide) w4.heap.size B (n + 9) d (bs (xs ++ 39 :: be 8 m)) rfl (HO9.out.alloc _) (some ⟨wr.heap.size, 0, none⟩) 1 1 (bs [66]) rfl (by simp) HR9.out (bs_one _) (by omega) (by unfold maxLen; omega) (bal HB.out _).size ?_))
            intro A10 c10 w10 hown10 hkp10 hlie10
            have HB10 := Go.Lib.hid (show Below w4.heap.size w4 w10 from Kp.below (bal HB.out _) hkp10 (fun i h => (HO9.out.block_lt i h.symm).1))
            rw [← bs_append] at hown10
            have HO10 := Go.Lib.hid hown10
            have hc10 := hown10.cap
            clear hown10 hkp10 hlie10
            obtain ⟨ys, hys⟩ : ∃ ys, ys = xs ++ 39 :: (be 8 m ++ [66]) := ⟨_, rfl⟩
            have HYS := Go.Lib.hid (show n + 10 = ys.length by have := HN.out; rw [hys]; simp; omega)
            have HRY := Go.Lib.hid (show Rd w10 A10 (bs ys) by
              have h := HO10.out.rd
              rw [hys]
              rw [List.append_assoc, List.cons_append] at h
              exact h)
            obtain ⟨L2, hL2⟩ : ∃ L2, L2 = l ++ [n + 9] := ⟨_, rfl⟩
            have HMY := Go.Lib.hid (show marksL ys = L2 by rw [hys, HML.out, hL2, HN.out, HL.out])
            have HL2 := Go.Lib.hid hL2
            have HL2l := Go.Lib.hid (show L2.length = q + 1 by rw [hL2, List.length_append, HQ.out]; rfl)
            clear hys hL2
            go_wp2_with fail
            refine (law_alive _ (HWL.out.below (btr HB5.out HB10.out))).mono ?_
            rintro _ w11 ⟨rfl, hb11⟩
            have HB11 := Go.Lib.hid (btr HB10.out hb11)
            have HRY11 := Go.Lib.hid (HRY.out.below hb11)
            clear hb11
            go_wp2_with fail
            refine (op_Marks A10 (n + 10) c10 ys _ HYS.out hc10.1 hc10.2 (by omega) HRY11.out).mono ?_
            rintro _ w12 ⟨A12, c12, rfl, hown12, hb12⟩
            rw [HMY.out, HL2l.out] at hown12 ⊢
            have HR12 := Go.Lib.hid hown12.rd
            have HB12 := Go.Lib.hid (btr HB11.out hb12)
            have HRL12 := Go.Lib.hid (HRL.out.below (btr HB11.out hb12))
            clear hown12 hb12
            go_wp2_with (at_builtin; go_loud (refine wpList_append_g _ (by rfl) _ _ 33 rfl 3 i1 (.int .i64 0) 1 8 Tryd.underlying33 hi1 hy0 hy1 hy2 rfl (by decide) w12.heap.size none 0 0 [] rfl (Own.nil _ _ _ _) A3 q c3 (ints l) rfl (by have := HQ.out; simp; omega) HRL12.out (ints_one _) (by omega) (by unfold maxLen; omega) (Nat.le_refl _) ?_))
            intro A13 c13 w13 hown13 hkp13 hlie13
            have hb13 : Below w12.heap.size w12 w13 := Kp.below (Below.refl _ _) hkp13 (fun i h => by simp at h)
            have HB13 := Go.Lib.hid hb13
            (try simp only [Nat.zero_add, List.nil_append] at hown13)
            have HO13 := Go.Lib.hid hown13
            have HR14 := Go.Lib.hid (rd_intz w13 3 (z := (n : Int) + 9) (k := n + 9) (by omega))
            clear hown13 hkp13 hlie13 hb13
            (try rw [Nat.zero_add])
            go_wp2_with (at_builtin; go_loud (refine wpList_append_g _ (by rfl) _ _ 33 rfl 3 i1 (.int .i64 0) 1 8 Tryd.underlying33 hi1 hy0 hy1 hy2 rfl (by decide) w12.heap.size A13 q c13 (ints l) rfl (HO13.out.alloc _) (some ⟨w13.heap.size, 0, none⟩) 1 1 (ints [n + 9]) rfl (by simp) HR14.out (ints_one _) (by omega) (by unfold maxLen; omega) (bal HB13.out _).size ?_))
            intro A15 c15 w15 hown15 hkp15 hlie15
            have hb15 : Below w12.heap.size w12 w15 := Kp.below (bal HB13.out _) hkp15 (fun i h => (HO13.out.block_lt i h.symm).1)
            have HB15 := Go.Lib.hid (btr HB12.out hb15)
            have HR15 := Go.Lib.hid (show Rd w15 A15 (ints L2) by
              have h := hown15.rd
              rw [← ints_append] at h
              rw [HL2.out]
              exact h)
            have HR16 := Go.Lib.hid (HR12.out.below hb15)
            clear hown15 hkp15 hlie15 hb15
            go_wp2_with fail
            refine (law_places A12 A15 (q + 1) c12 (q + 1) c15 L2 L2 _ HR16.out HR15.out HL2l.out HL2l.out (by omega) (by omega)).mono ?_
            rintro _ w17 ⟨rfl, hb17⟩
            have HB17 := Go.Lib.hid (btr HB15.out hb17)
            clear hb17
            simp only [decide_true]
            go_wp2_with fail
            refine bodyPost_ret (v := .bool true) (by simp [results, Tryd.results10, go_sem]) rfl ⟨rfl, btr HB5.out HB17.out⟩
          · obtain rfl : z = 56 := by omega
            obtain ⟨xb, hxb, htk⟩ := key_byte m 0 (by omega)
            have HTK := Go.Lib.hid htk
            have HRB := Go.Lib.hid (rd_byte wr 5 (z := (m : Int) / 72057594037927936) (x := xb) (by rw [hxb]; first | (simp; done) | (simp; omega)))
            clear hzj hj hxb htk
            go_wp2_with (at_builtin; go_loud (refine wpList_append_o _ rfl _ _ 32 rfl 5 i0 (.int .u8 0) 1 1 Tryd.underlying32 hi hz0 hz1 hz2 rfl (by decide) w4.heap.size B (n + 1 + 0) d (bs (xs ++ 39 :: (be 8 m).take 0)) rfl (HO.out.alloc _) (some ⟨wr.heap.size, 0, none⟩) 1 1 (bs [xb]) rfl (by simp) HRB.out (bs_one _) (by omega) (by unfold maxLen; omega) (bal HB.out _).size ?_))
            intro A9 c9 w9 hown9 hkp9 hlie9
            have HB9 := Go.Lib.hid (show Below w4.heap.size w4 w9 from Kp.below (bal HB.out _) hkp9 (fun i h => (HO.out.block_lt i h.symm).1))
            rw [← bs_append] at hown9
            have HO9 := Go.Lib.hid hown9
            clear hown9 hkp9 hlie9
            go_wp2_with fail
            go_roundg (9 - (0 + 1))
            case measure => omega
            case rel =>
              refine ⟨0 + 1, 48, A9, c9, by omega, rfl, rfl, rfl, rfl, Go.Lib.hid ?_, HB9⟩
              rw [HTK.out]
              have h := HO9.out
              rw [List.append_assoc, List.cons_append] at h
              exact h
          · obtain rfl : z = 48 := by omega
            obtain ⟨xb, hxb, htk⟩ := key_byte m 1 (by omega)
            have HTK := Go.Lib.hid htk
            have HRB := Go.Lib.hid (rd_byte wr 5 (z := (m : Int) / 281474976710656 % 256) (x := xb) (by rw [hxb]; first | (simp; done) | (simp; omega)))
            clear hzj hj hxb htk
            go_wp2_with (at_builtin; go_loud (refine wpList_append_o _ rfl _ _ 32 rfl 5 i0 (.int .u8 0) 1 1 Tryd.underlying32 hi hz0 hz1 hz2 rfl (by decide) w4.heap.size B (n + 1 + 1) d (bs (xs ++ 39 :: (be 8 m).take 1)) rfl (HO.out.alloc _) (some ⟨wr.heap.size, 0, none⟩) 1 1 (bs [xb]) rfl (by simp) HRB.out (bs_one _) (by omega) (by unfold maxLen; omega) (bal HB.out _).size ?_))
            intro A9 c9 w9 hown9 hkp9 hlie9
            have HB9 := Go.Lib.hid (show Below w4.heap.size w4 w9 from Kp.below (bal HB.out _) hkp9 (fun i h => (HO.out.block_lt i h.symm).1))
            rw [← bs_append] at hown9
            have HO9 := Go.Lib.hid hown9
            clear hown9 hkp9 hlie9
            go_wp2_with fail
            go_roundg (9 - (1 + 1))
            case measure => omega
            case rel =>
              refine ⟨1 + 1, 40, A9, c9, by omega, rfl, rfl, rfl, rfl, Go.Lib.hid ?_, HB9⟩
              rw [HTK.out]
              have h := HO9.out
              rw [List.append_assoc, List.cons_append] at h
              exact h
          · obtain rfl : z = 40 := by omega
            obtain ⟨xb, hxb, htk⟩ := key_byte m 2 (by omega)
            have HTK := Go.Lib.hid htk
            have HRB := Go.Lib.hid (rd_byte wr 5 (z := (m : Int) / 1099511627776 % 256) (x := xb) (by rw [hxb]; first | (simp; done) | (simp; omega)))
            clear hzj hj hxb htk
            go_wp2_with (at_builtin; go_loud (refine wpList_append_o _ rfl _ _ 32 rfl 5 i0 (.int .u8 0) 1 1 Tryd.underlying32 hi hz0 hz1 hz2 rfl (by decide) w4.heap.size B (n + 1 + 2) d (bs (xs ++ 39 :: (be 8 m).take 2)) rfl (HO.out.alloc _) (some ⟨wr.heap.size, 0, none⟩) 1 1 (bs [xb]) rfl (by simp) HRB.out (bs_one _) (by omega) (by unfold maxLen; omega) (bal HB.out _).size ?_))
            intro A9 c9 w9 hown9 hkp9 hlie9
            have HB9 := Go.Lib.hid (show Below w4.heap.size w4 w9 from Kp.below (bal HB.out _) hkp9 (fun i h => (HO.out.block_lt i h.symm).1))
            rw [← bs_append] at hown9
            have HO9 := Go.Lib.hid hown9
            clear hown9 hkp9 hlie9
            go_wp2_with fail
            go_roundg (9 - (2 + 1))
            case measure => omega
            case rel =>
              refine ⟨2 + 1, 32, A9, c9, by omega, rfl, rfl, rfl, rfl, Go.Lib.hid ?_, HB9⟩
              rw [HTK.out]
              have h := HO9.out
              rw [List.append_assoc, List.cons_append] at h
              exact h
          · obtain rfl : z = 32 := by omega
            obtain ⟨xb, hxb, htk⟩ := key_byte m 3 (by omega)
            have HTK := Go.Lib.hid htk
            have HRB := Go.Lib.hid (rd_byte wr 5 (z := (m : Int) / 4294967296 % 256) (x := xb) (by rw [hxb]; first | (simp; done) | (simp; omega)))
            clear hzj hj hxb htk
            go_wp2_with (at_builtin; go_loud (refine wpList_append_o _ rfl _ _ 32 rfl 5 i0 (.int .u8 0) 1 1 Tryd.underlying32 hi hz0 hz1 hz2 rfl (by decide) w4.heap.size B (n + 1 + 3) d (bs (xs ++ 39 :: (be 8 m).take 3)) rfl (HO.out.alloc _) (some ⟨wr.heap.size, 0, none⟩) 1 1 (bs [xb]) rfl (by simp) HRB.out (bs_one _) (by omega) (by unfold maxLen; omega) (bal HB.out _).size ?_))
            intro A9 c9 w9 hown9 hkp9 hlie9
            have HB9 := Go.Lib.hid (show Below w4.heap.size w4 w9 from Kp.below (bal HB.out _) hkp9 (fun i h => (HO.out.block_lt i h.symm).1))
            rw [← bs_append] at hown9
            have HO9 := Go.Lib.hid hown9
            clear hown9 hkp9 hlie9
            go_wp2_with fail
            go_roundg (9 - (3 + 1))
            case measure => omega
            case rel =>
              refine ⟨3 + 1, 24, A9, c9, by omega, rfl, rfl, rfl, rfl, Go.Lib.hid ?_, HB9⟩
              rw [HTK.out]
              have h := HO9.out
              rw [List.append_assoc, List.cons_append] at h
              exact h
          · obtain rfl : z = 24 := by omega
            obtain ⟨xb, hxb, htk⟩ := key_byte m 4 (by omega)
            have HTK := Go.Lib.hid htk
            have HRB := Go.Lib.hid (rd_byte wr 5 (z := (m : Int) / 16777216 % 256) (x := xb) (by rw [hxb]; first | (simp; done) | (simp; omega)))
            clear hzj hj hxb htk
            go_wp2_with (at_builtin; go_loud (refine wpList_append_o _ rfl _ _ 32 rfl 5 i0 (.int .u8 0) 1 1 Tryd.underlying32 hi hz0 hz1 hz2 rfl (by decide) w4.heap.size B (n + 1 + 4) d (bs (xs ++ 39 :: (be 8 m).take 4)) rfl (HO.out.alloc _) (some ⟨wr.heap.size, 0, none⟩) 1 1 (bs [xb]) rfl (by simp) HRB.out (bs_one _) (by omega) (by unfold maxLen; omega) (bal HB.out _).size ?_))
            intro A9 c9 w9 hown9 hkp9 hlie9
            have HB9 := Go.Lib.hid (show Below w4.heap.size w4 w9 from Kp.below (bal HB.out _) hkp9 (fun i h => (HO.out.block_lt i h.symm).1))
            rw [← bs_append] at hown9
            have HO9 := Go.Lib.hid hown9
            clear hown9 hkp9 hlie9
            go_wp2_with fail
            go_roundg (9 - (4 + 1))
            case measure => omega
            case rel =>
              refine ⟨4 + 1, 16, A9, c9, by omega, rfl, rfl, rfl, rfl, Go.Lib.hid ?_, HB9⟩
              rw [HTK.out]
              have h := HO9.out
              rw [List.append_assoc, List.cons_append] at h
              exact h
          · obtain rfl : z = 16 := by omega
            obtain ⟨xb, hxb, htk⟩ := key_byte m 5 (by omega)
            have HTK := Go.Lib.hid htk
            have HRB := Go.Lib.hid (rd_byte wr 5 (z := (m : Int) / 65536 % 256) (x := xb) (by rw [hxb]; first | (simp; done) | (simp; omega)))
            clear hzj hj hxb htk
            go_wp2_with (at_builtin; go_loud (refine wpList_append_o _ rfl _ _ 32 rfl 5 i0 (.int .u8 0) 1 1 Tryd.underlying32 hi hz0 hz1 hz2 rfl (by decide) w4.heap.size B (n + 1 + 5) d (bs (xs ++ 39 :: (be 8 m).take 5)) rfl (HO.out.alloc _) (some ⟨wr.heap.size, 0, none⟩) 1 1 (bs [xb]) rfl (by simp) HRB.out (bs_one _) (by omega) (by unfold maxLen; omega) (bal HB.out _).size ?_))
            intro A9 c9 w9 hown9 hkp9 hlie9
            have HB9 := Go.Lib.hid (show Below w4.heap.size w4 w9 from Kp.below (bal HB.out _) hkp9 (fun i h => (HO.out.block_lt i h.symm).1))
            rw [← bs_append] at hown9
            have HO9 := Go.Lib.hid hown9
            clear hown9 hkp9 hlie9
            go_wp2_with fail
            go_roundg (9 - (5 + 1))
            case measure => omega
            case rel =>
              refine ⟨5 + 1, 8, A9, c9, by omega, rfl, rfl, rfl, rfl, Go.Lib.hid ?_, HB9⟩
              rw [HTK.out]
              have h := HO9.out
              rw [List.append_assoc, List.cons_append] at h
              exact h
          · obtain rfl : z = 8 := by omega
            obtain ⟨xb, hxb, htk⟩ := key_byte m 6 (by omega)
            have HTK := Go.Lib.hid htk
            have HRB := Go.Lib.hid (rd_byte wr 5 (z := (m : Int) / 256 % 256) (x := xb) (by rw [hxb]; first | (simp; done) | (simp; omega)))
            clear hzj hj hxb htk
            go_wp2_with (at_builtin; go_loud (refine wpList_append_o _ rfl _ _ 32 rfl 5 i0 (.int .u8 0) 1 1 Tryd.underlying32 hi hz0 hz1 hz2 rfl (by decide) w4.heap.size B (n + 1 + 6) d (bs (xs ++ 39 :: (be 8 m).take 6)) rfl (HO.out.alloc _) (some ⟨wr.heap.size, 0, none⟩) 1 1 (bs [xb]) rfl (by simp) HRB.out (bs_one _) (by omega) (by unfold maxLen; omega) (bal HB.out _).size ?_))
            intro A9 c9 w9 hown9 hkp9 hlie9
            have HB9 := Go.Lib.hid (show Below w4.heap.size w4 w9 from Kp.below (bal HB.out _) hkp9 (fun i h => (HO.out.block_lt i h.symm).1))
            rw [← bs_append] at hown9
            have HO9 := Go.Lib.hid hown9
            clear hown9 hkp9 hlie9
            go_wp2_with fail
            go_roundg (9 - (6 + 1))
            case measure => omega
            case rel =>
              refine ⟨6 + 1, 0, A9, c9, by omega, rfl, rfl, rfl, rfl, Go.Lib.hid ?_, HB9⟩
              rw [HTK.out]
              have h := HO9.out
              rw [List.append_assoc, List.cons_append] at h
              exact h
          · obtain rfl : z = 0 := by omega
            obtain ⟨xb, hxb, htk⟩ := key_byte m 7 (by omega)
            have HTK := Go.Lib.hid htk
            have HRB := Go.Lib.hid (rd_byte wr 5 (z := (m : Int) % 256) (x := xb) (by rw [hxb]; first | (simp; done) | (simp; omega)))
            clear hzj hj hxb htk
            go_wp2_with (at_builtin; go_loud (refine wpList_append_o _ rfl _ _ 32 rfl 5 i0 (.int .u8 0) 1 1 Tryd.underlying32 hi hz0 hz1 hz2 rfl (by decide) w4.heap.size B (n + 1 + 7) d (bs (xs ++ 39 :: (be 8 m).take 7)) rfl (HO.out.alloc _) (some ⟨wr.heap.size, 0, none⟩) 1 1 (bs [xb]) rfl (by simp) HRB.out (bs_one _) (by omega) (by unfold maxLen; omega) (bal HB.out _).size ?_))
            intro A9 c9 w9 hown9 hkp9 hlie9
            have HB9 := Go.Lib.hid (show Below w4.heap.size w4 w9 from Kp.below (bal HB.out _) hkp9 (fun i h => (HO.out.block_lt i h.symm).1))
            rw [← bs_append] at hown9
            have HO9 := Go.Lib.hid hown9
            clear hown9 hkp9 hlie9
            go_wp2_with fail
            go_roundg (9 - (7 + 1))
            case measure => omega
            case rel =>
              refine ⟨7 + 1, -8, A9, c9, by omega, rfl, rfl, rfl, rfl, Go.Lib.hid ?_, HB9⟩
              rw [HTK.out]
              have h := HO9.out
              rw [List.append_assoc, List.cons_append] at h
              exact h
      · obtain ⟨T, hT⟩ : ∃ T, T = printL xs := ⟨_, rfl⟩
        have hTl : T.length ≠ 0 := by
          rw [hT]
          cases hx : xs with
          | nil => rw [← HN.out, hx] at h0; exact absurd rfl h0
          | cons x ys => intro h; exact printL_ne x ys (List.eq_nil_of_length_eq_zero h)
        have HTT := Go.Lib.hid hT
        have hts : (ByteArray.mk T.toArray).size = T.length := by simp [ByteArray.size]
        have htp : (0 : Int) < (T.length : Int) := by omega
        clear hT h0
        go_enter Tryd.func10, Tryd.ntmps10
        go_wp2_with fail
        refine (op_Marks A n c xs _ HN.out.symm hc (by omega) (by omega) HR.out).mono ?_
        rintro _ w3 ⟨A3, c3, rfl, hown3, hb3⟩
        rw [← HL.out] at hown3 ⊢
        rw [← HQ.out] at hown3 ⊢
        have HR3 := Go.Lib.hid hown3.rd
        have HB3 := Go.Lib.hid hb3
        clear hown3 hb3
        go_wp2_with fail
        refine (op_Print A n c xs _ HN.out.symm hc (by omega) (HR.out.below HB3.out) (HWL.out.below HB3.out)).mono ?_
        rintro _ w4 ⟨rfl, hb4⟩
        have HR4 := Go.Lib.hid (HR3.out.below hb4)
        have HB4 := Go.Lib.hid (btr HB3.out hb4)
        clear hb4
        rw [if_neg HNE.out, ← HTT.out]
        go_wp2_with fail
        refine (law_cutOff A n c xs _ HN.out.symm (by omega) (HR.out.below HB4.out)).mono ?_
        rintro _ w5 ⟨b, rfl, hwh, hb5⟩
        have HB5 := Go.Lib.hid (btr HB4.out hb5)
        have HR5 := Go.Lib.hid (HR4.out.below hb5)
        clear hb5
        cases b with
        | true =>
          clear hwh
          go_wp2_with fail
          refine (law_alive _ (HWL.out.below HB5.out)).mono ?_
          rintro _ w6 ⟨rfl, hb6⟩
          have HB6 := Go.Lib.hid (btr HB5.out hb6)
          clear hb6
          go_wp2_with fail
          refine bodyPost_ret (v := .bool true) (by simp [results, Tryd.results10, go_sem]) rfl ⟨rfl, HB6.out⟩
        | false =>
          have HWH := Go.Lib.hid (hwh rfl)
          clear hwh
          have HRL := Go.Lib.hid (show Rd w5 A3 (ints l) from HR5.out)
          have HML := Go.Lib.hid (longer_marks HWH.out m)
          have HRX := Go.Lib.hid (HR.out.below HB5.out)
          go_wp2_with (at_builtin; go_loud (refine wpList_append_o _ rfl _ _ 32 rfl 5 i0 (.int .u8 0) 1 1 Tryd.underlying32 hi hz0 hz1 hz2 rfl (by decide) w5.heap.size none 0 0 [] rfl (Own.nil _ _ _ _) A n c (bs xs) rfl (by have := HN.out; simp; omega) HRX.out (bs_one _) (by omega) (by unfold maxLen; omega) (Nat.le_refl _) ?_))
          intro A6 c6 w6 hown6 hkp6 hlie6
          have HB6 := Go.Lib.hid (show Below w5.heap.size w5 w6 from Kp.below (Below.refl _ _) hkp6 (fun i h => by simp at h))
          (try simp only [Nat.zero_add, List.nil_append] at hown6)
          have HO6 := Go.Lib.hid hown6
          have HR7 := Go.Lib.hid (rd_byte w6 5 (z := 39) (x := 39) rfl)
          clear hown6 hkp6 hlie6
          (try rw [Nat.zero_add])
          go_wp2_with (at_builtin; go_loud (refine wpList_append_o _ rfl _ _ 32 rfl 5 i0 (.int .u8 0) 1 1 Tryd.underlying32 hi hz0 hz1 hz2 rfl (by decide) w5.heap.size A6 n c6 (bs xs) rfl (HO6.out.alloc _) (some ⟨w6.heap.size, 0, none⟩) 1 1 (bs [39]) rfl (by simp) HR7.out (bs_one _) (by omega) (by unfold maxLen; omega) (bal HB6.out _).size ?_))
          intro A8 c8 w8 hown8 hkp8 hlie8
          have HB8 := Go.Lib.hid (show Below w5.heap.size w5 w8 from Kp.below (bal HB6.out _) hkp8 (fun i h => (HO6.out.block_lt i h.symm).1))
          rw [← bs_append] at hown8
          have HO8 := Go.Lib.hid hown8
          clear hown8 hkp8 hlie8
          go_wp2_with fail
          go_loopg [8, 9] 9 (fun g v8 v9 wr => ∃ (j : Nat) (z : Int) (B : Option Addr) (d : Nat), j ≤ 8 ∧ g = 9 - j ∧ v8 = .slice B (n + 1 + j) d ∧ v9 = .int .i64 z ∧ z = 56 - 8 * (j : Int) ∧ Hid (Own wr w5.heap.size 5 1 B (n + 1 + j) d (bs (xs ++ 39 :: (be 8 m).take j))) ∧ Hid (Below w5.heap.size w5 wr))
          case atStart => exact ⟨0, 56, A8, c8, by omega, rfl, rfl, rfl, rfl, HO8, HB8⟩
          case round =>
            obtain ⟨j, z, B, d, hj, rfl, rfl, rfl, hzj, HO, HB⟩ := hrel
            rcases (show j = 8 ∨ j = 0 ∨ j = 1 ∨ j = 2 ∨ j = 3 ∨ j = 4 ∨ j = 5 ∨ j = 6 ∨ j = 7 by omega) with rfl | rfl | rfl | rfl | rfl | rfl | rfl | rfl | rfl
            · obtain rfl : z = -8 := by omega
              have HO9 := Go.Lib.hid (show Own wr w5.heap.size 5 1 B (n + 9) d (bs (xs ++ 39 :: be 8 m)) by
                have h := HO.out
                rw [List.take_of_length_le (by simp)] at h
                exact h)
              have HR9 := Go.Lib.hid (rd_byte wr 5 (z := 66) (x := 66) rfl)
              clear hzj hj
              go_wp2_with (at_builtin; go_loud (refine wpList_append_o _ rfl _ _ 32 rfl 5 i0 (.int .u8 0) 1 1 Tryd.underlying32 hi hz0 hz1 hz2 rfl (by decide) w5.heap.size B (n + 9) d (bs (xs ++ 39 :: be 8 m)) rfl (HO9.out.alloc _) (some ⟨wr.heap.size, 0, none⟩) 1 1 (bs [66]) rfl (by simp) HR9.out (bs_one _) (by omega) (by unfold maxLen; omega) (bal HB.out _).size ?_))
              intro A10 c10 w10 hown10 hkp10 hlie10
              have HB10 := Go.Lib.hid (show Below w5.heap.size w5 w10 from Kp.below (bal HB.out _) hkp10 (fun i h => (HO9.out.block_lt i h.symm).1))
              rw [← bs_append] at hown10
              have HO10 := Go.Lib.hid hown10
              have hc10 := hown10.cap
              clear hown10 hkp10 hlie10
              obtain ⟨ys, hys⟩ : ∃ ys, ys = xs ++ 39 :: (be 8 m ++ [66]) := ⟨_, rfl⟩
              have HYS := Go.Lib.hid (show n + 10 = ys.length by have := HN.out; rw [hys]; simp; omega)
              have HRY := Go.Lib.hid (show Rd w10 A10 (bs ys) by
                have h := HO10.out.rd
                rw [hys]
                rw [List.append_assoc, List.cons_append] at h
                exact h)
              obtain ⟨L2, hL2⟩ : ∃ L2, L2 = l ++ [n + 9] := ⟨_, rfl⟩
              have HMY := Go.Lib.hid (show marksL ys = L2 by rw [hys, HML.out, hL2, HN.out, HL.out])
              have HL2 := Go.Lib.hid hL2
              have HL2l := Go.Lib.hid (show L2.length = q + 1 by rw [hL2, List.length_append, HQ.out]; rfl)
              clear hys hL2
              go_wp2_with fail
              refine (law_alive _ (HWL.out.below (btr HB5.out HB10.out))).mono ?_
              rintro _ w11 ⟨rfl, hb11⟩
              have HB11 := Go.Lib.hid (btr HB10.out hb11)
              have HRY11 := Go.Lib.hid (HRY.out.below hb11)
              clear hb11
              go_wp2_with fail
              refine (op_Marks A10 (n + 10) c10 ys _ HYS.out hc10.1 hc10.2 (by omega) HRY11.out).mono ?_
              rintro _ w12 ⟨A12, c12, rfl, hown12, hb12⟩
              rw [HMY.out, HL2l.out] at hown12 ⊢
              have HR12 := Go.Lib.hid hown12.rd
              have HB12 := Go.Lib.hid (btr HB11.out hb12)
              have HRL12 := Go.Lib.hid (HRL.out.below (btr HB11.out hb12))
              clear hown12 hb12
              go_wp2_with (at_builtin; go_loud (refine wpList_append_g _ (by rfl) _ _ 33 rfl 3 i1 (.int .i64 0) 1 8 Tryd.underlying33 hi1 hy0 hy1 hy2 rfl (by decide) w12.heap.size none 0 0 [] rfl (Own.nil _ _ _ _) A3 q c3 (ints l) rfl (by have := HQ.out; simp; omega) HRL12.out (ints_one _) (by omega) (by unfold maxLen; omega) (Nat.le_refl _) ?_))
              intro A13 c13 w13 hown13 hkp13 hlie13
              have hb13 : Below w12.heap.size w12 w13 := Kp.below (Below.refl _ _) hkp13 (fun i h => by simp at h)
              have HB13 := Go.Lib.hid hb13
              (try simp only [Nat.zero_add, List.nil_append] at hown13)
              have HO13 := Go.Lib.hid hown13
              have HR14 := Go.Lib.hid (rd_intz w13 3 (z := (n : Int) + 9) (k := n + 9) (by omega))
              clear hown13 hkp13 hlie13 hb13
              (try rw [Nat.zero_add])
              go_wp2_with (at_builtin; go_loud (refine wpList_append_g _ (by rfl) _ _ 33 rfl 3 i1 (.int .i64 0) 1 8 Tryd.underlying33 hi1 hy0 hy1 hy2 rfl (by decide) w12.heap.size A13 q c13 (ints l) rfl (HO13.out.alloc _) (some ⟨w13.heap.size, 0, none⟩) 1 1 (ints [n + 9]) rfl (by simp) HR14.out (ints_one _) (by omega) (by unfold maxLen; omega) (bal HB13.out _).size ?_))
              intro A15 c15 w15 hown15 hkp15 hlie15
              have hb15 : Below w12.heap.size w12 w15 := Kp.below (bal HB13.out _) hkp15 (fun i h => (HO13.out.block_lt i h.symm).1)
              have HB15 := Go.Lib.hid (btr HB12.out hb15)
              have HR15 := Go.Lib.hid (show Rd w15 A15 (ints L2) by
                have h := hown15.rd
                rw [← ints_append] at h
                rw [HL2.out]
                exact h)
              have HR16 := Go.Lib.hid (HR12.out.below hb15)
              clear hown15 hkp15 hlie15 hb15
              go_wp2_with fail
              refine (law_places A12 A15 (q + 1) c12 (q + 1) c15 L2 L2 _ HR16.out HR15.out HL2l.out HL2l.out (by omega) (by omega)).mono ?_
              rintro _ w17 ⟨rfl, hb17⟩
              have HB17 := Go.Lib.hid (btr HB15.out hb17)
              clear hb17
              simp only [decide_true]
              go_wp2_with fail
              refine bodyPost_ret (v := .bool true) (by simp [results, Tryd.results10, go_sem]) rfl ⟨rfl, btr HB5.out HB17.out⟩
            · obtain rfl : z = 56 := by omega
              obtain ⟨xb, hxb, htk⟩ := key_byte m 0 (by omega)
              have HTK := Go.Lib.hid htk
              have HRB := Go.Lib.hid (rd_byte wr 5 (z := (m : Int) / 72057594037927936) (x := xb) (by rw [hxb]; first | (simp; done) | (simp; omega)))
              clear hzj hj hxb htk
              go_wp2_with (at_builtin; go_loud (refine wpList_append_o _ rfl _ _ 32 rfl 5 i0 (.int .u8 0) 1 1 Tryd.underlying32 hi hz0 hz1 hz2 rfl (by decide) w5.heap.size B (n + 1 + 0) d (bs (xs ++ 39 :: (be 8 m).take 0)) rfl (HO.out.alloc _) (some ⟨wr.heap.size, 0, none⟩) 1 1 (bs [xb]) rfl (by simp) HRB.out (bs_one _) (by omega) (by unfold maxLen; omega) (bal HB.out _).size ?_))
              intro A9 c9 w9 hown9 hkp9 hlie9
              have HB9 := Go.Lib.hid (show Below w5.heap.size w5 w9 from Kp.below (bal HB.out _) hkp9 (fun i h => (HO.out.block_lt i h.symm).1))
              rw [← bs_append] at hown9
              have HO9 := Go.Lib.hid hown9
              clear hown9 hkp9 hlie9
              go_wp2_with fail
              go_roundg (9 - (0 + 1))
              case measure => omega
              case rel =>
                refine ⟨0 + 1, 48, A9, c9, by omega, rfl, rfl, rfl, rfl, Go.Lib.hid ?_, HB9⟩
                rw [HTK.out]
                have h := HO9.out
                rw [List.append_assoc, List.cons_append] at h
                exact h
            · obtain rfl : z = 48 := by omega
              obtain ⟨xb, hxb, htk⟩ := key_byte m 1 (by omega)
              have HTK := Go.Lib.hid htk
              have HRB := Go.Lib.hid (rd_byte wr 5 (z := (m : Int) / 281474976710656 % 256) (x := xb) (by rw [hxb]; first | (simp; done) | (simp; omega)))
              clear hzj hj hxb htk
              go_wp2_with (at_builtin; go_loud (refine wpList_append_o _ rfl _ _ 32 rfl 5 i0 (.int .u8 0) 1 1 Tryd.underlying32 hi hz0 hz1 hz2 rfl (by decide) w5.heap.size B (n + 1 + 1) d (bs (xs ++ 39 :: (be 8 m).take 1)) rfl (HO.out.alloc _) (some ⟨wr.heap.size, 0, none⟩) 1 1 (bs [xb]) rfl (by simp) HRB.out (bs_one _) (by omega) (by unfold maxLen; omega) (bal HB.out _).size ?_))
              intro A9 c9 w9 hown9 hkp9 hlie9
              have HB9 := Go.Lib.hid (show Below w5.heap.size w5 w9 from Kp.below (bal HB.out _) hkp9 (fun i h => (HO.out.block_lt i h.symm).1))
              rw [← bs_append] at hown9
              have HO9 := Go.Lib.hid hown9
              clear hown9 hkp9 hlie9
              go_wp2_with fail
              go_roundg (9 - (1 + 1))
              case measure => omega
              case rel =>
                refine ⟨1 + 1, 40, A9, c9, by omega, rfl, rfl, rfl, rfl, Go.Lib.hid ?_, HB9⟩
                rw [HTK.out]
                have h := HO9.out
                rw [List.append_assoc, List.cons_append] at h
                exact h
            · obtain rfl : z = 40 := by omega
              obtain ⟨xb, hxb, htk⟩ := key_byte m 2 (by omega)
              have HTK := Go.Lib.hid htk
              have HRB := Go.Lib.hid (rd_byte wr 5 (z := (m : Int) / 1099511627776 % 256) (x := xb) (by rw [hxb]; first | (simp; done) | (simp; omega)))
              clear hzj hj hxb htk
              go_wp2_with (at_builtin; go_loud (refine wpList_append_o _ rfl _ _ 32 rfl 5 i0 (.int .u8 0) 1 1 Tryd.underlying32 hi hz0 hz1 hz2 rfl (by decide) w5.heap.size B (n + 1 + 2) d (bs (xs ++ 39 :: (be 8 m).take 2)) rfl (HO.out.alloc _) (some ⟨wr.heap.size, 0, none⟩) 1 1 (bs [xb]) rfl (by simp) HRB.out (bs_one _) (by omega) (by unfold maxLen; omega) (bal HB.out _).size ?_))
              intro A9 c9 w9 hown9 hkp9 hlie9
              have HB9 := Go.Lib.hid (show Below w5.heap.size w5 w9 from Kp.below (bal HB.out _) hkp9 (fun i h => (HO.out.block_lt i h.symm).1))
              rw [← bs_append] at hown9
              have HO9 := Go.Lib.hid hown9
              clear hown9 hkp9 hlie9
              go_wp2_with fail
              go_roundg (9 - (2 + 1))
              case measure => omega
              case rel =>
                refine ⟨2 + 1, 32, A9, c9, by omega, rfl, rfl, rfl, rfl, Go.Lib.hid ?_, HB9⟩
                rw [HTK.out]
                have h := HO9.out
                rw [List.append_assoc, List.cons_append] at h
                exact h
            · obtain rfl : z = 32 := by omega
              obtain ⟨xb, hxb, htk⟩ := key_byte m 3 (by omega)
              have HTK := Go.Lib.hid htk
              have HRB := Go.Lib.hid (rd_byte wr 5 (z := (m : Int) / 4294967296 % 256) (x := xb) (by rw [hxb]; first | (simp; done) | (simp; omega)))
              clear hzj hj hxb htk
              go_wp2_with (at_builtin; go_loud (refine wpList_append_o _ rfl _ _ 32 rfl 5 i0 (.int .u8 0) 1 1 Tryd.underlying32 hi hz0 hz1 hz2 rfl (by decide) w5.heap.size B (n + 1 + 3) d (bs (xs ++ 39 :: (be 8 m).take 3)) rfl (HO.out.alloc _) (some ⟨wr.heap.size, 0, none⟩) 1 1 (bs [xb]) rfl (by simp) HRB.out (bs_one _) (by omega) (by unfold maxLen; omega) (bal HB.out _).size ?_))
              intro A9 c9 w9 hown9 hkp9 hlie9
              have HB9 := Go.Lib.hid (show Below w5.heap.size w5 w9 from Kp.below (bal HB.out _) hkp9 (fun i h => (HO.out.block_lt i h.symm).1))
              rw [← bs_append] at hown9
              have HO9 := Go.Lib.hid hown9
              clear hown9 hkp9 hlie9
              go_wp2_with fail
              go_roundg (9 - (3 + 1))
              case measure => omega
              case rel =>
                refine ⟨3 + 1, 24, A9, c9, by omega, rfl, rfl, rfl, rfl, Go.Lib.hid ?_, HB9⟩
                rw [HTK.out]
                have h := HO9.out
                rw [List.append_assoc, List.cons_append] at h
                exact h
            · obtain rfl : z = 24 := by omega
              obtain ⟨xb, hxb, htk⟩ := key_byte m 4 (by omega)
              have HTK := Go.Lib.hid htk
              have HRB := Go.Lib.hid (rd_byte wr 5 (z := (m : Int) / 16777216 % 256) (x := xb) (by rw [hxb]; first | (simp; done) | (simp; omega)))
              clear hzj hj hxb htk
              go_wp2_with (at_builtin; go_loud (refine wpList_append_o _ rfl _ _ 32 rfl 5 i0 (.int .u8 0) 1 1 Tryd.underlying32 hi hz0 hz1 hz2 rfl (by decide) w5.heap.size B (n + 1 + 4) d (bs (xs ++ 39 :: (be 8 m).take 4)) rfl (HO.out.alloc _) (some ⟨wr.heap.size, 0, none⟩) 1 1 (bs [xb]) rfl (by simp) HRB.out (bs_one _) (by omega) (by unfold maxLen; omega) (bal HB.out _).size ?_))
              intro A9 c9 w9 hown9 hkp9 hlie9
              have HB9 := Go.Lib.hid (show Below w5.heap.size w5 w9 from Kp.below (bal HB.out _) hkp9 (fun i h => (HO.out.block_lt i h.symm).1))
              rw [← bs_append] at hown9
              have HO9 := Go.Lib.hid hown9
              clear hown9 hkp9 hlie9
              go_wp2_with fail
              go_roundg (9 - (4 + 1))
              case measure => omega
              case rel =>
                refine ⟨4 + 1, 16, A9, c9, by omega, rfl, rfl, rfl, rfl, Go.Lib.hid ?_, HB9⟩
                rw [HTK.out]
                have h := HO9.out
                rw [List.append_assoc, List.cons_append] at h
                exact h
            · obtain rfl : z = 16 := by omega
              obtain ⟨xb, hxb, htk⟩ := key_byte m 5 (by omega)
              have HTK := Go.Lib.hid htk
              have HRB := Go.Lib.hid (rd_byte wr 5 (z := (m : Int) / 65536 % 256) (x := xb) (by rw [hxb]; first | (simp; done) | (simp; omega)))
              clear hzj hj hxb htk
              go_wp2_with (at_builtin; go_loud (refine wpList_append_o _ rfl _ _ 32 rfl 5 i0 (.int .u8 0) 1 1 Tryd.underlying32 hi hz0 hz1 hz2 rfl (by decide) w5.heap.size B (n + 1 + 5) d (bs (xs ++ 39 :: (be 8 m).take 5)) rfl (HO.out.alloc _) (some ⟨wr.heap.size, 0, none⟩) 1 1 (bs [xb]) rfl (by simp) HRB.out (bs_one _) (by omega) (by unfold maxLen; omega) (bal HB.out _).size ?_))
              intro A9 c9 w9 hown9 hkp9 hlie9
              have HB9 := Go.Lib.hid (show Below w5.heap.size w5 w9 from Kp.below (bal HB.out _) hkp9 (fun i h => (HO.out.block_lt i h.symm).1))
              rw [← bs_append] at hown9
              have HO9 := Go.Lib.hid hown9
              clear hown9 hkp9 hlie9
              go_wp2_with fail
              go_roundg (9 - (5 + 1))
              case measure => omega
              case rel =>
                refine ⟨5 + 1, 8, A9, c9, by omega, rfl, rfl, rfl, rfl, Go.Lib.hid ?_, HB9⟩
                rw [HTK.out]
                have h := HO9.out
                rw [List.append_assoc, List.cons_append] at h
                exact h
            · obtain rfl : z = 8 := by omega
              obtain ⟨xb, hxb, htk⟩ := key_byte m 6 (by omega)
              have HTK := Go.Lib.hid htk
              have HRB := Go.Lib.hid (rd_byte wr 5 (z := (m : Int) / 256 % 256) (x := xb) (by rw [hxb]; first | (simp; done) | (simp; omega)))
              clear hzj hj hxb htk
              go_wp2_with (at_builtin; go_loud (refine wpList_append_o _ rfl _ _ 32 rfl 5 i0 (.int .u8 0) 1 1 Tryd.underlying32 hi hz0 hz1 hz2 rfl (by decide) w5.heap.size B (n + 1 + 6) d (bs (xs ++ 39 :: (be 8 m).take 6)) rfl (HO.out.alloc _) (some ⟨wr.heap.size, 0, none⟩) 1 1 (bs [xb]) rfl (by simp) HRB.out (bs_one _) (by omega) (by unfold maxLen; omega) (bal HB.out _).size ?_))
              intro A9 c9 w9 hown9 hkp9 hlie9
              have HB9 := Go.Lib.hid (show Below w5.heap.size w5 w9 from Kp.below (bal HB.out _) hkp9 (fun i h => (HO.out.block_lt i h.symm).1))
              rw [← bs_append] at hown9
              have HO9 := Go.Lib.hid hown9
              clear hown9 hkp9 hlie9
              go_wp2_with fail
              go_roundg (9 - (6 + 1))
              case measure => omega
              case rel =>
                refine ⟨6 + 1, 0, A9, c9, by omega, rfl, rfl, rfl, rfl, Go.Lib.hid ?_, HB9⟩
                rw [HTK.out]
                have h := HO9.out
                rw [List.append_assoc, List.cons_append] at h
                exact h
            · obtain rfl : z = 0 := by omega
              obtain ⟨xb, hxb, htk⟩ := key_byte m 7 (by omega)
              have HTK := Go.Lib.hid htk
              have HRB := Go.Lib.hid (rd_byte wr 5 (z := (m : Int) % 256) (x := xb) (by rw [hxb]; first | (simp; done) | (simp; omega)))
              clear hzj hj hxb htk
              go_wp2_with (at_builtin; go_loud (refine wpList_append_o _ rfl _ _ 32 rfl 5 i0 (.int .u8 0) 1 1 Tryd.underlying32 hi hz0 hz1 hz2 rfl (by decide) w5.heap.size B (n + 1 + 7) d (bs (xs ++ 39 :: (be 8 m).take 7)) rfl (HO.out.alloc _) (some ⟨wr.heap.size, 0, none⟩) 1 1 (bs [xb]) rfl (by simp) HRB.out (bs_one _) (by omega) (by unfold maxLen; omega) (bal HB.out _).size ?_))
              intro A9 c9 w9 hown9 hkp9 hlie9
              have HB9 := Go.Lib.hid (show Below w5.heap.size w5 w9 from Kp.below (bal HB.out _) hkp9 (fun i h => (HO.out.block_lt i h.symm).1))
              rw [← bs_append] at hown9
              have HO9 := Go.Lib.hid hown9
              clear hown9 hkp9 hlie9
              go_wp2_with fail
              go_roundg (9 - (7 + 1))
              case measure => omega
              case rel =>
                refine ⟨7 + 1, -8, A9, c9, by omega, rfl, rfl, rfl, rfl, Go.Lib.hid ?_, HB9⟩
                rw [HTK.out]
                have h := HO9.out
                rw [List.append_assoc, List.cons_append] at h
                exact h

end Go.Proofs.YtlbiahpajcfcfaaDoor
