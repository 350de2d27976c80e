/- The program's Bytes of a word. -/
import Derived.Test.YtlbiahpajcfcfaaDoorWdKey
namespace Go.Proofs.YtlbiahpajcfcfaaDoor
open Go.ChangeShapes Go.WideShapes Go.ChangeAt Go.RowKit
set_option linter.unusedVariables false
set_option maxRecDepth 100000

set_option maxHeartbeats 1000000 in
set_option maxRecDepth 100000 in
theorem words_Bytes (n : Nat) (w : World) :
    Calls Tryd.prog 47 #[.int .u64 (n : Int)] w fun r w' => ∃ A m c, r = .returned (.slice A m c) ∧ m = (wbytes n).length ∧ Own w' w.heap.size 5 1 A m c (bs (wbytes n)) ∧ Below w.heap.size w w' := by
  obtain ⟨i0, hi, hz0, hz1, hz2⟩ := info_parts wd_u8
  obtain ⟨K, hK⟩ : ∃ K, K = be 8 n := ⟨_, rfl⟩
  have HK := Go.Lib.hid hK
  clear hK
  go_enter Tryd.func47, Tryd.ntmps47
  go_wp2_with (go_at_call 56; refine (words_Key n _).mono ?_; rintro r w1 ⟨A1, rfl, hown1, hb1⟩; rw [← HK.out] at hown1; have HO1 := Go.Lib.hid hown1; have HB1 := Go.Lib.hid hb1; clear hown1 hb1)
  go_loopg [3] 9 (fun g v wr => Hid (wr = w1) ∧ ∃ (j : Nat) (A : Option Addr), j ≤ 8 ∧ g = 9 - j ∧ v = .slice A (8 - j : Nat) (8 - j : Nat) ∧ Hid (Own w1 w.heap.size 5 1 A (8 - j) (8 - j) (bs (K.drop j))) ∧ Hid (strip K = strip (K.drop j)))
  case atStart => exact ⟨Go.Lib.hid rfl, 0, A1, by omega, rfl, rfl, HO1, Go.Lib.hid rfl⟩
  case round =>
    obtain ⟨HW, j, A, hj, rfl, rfl, HO, HS⟩ := hrel
    obtain rfl := HW.out
    clear HW
    have hKl : K.length = 8 := by rw [HK.out, be_length]
    have HL := Go.Lib.hid hKl
    clear hKl
    by_cases h8 : j = 8
    · subst h8
      have hst : wbytes n = [] := by rw [wbytes, ← HK.out, HS.out, List.drop_of_length_le (by rw [HL.out]; exact Nat.le_refl _)]; rfl
      have HST := Go.Lib.hid hst
      clear hst
      simp only [Nat.sub_self]
      go_wp2_with (at_builtin; refine wpList_append_o _ rfl _ _ 32 rfl 5 i0 (.int .u8 0) 1 1 Tryd.underlying32 hi hz0 hz1 hz2 rfl (by decide) w.heap.size none 0 0 [] rfl (Own.nil _ _ _ _) A 0 0 [] rfl rfl (Rd.nil _ _) (by simp) (by omega) (by unfold maxLen; omega) HB1.out.size ?_; intro A3 c3 w3 hown3 hk3 hl3; have HO3 := Go.Lib.hid hown3; have HK3 := Go.Lib.hid hk3; clear hown3 hk3 hl3)
      go_ret
      exact ⟨A3, _, c3, rfl, by rw [HST.out]; rfl, by rw [HST.out]; simpa [bs] using HO3.out, Kp.below HB1.out HK3.out (fun i h => by simp at h)⟩
    · have hx : K.drop j = (K.drop j).headD 0 :: K.drop (j + 1) := by
        rw [List.drop_eq_getElem_cons (by rw [HL.out]; omega)]
        rfl
      generalize (K.drop j).headD 0 = x at hx
      obtain ⟨g, off, rfl, hg, hc⟩ := HO.out.rd.at_ (by simp; rw [HL.out]; omega)
      have hc0 := hc 0 (.int .u8 x.toNat) (by rw [hx]; rfl)
      rw [Nat.add_zero] at hc0
      have HX := Go.Lib.hid hx
      clear hc hx
      have hlen : (0 : Int) < ((8 - j : Nat) : Int) := by omega
      by_cases hx0 : x = 0
      · subst hx0
        obtain ⟨A2, HA2, hsl⟩ := slice_from (P := Tryd.prog) 32 Tryd.underlying32 Tryd.sizeOf5 (some ⟨g, off, none⟩) (8 - j) (8 - j) 1 1 rfl (by omega)
        have hz : ((0 : UInt8).toNat : Int) = 0 := rfl
        rw [hz] at hc0
        go_wp2_with fail
        go_roundg (9 - (j + 1))
        case measure => omega
        case rel =>
          refine ⟨Go.Lib.hid rfl, j + 1, A2, by omega, rfl, ?_, Go.Lib.hid ?_, Go.Lib.hid ?_⟩
          · rw [show 8 - (j + 1) = 8 - j - 1 from by omega]
          · have := HO.out.cut 1 (by omega)
            rw [← HA2.out, ← bs_drop, List.drop_drop] at this
            rw [show 8 - (j + 1) = 8 - j - 1 from by omega]
            exact this
          · rw [HS.out, HX.out, strip, if_pos rfl]
      · have hxx : (((x.toNat : Nat) : Int) == 0) = false := by
          rw [beq_eq_false_iff_ne]
          intro h
          exact hx0 (UInt8.toNat_inj.1 (by simpa using h))
        have hst : wbytes n = K.drop j := by rw [wbytes, ← HK.out, HS.out, HX.out, strip, if_neg hx0]
        have HST := Go.Lib.hid hst
        have HLJ : Hid ((K.drop j).length = 8 - j) := Go.Lib.hid (by rw [List.length_drop, HL.out])
        clear hst
        go_wp2_with (at_builtin; refine wpList_append_o _ rfl _ _ 32 rfl 5 i0 (.int .u8 0) 1 1 Tryd.underlying32 hi hz0 hz1 hz2 rfl (by decide) w.heap.size none 0 0 [] rfl (Own.nil _ _ _ _) (some ⟨g, off, none⟩) (8 - j) (8 - j) (bs (K.drop j)) rfl (by have := HLJ.out; simp at this; simp; omega) HO.out.rd (bs_one _) (by omega) (by unfold maxLen; omega) HB1.out.size ?_; intro A3 c3 w3 hown3 hk3 hl3; have HO3 := Go.Lib.hid hown3; have HK3 := Go.Lib.hid hk3; clear hown3 hk3 hl3)
        go_ret
        exact ⟨A3, _, c3, rfl, by rw [HST.out, HLJ.out], by rw [HST.out]; simpa using HO3.out, Kp.below HB1.out HK3.out (fun i h => by simp at h)⟩

end Go.Proofs.YtlbiahpajcfcfaaDoor
