/- opcode.wide. -/
import Derived.Test.YtlbiahpajcfcfaaDoorOpSimple
namespace Go.Proofs.YtlbiahpajcfcfaaDoor
open Go.ChangeShapes Go.WideShapes Go.ChangeAt Go.RowKit
set_option linter.unusedVariables false
set_option maxRecDepth 100000
attribute [local go_sem ↓] Go.wp_at_zero Go.wp_at_succ

theorem hasPrefix_push (l : List UInt8) : Lib.hasPrefix l pushW = decide (l.take 4 = pushW) := by
  unfold Lib.hasPrefix
  rw [Bool.eq_iff_iff, List.isPrefixOf_iff_prefix, decide_eq_true_iff, List.prefix_iff_eq_take]
  exact eq_comm
theorem cut_push (l : List UInt8) (w : World) : Calls Tryd.prog 38 #[.string ⟨l.toArray⟩, .string ⟨#[112, 117, 115, 104]⟩] w fun e w' => e = .returned (.tuple #[.string ⟨(if l.take 4 = pushW then l.drop 4 else l).toArray⟩, .bool (decide (l.take 4 = pushW))]) ∧ w' = w := by
  refine (Tryd.strings_CutPrefix _ _ w).mono ?_
  rintro r w' ⟨rfl, rfl⟩
  refine ⟨?_, rfl⟩
  show Ending.returned (.tuple #[.string ⟨(Lib.trimPrefix l pushW).toArray⟩, .bool (Lib.hasPrefix l pushW)]) = _
  rw [hasPrefix_push]
  unfold Lib.trimPrefix
  rw [hasPrefix_push]
  by_cases h : l.take 4 = pushW
  · simp [h, pushW]
  · simp [h]
theorem parse_list (l : List UInt8) (hz : l.length ≤ 140737488351232) (w : World) (hw : WL w) : Calls Tryd.prog 30 #[.string ⟨l.toArray⟩] w fun e w' => e = .returned (oW (parW l)) ∧ Below w.heap.size w w' :=
  words_Parse ⟨l.toArray⟩ (by simpa [ByteArray.size] using hz) w hw

def WideP (l : List UInt8) (w : World) (r : Ending) (w' : World) : Prop := r = .returned (.tuple #[.int .i64 (((wideG l).getD 0 : Nat) : Int), .bool (wideG l).isSome]) ∧ Below w.heap.size w w'

set_option maxHeartbeats 4000000 in
theorem op_wide (l : List UInt8) (hz : l.length ≤ 140737488351232) (w : World) (hw : WL w) : Calls Tryd.prog 29 #[.string ⟨l.toArray⟩] w (WideP l w) := by
  have HW := Go.Lib.hid hw
  clear hw
  by_cases hp : l.take 4 = pushW
  · obtain ⟨k, hk⟩ : ∃ k, k = l.drop 4 := ⟨_, rfl⟩
    have e1 : (if l.take 4 = pushW then l.drop 4 else l) = k := by rw [if_pos hp, hk]
    have e2 : decide (l.take 4 = pushW) = true := decide_eq_true hp
    have h4 : 4 ≤ l.length := by
      have := congrArg List.length hp
      simp [pushW] at this
      omega
    have hkl : k.length = l.length - 4 := by rw [hk]; simp
    have hkz : k.length ≤ 140737488351232 := by omega
    by_cases h0 : k = []
    · have e3 : wideG l = some 0 := by
        unfold wideG
        rw [if_pos hp, if_pos (by rw [h0] at hkl; simp at hkl; omega)]
      have HE := Go.Lib.hid e3
      have e4 : k = [] := h0
      clear e3 hp h4 hkl hkz hk h0
      go_enter Tryd.func29, Tryd.ntmps29
      go_wp2_with (go_at_call 38; refine (cut_push l _).mono ?_; rintro _ _ ⟨rfl, rfl⟩; rw [e1, e2, e4])
      refine bodyPost_ret (v := .tuple #[.int .i64 0, .bool true]) (by simp [results, Tryd.results29, go_sem]) rfl ⟨by rw [HE.out]; rfl, Below.refl _ _⟩
    · have h0b : (k == []) = false := by simpa using h0
      have e3 : wideG l = (parW k).bind fun n => if n < 1 ∨ 8 < n then none else some n := by
        unfold wideG
        rw [if_pos hp, if_neg (by intro h; apply h0; exact List.eq_nil_of_length_eq_zero (by omega)), hk]
      have HE := Go.Lib.hid e3
      clear e3 hp h4 hkl hk h0
      cases hpk : parW k with
      | none =>
        have HP := Go.Lib.hid hpk
        go_enter Tryd.func29, Tryd.ntmps29
        go_wp2_with (first | (go_at_call 38; refine (cut_push l _).mono ?_; rintro _ _ ⟨rfl, rfl⟩; rw [e1, e2]) | (go_at_call 30; refine (parse_list k hkz _ HW.out).mono ?_; rintro _ w3 ⟨rfl, hb3⟩; rw [hpk]; have HB := Go.Lib.hid hb3; clear hb3; simp only [oW]))
        refine bodyPost_ret (v := .tuple #[.int .i64 0, .bool false]) (by simp [results, Tryd.results29, go_sem]) rfl ⟨by rw [HE.out, HP.out]; rfl, HB.out⟩
      | some v =>
        have HP := Go.Lib.hid hpk
        by_cases hv1 : v < 1
        · have hq1 : (v : Int) < 1 := by omega
          have HV := Go.Lib.hid hv1
          clear hv1
          go_enter Tryd.func29, Tryd.ntmps29
          go_wp2_with (first | (go_at_call 38; refine (cut_push l _).mono ?_; rintro _ _ ⟨rfl, rfl⟩; rw [e1, e2]) | (go_at_call 30; refine (parse_list k hkz _ HW.out).mono ?_; rintro _ w3 ⟨rfl, hb3⟩; rw [hpk]; have HB := Go.Lib.hid hb3; clear hb3; simp only [oW]))
          refine bodyPost_ret (v := .tuple #[.int .i64 0, .bool false]) (by simp [results, Tryd.results29, go_sem]) rfl ⟨by rw [HE.out, HP.out]; simp only [Option.bind_some]; rw [if_pos (Or.inl HV.out)]; rfl, HB.out⟩
        · by_cases hv8 : 8 < v
          · have hq1 : ¬ ((v : Int) < 1) := by omega
            have hq2 : (8 : Int) < (v : Int) := by omega
            have HV := Go.Lib.hid hv8
            clear hv1 hv8
            go_enter Tryd.func29, Tryd.ntmps29
            go_wp2_with (first | (go_at_call 38; refine (cut_push l _).mono ?_; rintro _ _ ⟨rfl, rfl⟩; rw [e1, e2]) | (go_at_call 30; refine (parse_list k hkz _ HW.out).mono ?_; rintro _ w3 ⟨rfl, hb3⟩; rw [hpk]; have HB := Go.Lib.hid hb3; clear hb3; simp only [oW]))
            refine bodyPost_ret (v := .tuple #[.int .i64 0, .bool false]) (by simp [results, Tryd.results29, go_sem]) rfl ⟨by rw [HE.out, HP.out]; simp only [Option.bind_some]; rw [if_pos (Or.inr HV.out)]; rfl, HB.out⟩
          · have hq1 : ¬ ((v : Int) < 1) := by omega
            have hq2 : ¬ (8 : Int) < (v : Int) := by omega
            have HV := Go.Lib.hid (show ¬ (v < 1 ∨ 8 < v) by omega)
            clear hv1 hv8
            go_enter Tryd.func29, Tryd.ntmps29
            go_wp2_with (first | (go_at_call 38; refine (cut_push l _).mono ?_; rintro _ _ ⟨rfl, rfl⟩; rw [e1, e2]) | (go_at_call 30; refine (parse_list k hkz _ HW.out).mono ?_; rintro _ w3 ⟨rfl, hb3⟩; rw [hpk]; have HB := Go.Lib.hid hb3; clear hb3; simp only [oW]))
            refine bodyPost_ret (v := .tuple #[.int .i64 (v : Int), .bool true]) (by simp [results, Tryd.results29, go_sem]) rfl ⟨by rw [HE.out, HP.out]; simp only [Option.bind_some]; rw [if_neg HV.out]; rfl, HB.out⟩
  · have e1 : (if l.take 4 = pushW then l.drop 4 else l) = l := if_neg hp
    have e2 : decide (l.take 4 = pushW) = false := decide_eq_false hp
    have HE := Go.Lib.hid (show wideG l = none by unfold wideG; rw [if_neg hp])
    clear hp
    by_cases h0 : l = []
    · subst h0
      go_enter Tryd.func29, Tryd.ntmps29
      go_wp2_with (go_at_call 38; refine (cut_push [] _).mono ?_; rintro _ _ ⟨rfl, rfl⟩; rw [e1, e2])
      refine bodyPost_ret (v := .tuple #[.int .i64 0, .bool false]) (by simp [results, Tryd.results29, go_sem]) rfl ⟨by rw [HE.out]; rfl, Below.refl _ _⟩
    · have h0b : (l == []) = false := by simpa using h0
      clear h0
      go_enter Tryd.func29, Tryd.ntmps29
      go_wp2_with (go_at_call 38; refine (cut_push l _).mono ?_; rintro _ _ ⟨rfl, rfl⟩; rw [e1, e2])
      refine bodyPost_ret (v := .tuple #[.int .i64 0, .bool false]) (by simp [results, Tryd.results29, go_sem]) rfl ⟨by rw [HE.out]; rfl, Below.refl _ _⟩

end Go.Proofs.YtlbiahpajcfcfaaDoor
