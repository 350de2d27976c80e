/- OpcodeAgain: the walk. -/
import Derived.Test.YtlbiahpajcfcfaaDoorOpBack
namespace Go.Proofs.YtlbiahpajcfcfaaDoor
open Go.ChangeShapes Go.WideShapes Go.ChangeAt Go.RowKit
set_option linter.unusedVariables false
set_option maxRecDepth 100000
attribute [local go_sem ↓] Go.wp_at_zero Go.wp_at_succ

theorem asm_shape : ∀ (n : Nat) (l : List (List UInt8 × Nat)), l.length ≤ n → ∀ (s : Nat) (code : List UInt8), code.length ≤ 256 →
    ((asmL s l code).2.2 = 0 → (asmL s l code).1.length ≤ 256 ∧ (asmL s l code).2.1 = 0) ∧ ((asmL s l code).2.2 ≠ 0 → (asmL s l code).1 = []) := by
  intro n
  induction n with
  | zero =>
    intro l h s code hc
    have : l = [] := List.eq_nil_of_length_eq_zero (by omega)
    subst this
    simp [asmL, hc]
  | succ n ih =>
    intro l h s code hc
    cases l with
    | nil => simp [asmL, hc]
    | cons a l =>
      obtain ⟨w, p⟩ := a
      simp only [List.length_cons] at h
      cases hs : simpleG w with
      | some op =>
        rw [asm_simple hs]
        by_cases hl : code.length + 1 > 256
        · rw [if_pos hl]; simp
        · rw [if_neg hl]
          exact ih l (by omega) s _ (by simp; omega)
      | none =>
        cases ht : takesN w with
        | false => rw [asm_word hs ht]; simp
        | true =>
          cases l with
          | nil => rw [asm_end hs ht]; simp
          | cons a2 l =>
            obtain ⟨v, q⟩ := a2
            simp only [List.length_cons] at h
            cases hn : (parW v).bind (numG w) with
            | none => rw [asm_bad hs ht hn]; simp
            | some b =>
              rw [asm_num hs ht hn]
              by_cases hl : code.length + b.length > 256
              · rw [if_pos hl]; simp
              · rw [if_neg hl]
                exact ih l (by omega) s _ (by simp; omega)
theorem asmT_shape (s : List UInt8) : ((asmT s).2.2 = 0 → (asmT s).1.length ≤ 256 ∧ (asmT s).2.1 = 0) ∧ ((asmT s).2.2 ≠ 0 → (asmT s).1 = []) :=
  asm_shape _ (wordsL s) (Nat.le_refl _) s.length [] (by simp)

set_option maxHeartbeats 4000000 in
theorem again_walk (w : World) (hw : WL w) (l : List UInt8) (hz : l.length ≤ 1048576) : Calls Tryd.prog 8 #[.string ⟨l.toArray⟩] w fun r w' => r = .returned (.bool true) ∧ Below w.heap.size w w' := by
  have HWL := Go.Lib.hid hw
  have hsh := asmT_shape l
  obtain ⟨xs, pt, e, ht⟩ : ∃ xs pt e, asmT l = (xs, pt, e) := ⟨_, _, _, rfl⟩
  rw [ht] at hsh
  have HT := Go.Lib.hid ht
  clear hw ht
  by_cases he : e = 0
  · subst he
    have hx := (hsh.1 rfl).1
    have HL := Go.Lib.hid (show ¬ xs.length > 256 by simp only at hx; omega)
    have HAP := Go.Lib.hid (asm_print (xs := xs) hx)
    have hpl := printL_len xs
    have HPL := Go.Lib.hid (show (printL xs).length ≤ 1099511627776 by simp only at hx; omega)
    have hx256 : xs.length ≤ 256 := hx
    clear hsh hpl hx
    go_enter Tryd.func8, Tryd.ntmps8
    go_wp2_with fail
    refine (op_Assemble l (by omega) _ HWL.out).mono ?_
    rintro _ w2 ⟨A2, c2, rfl, hown2, hb2⟩
    rw [HT.out] at hown2 ⊢
    have HR2 := Go.Lib.hid hown2.rd
    have HC2 := Go.Lib.hid hown2.cap
    have HB2 := Go.Lib.hid hb2
    clear hown2 hb2
    go_wp2_with fail
    refine (op_Print A2 xs.length c2 xs _ rfl HC2.out.1 HC2.out.2 HR2.out (HWL.out.below HB2.out)).mono ?_
    rintro _ w3 ⟨rfl, hb3⟩
    rw [if_neg HL.out]
    have HR3 := Go.Lib.hid (HR2.out.below hb3)
    have HB3 := Go.Lib.hid (btr HB2.out hb3)
    clear hb3
    go_wp2_with fail
    refine (op_Assemble (printL xs) HPL.out _ (HWL.out.below HB3.out)).mono ?_
    rintro _ w4 ⟨A4, c4, rfl, hown4, hb4⟩
    rw [HAP.out] at hown4 ⊢
    have HR34 := Go.Lib.hid (HR3.out.below hb4)
    have HR4 := Go.Lib.hid hown4.rd
    have HC4 := Go.Lib.hid hown4.cap
    have HB4 := Go.Lib.hid (btr HB3.out hb4)
    clear hown4 hb4
    go_wp2_with fail
    refine (op_Print A4 xs.length c4 xs _ rfl HC4.out.1 HC4.out.2 HR4.out (HWL.out.below HB4.out)).mono ?_
    rintro _ w5 ⟨rfl, hb5⟩
    rw [if_neg HL.out]
    have HR35 := Go.Lib.hid (HR34.out.below hb5)
    have HR5 := Go.Lib.hid (HR4.out.below hb5)
    have HB5 := Go.Lib.hid (btr HB4.out hb5)
    clear hb5
    go_wp2_with fail
    refine (law_alive _ (HWL.out.below HB5.out)).mono ?_
    rintro _ w6 ⟨rfl, hb6⟩
    have HR36 := Go.Lib.hid (HR35.out.below hb6)
    have HR6 := Go.Lib.hid (HR5.out.below hb6)
    have HB6 := Go.Lib.hid (btr HB5.out hb6)
    clear hb6
    go_wp2_with fail
    refine (law_same A2 A4 xs.length c2 xs.length c4 xs xs _ HR36.out HR6.out rfl rfl).mono ?_
    rintro _ _ ⟨rfl, rfl⟩
    rw [beq_self_eq_true]
    go_wp2_with fail
    refine bodyPost_ret (v := .bool true) (by simp [results, Tryd.results8, go_sem]) rfl ⟨rfl, HB6.out⟩
  · have hx : xs = [] := hsh.2 he
    have heq : ((e : Int) == 0) = false := beq_eq_false_iff_ne.2 (by omega)
    subst hx
    clear hsh he
    go_enter Tryd.func8, Tryd.ntmps8
    go_wp2_with fail
    refine (op_Assemble l (by omega) _ HWL.out).mono ?_
    rintro _ w2 ⟨A2, c2, rfl, hown2, hb2⟩
    rw [HT.out] at hown2 ⊢
    have HB2 := Go.Lib.hid hb2
    clear hown2 hb2
    go_wp2_with fail
    refine (law_alive _ (HWL.out.below HB2.out)).mono ?_
    rintro _ w6 ⟨rfl, hb6⟩
    have HB6 := Go.Lib.hid (btr HB2.out hb6)
    clear hb6
    go_wp2_with fail
    refine bodyPost_ret (v := .bool true) (by simp [results, Tryd.results8, go_sem]) rfl ⟨rfl, HB6.out⟩

end Go.Proofs.YtlbiahpajcfcfaaDoor
