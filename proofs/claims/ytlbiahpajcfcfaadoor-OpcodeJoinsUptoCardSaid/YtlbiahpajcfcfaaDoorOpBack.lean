/- OpcodeBack: the walk. -/
import Derived.Test.YtlbiahpajcfcfaaDoorOpBackP
import Derived.Test.YtlbiahpajcfcfaaDoorOpAlive
namespace Go.Proofs.YtlbiahpajcfcfaaDoor
open Go.ChangeShapes Go.WideShapes Go.ChangeAt Go.RowKit
set_option linter.unusedVariables false
set_option maxRecDepth 100000
attribute [local go_sem ↓] Go.wp_at_zero Go.wp_at_succ

set_option maxHeartbeats 4000000 in
theorem back_walk (w : World) (hw : WL w) (A : Option Addr) (n c : Nat) (xs : List UInt8) (hn : xs.length = n) (hc : n ≤ c) (hr : Rd w A (bs xs)) (hz : c ≤ 140737488351232) : Calls Tryd.prog 7 #[.slice A n c] w fun r w' => r = .returned (.bool true) ∧ Below w.heap.size w w' := by
  have HWL := Go.Lib.hid hw
  have HR := Go.Lib.hid hr
  have HN := Go.Lib.hid hn
  by_cases hlong : n > 256
  · have hq : (n : Int) > 256 := by omega
    have HL := Go.Lib.hid (show xs.length > 256 by omega)
    clear hw hr hn hlong
    go_enter Tryd.func7, Tryd.ntmps7
    go_wp2_with fail
    refine (op_Print A n c xs _ HN.out.symm hc (by omega) HR.out HWL.out).mono ?_
    rintro _ w3 ⟨rfl, hb3⟩
    rw [if_pos HL.out]
    have HB3 := Go.Lib.hid hb3
    clear hb3
    go_wp2_with fail
    refine (law_alive _ (HWL.out.below HB3.out)).mono ?_
    rintro _ w5 ⟨rfl, hb5⟩
    have HB5 := Go.Lib.hid (btr HB3.out hb5)
    clear hb5
    go_wp2_with fail
    refine bodyPost_ret (v := .bool true) (by simp [results, Tryd.results7, go_sem]) rfl ⟨rfl, HB5.out⟩
  · have HL := Go.Lib.hid (show ¬ xs.length > 256 by omega)
    have HAP := Go.Lib.hid (asm_print (xs := xs) (by omega))
    have hpl := printL_len xs
    have HPL := Go.Lib.hid (show (printL xs).length ≤ 1099511627776 by omega)
    have hn256 : n ≤ 256 := by omega
    clear hw hr hn hlong hpl
    go_enter Tryd.func7, Tryd.ntmps7
    go_wp2_with fail
    refine (op_Print A n c xs _ HN.out.symm hc (by omega) HR.out HWL.out).mono ?_
    rintro _ w3 ⟨rfl, hb3⟩
    rw [if_neg HL.out]
    have HB3 := Go.Lib.hid hb3
    clear hb3
    go_wp2_with fail
    refine (op_Assemble (printL xs) HPL.out _ (HWL.out.below HB3.out)).mono ?_
    rintro _ w4 ⟨A4, c4, rfl, hown4, hb4⟩
    rw [HAP.out] at hown4 ⊢
    have HR4 := Go.Lib.hid hown4.rd
    have HB4 := Go.Lib.hid (btr HB3.out hb4)
    clear hown4 hb4
    go_wp2_with fail
    refine (law_alive _ (HWL.out.below HB4.out)).mono ?_
    rintro _ w5 ⟨rfl, hb5⟩
    have HR5 := Go.Lib.hid (HR4.out.below hb5)
    have HB5 := Go.Lib.hid (btr HB4.out hb5)
    clear hb5
    go_wp2_with fail
    refine (law_same A4 A xs.length c4 n c xs xs _ HR5.out (HR.out.below HB5.out) rfl HN.out).mono ?_
    rintro _ _ ⟨rfl, rfl⟩
    rw [beq_self_eq_true]
    go_wp2_with fail
    refine bodyPost_ret (v := .bool true) (by simp [results, Tryd.results7, go_sem]) rfl ⟨rfl, HB5.out⟩

end Go.Proofs.YtlbiahpajcfcfaaDoor
