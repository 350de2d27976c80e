/- OpcodeAssembles: the walk. -/
import Derived.Test.YtlbiahpajcfcfaaDoorOpRAsm
namespace Go.Proofs.YtlbiahpajcfcfaaDoor
open Go.ChangeShapes Go.WideShapes Go.ChangeAt Go.RowKit
set_option linter.unusedVariables false
set_option maxRecDepth 100000
attribute [local go_sem ↓] Go.wp_at_zero Go.wp_at_succ

set_option maxHeartbeats 4000000 in
theorem assembles_walk (w : World) (hw : WL w) (l : List UInt8) (hz : l.length ≤ 1048576) : Calls Tryd.prog 5 #[.string ⟨l.toArray⟩] w fun r w' => r = .returned (.bool true) ∧ Below w.heap.size w w' := by
  have HWL := Go.Lib.hid hw
  obtain ⟨xs, pt, e, ht⟩ : ∃ xs pt e, asmT l = (xs, pt, e) := ⟨_, _, _, rfl⟩
  have HT := Go.Lib.hid ht
  clear hw ht
  go_enter Tryd.func5, Tryd.ntmps5
  go_wp2_with fail
  refine (op_Assemble l (by omega) _ HWL.out).mono ?_
  rintro _ w2 ⟨A2, c2, rfl, hown2, hb2⟩
  rw [HT.out] at hown2 ⊢
  have HR2 := Go.Lib.hid hown2.rd
  have HB2 := Go.Lib.hid hb2
  clear hown2 hb2
  go_wp2_with fail
  refine (ref_Assemble l (by omega) _).mono ?_
  rintro _ w3 ⟨A3, c3, rfl, hown3, hb3⟩
  rw [HT.out] at hown3 ⊢
  have HR3 := Go.Lib.hid hown3.rd
  have HR23 := Go.Lib.hid (HR2.out.below hb3)
  have HB3 := Go.Lib.hid (btr HB2.out hb3)
  clear hown3 hb3
  go_wp2_with fail
  refine (law_alive _ (HWL.out.below HB3.out)).mono ?_
  rintro _ w4 ⟨rfl, hb4⟩
  have HR24 := Go.Lib.hid (HR23.out.below hb4)
  have HR34 := Go.Lib.hid (HR3.out.below hb4)
  have HB4 := Go.Lib.hid (btr HB3.out hb4)
  clear hb4
  go_wp2_with fail
  refine (law_same A2 A3 xs.length c2 xs.length c3 xs xs _ HR24.out HR34.out rfl rfl).mono ?_
  rintro _ _ ⟨rfl, rfl⟩
  rw [beq_self_eq_true]
  go_wp2_with fail
  refine bodyPost_ret (v := .bool true) (by simp [results, Tryd.results5, go_sem]) rfl ⟨rfl, HB4.out⟩

end Go.Proofs.YtlbiahpajcfcfaaDoor
