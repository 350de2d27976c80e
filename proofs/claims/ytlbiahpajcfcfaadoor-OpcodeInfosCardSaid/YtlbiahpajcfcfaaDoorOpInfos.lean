/- OpcodeInfos: the walk. -/
import Derived.Test.YtlbiahpajcfcfaaDoorOpAlive
import Derived.Test.YtlbiahpajcfcfaaDoorOpRefOf
namespace Go.Proofs.YtlbiahpajcfcfaaDoor
open Go.ChangeShapes Go.WideShapes Go.ChangeAt Go.RowKit
set_option linter.unusedVariables false
set_option maxRecDepth 100000
attribute [local go_sem ↓] Go.wp_at_zero Go.wp_at_succ

set_option maxHeartbeats 8000000 in
theorem infos_walk (op : Nat) (hop : op < 256) (w : World) (hw : WL w) : Calls Tryd.prog 3 #[.int .u8 (op : Int)] w fun r w' => r = .returned (.bool true) ∧ Below w.heap.size w w' := by
  have HWL := Go.Lib.hid hw
  obtain ⟨b, hb⟩ : ∃ b, b = (ofI op).isSome := ⟨_, rfl⟩
  obtain ⟨i, hi⟩ : ∃ i, i = ofG op := ⟨_, rfl⟩
  have HBI := Go.Lib.hid (And.intro hb hi)
  clear hw hb hi
  go_enter Tryd.func3, Tryd.ntmps3
  go_wp2_with (first | (go_at_call 11; refine (op_Of op _ hop).mono ?_; rintro _ w1 ⟨rfl, hb1⟩; rw [← HBI.out.1, ← HBI.out.2]; have HB1 := Go.Lib.hid hb1; clear hb1) | (go_at_call 12; refine (ref_Of op _ hop).mono ?_; rintro _ w2 ⟨rfl, hb2⟩; rw [← HBI.out.1, ← HBI.out.2]; have HX2 := Go.Lib.hid (box_keep (Go.heap_alloc_new w1 _) hb2); have HB2 := Go.Lib.hid (btr (bal HB1.out _) hb2); have hl2 := (Array.getElem?_eq_some_iff.1 HX2.out).1; clear hb2) | (go_at_call 13; refine (law_alive _ (HWL.out.below (bal HB2.out _))).mono ?_; rintro _ w4 ⟨rfl, hb4⟩; have HX4 := Go.Lib.hid (box_keep ((Below.heap_alloc w2 _ _ hl2).trans HX2.out) hb4); have HY4 := Go.Lib.hid (box_keep (Go.heap_alloc_new w2 _) hb4); have HB4 := Go.Lib.hid (btr (bal HB2.out _) hb4); clear hb4; obtain ⟨x0, x1, x2, x3, x4, xf⟩ := cells5 HX4.out; obtain ⟨y0, y1, y2, y3, y4, yf⟩ := cells5 HY4.out))
  refine bodyPost_ret (v := .bool true) (by simp [results, Tryd.results3, go_sem]) rfl ⟨rfl, HB4.out⟩

end Go.Proofs.YtlbiahpajcfcfaaDoor
