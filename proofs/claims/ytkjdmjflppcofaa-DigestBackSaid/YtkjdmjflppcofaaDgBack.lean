/- DigestBack: the walk. -/
import Derived.Test.YtkjdmjflppcofaaDgPar
namespace Go.Proofs.Ytkjdmjflppcofaa
open Go.ChangeShapes Go.WideShapes Go.ChangeAt Go.RowKit
set_option linter.unusedVariables false

set_option maxHeartbeats 4000000 in
theorem back_walk (f : Nat → Int) (hf : ∀ i, 0 ≤ f i ∧ f i ≤ 255) (s : ByteArray) (hm : s.size ≤ 140737488351232) (w : World) :
    Calls Try.prog 6 #[.agg (dA f), .string s] w fun e w' => e = .returned (.bool true) ∧ Below w.heap.size w w' := by
  have HF := Go.Lib.hid hf
  have HM := Go.Lib.hid hm
  have HP := Go.Lib.hid (print_parse s)
  clear hf hm
  go_enter Try.func6, Try.ntmps6
  go_wp2_with fail
  refine (digest_Print f HF.out _).mono ?_
  rintro e w1 ⟨rfl, hb1⟩
  have hs1 : w.heap.size < w1.heap.size := by have := hb1.size; simp at this; omega
  have r1 : rowOf w1 w.heap.size = some (dA f) := by rw [rowOf_below hb1 (by simp), rowOf_new]
  go_wp2_with fail
  refine (parse_print f HF.out _).mono ?_
  rintro e w2 ⟨rfl, hb2⟩
  have hs2 : w.heap.size < w2.heap.size := by have := hb2.size; omega
  have r2 : rowOf w2 w.heap.size = some (dA f) := by rw [rowOf_below hb2 hs1, r1]
  go_wp2_with fail
  refine (law_alive _).mono ?_
  rintro e w3 ⟨rfl, hb3⟩
  have hs3 : w.heap.size < w3.heap.size := by have := hb3.size; simp at this; omega
  have hs4 : w2.heap.size < w3.heap.size := by have := hb3.size; simp at this; omega
  have r3 : rowOf w3 w.heap.size = some (dA f) := by rw [rowOf_below hb3 (by simp; omega), rowOf_old _ _ _ hs2, r2]
  have r4 : rowOf w3 w2.heap.size = some (dA f) := by rw [rowOf_below hb3 (by simp), rowOf_new]
  go_wp2_with fail
  refine (digest_Parse s _ HM.out).mono ?_
  rintro e w4 ⟨rfl, hb4⟩
  cases hpb : parB s with
  | false =>
    go_wp2_with fail
    go_ret
    exact ⟨rfl, bal (btr (btr (bal (btr (btr (bal (Below.refl _ _) _) hb1) hb2) _) hb3) hb4) _⟩
  | true =>
    have he := HP.out hpb
    go_wp2_with fail
    refine (digest_Print (parG s) (parG_bd s) _).mono ?_
    rintro e w5 ⟨rfl, hb5⟩
    rw [he]
    go_wp2_with fail
    go_ret
    exact ⟨rfl, btr (bal (btr (btr (bal (btr (btr (bal (Below.refl _ _) _) hb1) hb2) _) hb3) hb4) _) hb5⟩

end Go.Proofs.Ytkjdmjflppcofaa
