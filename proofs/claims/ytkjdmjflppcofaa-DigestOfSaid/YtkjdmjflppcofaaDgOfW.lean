/- DigestOf: the walk. -/
import Derived.Test.YtkjdmjflppcofaaDgPar
import Derived.Test.YtkjdmjflppcofaaDgPad
import Derived.Outline
namespace Go.Proofs.Ytkjdmjflppcofaa
open Go.ChangeShapes Go.WideShapes Go.ChangeAt Go.RowKit
set_option linter.unusedVariables false

set_option maxHeartbeats 4000000 in
theorem of_walk (w : World) (B : Option Addr) (n c : Nat) (xs : List UInt8) (hn : xs.length = n) (hc : n ≤ c) (hr : Rd w B (bs xs)) (hz : c ≤ 140737488351232) :
    Calls Try.prog 4 #[.slice B n c] w fun e w' => e = .returned (.bool true) ∧ Below w.heap.size w w' := by
  subst hn
  have HR := Go.Lib.hid hr
  clear hr
  obtain ⟨i0, hi, hz0, hz1, hz2⟩ := info_parts info_u8
  obtain ⟨z, hzz⟩ : ∃ z, z = digB xs := ⟨_, rfl⟩
  have HZ := Go.Lib.hid hzz
  clear hzz
  go_enter Try.func4, Try.ntmps4
  go_wp2_with (at_builtin; refine wpList_append_o _ rfl _ _ 26 rfl 5 i0 (.int .u8 0) 1 1 Try.underlying26 hi hz0 hz1 hz2 rfl (by decide) w.heap.size _ 0 0 [] rfl (own_empty _ _ _ (Nat.le_refl _)) B xs.length c (bs xs) rfl (by simp) (HR.out.alloc _) (bs_one _) (by omega) (by unfold maxLen; omega) (by simp) ?_)
  intro A1 n1 w1 hown1 hkp1 hlie1
  have HO1 : Hid (Own w1 w.heap.size 5 1 A1 xs.length n1 (bs xs)) := Go.Lib.hid hown1
  have hbel1 : Below w.heap.size w w1 := Kp.below (bal (Below.refl _ _) _) hkp1 (fun i h => by first | omega | (simp at h; omega))
  have HL1 := Go.Lib.hid hbel1
  clear hown1 hkp1 hlie1 hbel1
  go_wp2_with fail
  refine (digest_Of A1 xs.length n1 xs _ rfl HO1.out.rd (by omega)).mono ?_
  rintro e w2 ⟨rfl, hb2⟩
  rw [digV_dA, ← HZ.out]
  have HB2 := Go.Lib.hid hb2
  clear hb2
  have hbw2 : Below w.heap.size w (w2.alloc (.cells (dA z) 28)) := bal (btr HL1.out HB2.out) _
  have hr2 := HR.out.below hbw2
  have ho2 : Rd (w2.alloc (.cells (dA z) 28)) A1 (bs xs) := (HO1.out.rd.below HB2.out).alloc _
  have q2 := eqD_refl z
  go_wp2_with fail
  go_region_with (first
    | (go_at_call 17; refine (law_alive _).mono ?_; rintro e w3 ⟨rfl, hb3⟩; have hs3 : w2.heap.size < w3.heap.size := (by have := hb3.size; simp at this; omega); have r3 : rowOf w3 w2.heap.size = some (dA z) := (by rw [rowOf_below hb3 (by simp), rowOf_drew, rowOf_new]); have hr3 := Rd.below (w := (w2.alloc (.cells (dA z) 28)).drew) hr2 hb3; have ho3 := Rd.below (w := (w2.alloc (.cells (dA z) 28)).drew) ho2 hb3)
    | (go_at_call 18; go_loud (refine (ref_Of B xs.length c xs _ rfl (by exact hr3) (by omega)).mono ?_; rintro e w4 ⟨rfl, hb4⟩; rw [digV_dA, ← HZ.out]; have r4 := rowOf_below hb4 (g := w2.heap.size) (by first | omega | (simp; done) | (simp; omega)); have hr4 := Rd.below (w := w3) hr3 hb4; have ho4 := Rd.below (w := w3) ho3 hb4))
    | (go_at_call 19; refine (ref_Same A1 B xs.length n1 xs.length c xs xs _ (by exact ho4) (by exact hr4) rfl rfl).mono ?_; rintro e w5 ⟨rfl, rfl⟩))
  all_goals
    go_wp2
    go_ret
    exact ⟨rfl, btr (bdr hbw2) (btr hb3 hb4)⟩

end Go.Proofs.Ytkjdmjflppcofaa
