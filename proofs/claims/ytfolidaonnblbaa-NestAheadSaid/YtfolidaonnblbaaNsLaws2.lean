/- NestOnly: the walk. -/
import Derived.Test.YtfolidaonnblbaaNsAlive
import Derived.Test.YtfolidaonnblbaaNsOnlyP
namespace Go.Proofs.Ytfolidaonnblbaa
open Go.ChangeShapes Go.WideShapes Go.RowKit
set_option linter.unusedVariables false

/-- A boxed item, kept. -/
theorem box_keep {w w' : World} {g : Nat} {o : Obj} (h : w.heap[g]? = some o) (hb : Below w.heap.size w w') : w'.heap[g]? = some o := (hb.block g (Array.getElem?_eq_some_iff.1 h).1).trans h

set_option maxHeartbeats 1000000 in
set_option maxRecDepth 100000 in
theorem only_walk (w : World) (A : Option Addr) (n c : Nat) (xs : List UInt8) (hn : xs.length = n) (hnc : n ≤ c) (hr : Rd w A (bs xs)) (hz : c ≤ 140737488351232) :
    Calls Try.prog 12 #[.slice A n c] w fun r w' => r = .returned (.bool true) ∧ Below w.heap.size w w' := by
  have HR := Go.Lib.hid hr
  have HN := Go.Lib.hid hn
  clear hr hn
  go_enter Try.func12, Try.ntmps12
  go_wp2_with fail
  refine (nest_Decode A n c xs _ HR.out HN.out.symm hnc (by omega)).mono ?_
  intro r w1 hp
  cases hq : pDecode xs with
  | error e =>
    rw [hq] at hp
    obtain ⟨rfl, hb1⟩ := hp
    have he : e ≠ 0 := by
      unfold pDecode at hq
      split at hq
      · rename_i h
        cases hq
        have := pFirst_err h
        omega
      · split at hq <;> cases hq
        omega
    have he1 : (e != 0) = true := by rw [bne_iff_ne]; exact he
    have HB1 := Go.Lib.hid hb1
    clear hq hb1 he
    unfold item0
    go_wp2_with fail
    refine (law_alive _).mono ?_
    rintro r w3 ⟨rfl, hb3⟩
    obtain ⟨y0, y1, y2, yf⟩ := cells3 ((hb3.block w1.heap.size (by simp)).trans (Go.heap_alloc_new w1 (.cells #[.bool false, .slice none 0 0, .slice none 0 0] 25)))
    have HB3 := Go.Lib.hid (btr (bal HB1.out _) hb3)
    clear hb3
    go_wp2_with fail
    refine (ref_Same Tree.zero Tree.zero (fun _ => True) (fun _ => True) _ _ _ _ _ _ _ (RdT.zero _ _) (RdT.zero _ _)).mono ?_
    rintro r w4 ⟨rfl, hb4⟩
    rw [sameT_refl]
    go_wp2_with fail
    go_ret
    exact ⟨rfl, btr HB3.out hb4⟩
  | ok t =>
    rw [hq] at hp
    obtain ⟨v0, v1, v2, rfl, ht1, hb1⟩ := hp
    obtain ⟨a1, a2, a3, a4, a5, a6, rfl, rfl, rfl⟩ := ht1.shape
    have henc := decode_encode xs t hq
    have hok : okE t = true := by rw [okE, henc]
    have HE := Go.Lib.hid henc
    have HOK := Go.Lib.hid hok
    have HB1 := Go.Lib.hid hb1
    have HT1 := Go.Lib.hid ht1
    clear hq hb1 ht1 henc hok
    go_wp2_with fail
    refine (nest_Encode t _ _ _ _ _ (HT1.out.below (bal (Below.refl _ _) _))).mono ?_
    intro r w2 hp
    unfold EncP at hp
    rw [HE.out] at hp
    obtain ⟨A2, n2, c2, rfl, hown2, hb2⟩ := hp
    have hx2 := box_keep (Go.heap_alloc_new w1 (.cells #[.bool t.l, .slice a1 a2 a3, .slice a4 a5 a6] 25)) hb2
    have hn2 : xs.length = n2 := by have := hown2.len; simpa using this
    have HO2 := Go.Lib.hid hown2
    have HN2 := Go.Lib.hid hn2
    have HB2 := Go.Lib.hid (btr (bal HB1.out _) hb2)
    have HX2 := Go.Lib.hid hx2
    have HT2 := Go.Lib.hid ((HT1.out.below (bal (Below.refl _ _) _)).below hb2)
    clear hown2 hn2 hb2 hx2
    go_wp2_with fail
    refine (law_alive _).mono ?_
    rintro r w3 ⟨rfl, hb3⟩
    obtain ⟨x0, x1, x2, xf⟩ := cells3 (box_keep HX2.out hb3)
    have HB3 := Go.Lib.hid (btr HB2.out hb3)
    have HT3 := Go.Lib.hid (HT2.out.below hb3)
    have HO3 := Go.Lib.hid (HO2.out.rd.below hb3)
    clear hb3
    go_wp2_with fail
    refine (law_same A A2 n c n2 c2 xs xs _ (HR.out.below HB3.out) HO3.out HN.out HN2.out).mono ?_
    rintro r w4 ⟨rfl, rfl⟩
    rw [beq_self_eq_true]
    go_wp2_with fail
    refine (nest_Right t _ _ _ _ _ HT3.out).mono ?_
    rintro r w5 ⟨rfl, hb5⟩
    rw [HOK.out]
    go_wp2_with fail
    go_ret
    exact ⟨rfl, btr HB3.out hb5⟩

end Go.Proofs.Ytfolidaonnblbaa
