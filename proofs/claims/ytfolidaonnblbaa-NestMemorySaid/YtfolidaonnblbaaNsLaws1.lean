/- NestFirsts, NestDecodes: the walks. -/
import Derived.Test.YtfolidaonnblbaaNsAlive
namespace Go.Proofs.Ytfolidaonnblbaa
open Go.ChangeShapes Go.WideShapes Go.RowKit
set_option linter.unusedVariables false

theorem item0_rd (w : World) (P : Nat → Prop) : RdT w P Tree.zero (.bool false) (.slice none 0 0) (.slice none 0 0) := RdT.zero w P

set_option maxHeartbeats 1000000 in
set_option maxRecDepth 100000 in
/-- The law's last line: x and y read as one tree. -/
theorem firsts_walk (w : World) (A : Option Addr) (n c : Nat) (xs : List UInt8) (hn : xs.length = n) (hnc : n ≤ c) (hr : Rd w A (bs xs)) (hz : c ≤ 140737488351232) :
    Calls Try.prog 3 #[.slice A n c] w fun r w' => r = .returned (.bool true) ∧ Below w.heap.size w w' := by
  have HR := Go.Lib.hid hr
  have HN := Go.Lib.hid hn
  clear hr hn
  go_enter Try.func3, Try.ntmps3
  go_wp2_with fail
  refine (nest_First A n c xs _ HR.out HN.out.symm hnc (by omega)).mono ?_
  intro r w1 hp
  cases hq : pFirst xs with
  | error e =>
    rw [hq] at hp
    obtain ⟨rfl, hb1⟩ := hp
    have HQ := Go.Lib.hid hq
    have HB1 := Go.Lib.hid hb1
    clear hq hb1
    unfold item0
    go_wp2_with fail
    refine (ref_First A n c xs _ ((HR.out.below HB1.out).alloc _) HN.out.symm hnc (by omega)).mono ?_
    intro r w2 hp
    rw [HQ.out] at hp
    obtain ⟨rfl, hb2⟩ := hp
    have hb02 : Below w.heap.size w w2 := btr (bal HB1.out _) hb2
    have hx2 := (hb2.block w1.heap.size (by simp)).trans (Go.heap_alloc_new w1 (.cells #[.bool false, .slice none 0 0, .slice none 0 0] 25))
    have HB2 := Go.Lib.hid hb02
    have HX2 := Go.Lib.hid hx2
    clear hb2 hb02 hx2
    unfold item0
    go_wp2_with fail
    refine (law_alive _).mono ?_
    rintro r w3 ⟨rfl, hb3⟩
    have hl2 := (Array.getElem?_eq_some_iff.1 HX2.out).1
    obtain ⟨x0, x1, x2, xf⟩ := cells3 ((hb3.block w1.heap.size (by simp; omega)).trans ((Below.heap_alloc w2 _ _ hl2).trans HX2.out))
    obtain ⟨y0, y1, y2, yf⟩ := cells3 ((hb3.block w2.heap.size (by simp)).trans (Go.heap_alloc_new w2 (.cells #[.bool false, .slice none 0 0, .slice none 0 0] 25)))
    have HB3 := Go.Lib.hid (btr (bal HB2.out _) hb3)
    clear hb3
    go_wp2_with fail
    refine (ref_Same Tree.zero Tree.zero (fun _ => True) (fun _ => True) _ _ _ _ _ _ _ (RdT.zero _ _) (RdT.zero _ _)).mono ?_
    rintro r w4 ⟨rfl, hb4⟩
    rw [sameT_refl]
    go_wp2_with fail
    go_ret
    exact ⟨rfl, btr HB3.out hb4⟩
  | ok tm =>
    obtain ⟨t, m⟩ := tm
    rw [hq] at hp
    obtain ⟨v0, v1, v2, rfl, ht1, hb1⟩ := hp
    obtain ⟨a1, a2, a3, a4, a5, a6, rfl, rfl, rfl⟩ := ht1.shape
    have HQ := Go.Lib.hid hq
    have HB1 := Go.Lib.hid hb1
    have HT1 := Go.Lib.hid ht1
    clear hq hb1 ht1
    go_wp2_with fail
    refine (ref_First A n c xs _ ((HR.out.below HB1.out).alloc _) HN.out.symm hnc (by omega)).mono ?_
    intro r w2 hp
    rw [HQ.out] at hp
    obtain ⟨u0, u1, u2, rfl, ht2, hb2⟩ := hp
    obtain ⟨b1, b2, b3, b4, b5, b6, rfl, rfl, rfl⟩ := ht2.shape
    have hb02 : Below w.heap.size w w2 := btr (bal HB1.out _) hb2
    have hx2 := (hb2.block w1.heap.size (by simp)).trans (Go.heap_alloc_new w1 (.cells #[.bool t.l, .slice a1 a2 a3, .slice a4 a5 a6] 25))
    have ht12 := (HT1.out.below (bal (Below.refl _ _) (.cells #[.bool t.l, .slice a1 a2 a3, .slice a4 a5 a6] 25))).below hb2
    have HB2 := Go.Lib.hid hb02
    have HX2 := Go.Lib.hid hx2
    have HT2 := Go.Lib.hid ht2
    have HT12 := Go.Lib.hid ht12
    clear hb2 hb02 hx2 ht2 ht12
    go_wp2_with fail
    refine (law_alive _).mono ?_
    rintro r w3 ⟨rfl, hb3⟩
    have hl2 := (Array.getElem?_eq_some_iff.1 HX2.out).1
    obtain ⟨x0, x1, x2, xf⟩ := cells3 ((hb3.block w1.heap.size (by simp; omega)).trans ((Below.heap_alloc w2 _ _ hl2).trans HX2.out))
    obtain ⟨y0, y1, y2, yf⟩ := cells3 ((hb3.block w2.heap.size (by simp)).trans (Go.heap_alloc_new w2 (.cells #[.bool t.l, .slice b1 b2 b3, .slice b4 b5 b6] 25)))
    have HB3 := Go.Lib.hid (btr (bal HB2.out _) hb3)
    have HT3 := Go.Lib.hid ((HT12.out.below (bal (Below.refl _ _) _)).below hb3)
    have HT4 := Go.Lib.hid ((HT2.out.below (bal (Below.refl _ _) _)).below hb3)
    clear hb3
    go_wp2_with fail
    refine (ref_Same t t _ _ _ _ _ _ _ _ _ HT3.out HT4.out).mono ?_
    rintro r w4 ⟨rfl, hb4⟩
    rw [sameT_refl]
    go_wp2_with fail
    go_ret
    exact ⟨rfl, btr HB3.out hb4⟩

set_option maxHeartbeats 1000000 in
set_option maxRecDepth 100000 in
theorem decodes_walk (w : World) (A : Option Addr) (n c : Nat) (xs : List UInt8) (hn : xs.length = n) (hnc : n ≤ c) (hr : Rd w A (bs xs)) (hz : c ≤ 140737488351232) :
    Calls Try.prog 4 #[.slice A n c] w fun r w' => r = .returned (.bool true) ∧ Below w.heap.size w w' := by
  have HR := Go.Lib.hid hr
  have HN := Go.Lib.hid hn
  clear hr hn
  go_enter Try.func4, Try.ntmps4
  go_wp2_with fail
  refine (nest_Decode A n c xs _ HR.out HN.out.symm hnc (by omega)).mono ?_
  intro r w1 hp
  cases hq : pDecode xs with
  | error e =>
    rw [hq] at hp
    obtain ⟨rfl, hb1⟩ := hp
    have HQ := Go.Lib.hid hq
    have HB1 := Go.Lib.hid hb1
    clear hq hb1
    unfold item0
    go_wp2_with fail
    refine (ref_Decode A n c xs _ ((HR.out.below HB1.out).alloc _) HN.out.symm hnc (by omega)).mono ?_
    intro r w2 hp
    rw [HQ.out] at hp
    obtain ⟨rfl, hb2⟩ := hp
    have hb02 : Below w.heap.size w w2 := btr (bal HB1.out _) hb2
    have hx2 := (hb2.block w1.heap.size (by simp)).trans (Go.heap_alloc_new w1 (.cells #[.bool false, .slice none 0 0, .slice none 0 0] 25))
    have HB2 := Go.Lib.hid hb02
    have HX2 := Go.Lib.hid hx2
    clear hb2 hb02 hx2
    unfold item0
    go_wp2_with fail
    refine (law_alive _).mono ?_
    rintro r w3 ⟨rfl, hb3⟩
    have hl2 := (Array.getElem?_eq_some_iff.1 HX2.out).1
    obtain ⟨x0, x1, x2, xf⟩ := cells3 ((hb3.block w1.heap.size (by simp; omega)).trans ((Below.heap_alloc w2 _ _ hl2).trans HX2.out))
    obtain ⟨y0, y1, y2, yf⟩ := cells3 ((hb3.block w2.heap.size (by simp)).trans (Go.heap_alloc_new w2 (.cells #[.bool false, .slice none 0 0, .slice none 0 0] 25)))
    have HB3 := Go.Lib.hid (btr (bal HB2.out _) hb3)
    clear hb3
    go_wp2_with fail
    refine (ref_Same Tree.zero Tree.zero (fun _ => True) (fun _ => True) _ _ _ _ _ _ _ (RdT.zero _ _) (RdT.zero _ _)).mono ?_
    rintro r w4 ⟨rfl, hb4⟩
    rw [sameT_refl]
    go_wp2_with fail
    go_ret
    exact ⟨rfl, btr HB3.out hb4⟩
  | ok t =>
    rw [hq] at hp
    obtain ⟨v0, v1, v2, rfl, ht1, hb1⟩ := hp
    obtain ⟨a1, a2, a3, a4, a5, a6, rfl, rfl, rfl⟩ := ht1.shape
    have HQ := Go.Lib.hid hq
    have HB1 := Go.Lib.hid hb1
    have HT1 := Go.Lib.hid ht1
    clear hq hb1 ht1
    go_wp2_with fail
    refine (ref_Decode A n c xs _ ((HR.out.below HB1.out).alloc _) HN.out.symm hnc (by omega)).mono ?_
    intro r w2 hp
    rw [HQ.out] at hp
    obtain ⟨u0, u1, u2, rfl, ht2, hb2⟩ := hp
    obtain ⟨b1, b2, b3, b4, b5, b6, rfl, rfl, rfl⟩ := ht2.shape
    have hb02 : Below w.heap.size w w2 := btr (bal HB1.out _) hb2
    have hx2 := (hb2.block w1.heap.size (by simp)).trans (Go.heap_alloc_new w1 (.cells #[.bool t.l, .slice a1 a2 a3, .slice a4 a5 a6] 25))
    have ht12 := (HT1.out.below (bal (Below.refl _ _) (.cells #[.bool t.l, .slice a1 a2 a3, .slice a4 a5 a6] 25))).below hb2
    have HB2 := Go.Lib.hid hb02
    have HX2 := Go.Lib.hid hx2
    have HT2 := Go.Lib.hid ht2
    have HT12 := Go.Lib.hid ht12
    clear hb2 hb02 hx2 ht2 ht12
    go_wp2_with fail
    refine (law_alive _).mono ?_
    rintro r w3 ⟨rfl, hb3⟩
    have hl2 := (Array.getElem?_eq_some_iff.1 HX2.out).1
    obtain ⟨x0, x1, x2, xf⟩ := cells3 ((hb3.block w1.heap.size (by simp; omega)).trans ((Below.heap_alloc w2 _ _ hl2).trans HX2.out))
    obtain ⟨y0, y1, y2, yf⟩ := cells3 ((hb3.block w2.heap.size (by simp)).trans (Go.heap_alloc_new w2 (.cells #[.bool t.l, .slice b1 b2 b3, .slice b4 b5 b6] 25)))
    have HB3 := Go.Lib.hid (btr (bal HB2.out _) hb3)
    have HT3 := Go.Lib.hid ((HT12.out.below (bal (Below.refl _ _) _)).below hb3)
    have HT4 := Go.Lib.hid ((HT2.out.below (bal (Below.refl _ _) _)).below hb3)
    clear hb3
    go_wp2_with fail
    refine (ref_Same t t _ _ _ _ _ _ _ _ _ HT3.out HT4.out).mono ?_
    rintro r w4 ⟨rfl, hb4⟩
    rw [sameT_refl]
    go_wp2_with fail
    go_ret
    exact ⟨rfl, btr HB3.out hb4⟩

end Go.Proofs.Ytfolidaonnblbaa
