/- The law's same, places, alive. -/
import Derived.Test.YtlbiahpajcfcfaaDoorOpMarks
import Derived.Test.YtlbiahpajcfcfaaDoorOpPrint
namespace Go.Proofs.YtlbiahpajcfcfaaDoor
open Go.ChangeShapes Go.WideShapes Go.ChangeAt Go.RowKit
set_option linter.unusedVariables false
set_option maxRecDepth 100000
attribute [local go_sem ↓] Go.wp_at_zero Go.wp_at_succ

set_option maxHeartbeats 1000000 in
theorem law_same (A B : Option Addr) (n c m d : Nat) (xs ys : List UInt8) (w : World) (hx : Rd w A (bs xs)) (hy : Rd w B (bs ys)) (hn : xs.length = n) (hm : ys.length = m) :
    Calls Tryd.prog 19 #[.slice A n c, .slice B m d] w fun e w' => e = .returned (.bool (xs == ys)) ∧ w' = w := by
  have hc1 := wconv_bs (P := Tryd.prog) w 32 5 9 Tryd.underlying32 Tryd.underlying5 Tryd.underlying9 A n c xs hx hn
  have hc2 := wconv_bs (P := Tryd.prog) w 32 5 9 Tryd.underlying32 Tryd.underlying5 Tryd.underlying9 B m d ys hy hm
  clear hx hy hn hm
  go_enter Tryd.func19, Tryd.ntmps19
  go_wp2_with fail
  go_ret
  exact ⟨rfl, rfl⟩

theorem ints_at (l : List Nat) (i : Nat) (h : i < l.length) : (ints l)[i]? = some (.int .i64 ((l.getD i 0 : Nat) : Int)) := by
  rw [ints, List.getElem?_map, List.getD, List.getElem?_eq_getElem h]
  rfl

set_option maxHeartbeats 2000000 in
theorem law_places (A B : Option Addr) (n c m d : Nat) (xs ys : List Nat) (w : World) (hx : Rd w A (ints xs)) (hy : Rd w B (ints ys)) (hn : xs.length = n) (hm : ys.length = m) (hz : n ≤ 9223372036854775807) (hz2 : m ≤ 9223372036854775807) :
    Calls Tryd.prog 15 #[.slice A n c, .slice B m d] w fun e w' => e = .returned (.bool (decide (xs = ys))) ∧ Below w.heap.size w w' := by
  have HX := Go.Lib.hid hx
  have HY := Go.Lib.hid hy
  have HN := Go.Lib.hid hn
  have HM := Go.Lib.hid hm
  by_cases hnm : n = m
  · subst hnm
    clear hx hy hn hm
    go_enter Tryd.func15, Tryd.ntmps15
    go_wp2_with fail
    go_loopg [13] (n + 1) (fun g v wr => ∃ j : Nat, v = .int .i64 j ∧ j ≤ n ∧ g = n + 1 - j ∧ Hid (∀ k, k < j → xs[k]? = ys[k]?) ∧ Hid (Below w.heap.size w wr))
    case atStart => exact ⟨0, rfl, Nat.zero_le _, rfl, Go.Lib.hid (by omega), Go.Lib.hid (Below.refl _ _)⟩
    case round =>
      obtain ⟨j, rfl, hj, rfl, HE, HB⟩ := hrel
      by_cases hlt : j < n
      · have hj0 : (0 : Int) ≤ (j : Int) := by omega
        obtain ⟨g, off, rfl, hg, hc⟩ := HX.out.at_ (by simp; have := HN.out; omega)
        obtain ⟨g2, off2, rfl, hg2, hc2⟩ := HY.out.at_ (by simp; have := HM.out; omega)
        have hx1 : wr.cell? ⟨g, off + j, none⟩ = some (.int .i64 ((xs.getD j 0 : Nat) : Int)) := (HB.out.cell (p := ⟨g, off + j, none⟩) hg).trans (hc j _ (ints_at xs j (by have := HN.out; omega)))
        have hy1 : wr.cell? ⟨g2, off2 + j, none⟩ = some (.int .i64 ((ys.getD j 0 : Nat) : Int)) := (HB.out.cell (p := ⟨g2, off2 + j, none⟩) hg2).trans (hc2 j _ (ints_at ys j (by have := HM.out; omega)))
        obtain ⟨a, ha⟩ : ∃ a, a = xs.getD j 0 := ⟨_, rfl⟩
        obtain ⟨b, hb⟩ : ∃ b, b = ys.getD j 0 := ⟨_, rfl⟩
        rw [← ha] at hx1
        rw [← hb] at hy1
        have hxj : xs[j]? = some a := by rw [ha, List.getD, List.getElem?_eq_getElem (by have := HN.out; omega)]; rfl
        have hyj : ys[j]? = some b := by rw [hb, List.getD, List.getElem?_eq_getElem (by have := HM.out; omega)]; rfl
        have HXJ := Go.Lib.hid (And.intro hxj hyj)
        clear hc hc2 ha hb hxj hyj
        by_cases hab : a = b
        · have HAB := Go.Lib.hid hab
          subst hab
          go_wp2_with fail
          (try (go_region; go_wp2_with fail))
          go_roundg (n + 1 - (j + 1))
          case measure => omega
          case rel =>
            refine ⟨j + 1, by go_num, by omega, rfl, Go.Lib.hid ?_, Go.Lib.hid (bdr HB.out)⟩
            intro k hk
            by_cases hkj : k = j
            · subst hkj
              rw [HXJ.out.1, HXJ.out.2]
            · exact HE.out k (by omega)
        · have hne : ((a : Int) == (b : Int)) = false := beq_eq_false_iff_ne.2 (by omega)
          have HAB := Go.Lib.hid hab
          clear hab
          go_wp2_with fail
          (try (go_region; go_wp2_with fail))
          refine bodyPost_ret (v := .bool false) (by simp [results, Tryd.results15, go_sem]) rfl ⟨?_, bdr HB.out⟩
          have : ¬ xs = ys := by
            intro h
            have h1 := HXJ.out
            rw [h, h1.2] at h1
            exact HAB.out (by injection h1.1 with h; exact h.symm)
          rw [decide_eq_false this]
      · have hjn : j = n := by omega
        subst hjn
        go_wp2_with fail
        refine bodyPost_ret (v := .bool true) (by simp [results, Tryd.results15, go_sem]) rfl ⟨?_, HB.out⟩
        have : xs = ys := by
          apply List.ext_getElem?
          intro k
          by_cases hk : k < j
          · exact HE.out k hk
          · rw [List.getElem?_eq_none (by rw [HN.out]; omega), List.getElem?_eq_none (by rw [HM.out]; omega)]
        rw [decide_eq_true this]
  · have hq : ((n : Int) == (m : Int)) = false := beq_eq_false_iff_ne.2 (by omega)
    have HQ := Go.Lib.hid (show ¬ xs = ys from fun h => hnm (by rw [← hn, ← hm, h]))
    clear hnm hx hy hn hm
    go_enter Tryd.func15, Tryd.ntmps15
    go_wp2_with fail
    refine bodyPost_ret (v := .bool false) (by simp [results, Tryd.results15, go_sem]) rfl ⟨?_, Below.refl _ _⟩
    rw [decide_eq_false HQ.out]

theorem asm_const : asmT [112, 117, 115, 104, 32, 50, 53, 54, 32, 100, 117, 112, 32, 48] = ([33, 1, 0, 49, 0], 0, 0) := by kernel_rfl
theorem print_const : printL [66, 255] = [109, 97, 114, 107, 32, 98, 121, 116, 101, 32, 50, 53, 53] := by kernel_rfl
theorem marks_const : marksL [66] = [0] := by kernel_rfl
theorem of_const : ofG 112 = ⟨[99, 97, 108, 108], 0, 4, 1, 40⟩ ∧ (ofI 112).isSome = true := by constructor <;> rfl

theorem rd_new_at (w : World) (cs : Array Value) (t : TypeId) {g : Nat} (hg : w.heap.size = g) : Rd (w.alloc (.cells cs t)) (some ⟨g, 0, none⟩) cs.toList := by
  subst hg
  exact rd_new w cs t
theorem of_call (w : World) : Calls Tryd.prog 11 #[.int .u8 112] w fun r w' => r = .returned (.tuple #[.agg #[.string ⟨#[99, 97, 108, 108]⟩, .int .i64 0, .int .i64 4, .int .i64 1, .int .u64 40], .bool true]) ∧ Below w.heap.size w w' := by
  refine (op_Of 112 w (by decide)).mono ?_
  rintro r w' ⟨rfl, hb⟩
  rw [of_const.1, of_const.2]
  exact ⟨rfl, hb⟩
theorem asm_ex (w : World) (hw : WL w) : Calls Tryd.prog 17 #[.string ⟨#[112, 117, 115, 104, 32, 50, 53, 54, 32, 100, 117, 112, 32, 48]⟩] w fun r w' => ∃ A c, r = .returned (.tuple #[.slice A 5 c, .int .i64 0, .int .i64 0]) ∧ Own w' w.heap.size 5 1 A 5 c (bs [33, 1, 0, 49, 0]) ∧ Below w.heap.size w w' := by
  refine (op_Assemble [112, 117, 115, 104, 32, 50, 53, 54, 32, 100, 117, 112, 32, 48] (by decide) w hw).mono ?_
  rintro r w' ⟨A, c, rfl, ho, hb⟩
  rw [asm_const] at ho ⊢
  exact ⟨A, c, rfl, ho, hb⟩
theorem print_ex (A : Option Addr) (c : Nat) (hc : 2 ≤ c) (hc2 : c ≤ 9223372036854775807) (w : World) (hr : Rd w A (bs [66, 255])) (hw : WL w) : Calls Tryd.prog 20 #[.slice A 2 c] w fun r w' => r = .returned (.tuple #[.string ⟨#[109, 97, 114, 107, 32, 98, 121, 116, 101, 32, 50, 53, 53]⟩, .int .i64 0]) ∧ Below w.heap.size w w' := by
  refine (op_Print A 2 c [66, 255] w rfl hc hc2 hr hw).mono ?_
  rintro r w' ⟨rfl, hb⟩
  rw [print_const]
  exact ⟨rfl, hb⟩
theorem marks_ex (A : Option Addr) (c : Nat) (hc : 1 ≤ c) (hc2 : c ≤ 9223372036854775807) (w : World) (hr : Rd w A (bs [66])) : Calls Tryd.prog 14 #[.slice A 1 c] w fun r w' => ∃ B cB, r = .returned (.slice B 1 cB) ∧ Own w' w.heap.size 3 1 B 1 cB (ints [0]) ∧ Below w.heap.size w w' := by
  refine (op_Marks A 1 c [66] w rfl hc hc2 (by decide) hr).mono ?_
  rintro r w' ⟨B, cB, rfl, ho, hb⟩
  rw [marks_const] at ho ⊢
  exact ⟨B, cB, rfl, ho, hb⟩

set_option maxHeartbeats 4000000 in
theorem law_alive (w : World) (hw : WL w) : Calls Tryd.prog 13 #[] w fun r w' => r = .returned (.bool true) ∧ Below w.heap.size w w' := by
  have HWL := Go.Lib.hid hw
  clear hw
  go_enter Tryd.func13, Tryd.ntmps13
  go_wp2_with (go_at_call 11; refine (of_call _).mono ?_; rintro _ w1 ⟨rfl, hb1⟩; have HB1 := Go.Lib.hid hb1; clear hb1)
  obtain ⟨w2, hw2⟩ : ∃ x, x = w1.alloc (.cells #[.string ⟨#[99, 97, 108, 108]⟩, .int .i64 0, .int .i64 4, .int .i64 1, .int .u64 40] 24) := ⟨_, rfl⟩
  have HX2 := Go.Lib.hid (show w2.heap[w1.heap.size]? = some (.cells #[.string ⟨#[99, 97, 108, 108]⟩, .int .i64 0, .int .i64 4, .int .i64 1, .int .u64 40] 24 (0, 0)) by rw [hw2]; exact Go.heap_alloc_new w1 _)
  have HB2 := Go.Lib.hid (show Below w.heap.size w w2 by rw [hw2]; exact bal HB1.out _)
  rw [← hw2]
  clear hw2
  go_wp2_with (first | (go_at_call 17; refine (asm_ex _ (HWL.out.below HB2.out)).mono ?_; rintro _ w3 ⟨A3, c3, rfl, hown3, hb3⟩; have HR3 := Go.Lib.hid hown3.rd; have HX3 := Go.Lib.hid (box_keep HX2.out hb3); have HB3 := Go.Lib.hid (btr HB2.out hb3); have hl3 := (Array.getElem?_eq_some_iff.1 HX3.out).1; have HR3b := Go.Lib.hid (show Rd (w3.alloc (.cells #[.int .u8 66, .int .u8 255] 5)) (some ⟨w3.heap.size, 0, none⟩) (bs [66, 255]) from rd_new w3 _ _); clear hown3 hb3) | (go_at_call 20; refine (print_ex (some ⟨w3.heap.size, 0, none⟩) 2 (by decide) (by decide) _ HR3b.out (HWL.out.below (bal HB3.out _))).mono ?_; rintro _ w4 ⟨rfl, hb4⟩; have HX4 := Go.Lib.hid (box_keep ((Below.heap_alloc w3 _ _ hl3).trans HX3.out) hb4); have HR4 := Go.Lib.hid ((HR3.out.alloc _).below hb4); have HB4 := Go.Lib.hid (btr (bal HB3.out _) hb4); obtain ⟨x0, x1, x2, x3, x4, xf⟩ := cells5 HX4.out; have HR4b := Go.Lib.hid (show Rd (w4.alloc (.cells #[.int .u8 33, .int .u8 1, .int .u8 0, .int .u8 49, .int .u8 0] 5)) (some ⟨w4.heap.size, 0, none⟩) (bs [33, 1, 0, 49, 0]) from rd_new w4 _ _); clear hb4) | (go_at_call 19; refine (law_same A3 (some ⟨w4.heap.size, 0, none⟩) 5 c3 5 5 [33, 1, 0, 49, 0] [33, 1, 0, 49, 0] _ (HR4.out.alloc _) HR4b.out rfl rfl).mono ?_; rintro _ _ ⟨rfl, rfl⟩; rw [beq_self_eq_true]; have HR5 := Go.Lib.hid (show Rd ((w4.alloc (.cells #[.int .u8 33, .int .u8 1, .int .u8 0, .int .u8 49, .int .u8 0] 5)).alloc (.cells #[.int .u8 66] 5)) (some ⟨w4.heap.size + 1, 0, none⟩) (bs [66]) from rd_new_at (w4.alloc (.cells #[.int .u8 33, .int .u8 1, .int .u8 0, .int .u8 49, .int .u8 0] 5)) #[.int .u8 66] 5 (by simp))) | (go_at_call 14; refine (marks_ex (some ⟨w4.heap.size + 1, 0, none⟩) 1 (by decide) (by decide) _ HR5.out).mono ?_; rintro _ w7 ⟨B7, c7, rfl, hown7, hb7⟩; have HR7 := Go.Lib.hid hown7.rd; have HB7 := Go.Lib.hid (btr (bal (bal HB4.out _) _) hb7); clear hown7 hb7; have HR8 := Go.Lib.hid (rd_int w7 3 0 rfl)) | (go_at_call 15; refine (law_places B7 (some ⟨w7.heap.size, 0, none⟩) 1 c7 1 1 [0] [0] _ (HR7.out.alloc _) HR8.out rfl rfl (by decide) (by decide)).mono ?_; rintro _ w9 ⟨rfl, hb9⟩; have HB9 := Go.Lib.hid (btr (bal HB7.out _) hb9); clear hb9; simp only [decide_true]))
  refine bodyPost_ret (v := .bool true) (by simp [results, Tryd.results13, go_sem]) rfl ⟨rfl, HB9.out⟩

end Go.Proofs.YtlbiahpajcfcfaaDoor
