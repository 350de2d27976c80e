/- NestMakes: the walk. -/
import Derived.Test.YtfolidaonnblbaaNsMake
import Derived.BigQuiet
import Derived.Deep.QuietTactic
namespace Go.Proofs.Ytfolidaonnblbaa
open Go.ChangeShapes Go.WideShapes Go.RowKit
set_option linter.unusedVariables false

def u8s (cs : List Value) : Prop := ∀ u ∈ cs, ∃ z : Int, u = .int .u8 z

set_option maxHeartbeats 2000000 in
set_option maxRecDepth 100000 in
theorem makes_walk (w : World) (A : Option Addr) (n c : Nat) (xs : List UInt8) (hn : xs.length = n) (hnc : n ≤ c) (hr : Rd w A (bs xs)) (hz : c ≤ 140737488351232) (B : Option Addr) (m d : Nat) (its : List Tree) (cl : List Value) (hm : its.length = m) (hmd : m ≤ d) (hzd : d * 56 ≤ 140737488351232) (hrl : Rd w B cl) (hl : RdL w (fun _ => True) its cl) :
    Calls Try.prog 9 #[.slice A n c, .slice B m d] w fun r w' => r = .returned (.bool true) ∧ Below w.heap.size w w' := by
  have HR := Go.Lib.hid hr
  have HN := Go.Lib.hid hn
  have HM := Go.Lib.hid hm
  have HRL := Go.Lib.hid hrl
  have HL := Go.Lib.hid hl
  have HCL := Go.Lib.hid hl.len
  obtain ⟨i0, hi, hz0, hz1, hz2⟩ := info_parts info_u8
  clear hr hn hm hrl hl
  go_enter Try.func9, Try.ntmps9
  go_wp2_with (at_builtin; refine wpList_append_o _ rfl _ _ 22 rfl 5 i0 (.int .u8 0) 1 1 Try.underlying22 hi hz0 hz1 hz2 rfl (by decide) w.heap.size none 0 0 [] rfl (Own.nil _ _ _ _) A n c (bs xs) rfl (by have := HN.out; simp; omega) HR.out (bs_one _) (by omega) (by unfold maxLen; omega) (by simp) ?_)
  intro A1 c1 w1 hown1 hk1 hl1
  have hb1 : Below w.heap.size w w1 := Kp.below (Below.refl _ _) hk1 (fun i h => by simp at h)
  have hcap1 := hown1.cap
  have HO1 := Go.Lib.hid hown1
  have HB1 := Go.Lib.hid hb1
  clear hown1 hk1 hl1 hb1
  go_wp2_with fail
  refine (nest_Text A1 n c1 xs _ (by simpa using HO1.out.rd) HN.out.symm hcap1.1 (by have := HN.out; omega)).mono ?_
  rintro r w2 ⟨A2, c2, rfl, hc2, hown2, hb2⟩
  have hO1 : Own w2 w.heap.size 5 1 A1 n c1 (bs xs) := by
    have := HO1.out.below hb2
    simpa using this
  have HO1' := Go.Lib.hid hO1
  have HO2 := Go.Lib.hid hown2
  have HB2 := Go.Lib.hid (btr HB1.out hb2)
  have hA12 : ∀ g, A1.map (·.block) = some g → A2.map (·.block) = some g → False := fun g e1 e2 => by
    have h1 := (HO1.out.block_lt g e1).2
    have h2 := (hown2.block_lt g e2).1
    omega
  have HA12 := Go.Lib.hid hA12
  have hs12 : w1.heap.size ≤ w2.heap.size := hb2.size
  clear hO1 hown2 hb2 hA12
  go_wp2_with fail
  obtain ⟨w3, hw3⟩ : ∃ w3, w3 = w2.alloc (.cells #[.bool false, .slice A2 n c2, .slice none 0 0] 25) := ⟨_, rfl⟩
  have HW3 := Go.Lib.hid hw3
  clear hw3
  go_loopg [16, 7] n (fun g i s7 wr => ∃ (j : Nat) (zs : List Value), i = .int .i64 j ∧ j ≤ n ∧ g = n - j ∧ u8s zs ∧ zs.length = n ∧ Hid (Own wr w.heap.size 5 1 A1 n c1 zs) ∧ Hid (Kp (fun k => some k = A1.map (·.block)) w3 wr))
  case atStart =>
    refine ⟨0, bs xs, rfl, Nat.zero_le _, rfl, ?_, by have := HN.out; simp; omega, Go.Lib.hid (HO1'.out.alloc _), Go.Lib.hid (by rw [HW3.out]; exact Kp.refl _ _)⟩
    intro u hu
    obtain ⟨x, _, rfl⟩ := List.mem_map.1 hu
    exact ⟨_, rfl⟩
  case round =>
    obtain ⟨j, zs, rfl, hj, rfl, hzs, hzl, HOJ, HKJ⟩ := hrel
    by_cases hlt : j < n
    · obtain ⟨g, off, rfl, hg, hgl, hcell, hfr⟩ := HOJ.out.shape (by omega)
      obtain ⟨z, hz'⟩ := hzs zs[j] (List.getElem_mem (by omega))
      have hcj := hcell j zs[j] (by rw [List.getElem?_eq_getElem])
      rw [hz'] at hcj
      have HZS := Go.Lib.hid hzs
      clear hz' hzs hcell
      go_wp2_with fail
      go_roundg (n - (j + 1))
      case measure => omega
      case rel =>
        refine ⟨j + 1, zs.set j (.int .u8 ((z + 1) % 256)), by go_num, by omega, rfl, ?_, by simpa using hzl, Go.Lib.hid (HOJ.out.store rfl j (by omega) _), Go.Lib.hid (HKJ.out.trans (Kp.setCell (S := fun k => some k = Option.map (fun x => x.block) (some (⟨g, off, none⟩ : Addr))) (p := ⟨g, off + j, none⟩) wr rfl _))⟩
        intro u hu
        rcases List.mem_or_eq_of_mem_set hu with hu | rfl
        · exact HZS.out u hu
        · exact ⟨_, rfl⟩
    · obtain rfl : n = j := by omega
      obtain ⟨w4, rfl⟩ : ∃ w' : World, w' = wr := ⟨_, rfl⟩
      have hk4 : Kp (fun k => some k = A1.map (·.block)) w3 w4 := HKJ.out
      have hs3 : w3.heap.size = w2.heap.size + 1 := by rw [HW3.out]; simp
      have hx4 : w4.heap[w2.heap.size]? = some (.cells #[.bool false, .slice A2 n c2, .slice none 0 0] 25 (0, 0)) := by
        rw [hk4.block w2.heap.size (by omega) (fun e => by have := (HO1'.out.block_lt _ e.symm).2; omega), HW3.out]
        exact Go.heap_alloc_new w2 _
      have hb4 : Below w.heap.size w w4 := Kp.below (b := w3) (by rw [HW3.out]; exact bal HB2.out _) hk4 (fun i e => (HO1'.out.block_lt i e.symm).1)
      have hr4 : Rd w4 A2 (bs xs) := by
        have h : Own w3 w1.heap.size 5 1 A2 n c2 (bs xs) := by rw [HW3.out]; exact HO2.out.alloc _
        exact (h.kp hk4 (fun g e h => HA12.out g h.symm e)).rd
      have HX4 := Go.Lib.hid hx4
      have HB4 := Go.Lib.hid hb4
      have HR4 := Go.Lib.hid hr4
      clear hlt hzs hk4 hx4 hb4 hr4 HKJ HOJ hs3
      go_wp2_with fail
      refine (nest_List B m d cl _ (HRL.out.below HB4.out) (by rw [HCL.out, HM.out]) HL.out.one hmd (by omega)).mono ?_
      rintro r w5 ⟨B5, d5, rfl, hd5, hown5, hb5⟩
      have HO5 := Go.Lib.hid hown5
      have HB5 := Go.Lib.hid hb5
      have hcap5 := hown5.cap
      obtain ⟨w6, hw6⟩ : ∃ w6, w6 = w5.alloc (.cells #[.bool true, .slice none 0 0, .slice B5 m d5] 25) := ⟨_, rfl⟩
      have hb46 : Below w4.heap.size w4 w6 := by rw [hw6]; exact bal hb5 _
      have hy6 : w6.heap[w5.heap.size]? = some (.cells #[.bool true, .slice none 0 0, .slice B5 m d5] 25 (0, 0)) := by rw [hw6]; exact Go.heap_alloc_new w5 _
      have hx6 := box_keep HX4.out hb46
      have HW6 := Go.Lib.hid hw6
      have HX6 := Go.Lib.hid hx6
      have HY6 := Go.Lib.hid hy6
      have HB6 := Go.Lib.hid (btr HB4.out hb46)
      have HR6 := Go.Lib.hid (HR4.out.below hb46)
      have hO6 : Own w6 w4.heap.size 25 3 B5 m d5 cl := by rw [hw6]; exact hown5.alloc _
      have HO6 := Go.Lib.hid hO6
      have hs56 : w6.heap.size = w5.heap.size + 1 := by rw [hw6]; simp
      have HS56 := Go.Lib.hid hs56
      have hs25 : w2.heap.size < w5.heap.size := by have h1 := (Array.getElem?_eq_some_iff.1 HX4.out).1; have h2 := hb5.size; omega
      clear hown5 hb5 hw6 hb46 hx6 hy6 hO6 hs56
      obtain ⟨x0, x1, x2, xf⟩ := cells3 HX6.out
      obtain ⟨y0, y1, y2, yf⟩ := cells3 HY6.out
      rw [HW6.out] at x0 x1 x2 y0 y1 y2
      go_wp2_with fail
      rw [← HW6.out]
      refine (law_same A2 A n c2 n c xs xs w6 HR6.out (HR.out.below HB6.out) HN.out HN.out).mono ?_
      rintro r w7 ⟨rfl, rfl⟩
      obtain ⟨w6, rfl⟩ : ∃ w' : World, w' = w7 := ⟨_, rfl⟩
      simp only [beq_self_eq_true]
      clear x0 x1 x2 xf y0 y1 y2 yf
      obtain ⟨x0, x1, x2, xf⟩ := cells3 HX6.out
      obtain ⟨y0, y1, y2, yf⟩ := cells3 HY6.out
      have hs66 : w2.heap.size < w6.heap.size := by have := HS56.out; omega
      have hs65 : w5.heap.size < w6.heap.size := by have := HS56.out; omega
      go_wp2_with fail
      refine (law_alive _).mono ?_
      rintro r w7 ⟨rfl, hb7⟩
      have HY7 := Go.Lib.hid (box_keep HY6.out hb7)
      have HB7 := Go.Lib.hid (btr HB6.out hb7)
      have HO7 := Go.Lib.hid (HO6.out.below hb7)
      have hs75 : w5.heap.size < w7.heap.size := (Array.getElem?_eq_some_iff.1 HY7.out).1
      clear hb7 x0 x1 x2 xf y0 y1 y2 yf
      go_wp2_with fail
      go_loopg [68, 9] m (fun g i s9 wr => ∃ (j : Nat), i = .int .i64 j ∧ j ≤ m ∧ g = m - j ∧ Hid (Below w7.heap.size w7 wr))
      case atStart => exact ⟨0, rfl, Nat.zero_le _, rfl, Go.Lib.hid (Below.refl _ _)⟩
      case round =>
        obtain ⟨j, rfl, hj, rfl, HBJ⟩ := hrel
        by_cases hlt : j < m
        · obtain ⟨p0, p1, p2, e0, e1, e2, hp⟩ := HL.out.at_ j (by have := HM.out; omega)
          have hji : j < its.length := by have := HM.out; omega
          generalize its[j] = T at hp
          obtain ⟨g, off, rfl, hg, hcB⟩ := HRL.out (by intro h; rw [h] at e0; cases e0)
          obtain ⟨g5, off5, rfl, hg5, hc5⟩ := HO7.out.rd (by intro h; rw [h] at e0; cases e0)
          have hbW : Below w.heap.size w wr := btr HB7.out HBJ.out
          obtain ⟨a1, a2, a3, a4, a5, a6, rfl, rfl, rfl⟩ := hp.shape
          have k0 : wr.cell? ⟨g, off + j * 3, none⟩ = some (.bool T.l) := by rw [hbW.cell (p := ⟨g, off + j * 3, none⟩) hg, show j * 3 = 3 * j from by omega]; exact hcB _ _ e0
          have k1 : wr.cell? ⟨g, off + j * 3 + 1, none⟩ = some (.slice a1 a2 a3) := by rw [hbW.cell (p := ⟨g, off + j * 3 + 1, none⟩) hg, show off + j * 3 + 1 = off + (3 * j + 1) from by omega]; exact hcB _ _ e1
          have k2 : wr.cell? ⟨g, off + j * 3 + 2, none⟩ = some (.slice a4 a5 a6) := by rw [hbW.cell (p := ⟨g, off + j * 3 + 2, none⟩) hg, show off + j * 3 + 2 = off + (3 * j + 2) from by omega]; exact hcB _ _ e2
          have q0 : wr.cell? ⟨g5, off5 + j * 3, none⟩ = some (.bool T.l) := by rw [HBJ.out.cell (p := ⟨g5, off5 + j * 3, none⟩) hg5, show j * 3 = 3 * j from by omega]; exact hc5 _ _ e0
          have q1 : wr.cell? ⟨g5, off5 + j * 3 + 1, none⟩ = some (.slice a1 a2 a3) := by rw [HBJ.out.cell (p := ⟨g5, off5 + j * 3 + 1, none⟩) hg5, show off5 + j * 3 + 1 = off5 + (3 * j + 1) from by omega]; exact hc5 _ _ e1
          have q2 : wr.cell? ⟨g5, off5 + j * 3 + 2, none⟩ = some (.slice a4 a5 a6) := by rw [HBJ.out.cell (p := ⟨g5, off5 + j * 3 + 2, none⟩) hg5, show off5 + j * 3 + 2 = off5 + (3 * j + 2) from by omega]; exact hc5 _ _ e2
          obtain ⟨y0, y1, y2, yf⟩ := cells3 (box_keep HY7.out HBJ.out)
          have hrb : Rd wr a1 (bs T.b) ∧ T.b.length = a2 := by
            have h := hp.below hbW
            cases T with
            | mk l b is =>
              obtain ⟨_, _, _, _, _, _, e1', _, _, _, _, _, hAA, _, _⟩ := h.parts
              injection e1' with e1 e2 e3
              subst e1 e2
              exact ⟨hAA.rd, rfl⟩
          have HRB := Go.Lib.hid hrb
          have hsr : w5.heap.size < wr.heap.size := by have := HBJ.out.size; omega
          have hj0 : (0 : Int) ≤ (j : Int) := by omega
          have hj1 : (j : Int) < (m : Int) := by omega
          clear hrb hp hbW e0 e1 e2 hcB hc5 hji
          go_wp2_with fail
          go_quiet (first | (go_at_call 20; refine Calls.quiet_of_same (law_same a1 a1 a2 a3 a2 a3 T.b T.b _ HRB.out.1 HRB.out.1 HRB.out.2 HRB.out.2)))
          go_wp2_with fail
          go_roundg (m - (j + 1))
          case measure => omega
          case rel => exact ⟨j + 1, by go_num, by omega, rfl, Go.Lib.hid (bdn HBJ.out _)⟩
        · go_wp2_with fail
          go_ret
          exact ⟨rfl, btr HB7.out HBJ.out⟩

end Go.Proofs.Ytfolidaonnblbaa
