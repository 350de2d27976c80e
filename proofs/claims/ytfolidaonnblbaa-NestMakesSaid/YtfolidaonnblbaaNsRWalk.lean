/- ref.walk: the weighing by the document. -/
import Derived.Test.YtfolidaonnblbaaNsBodyW
namespace Go.Proofs.Ytfolidaonnblbaa
open Go.ChangeShapes Go.WideShapes Go.RowKit
set_option linter.unusedVariables false

def WalkP (p : Except Int Nat) (w : World) (r : Ending) (w' : World) : Prop :=
  Below w.heap.size w w' ∧ match p with
    | .ok n => r = .returned (.tuple #[.int .i64 (n : Nat), .int .i64 0])
    | .error e => ∃ x : Int, r = .returned (.tuple #[.int .i64 x, .int .i64 e])
def WalkSt (t : Tree) : Prop := ∀ (P : Nat → Prop) (v0 v1 v2 : Value) (deep wt : Nat) (D W : Int) (w : World), RdT w P t v0 v1 v2 → wt ≤ 16777215 → deep ≤ 8 → D = deep → W = wt →
    Calls Try.prog 33 #[.agg #[v0, v1, v2], .int .i64 D, .int .i64 W] w (WalkP (lookT deep wt t) w)

set_option maxHeartbeats 1000000 in
set_option maxRecDepth 100000 in
theorem walk_step (l : Bool) (b : List UInt8) (its : List Tree) (ih : ∀ i (h : i < its.length), WalkSt its[i]) : WalkSt (.mk l b its) := by
  intro P v0 v1 v2 deep wt D W w ht hwt hdp hD hW
  subst hD hW
  have IH := Go.Lib.hid ih
  obtain ⟨A, c, B, d, cs, rfl, rfl, rfl, hbc, hc, hid', hd, hA, hB, hL⟩ := ht.parts
  generalize hR : lookT deep wt (.mk l b its) = R
  have HRR := Go.Lib.hid hR
  have HB := Go.Lib.hid hB
  have HL := Go.Lib.hid hL
  clear ht ih hR hA hB hL
  by_cases hdeep : l = true ∧ deep = 8
  case pos =>
    obtain ⟨rfl, rfl⟩ := hdeep
    have hRe : R = .error 21 := by rw [← HRR.out, lookT, if_pos ⟨rfl, rfl⟩]
    subst hRe
    go_enter Try.func33, Try.ntmps33
    go_wp2_with fail
    go_ret2
    exact ⟨bal (Below.refl _ _) _, _, rfl⟩
  by_cases hform : (l = true ∧ b ≠ []) ∨ (l = false ∧ its ≠ [])
  case pos =>
    have hRe : R = .error 23 := by rw [← HRR.out, lookT, if_neg hdeep, if_pos hform]
    subst hRe
    go_enter Try.func33, Try.ntmps33
    rcases hform with ⟨rfl, hbn⟩ | ⟨rfl, hin⟩
    · have hbl : 0 < b.length := List.length_pos_iff.2 hbn
      have hd8 : decide (8 ≤ (deep : Int)) = false := by simp; have : deep ≠ 8 := fun h => hdeep ⟨rfl, h⟩; omega
      clear hdeep hbn
      go_wp2_with fail
      go_ret2
      exact ⟨bal (Below.refl _ _) _, _, rfl⟩
    · have hbl : 0 < its.length := List.length_pos_iff.2 hin
      clear hdeep hin
      go_wp2_with fail
      go_ret2
      exact ⟨bal (Below.refl _ _) _, _, rfl⟩
  have hRw : R = if 16777215 < wtOf l deep wt b then .error 20 else lookL (deep + 1) (wtOf l deep wt b) its := by rw [← HRR.out, lookT, if_neg hdeep, if_neg hform]
  have HRW := Go.Lib.hid hRw
  clear hRw
  have hwlt : wtOf l deep wt b ≤ 140737505132543 := by
    unfold wtOf
    split
    · split <;> omega
    · omega
  generalize hwo : wtOf l deep wt b = wo at *
  have HWO := Go.Lib.hid hwo
  clear hwo
  have hd7 : 0 < its.length → deep + 1 ≤ 8 := by
    intro h
    cases l with
    | true =>
      have : deep ≠ 8 := fun h => hdeep ⟨rfl, h⟩
      omega
    | false =>
      have : its ≠ [] := by rintro rfl; simp at h
      exact absurd (.inr ⟨rfl, this⟩) hform
  have HD7 := Go.Lib.hid hd7
  clear hd7
  obtain ⟨w1, hw1⟩ : ∃ w1, w1 = w.alloc (.cells #[.bool l, .slice A b.length c, .slice B its.length d] 25) := ⟨_, rfl⟩
  have hx1 : w1.heap[w.heap.size]? = some (.cells #[.bool l, .slice A b.length c, .slice B its.length d] 25 (0, 0)) := by rw [hw1]; exact Go.heap_alloc_new w _
  have hb1 : Below w.heap.size w w1 := by rw [hw1]; exact bal (Below.refl _ _) _
  have hcases : (l = true ∧ b.length < 1 ∧ deep < 8 ∧ deep < 1 ∧ wo = wt) ∨ (l = true ∧ b.length < 1 ∧ deep < 8 ∧ 0 < deep ∧ wo = wt + 1) ∨
      (l = false ∧ its.length < 1 ∧ b.length < 2 ∧ wo = wt + 1) ∨ (l = false ∧ its.length < 1 ∧ 1 < b.length ∧ wo = wt + b.length) := by
    cases l with
    | true =>
      have hd8 : deep < 8 := by have : deep ≠ 8 := fun h => hdeep ⟨rfl, h⟩; omega
      have hb0 : b.length < 1 := by
        by_cases h : b = []
        · rw [h]; decide
        · exact absurd (.inl ⟨rfl, h⟩) hform
      by_cases hdz : deep = 0
      · exact .inl ⟨rfl, hb0, hd8, by omega, by rw [← HWO.out, wtOf]; simp [hdz]⟩
      · exact .inr (.inl ⟨rfl, hb0, hd8, by omega, by rw [← HWO.out, wtOf]; simp [hdz]⟩)
    | false =>
      have hi0 : its.length < 1 := by
        by_cases h : its = []
        · rw [h]; decide
        · exact absurd (.inr ⟨rfl, h⟩) hform
      by_cases hb1 : b.length ≤ 1
      · exact .inr (.inr (.inl ⟨rfl, hi0, by omega, by rw [← HWO.out, wtOf]; simp; omega⟩))
      · exact .inr (.inr (.inr ⟨rfl, hi0, by omega, by rw [← HWO.out, wtOf]; simp; omega⟩))
  have HW1 := Go.Lib.hid hw1
  have HX1 := Go.Lib.hid hx1
  have HB1 := Go.Lib.hid hb1
  clear hw1 hx1 hb1 hform hdeep HWO
  rcases hcases with ⟨rfl, hb0, hd8, hd0, hwo⟩ | ⟨rfl, hb0, hd8, hd0, hwo⟩ | ⟨rfl, hi0, hb1, hwo⟩ | ⟨rfl, hi0, hb1, hwo⟩
  · have HWO2 := Go.Lib.hid hwo
    clear hwo
    have hdb : decide (0 < b.length) = false := decide_eq_false (by omega)
    obtain rfl : deep = 0 := by omega
    go_enter Try.func33, Try.ntmps33
    go_upto_block 0 with (fail)
    go_cut [2] (fun s2 wx => s2 = .int .i64 (wo : Nat) ∧ wx = w1)
    case first =>
      go_wp2_with fail
      go_meet
      exact ⟨by first | (rw [HWO2.out]; done) | (rw [HWO2.out]; go_num), HW1.out.symm⟩
    case rest =>
      obtain ⟨rfl, rfl⟩ := hcut
      obtain ⟨w1, rfl⟩ : ∃ w' : World, w' = wc := ⟨_, rfl⟩
      obtain ⟨x0, x1, x2, xf⟩ := cells3 HX1.out
      have hsz : w.heap.size < w1.heap.size := (Array.getElem?_eq_some_iff.1 HX1.out).1
      by_cases hbig : 16777215 < wo
      · have hRe : R = .error 20 := by rw [HRW.out, if_pos hbig]
        subst hRe
        go_wp2_with fail
        go_ret2
        exact ⟨HB1.out, _, rfl⟩
      · have hRe : R = lookL (0 + 1) wo its := by rw [HRW.out, if_neg hbig]
        have HRE := Go.Lib.hid hRe
        clear hRe x0 x1 x2 xf
        go_wp2_with fail
        go_loopg [2, 8] its.length (fun g s2 i wr => ∃ (j n : Nat), i = .int .i64 j ∧ s2 = .int .i64 n ∧ n ≤ 16777215 ∧ j ≤ its.length ∧ g = its.length - j ∧ Hid (R = lookL (0 + 1) n (its.drop j)) ∧ Hid (Below w1.heap.size w1 wr))
        case atStart => exact ⟨0, wo, rfl, rfl, by omega, Nat.zero_le _, rfl, HRE, Go.Lib.hid (Below.refl _ _)⟩
        case round =>
          obtain ⟨j, n, rfl, rfl, hn, hj, rfl, HRj, HBj⟩ := hrel
          obtain ⟨x0, x1, x2, xf⟩ := cells3 (box_keep HX1.out HBj.out)
          have hs2 : w.heap.size < wr.heap.size := by have h1 := HBj.out.size; omega
          by_cases hlt : j < its.length
          · obtain ⟨g, off, p0, p1, p2, rfl, hp, c0, c1, c2⟩ := item_cells HB.out HL.out (btr HB1.out HBj.out) j hlt
            obtain ⟨a1, a2, a3, a4, a5, a6, rfl, rfl, rfl⟩ := hp.shape
            have HP := Go.Lib.hid hp
            have hd8' := HD7.out (by omega)
            have hst : lookL (0 + 1) n (its.drop j) = match lookT (0 + 1) n its[j] with
                | .error e => .error e
                | .ok m => lookL (0 + 1) m (its.drop (j + 1)) := by
              rw [List.drop_eq_getElem_cons hlt, lookL]
              cases lookT (0 + 1) n its[j] <;> rfl
            have HST := Go.Lib.hid hst
            clear hst hp
            go_wp2_with fail
            refine (IH.out j hlt P _ _ _ (0 + 1) n 1 n wr HP.out hn hd8' (by go_num) rfl).mono ?_
            rintro r w5 ⟨hb5, hr⟩
            have HB5 := Go.Lib.hid hb5
            clear hb5
            cases hq : lookT (0 + 1) n its[j] with
            | error e =>
              rw [hq] at hr
              obtain ⟨x, rfl⟩ := hr
              have hRe : R = .error e := by rw [HRj.out, HST.out, hq]
              subst hRe
              have he := lookT_err _ _ _ _ hq
              have he1 : (e != 0) = true := by rw [bne_iff_ne]; omega
              clear hq
              go_wp2_with fail
              go_ret2
              exact ⟨btr HB1.out (btr HBj.out HB5.out), _, rfl⟩
            | ok m =>
              rw [hq] at hr
              subst hr
              have hm := lookT_le _ _ _ _ hq
              have HQ := Go.Lib.hid hq
              clear hq
              go_wp2_with fail
              go_roundg (its.length - (j + 1))
              case measure => omega
              case rel =>
                exact ⟨j + 1, m, by go_num, rfl, hm, by omega, rfl, Go.Lib.hid (by rw [HRj.out, HST.out, HQ.out]), Go.Lib.hid (btr HBj.out HB5.out)⟩
          · obtain rfl : j = its.length := by omega
            have hRt : R = .ok n := by rw [HRj.out, List.drop_eq_nil_of_le (Nat.le_refl _), lookL]
            subst hRt
            clear hlt
            go_wp2_with fail
            go_ret2
            exact ⟨btr HB1.out HBj.out, rfl⟩
  · have HWO2 := Go.Lib.hid hwo
    clear hwo
    have hdb : decide (0 < b.length) = false := decide_eq_false (by omega)
    go_enter Try.func33, Try.ntmps33
    go_upto_block 0 with (fail)
    go_cut [2] (fun s2 wx => s2 = .int .i64 (wo : Nat) ∧ wx = w1)
    case first =>
      go_wp2_with fail
      go_meet
      exact ⟨by first | (rw [HWO2.out]; done) | (rw [HWO2.out]; go_num), HW1.out.symm⟩
    case rest =>
      obtain ⟨rfl, rfl⟩ := hcut
      obtain ⟨w1, rfl⟩ : ∃ w' : World, w' = wc := ⟨_, rfl⟩
      obtain ⟨x0, x1, x2, xf⟩ := cells3 HX1.out
      have hsz : w.heap.size < w1.heap.size := (Array.getElem?_eq_some_iff.1 HX1.out).1
      by_cases hbig : 16777215 < wo
      · have hRe : R = .error 20 := by rw [HRW.out, if_pos hbig]
        subst hRe
        go_wp2_with fail
        go_ret2
        exact ⟨HB1.out, _, rfl⟩
      · have hRe : R = lookL (deep + 1) wo its := by rw [HRW.out, if_neg hbig]
        have HRE := Go.Lib.hid hRe
        clear hRe x0 x1 x2 xf
        go_wp2_with fail
        go_loopg [2, 8] its.length (fun g s2 i wr => ∃ (j n : Nat), i = .int .i64 j ∧ s2 = .int .i64 n ∧ n ≤ 16777215 ∧ j ≤ its.length ∧ g = its.length - j ∧ Hid (R = lookL (deep + 1) n (its.drop j)) ∧ Hid (Below w1.heap.size w1 wr))
        case atStart => exact ⟨0, wo, rfl, rfl, by omega, Nat.zero_le _, rfl, HRE, Go.Lib.hid (Below.refl _ _)⟩
        case round =>
          obtain ⟨j, n, rfl, rfl, hn, hj, rfl, HRj, HBj⟩ := hrel
          obtain ⟨x0, x1, x2, xf⟩ := cells3 (box_keep HX1.out HBj.out)
          have hs2 : w.heap.size < wr.heap.size := by have h1 := HBj.out.size; omega
          by_cases hlt : j < its.length
          · obtain ⟨g, off, p0, p1, p2, rfl, hp, c0, c1, c2⟩ := item_cells HB.out HL.out (btr HB1.out HBj.out) j hlt
            obtain ⟨a1, a2, a3, a4, a5, a6, rfl, rfl, rfl⟩ := hp.shape
            have HP := Go.Lib.hid hp
            have hd8' := HD7.out (by omega)
            have hst : lookL (deep + 1) n (its.drop j) = match lookT (deep + 1) n its[j] with
                | .error e => .error e
                | .ok m => lookL (deep + 1) m (its.drop (j + 1)) := by
              rw [List.drop_eq_getElem_cons hlt, lookL]
              cases lookT (deep + 1) n its[j] <;> rfl
            have HST := Go.Lib.hid hst
            clear hst hp
            go_wp2_with fail
            refine (IH.out j hlt P _ _ _ (deep + 1) n ((deep : Int) + 1) n wr HP.out hn hd8' (by go_num) rfl).mono ?_
            rintro r w5 ⟨hb5, hr⟩
            have HB5 := Go.Lib.hid hb5
            clear hb5
            cases hq : lookT (deep + 1) n its[j] with
            | error e =>
              rw [hq] at hr
              obtain ⟨x, rfl⟩ := hr
              have hRe : R = .error e := by rw [HRj.out, HST.out, hq]
              subst hRe
              have he := lookT_err _ _ _ _ hq
              have he1 : (e != 0) = true := by rw [bne_iff_ne]; omega
              clear hq
              go_wp2_with fail
              go_ret2
              exact ⟨btr HB1.out (btr HBj.out HB5.out), _, rfl⟩
            | ok m =>
              rw [hq] at hr
              subst hr
              have hm := lookT_le _ _ _ _ hq
              have HQ := Go.Lib.hid hq
              clear hq
              go_wp2_with fail
              go_roundg (its.length - (j + 1))
              case measure => omega
              case rel =>
                exact ⟨j + 1, m, by go_num, rfl, hm, by omega, rfl, Go.Lib.hid (by rw [HRj.out, HST.out, HQ.out]), Go.Lib.hid (btr HBj.out HB5.out)⟩
          · obtain rfl : j = its.length := by omega
            have hRt : R = .ok n := by rw [HRj.out, List.drop_eq_nil_of_le (Nat.le_refl _), lookL]
            subst hRt
            clear hlt
            go_wp2_with fail
            go_ret2
            exact ⟨btr HB1.out HBj.out, rfl⟩
  · have HWO2 := Go.Lib.hid hwo
    clear hwo
    go_enter Try.func33, Try.ntmps33
    go_upto_block 0 with (fail)
    go_cut [2] (fun s2 wx => s2 = .int .i64 (wo : Nat) ∧ wx = w1)
    case first =>
      go_wp2_with fail
      go_meet
      exact ⟨by first | (rw [HWO2.out]; done) | (rw [HWO2.out]; go_num), HW1.out.symm⟩
    case rest =>
      obtain ⟨rfl, rfl⟩ := hcut
      obtain ⟨w1, rfl⟩ : ∃ w' : World, w' = wc := ⟨_, rfl⟩
      obtain ⟨x0, x1, x2, xf⟩ := cells3 HX1.out
      have hsz : w.heap.size < w1.heap.size := (Array.getElem?_eq_some_iff.1 HX1.out).1
      by_cases hbig : 16777215 < wo
      · have hRe : R = .error 20 := by rw [HRW.out, if_pos hbig]
        subst hRe
        go_wp2_with fail
        go_ret2
        exact ⟨HB1.out, _, rfl⟩
      · have hRe : R = lookL (deep + 1) wo its := by rw [HRW.out, if_neg hbig]
        have HRE := Go.Lib.hid hRe
        clear hRe x0 x1 x2 xf
        go_wp2_with fail
        go_loopg [2, 8] its.length (fun g s2 i wr => ∃ (j n : Nat), i = .int .i64 j ∧ s2 = .int .i64 n ∧ n ≤ 16777215 ∧ j ≤ its.length ∧ g = its.length - j ∧ Hid (R = lookL (deep + 1) n (its.drop j)) ∧ Hid (Below w1.heap.size w1 wr))
        case atStart => exact ⟨0, wo, rfl, rfl, by omega, Nat.zero_le _, rfl, HRE, Go.Lib.hid (Below.refl _ _)⟩
        case round =>
          obtain ⟨j, n, rfl, rfl, hn, hj, rfl, HRj, HBj⟩ := hrel
          obtain ⟨x0, x1, x2, xf⟩ := cells3 (box_keep HX1.out HBj.out)
          have hs2 : w.heap.size < wr.heap.size := by have h1 := HBj.out.size; omega
          by_cases hlt : j < its.length
          · omega
          · obtain rfl : j = its.length := by omega
            have hRt : R = .ok n := by rw [HRj.out, List.drop_eq_nil_of_le (Nat.le_refl _), lookL]
            subst hRt
            clear hlt
            go_wp2_with fail
            go_ret2
            exact ⟨btr HB1.out HBj.out, rfl⟩
  · have HWO2 := Go.Lib.hid hwo
    clear hwo
    go_enter Try.func33, Try.ntmps33
    go_upto_block 0 with (fail)
    go_cut [2] (fun s2 wx => s2 = .int .i64 (wo : Nat) ∧ wx = w1)
    case first =>
      go_wp2_with fail
      go_meet
      exact ⟨by first | (rw [HWO2.out]; done) | (rw [HWO2.out]; go_num), HW1.out.symm⟩
    case rest =>
      obtain ⟨rfl, rfl⟩ := hcut
      obtain ⟨w1, rfl⟩ : ∃ w' : World, w' = wc := ⟨_, rfl⟩
      obtain ⟨x0, x1, x2, xf⟩ := cells3 HX1.out
      have hsz : w.heap.size < w1.heap.size := (Array.getElem?_eq_some_iff.1 HX1.out).1
      by_cases hbig : 16777215 < wo
      · have hRe : R = .error 20 := by rw [HRW.out, if_pos hbig]
        subst hRe
        go_wp2_with fail
        go_ret2
        exact ⟨HB1.out, _, rfl⟩
      · have hRe : R = lookL (deep + 1) wo its := by rw [HRW.out, if_neg hbig]
        have HRE := Go.Lib.hid hRe
        clear hRe x0 x1 x2 xf
        go_wp2_with fail
        go_loopg [2, 8] its.length (fun g s2 i wr => ∃ (j n : Nat), i = .int .i64 j ∧ s2 = .int .i64 n ∧ n ≤ 16777215 ∧ j ≤ its.length ∧ g = its.length - j ∧ Hid (R = lookL (deep + 1) n (its.drop j)) ∧ Hid (Below w1.heap.size w1 wr))
        case atStart => exact ⟨0, wo, rfl, rfl, by omega, Nat.zero_le _, rfl, HRE, Go.Lib.hid (Below.refl _ _)⟩
        case round =>
          obtain ⟨j, n, rfl, rfl, hn, hj, rfl, HRj, HBj⟩ := hrel
          obtain ⟨x0, x1, x2, xf⟩ := cells3 (box_keep HX1.out HBj.out)
          have hs2 : w.heap.size < wr.heap.size := by have h1 := HBj.out.size; omega
          by_cases hlt : j < its.length
          · omega
          · obtain rfl : j = its.length := by omega
            have hRt : R = .ok n := by rw [HRj.out, List.drop_eq_nil_of_le (Nat.le_refl _), lookL]
            subst hRt
            clear hlt
            go_wp2_with fail
            go_ret2
            exact ⟨btr HB1.out HBj.out, rfl⟩

theorem walk_lt : ∀ (k : Nat) (t : Tree), SizeOf.sizeOf t < k → WalkSt t
  | 0, t, h => by omega
  | k + 1, .mk l b its, h => walk_step l b its fun i hi => walk_lt k its[i] (by have := its_size (l := l) (b := b) hi; omega)
theorem ref_walk (t : Tree) : WalkSt t := walk_lt _ t (Nat.lt_succ_self _)

end Go.Proofs.Ytfolidaonnblbaa
