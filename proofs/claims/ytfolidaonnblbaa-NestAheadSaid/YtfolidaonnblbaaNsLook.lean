/- The program's weighing of items: look. -/
import Derived.Test.YtfolidaonnblbaaNsSame
import Derived.Deep.CutBlock
import Derived.BigRegion
namespace Go.Proofs.Ytfolidaonnblbaa
open Go.ChangeShapes Go.WideShapes Go.RowKit
set_option linter.unusedVariables false

mutual
theorem lookT_err : ∀ (deep wt : Nat) (t : Tree) (e : Int), lookT deep wt t = .error e → e = 20 ∨ e = 21 ∨ e = 23
  | deep, wt, .mk l b its, e, h => by
    rw [lookT] at h
    split at h
    · cases h; omega
    · split at h
      · cases h; omega
      · split at h
        · cases h; omega
        · exact lookL_err _ _ its e h
theorem lookL_err : ∀ (deep wt : Nat) (ts : List Tree) (e : Int), lookL deep wt ts = .error e → e = 20 ∨ e = 21 ∨ e = 23
  | deep, wt, [], e, h => by simp [lookL] at h
  | deep, wt, t :: ts, e, h => by
    rw [lookL] at h
    split at h
    · rename_i h2
      cases h
      exact lookT_err _ _ t _ h2
    · exact lookL_err _ _ ts e h
end
mutual
theorem lookT_le : ∀ (deep wt : Nat) (t : Tree) (n : Nat), lookT deep wt t = .ok n → n ≤ 16777215
  | deep, wt, .mk l b its, n, h => by
    rw [lookT] at h
    split at h
    · cases h
    · split at h
      · cases h
      · split at h
        · cases h
        · exact lookL_le _ _ its n (by omega) h
theorem lookL_le : ∀ (deep wt : Nat) (ts : List Tree) (n : Nat), wt ≤ 16777215 → lookL deep wt ts = .ok n → n ≤ 16777215
  | deep, wt, [], n, hw, h => by simp [lookL] at h; omega
  | deep, wt, t :: ts, n, hw, h => by
    rw [lookL] at h
    split at h
    · cases h
    · rename_i h2
      exact lookL_le _ _ ts n (lookT_le _ _ t _ h2) h
end

/-- A looker's block. -/
def Lkr (w : World) (lb : Nat) (wt e : Int) : Prop := w.heap[lb]? = some (.cells #[.int .i64 wt, .int .i64 e] 50 (0, 0))
def LookP (lb : Nat) (w : World) (p : Except Int Nat) (r : Ending) (w' : World) : Prop :=
  r = .returned (.tuple #[]) ∧ Kp (fun k => k = lb) w w' ∧ ∃ wt e : Int, Lkr w' lb wt e ∧ match p with
    | .ok n => wt = n ∧ e = 0
    | .error e' => e = e'
def LookSt (t : Tree) : Prop := ∀ (P : Nat → Prop) (v0 v1 v2 : Value) (lb deep wt : Nat) (D : Int) (w : World), RdT w P t v0 v1 v2 → Lkr w lb wt 0 → wt ≤ 16777215 → deep ≤ 8 → D = deep → (∀ g, P g → g ≠ lb) →
    Calls Try.prog 28 #[.pointer (some ⟨lb, 0, none⟩), .agg #[v0, v1, v2], .int .i64 D] w (LookP lb w (lookT deep wt t))

/-- Behind an item's own weight. -/
def LkMid (w : World) (lb : Nat) (o : Obj) (wo : Nat) (wx : World) : Prop := Kp (fun k => k = lb) w wx ∧ wx.heap[w.heap.size]? = some o ∧ Lkr wx lb (wo : Nat) 0
theorem LkMid.same {w : World} {lb : Nat} {o : Obj} {wt : Nat} (h : Lkr w lb wt 0) : LkMid w lb o wt (w.alloc o) :=
  ⟨Kp.alloc _ _ _, Go.heap_alloc_new w o, (Below.heap_alloc _ _ lb (Array.getElem?_eq_some_iff.1 h).1).trans h⟩
theorem LkMid.drew {w wx : World} {lb : Nat} {o : Obj} {wo : Nat} (h : LkMid w lb o wo wx) : LkMid w lb o wo wx.drew := ⟨h.1.trans (Kp.drew _ _), h.2.1, h.2.2⟩
theorem LkMid.put {w : World} {lb : Nat} {o : Obj} {wt : Int} {wo : Nat} {v : Int} (h : Lkr w lb wt 0) (hv : v = wo) : LkMid w lb o wo ((w.setCell ⟨lb, 0, none⟩ (.int .i64 v)).alloc o) := by
  subst hv
  have hlt := (Array.getElem?_eq_some_iff.1 h).1
  refine ⟨(Kp.setCell (S := fun k => k = lb) (p := ⟨lb, 0, none⟩) w rfl _).trans (Kp.alloc _ _ _), ?_, (Below.heap_alloc _ _ lb (by simpa using hlt)).trans (heap_set_same h 0 _)⟩
  have := Go.heap_alloc_new (w.setCell ⟨lb, 0, none⟩ (.int .i64 wo)) o
  simpa using this

theorem Lkr.lt {w : World} {lb : Nat} {wt e : Int} (h : Lkr w lb wt e) : lb < w.heap.size := (Array.getElem?_eq_some_iff.1 h).1

/-- The loop over the items that stand in it. -/
def LkInv (w1 : World) (lb : Nat) (deep : Nat) (its : List Tree) (R : Except Int Nat) (j : Nat) (wr : World) : Prop :=
  Kp (fun k => k = lb) w1 wr ∧ ∃ wt e : Int, Lkr wr lb wt e ∧ ((e = 0 ∧ ∃ n : Nat, wt = n ∧ n ≤ 16777215 ∧ R = lookL deep n (its.drop j)) ∨ (e ≠ 0 ∧ R = .error e))

set_option maxHeartbeats 1000000 in
set_option maxRecDepth 100000 in
theorem look_step (l : Bool) (b : List UInt8) (its : List Tree) (ih : ∀ i (h : i < its.length), LookSt its[i]) : LookSt (.mk l b its) := by
  intro P v0 v1 v2 lb deep wt D w ht hlk hwt hdp hD hap
  subst hD
  have IH := Go.Lib.hid ih
  obtain ⟨A, c, B, d, cs, rfl, rfl, rfl, hbc, hc, hid', hd, hA, hB, hL⟩ := ht.parts
  generalize hR : lookT deep wt (.mk l b its) = R
  have HRR := Go.Lib.hid hR
  have HA := Go.Lib.hid hA
  have HB := Go.Lib.hid hB
  have HL := Go.Lib.hid hL
  have HAP := Go.Lib.hid hap
  have hlb := hlk.lt
  have hw1 : Lkr (w.alloc (.cells #[.bool l, .slice A b.length c, .slice B its.length d] 25)) lb wt 0 := (Below.heap_alloc _ _ lb hlb).trans hlk
  obtain ⟨k0, k1, kf⟩ := cells2 hlk
  have HLK := Go.Lib.hid hlk
  clear ht ih hR hA hB hL hap hlk hw1
  by_cases hdeep : l = true ∧ deep = 8
  case pos =>
    obtain ⟨rfl, rfl⟩ := hdeep
    have hRe : R = .error 21 := by rw [← HRR.out, lookT, if_pos ⟨rfl, rfl⟩]
    subst hRe
    go_enter Try.func28, Try.ntmps28
    go_wp2_with fail
    refine wp_loop_rounds 1 ?_
    rw [rounds_succ]
    go_wp2_with fail
    all_goals
      go_end0
      refine ⟨rfl, (Kp.setCell (S := fun k => k = lb) (p := ⟨lb, 1, none⟩) w rfl (.int .i64 21)).trans (Kp.alloc _ _ _), wt, 21, ?_, rfl⟩
      exact (Below.heap_alloc _ _ lb (by simpa using hlb)).trans (heap_set_same HLK.out 1 _)
  by_cases hform : (l = true ∧ b ≠ []) ∨ (l = false ∧ its ≠ [])
  case pos =>
    have hRe : R = .error 23 := by rw [← HRR.out, lookT, if_neg hdeep, if_pos hform]
    subst hRe
    go_enter Try.func28, Try.ntmps28
    rcases hform with ⟨rfl, hbn⟩ | ⟨rfl, hin⟩
    · have hbl : 0 < b.length := List.length_pos_iff.2 hbn
      have hd8 : ((deep : Int) == 8) = false := by rw [beq_eq_false_iff_ne]; intro h; exact hdeep ⟨rfl, by omega⟩
      clear hdeep hbn
      go_wp2_with fail
      refine wp_loop_rounds 1 ?_
      rw [rounds_succ]
      go_wp2_with fail
      all_goals
        go_end0
        refine ⟨rfl, (Kp.setCell (S := fun k => k = lb) (p := ⟨lb, 1, none⟩) w rfl (.int .i64 23)).trans (Kp.alloc _ _ _), wt, 23, ?_, rfl⟩
        exact (Below.heap_alloc _ _ lb (by simpa using hlb)).trans (heap_set_same HLK.out 1 _)
    · have hbl : 0 < its.length := List.length_pos_iff.2 hin
      clear hdeep hin
      go_wp2_with fail
      refine wp_loop_rounds 1 ?_
      rw [rounds_succ]
      go_wp2_with fail
      all_goals
        go_end0
        refine ⟨rfl, (Kp.setCell (S := fun k => k = lb) (p := ⟨lb, 1, none⟩) w rfl (.int .i64 23)).trans (Kp.alloc _ _ _), wt, 23, ?_, rfl⟩
        exact (Below.heap_alloc _ _ lb (by simpa using hlb)).trans (heap_set_same HLK.out 1 _)
  have hRw : R = if 16777215 < wtOf l deep wt b then .error 20 else lookL (deep + 1) (wtOf l deep wt b) its := by rw [← HRR.out, lookT, if_neg hdeep, if_neg hform]
  have HRW := Go.Lib.hid hRw
  clear hRw
  have hwlt : wtOf l deep wt b ≤ 175921877221375 := by
    unfold wtOf
    split
    · split <;> omega
    · omega
  generalize hwo : wtOf l deep wt b = wo at *
  have HWO := Go.Lib.hid hwo
  clear hwo
  have hd7 : 0 < its.length → deep + 1 ≤ 8 := by
    intro h
    cases l with
    | true =>
      have : deep ≠ 8 := fun h => hdeep ⟨rfl, h⟩
      omega
    | false =>
      have : its ≠ [] := by rintro rfl; simp at h
      exact absurd (.inr ⟨rfl, this⟩) hform
  have HD7 := Go.Lib.hid hd7
  clear hd7
  go_enter Try.func28, Try.ntmps28
  go_upto_block 0 with (fail)
  go_cut [] (fun wx => Hid (LkMid w lb (.cells #[.bool l, .slice A b.length c, .slice B its.length d] 25) wo wx))
  case first =>
    cases l with
    | true =>
      have hd8 : ((deep : Int) == 8) = false := by rw [beq_eq_false_iff_ne]; intro h; exact hdeep ⟨rfl, by omega⟩
      have hb0 : b = [] := by
        by_cases h : b = []
        · exact h
        · exact absurd (.inl ⟨rfl, h⟩) hform
      subst hb0
      clear hform hdeep
      by_cases hdz : deep = 0
      · subst hdz
        have hw : wo = wt := by rw [← HWO.out, wtOf]; simp
        have HW := Go.Lib.hid hw
        clear hw
        go_wp2_with fail
        go_meet
        refine Go.Lib.hid (by rw [HW.out]; exact LkMid.same HLK.out)
      · have hw : wo = wt + 1 := by rw [← HWO.out, wtOf]; simp [hdz]
        have HW := Go.Lib.hid hw
        have hdz2 : ((deep : Int) == 0) = false := by rw [beq_eq_false_iff_ne]; omega
        clear hw hdz
        go_wp2_with fail
        go_meet
        exact Go.Lib.hid (LkMid.put HLK.out (by have := HW.out; omega))
    | false =>
      have hi0 : its = [] := by
        by_cases h : its = []
        · exact h
        · exact absurd (.inr ⟨rfl, h⟩) hform
      subst hi0
      clear hform hdeep
      by_cases hb1 : b.length ≤ 1
      · have hw : wo = wt + 1 := by rw [← HWO.out, wtOf]; simp; omega
        have hwr : IntKind.i64.wrap ((wt : Int) + 1) = ((wt + 1 : Nat) : Int) := by rw [IntKind.wrap_i64]; omega
        have HW := Go.Lib.hid hw
        clear hw
        go_wp2_with fail
        go_region
        go_wp2_with fail
        all_goals go_meet
        all_goals (first | (refine Go.Lib.hid (LkMid.drew (LkMid.put (v := (wt : Int) + 1) HLK.out ?_)); have := HW.out; omega) | (refine Go.Lib.hid (LkMid.drew (LkMid.put (v := (wt : Int) + (b.length : Int)) HLK.out ?_)); have := HW.out; omega))
      · have hw : wo = wt + b.length := by rw [← HWO.out, wtOf]; simp; omega
        have hwr : IntKind.i64.wrap ((wt : Int) + (b.length : Int)) = ((wt + b.length : Nat) : Int) := by rw [IntKind.wrap_i64]; omega
        have HW := Go.Lib.hid hw
        clear hw
        go_wp2_with fail
        go_region
        go_wp2_with fail
        all_goals go_meet
        all_goals (refine Go.Lib.hid (LkMid.drew (LkMid.put (v := (wt : Int) + (b.length : Int)) HLK.out ?_)); have := HW.out; omega)
  case rest =>
    obtain ⟨wx, rfl⟩ : ∃ wx : World, wx = wc := ⟨_, rfl⟩
    obtain ⟨hkx, hxx, hlx⟩ := hcut.out
    clear hcut
    obtain ⟨x0, x1, x2, xf⟩ := cells3 hxx
    obtain ⟨m0, m1, mf⟩ := cells2 hlx
    have hszx : w.heap.size < wx.heap.size := (Array.getElem?_eq_some_iff.1 hxx).1
    have HKX := Go.Lib.hid hkx
    have HXX := Go.Lib.hid hxx
    have HLX := Go.Lib.hid hlx
    clear hkx hxx hlx
    by_cases hbig : 16777215 < wo
    · have hRe : R = .error 20 := by rw [HRW.out, if_pos hbig]
      subst hRe
      go_wp2_with fail
      refine wp_loop_rounds 1 ?_
      rw [rounds_succ]
      go_wp2_with fail
      all_goals
        go_end0
        refine ⟨rfl, HKX.out.trans (Kp.setCell (S := fun k => k = lb) (p := ⟨lb, 1, none⟩) wx rfl (.int .i64 20)), wo, 20, heap_set_same HLX.out 1 _, rfl⟩
    · have hRe : R = lookL (deep + 1) wo its := by rw [HRW.out, if_neg hbig]
      have HRE := Go.Lib.hid hRe
      clear hRe
      go_wp2_with fail
      go_loopg [6] its.length (fun g v wr => ∃ j : Nat, v = .int .i64 j ∧ j ≤ its.length ∧ g = its.length - j ∧ Hid (LkInv wx lb (deep + 1) its R j wr))
      case atStart => exact ⟨0, rfl, Nat.zero_le _, rfl, Go.Lib.hid ⟨Kp.refl _ _, wo, 0, HLX.out, .inl ⟨rfl, wo, rfl, by omega, HRE.out⟩⟩⟩
      case round =>
        obtain ⟨j, rfl, hj, rfl, hI⟩ := hrel
        obtain ⟨hkr, wtr, er, hlr, hcase⟩ := hI.out
        clear hI m0 m1 mf x0 x1 x2 xf
        obtain ⟨x0, x1, x2, xf⟩ := cells3 ((hkr.block w.heap.size hszx (by omega)).trans HXX.out)
        obtain ⟨m0, m1, mf⟩ := cells2 hlr
        have HKR := Go.Lib.hid hkr
        have HLR := Go.Lib.hid hlr
        clear hkr hlr
        rcases hcase with ⟨rfl, n, rfl, hn, hRj⟩ | ⟨he, hRe⟩
        · have HRJ := Go.Lib.hid hRj
          clear hRj
          by_cases hlt : j < its.length
          · have hkw : Kp (fun k => k = lb) w wr := HKX.out.trans HKR.out
            obtain ⟨p0, p1, p2, e0, e1, e2, hp⟩ := HL.out.at_ j hlt
            obtain ⟨g, off, rfl, hg, hPg, hc1⟩ := HB.out (by intro h; rw [h] at e0; cases e0)
            have hgl := HAP.out g hPg.1
            have c0 : wr.cell? ⟨g, off + j * 3, none⟩ = some p0 := by
              have h5 := hc1 (3 * j) p0 e0
              rw [hkw.cell (p := ⟨g, off + j * 3, none⟩) hg hgl, show j * 3 = 3 * j from by omega]; exact h5
            have c1 : wr.cell? ⟨g, off + j * 3 + 1, none⟩ = some p1 := by
              have h5 := hc1 (3 * j + 1) p1 e1
              rw [hkw.cell (p := ⟨g, off + j * 3 + 1, none⟩) hg hgl, show off + j * 3 + 1 = off + (3 * j + 1) from by omega]; exact h5
            have c2 : wr.cell? ⟨g, off + j * 3 + 2, none⟩ = some p2 := by
              have h5 := hc1 (3 * j + 2) p2 e2
              rw [hkw.cell (p := ⟨g, off + j * 3 + 2, none⟩) hg hgl, show off + j * 3 + 2 = off + (3 * j + 2) from by omega]; exact h5
            have hp' := hp.kp hkw (fun g hg h => HAP.out g hg h)
            have HP := Go.Lib.hid hp'
            have HKW := Go.Lib.hid hkw
            have hd8 := HD7.out (by omega)
            clear hp hp' hkw e0 e1 e2 hc1
            go_wp2_with fail
            refine (IH.out j hlt P p0 p1 p2 lb (deep + 1) n _ _ HP.out HLR.out hn hd8 (by omega) HAP.out).mono ?_
            rintro r w5 ⟨rfl, hk5, wt5, e5, hl5, hm5⟩
            have HK5 := Go.Lib.hid hk5
            have HL5 := Go.Lib.hid hl5
            have HM5 := Go.Lib.hid hm5
            clear hk5 hl5 hm5
            go_wp2_with fail
            go_roundg (its.length - (j + 1))
            case measure => omega
            case rel =>
              refine ⟨j + 1, by go_num, by omega, rfl, Go.Lib.hid ⟨HKR.out.same HK5.out, wt5, e5, HL5.out, ?_⟩⟩
              have h5 := HM5.out
              have hR5 := HRJ.out
              rw [List.drop_eq_getElem_cons hlt, lookL] at hR5
              cases hq : lookT (deep + 1) n its[j] with
              | error e' =>
                rw [hq] at h5 hR5
                have := lookT_err _ _ _ _ hq
                exact .inr ⟨by simp only at h5; omega, by simp only at h5 hR5; rw [hR5, h5]⟩
              | ok n' =>
                rw [hq] at h5 hR5
                exact .inl ⟨h5.2, n', h5.1, lookT_le _ _ _ _ hq, hR5⟩
          · obtain rfl : j = its.length := by omega
            have hRo : R = .ok n := by rw [HRJ.out, List.drop_eq_nil_of_le (Nat.le_refl _), lookL]
            subst hRo
            clear hlt
            go_wp2_with fail
            go_end0
            exact ⟨rfl, HKX.out.trans HKR.out, n, 0, HLR.out, rfl, rfl⟩
        · subst hRe
          have he0 : (er == 0) = false := by simpa using he
          clear he
          go_wp2_with fail
          all_goals
            go_end0
            exact ⟨rfl, HKX.out.trans HKR.out, wtr, er, HLR.out, rfl⟩

theorem look_lt : ∀ (k : Nat) (t : Tree), SizeOf.sizeOf t < k → LookSt t
  | 0, t, h => by omega
  | k + 1, .mk l b its, h => look_step l b its fun i hi => look_lt k its[i] (by have := its_size (l := l) (b := b) hi; omega)
theorem nest_look (t : Tree) : LookSt t := look_lt _ t (Nat.lt_succ_self _)

end Go.Proofs.Ytfolidaonnblbaa
