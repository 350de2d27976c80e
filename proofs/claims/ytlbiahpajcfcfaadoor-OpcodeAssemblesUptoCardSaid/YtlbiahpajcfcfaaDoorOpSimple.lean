/- opcode.simple. -/
import Derived.Test.YtlbiahpajcfcfaaDoorOpOf
import Derived.Test.YtlbiahpajcfcfaaDoorOpPure2
namespace Go.Proofs.YtlbiahpajcfcfaaDoor
open Go.ChangeShapes Go.WideShapes Go.ChangeAt Go.RowKit
set_option linter.unusedVariables false
set_option maxRecDepth 100000
attribute [local go_sem ↓] Go.wp_at_zero Go.wp_at_succ

theorem simpleG_at {l : List UInt8} {j : Nat} (h : j < 28) (hj : (inJ j).word = l ∧ (inJ j).behind = 0) (hk : ∀ k, k < j → ¬ ((inJ k).word = l ∧ (inJ k).behind = 0)) : simpleG l = some (opJ j) := by
  have hl : j < tbl.length := h
  unfold simpleG
  have e : tbl.find? (fun r => r.2.word == l && r.2.behind == 0) = some tbl[j] := by
    rw [List.find?_eq_some_iff_getElem]
    refine ⟨?_, j, hl, rfl, fun k hk' => ?_⟩
    · simpa [inJ, List.getD, List.getElem?_eq_getElem hl] using hj
    · have := hk k hk'
      have hkl : k < tbl.length := by omega
      have e2 : inJ k = tbl[k].2 := by simp [inJ, List.getD, List.getElem?_eq_getElem hkl]
      rw [e2] at this
      have h0 : (tbl[k].2.word == l && tbl[k].2.behind == 0) = false := Bool.eq_false_iff.2 (fun h => this (by simpa using h))
      show (!(tbl[k].2.word == l && tbl[k].2.behind == 0)) = true
      rw [h0]; rfl
  rw [e]
  simp [opJ, List.getD, List.getElem?_eq_getElem hl]
theorem simpleG_none {l : List UInt8} (hk : ∀ k, k < 28 → ¬ ((inJ k).word = l ∧ (inJ k).behind = 0)) : simpleG l = none := by
  unfold simpleG
  have e : tbl.find? (fun r => r.2.word == l && r.2.behind == 0) = none := by
    rw [List.find?_eq_none]
    intro r hr
    obtain ⟨k, hk', rfl⟩ := List.getElem_of_mem hr
    have := hk k hk'
    have e2 : inJ k = tbl[k].2 := by simp [inJ, List.getD, List.getElem?_eq_getElem hk']
    rw [e2] at this
    exact fun h => this (by simpa using h)
  rw [e]
  rfl

def SimpleP (l : List UInt8) (w : World) (r : Ending) (w' : World) : Prop := r = .returned (.tuple #[.int .u8 (((simpleG l).getD 0 : Nat) : Int), .bool (simpleG l).isSome]) ∧ Below w.heap.size w w'

set_option maxHeartbeats 4000000 in
theorem op_simple (l : List UInt8) (w : World) : Calls Tryd.prog 28 #[.string ⟨l.toArray⟩] w (SimpleP l w) := by
  obtain ⟨w2, hw2⟩ : ∃ x, x = w.alloc (.cells rowsC.toArray 49) := ⟨_, rfl⟩
  have hb2 : Below w.heap.size w w2 := by rw [hw2]; exact bal (Below.refl _ _) _
  have hr2 : Rd w2 (some ⟨w.heap.size, 0, none⟩) rowsC := by
    rw [hw2]
    exact rd_new w rowsC.toArray 49
  have HW2 := Go.Lib.hid hw2
  have HB2 := Go.Lib.hid hb2
  have HR2 := Go.Lib.hid hr2
  clear hw2 hb2 hr2
  go_enter Tryd.func28, Tryd.ntmps28
  go_wp2_with (go_at_call 23; refine (op_rows _).mono ?_; rintro _ _ ⟨rfl, rfl⟩)
  rw [← HW2.out]
  go_loopg [8] 28 (fun g i wr => ∃ j : Nat, i = .int .i64 j ∧ j ≤ 28 ∧ g = 28 - j ∧ Hid (∀ k, k < j → ¬ ((inJ k).word = l ∧ (inJ k).behind = 0)) ∧ Hid (Below w2.heap.size w2 wr))
  case atStart => exact ⟨0, rfl, Nat.zero_le _, rfl, Go.Lib.hid (by omega), Go.Lib.hid (Below.refl _ _)⟩
  case round =>
    obtain ⟨j, rfl, hj, rfl, HE, HBW⟩ := hrel
    by_cases hlt : j < 28
    · have hji : (0 : Int) ≤ (j : Int) := by omega
      have hjm : (j : Int) < 28 := by omega
      obtain ⟨hg2, hc0, hc1, hc2, hc3, hc4, hc5⟩ := row_cells HR2.out HBW.out hlt
      have hsz := HBW.out.size
      have hg3 : w.heap.size < wr.heap.size := by omega
      by_cases hQ : (inJ j).word = l
      · have HQ := Go.Lib.hid hQ
        have hq : ((inJ j).word == l) = true := by simpa using hQ
        clear hQ
        by_cases hQ2 : (inJ j).behind = 0
        · have HQ2 := Go.Lib.hid hQ2
          have hq2 : ((inJ j).behind : Int) = 0 := by omega
          clear hQ2
          go_wp2_with fail
          have e := simpleG_at hlt (And.intro HQ.out HQ2.out) HE.out
          refine bodyPost_ret (v := .tuple #[.int .u8 (opJ j : Int), .bool true]) (by simp [results, Tryd.results28, go_sem]) rfl ⟨by rw [e]; rfl, bal (btr HB2.out HBW.out) _⟩
        · have HQ2 := Go.Lib.hid hQ2
          have hq2 : ¬ (((inJ j).behind : Int) = 0) := by omega
          clear hQ2
          go_wp2_with fail
          go_roundg (28 - (j + 1))
          case measure => omega
          case rel =>
            refine ⟨j + 1, by go_num, by omega, rfl, Go.Lib.hid ?_, Go.Lib.hid (bal HBW.out _)⟩
            intro k hk
            by_cases hkj : k = j
            · rw [hkj]; exact fun h => HQ2.out h.2
            · exact HE.out k (by omega)
      · have HQ := Go.Lib.hid hQ
        have hq : ((inJ j).word == l) = false := by simpa using hQ
        clear hQ
        go_wp2_with fail
        go_roundg (28 - (j + 1))
        case measure => omega
        case rel =>
          refine ⟨j + 1, by go_num, by omega, rfl, Go.Lib.hid ?_, Go.Lib.hid (bal HBW.out _)⟩
          intro k hk
          by_cases hkj : k = j
          · rw [hkj]; exact fun h => HQ.out h.1
          · exact HE.out k (by omega)
    · have hj28 : j = 28 := by omega
      subst hj28
      go_wp2_with fail
      have e := simpleG_none HE.out
      refine bodyPost_ret (v := .tuple #[.int .u8 0, .bool false]) (by simp [results, Tryd.results28, go_sem]) rfl ⟨by rw [e]; rfl, btr HB2.out HBW.out⟩

end Go.Proofs.YtlbiahpajcfcfaaDoor
