/- opcode.piece. -/
import Derived.Test.YtlbiahpajcfcfaaDoorOpOf
import Derived.Test.YtlbiahpajcfcfaaDoorOpPure2
namespace Go.Proofs.YtlbiahpajcfcfaaDoor
open Go.ChangeShapes Go.WideShapes Go.ChangeAt Go.RowKit
set_option linter.unusedVariables false
set_option maxRecDepth 100000
attribute [local go_sem ↓] Go.wp_at_zero Go.wp_at_succ

theorem ret_piece {R : Ending → World → Prop} {a : Act} {w : World} {g : Nat} {v0 v1 v2 v3 v4 : Value} {z : Int} {b : Bool} (h2 : a.tmps.getD 2 undef = .pointer (some ⟨g, 0, none⟩)) (h3 : a.tmps.getD 3 undef = .int .i64 z) (h4 : a.tmps.getD 4 undef = .bool b) (hd : a.defers = [])
    (h : w.heap[g]? = some (.cells #[v0, v1, v2, v3, v4] 24 (0, 0))) (hR : R (.returned (.tuple #[.agg #[v0, v1, v2, v3, v4], .int .i64 z, .bool b])) w) : bodyPost Tryd.prog Tryd.f25 R .ret a w := by
  obtain ⟨c0, c1, c2, c3, c4, _⟩ := cells5 h
  refine bodyPost_ret (v := .tuple #[.agg #[v0, v1, v2, v3, v4], .int .i64 z, .bool b]) ?_ hd hR
  simp at h2 h3 h4
  simp [results, Tryd.results25, go_sem, c0, c1, c2, c3, c4, h2, h3, h4]

def PieceP (xs : List UInt8) (w : World) (r : Ending) (w' : World) : Prop := r = .returned (.tuple #[.agg #[.string ⟨List.toArray (pieceG xs).word⟩, .int .i64 ((pieceG xs).behind : Int), .int .i64 ((pieceG xs).takes : Int), .int .i64 ((pieceG xs).gives : Int), .int .u64 ((pieceG xs).gas : Int)], .int .i64 (pieceN xs : Int), .bool (pieceI xs).isSome]) ∧ Below w.heap.size w w'

set_option maxHeartbeats 4000000 in
theorem op_piece (A : Option Addr) (n c : Nat) (x : UInt8) (ys : List UInt8) (w : World) (hn : n = ys.length + 1) (hr : Rd w A (bs (x :: ys))) (hz : n ≤ 9223372036854775807) :
    Calls Tryd.prog 25 #[.slice A n c] w (PieceP (x :: ys) w) := by
  obtain ⟨g, off, rfl, hg, hc⟩ := hr.at_ (by simp)
  have hc0 := hc 0 (.int .u8 (x.toNat : Int)) rfl
  rw [Nat.add_zero] at hc0
  have hx256 : x.toNat < 256 := x.toNat_lt
  have HNN := Go.Lib.hid hn
  have hn0 : (0 : Int) < (n : Int) := by omega
  have HN0 : n ≠ 0 := by omega
  clear hc hr hn
  obtain ⟨w1, hw1⟩ : ∃ y, y = w.alloc (.cells #[.string ⟨#[]⟩, .int .i64 0, .int .i64 0, .int .i64 0, .int .u64 0] 24) := ⟨_, rfl⟩
  have hx1 : w1.heap[w.heap.size]? = some (.cells #[.string ⟨#[]⟩, .int .i64 0, .int .i64 0, .int .i64 0, .int .u64 0] 24 (0, 0)) := by rw [hw1]; exact Go.heap_alloc_new w _
  have hb1 : Below w.heap.size w w1 := by rw [hw1]; exact bal (Below.refl _ _) _
  have hlt1 : w.heap.size < w1.heap.size := (Array.getElem?_eq_some_iff.1 hx1).1
  have HW1 := Go.Lib.hid hw1
  have HX1 := Go.Lib.hid hx1
  have HB1 := Go.Lib.hid hb1
  clear hw1 hx1 hb1
  by_cases hp : (pieceI (x :: ys)).isSome = true
  · obtain ⟨i, hi⟩ := Option.isSome_iff_exists.1 hp
    obtain ⟨h1, h2, h3⟩ := pieceI_behind hi
    have e1 : ofG x.toNat = i := by simp [ofG, h1]
    have e2 : (ofI x.toNat).isSome = true := by rw [h1]; rfl
    have e3 : pieceG (x :: ys) = i := by simp [pieceG, hi]
    have e4 : pieceN (x :: ys) = i.behind + 1 := by simp [pieceN, hi]
    have hq1 : ¬ ((n : Int) ≤ (i.behind : Int)) := by have := HNN.out; omega
    have hq2 : ((i.behind : Int) + 1) ≤ 9 := by omega
    have hq3 : (0 : Int) ≤ (i.behind : Int) := by omega
    have HE := Go.Lib.hid (And.intro e3 (And.intro e4 hp))
    clear e3 e4 hp hi h1 h2 h3
    go_enter Tryd.func25, Tryd.ntmps25
    go_wp2_with (go_at_call 11; refine (op_Of _ _ hx256).mono ?_; rintro _ w3 ⟨rfl, hb3⟩; rw [e1, e2]; have hlt3 : w.heap.size < w3.heap.size := (by have := hb3.size; simp at this; omega); have hne3 : w.heap.size ≠ w3.heap.size := (by omega); have hne3' : w3.heap.size ≠ w.heap.size := (by omega); have HX3 := Go.Lib.hid (box_keep (Go.heap_alloc_new w _) hb3); have HB3 := Go.Lib.hid (btr (bal (Below.refl _ w) _) hb3); clear hb3; obtain ⟨x0, x1, x2, x3, x4, xf⟩ := cells5 HX3.out)
    go_region
    go_wp2_with fail
    have hl5 := Nat.lt_of_lt_of_le hlt3 (kp_setI w3 w.heap.size i).size
    refine ret_piece (g := w.heap.size) rfl rfl rfl rfl ((Below.heap_alloc _ _ _ hl5).trans (setI_heap HX3.out i)) ⟨?_, bdr (bal (Kp.below HB3.out (kp_setI w3 w.heap.size i) (fun i h => Nat.le_of_eq h.symm)) _)⟩

    rw [HE.out.1, HE.out.2.1, HE.out.2.2]; rfl
  · have h0 : pieceI (x :: ys) = none := by simpa using hp
    have HE := Go.Lib.hid (And.intro (show pieceG (x :: ys) = zeroI by simp [pieceG, h0]) (And.intro (show pieceN (x :: ys) = 1 by simp [pieceN, h0]) (show (pieceI (x :: ys)).isSome = false by rw [h0]; rfl)))
    clear hp
    cases ho : ofI x.toNat with
    | none =>
      have e1 : ofG x.toNat = zeroI := by simp [ofG, ho]
      have e2 : (ofI x.toNat).isSome = false := by rw [ho]; rfl
      clear ho h0
      go_enter Tryd.func25, Tryd.ntmps25
      go_wp2_with (go_at_call 11; refine (op_Of _ _ hx256).mono ?_; rintro _ w3 ⟨rfl, hb3⟩; rw [e1, e2]; have hlt3 : w.heap.size < w3.heap.size := (by have := hb3.size; simp at this; omega); have hne3 : w.heap.size ≠ w3.heap.size := (by omega); have hne3' : w3.heap.size ≠ w.heap.size := (by omega); have HX3 := Go.Lib.hid (box_keep (Go.heap_alloc_new w _) hb3); have HB3 := Go.Lib.hid (btr (bal (Below.refl _ w) _) hb3); clear hb3; obtain ⟨x0, x1, x2, x3, x4, xf⟩ := cells5 HX3.out)
      refine ret_piece (g := w.heap.size) rfl rfl rfl rfl ((Below.heap_alloc _ _ _ ?_).trans (setI0_heap HX3.out)) ⟨?_, bal (Kp.below HB3.out (kp_setI0 w3 w.heap.size) (fun i h => Nat.le_of_eq h.symm)) _⟩
      · exact Nat.lt_of_lt_of_le hlt3 (kp_setI0 w3 w.heap.size).size
      · rw [HE.out.1, HE.out.2.1, HE.out.2.2]; rfl
    | some i =>
      have e1 : ofG x.toNat = i := by simp [ofG, ho]
      have e2 : (ofI x.toNat).isSome = true := by rw [ho]; rfl
      have hb8 := behind_le _ _ ho
      have hq : ys.length + 1 ≤ i.behind := by
        rcases Nat.lt_or_ge i.behind (ys.length + 1) with h | h
        · exfalso
          have : pieceI (x :: ys) = some i := by simp only [pieceI, ho, Option.bind_some]; rw [if_neg (by omega)]
          rw [this] at h0; cases h0
        · exact h
      have hq1 : ((n : Int) ≤ (i.behind : Int)) := by have := HNN.out; omega
      clear ho h0 hq
      go_enter Tryd.func25, Tryd.ntmps25
      go_wp2_with (go_at_call 11; refine (op_Of _ _ hx256).mono ?_; rintro _ w3 ⟨rfl, hb3⟩; rw [e1, e2]; have hlt3 : w.heap.size < w3.heap.size := (by have := hb3.size; simp at this; omega); have hne3 : w.heap.size ≠ w3.heap.size := (by omega); have hne3' : w3.heap.size ≠ w.heap.size := (by omega); have HX3 := Go.Lib.hid (box_keep (Go.heap_alloc_new w _) hb3); have HB3 := Go.Lib.hid (btr (bal (Below.refl _ w) _) hb3); clear hb3; obtain ⟨x0, x1, x2, x3, x4, xf⟩ := cells5 HX3.out)
      refine ret_piece (g := w.heap.size) rfl rfl rfl rfl ((Below.heap_alloc _ _ _ ?_).trans (setI0_heap HX3.out)) ⟨?_, bal (Kp.below HB3.out (kp_setI0 w3 w.heap.size) (fun i h => Nat.le_of_eq h.symm)) _⟩
      · exact Nat.lt_of_lt_of_le hlt3 (kp_setI0 w3 w.heap.size).size
      · rw [HE.out.1, HE.out.2.1, HE.out.2.2]; rfl

end Go.Proofs.YtlbiahpajcfcfaaDoor
