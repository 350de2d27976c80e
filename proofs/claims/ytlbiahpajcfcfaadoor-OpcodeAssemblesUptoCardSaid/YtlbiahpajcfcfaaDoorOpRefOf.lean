/- The reference's Of, more. Written by wip/bin/opref.py. -/
import Derived.Test.YtlbiahpajcfcfaaDoorOpPiece
namespace Go.Proofs.YtlbiahpajcfcfaaDoor
open Go.ChangeShapes Go.WideShapes Go.ChangeAt Go.RowKit
set_option linter.unusedVariables false
set_option maxRecDepth 100000
attribute [local go_sem ↓] Go.wp_at_zero Go.wp_at_succ

def moreI (op : Nat) : Option InfoD := ((tbl.drop 15).find? fun r => r.1 == op).map (·.2)
def moreG (op : Nat) : InfoD := (moreI op).getD zeroI
def MoreP (op : Nat) (w : World) (r : Ending) (w' : World) : Prop := r = .returned (.tuple #[.agg #[.string ⟨List.toArray (moreG op).word⟩, .int .i64 ((moreG op).behind : Int), .int .i64 ((moreG op).takes : Int), .int .i64 ((moreG op).gives : Int), .int .u64 ((moreG op).gas : Int)], .bool (moreI op).isSome]) ∧ Below w.heap.size w w'
theorem ret_more {R : Ending → World → Prop} {a : Act} {w : World} {g : Nat} {v0 v1 v2 v3 v4 : Value} {b : Bool} (h2 : a.tmps.getD 2 undef = .pointer (some ⟨g, 0, none⟩)) (h3 : a.tmps.getD 3 undef = .bool b) (hd : a.defers = [])
    (h : w.heap[g]? = some (.cells #[v0, v1, v2, v3, v4] 27 (0, 0))) (hR : R (.returned (.tuple #[.agg #[v0, v1, v2, v3, v4], .bool b])) w) : bodyPost Tryd.prog Tryd.f24 R .ret a w := by
  obtain ⟨c0, c1, c2, c3, c4, _⟩ := cells5 h
  refine bodyPost_ret (v := .tuple #[.agg #[v0, v1, v2, v3, v4], .bool b]) ?_ hd hR
  simp at h2 h3
  simp [results, Tryd.results24, go_sem, c0, c1, c2, c3, c4, h2, h3]
theorem ret_rOf {R : Ending → World → Prop} {a : Act} {w : World} {g : Nat} {v0 v1 v2 v3 v4 : Value} {b : Bool} (h2 : a.tmps.getD 2 undef = .pointer (some ⟨g, 0, none⟩)) (h3 : a.tmps.getD 3 undef = .bool b) (hd : a.defers = [])
    (h : w.heap[g]? = some (.cells #[v0, v1, v2, v3, v4] 27 (0, 0))) (hR : R (.returned (.tuple #[.agg #[v0, v1, v2, v3, v4], .bool b])) w) : bodyPost Tryd.prog Tryd.f12 R .ret a w := by
  obtain ⟨c0, c1, c2, c3, c4, _⟩ := cells5 h
  refine bodyPost_ret (v := .tuple #[.agg #[v0, v1, v2, v3, v4], .bool b]) ?_ hd hR
  simp at h2 h3
  simp [results, Tryd.results12, go_sem, c0, c1, c2, c3, c4, h2, h3]
theorem more_none {op : Nat} (h : ∀ r ∈ tbl.drop 15, r.1 ≠ op) : moreI op = none := by
  unfold moreI
  have e : (tbl.drop 15).find? (fun r => r.1 == op) = none := by
    rw [List.find?_eq_none]
    intro r hr
    simpa using h r hr
  rw [e]
  rfl
theorem of_more {op : Nat} (hp : ¬ (32 ≤ op ∧ op < 40)) (h : ∀ r ∈ tbl.take 15, r.1 ≠ op) : ofI op = moreI op := by
  unfold ofI moreI
  rw [if_neg hp]
  congr 1
  conv => lhs; rw [← List.take_append_drop 15 tbl]
  rw [List.find?_append]
  have e : (tbl.take 15).find? (fun r => r.1 == op) = none := by
    rw [List.find?_eq_none]
    intro r hr
    simpa using h r hr
  rw [e]
  rfl

set_option maxHeartbeats 8000000 in
theorem ref_more (op : Nat) (w : World) (h256 : op < 256) : Calls Tryd.prog 24 #[.int .u8 (op : Int)] w (MoreP op w) := by
  by_cases h80 : op = 80
  · subst h80
    go_enter Tryd.func24, Tryd.ntmps24
    go_wp2_with fail
    refine ret_more (g := w.heap.size) rfl rfl rfl (Go.heap_alloc_new _ _) ⟨rfl, bal (Below.refl _ _) _⟩
  by_cases h81 : op = 81
  · subst h81
    go_enter Tryd.func24, Tryd.ntmps24
    go_wp2_with fail
    refine ret_more (g := w.heap.size) rfl rfl rfl (Go.heap_alloc_new _ _) ⟨rfl, bal (Below.refl _ _) _⟩
  by_cases h96 : op = 96
  · subst h96
    go_enter Tryd.func24, Tryd.ntmps24
    go_wp2_with fail
    refine ret_more (g := w.heap.size) rfl rfl rfl (Go.heap_alloc_new _ _) ⟨rfl, bal (Below.refl _ _) _⟩
  by_cases h97 : op = 97
  · subst h97
    go_enter Tryd.func24, Tryd.ntmps24
    go_wp2_with fail
    refine ret_more (g := w.heap.size) rfl rfl rfl (Go.heap_alloc_new _ _) ⟨rfl, bal (Below.refl _ _) _⟩
  by_cases h98 : op = 98
  · subst h98
    go_enter Tryd.func24, Tryd.ntmps24
    go_wp2_with fail
    refine ret_more (g := w.heap.size) rfl rfl rfl (Go.heap_alloc_new _ _) ⟨rfl, bal (Below.refl _ _) _⟩
  by_cases h99 : op = 99
  · subst h99
    go_enter Tryd.func24, Tryd.ntmps24
    go_wp2_with fail
    refine ret_more (g := w.heap.size) rfl rfl rfl (Go.heap_alloc_new _ _) ⟨rfl, bal (Below.refl _ _) _⟩
  by_cases h100 : op = 100
  · subst h100
    go_enter Tryd.func24, Tryd.ntmps24
    go_wp2_with fail
    refine ret_more (g := w.heap.size) rfl rfl rfl (Go.heap_alloc_new _ _) ⟨rfl, bal (Below.refl _ _) _⟩
  by_cases h101 : op = 101
  · subst h101
    go_enter Tryd.func24, Tryd.ntmps24
    go_wp2_with fail
    refine ret_more (g := w.heap.size) rfl rfl rfl (Go.heap_alloc_new _ _) ⟨rfl, bal (Below.refl _ _) _⟩
  by_cases h102 : op = 102
  · subst h102
    go_enter Tryd.func24, Tryd.ntmps24
    go_wp2_with fail
    refine ret_more (g := w.heap.size) rfl rfl rfl (Go.heap_alloc_new _ _) ⟨rfl, bal (Below.refl _ _) _⟩
  by_cases h112 : op = 112
  · subst h112
    go_enter Tryd.func24, Tryd.ntmps24
    go_wp2_with fail
    refine ret_more (g := w.heap.size) rfl rfl rfl (Go.heap_alloc_new _ _) ⟨rfl, bal (Below.refl _ _) _⟩
  by_cases h113 : op = 113
  · subst h113
    go_enter Tryd.func24, Tryd.ntmps24
    go_wp2_with fail
    refine ret_more (g := w.heap.size) rfl rfl rfl (Go.heap_alloc_new _ _) ⟨rfl, bal (Below.refl _ _) _⟩
  by_cases h128 : op = 128
  · subst h128
    go_enter Tryd.func24, Tryd.ntmps24
    go_wp2_with fail
    refine ret_more (g := w.heap.size) rfl rfl rfl (Go.heap_alloc_new _ _) ⟨rfl, bal (Below.refl _ _) _⟩
  by_cases h129 : op = 129
  · subst h129
    go_enter Tryd.func24, Tryd.ntmps24
    go_wp2_with fail
    refine ret_more (g := w.heap.size) rfl rfl rfl (Go.heap_alloc_new _ _) ⟨rfl, bal (Below.refl _ _) _⟩
  have HM := Go.Lib.hid (more_none (op := op) (by intro r hr; simp only [tbl, List.drop_succ_cons, List.drop_zero, List.mem_cons, List.not_mem_nil, or_false] at hr; rcases hr with rfl | rfl | rfl | rfl | rfl | rfl | rfl | rfl | rfl | rfl | rfl | rfl | rfl <;> (simp only; omega)))
  have q80 : ((op : Int) == 80) = false := beq_eq_false_iff_ne.2 (by omega)
  have q81 : ((op : Int) == 81) = false := beq_eq_false_iff_ne.2 (by omega)
  have q96 : ((op : Int) == 96) = false := beq_eq_false_iff_ne.2 (by omega)
  have q97 : ((op : Int) == 97) = false := beq_eq_false_iff_ne.2 (by omega)
  have q98 : ((op : Int) == 98) = false := beq_eq_false_iff_ne.2 (by omega)
  have q99 : ((op : Int) == 99) = false := beq_eq_false_iff_ne.2 (by omega)
  have q100 : ((op : Int) == 100) = false := beq_eq_false_iff_ne.2 (by omega)
  have q101 : ((op : Int) == 101) = false := beq_eq_false_iff_ne.2 (by omega)
  have q102 : ((op : Int) == 102) = false := beq_eq_false_iff_ne.2 (by omega)
  have q112 : ((op : Int) == 112) = false := beq_eq_false_iff_ne.2 (by omega)
  have q113 : ((op : Int) == 113) = false := beq_eq_false_iff_ne.2 (by omega)
  have q128 : ((op : Int) == 128) = false := beq_eq_false_iff_ne.2 (by omega)
  have q129 : ((op : Int) == 129) = false := beq_eq_false_iff_ne.2 (by omega)
  clear h80 h81 h96 h97 h98 h99 h100 h101 h102 h112 h113 h128 h129
  go_enter Tryd.func24, Tryd.ntmps24
  go_wp2_with fail
  refine ret_more (g := w.heap.size) rfl rfl rfl (Go.heap_alloc_new _ _) ⟨?_, bal (Below.refl _ _) _⟩
  rw [moreG, HM.out]
  rfl

set_option maxHeartbeats 8000000 in
theorem ref_Of (op : Nat) (w : World) (h256 : op < 256) : Calls Tryd.prog 12 #[.int .u8 (op : Int)] w (OfP op w) := by
  by_cases hp : 32 ≤ op ∧ op < 40
  · have e1 : ofI op = some ⟨pushW, op - 32 + 1, 0, 1, 1⟩ := by unfold ofI; rw [if_pos hp]
    have HE := Go.Lib.hid e1
    obtain ⟨k, rfl⟩ : ∃ k, op = k + 32 := ⟨op - 32, by omega⟩
    have q1 : (32 : Int) ≤ ((k + 32 : Nat) : Int) := by omega
    have q2 : ((k + 32 : Nat) : Int) ≤ 39 := by omega
    have q3 : (k : Int) ≤ 7 := by omega
    clear e1 hp
    go_enter Tryd.func12, Tryd.ntmps12
    go_wp2_with fail
    have e9 : Value.agg #[.string ⟨#[112, 117, 115, 104]⟩, .int .i64 ((k : Int) + 1), .int .i64 0, .int .i64 1, .int .u64 1] = Value.agg #[.string ⟨List.toArray (ofG (k + 32)).word⟩, .int .i64 ((ofG (k + 32)).behind : Int), .int .i64 ((ofG (k + 32)).takes : Int), .int .i64 ((ofG (k + 32)).gives : Int), .int .u64 ((ofG (k + 32)).gas : Int)] := by
      have h := HE.out
      simp only [ofG, h, Option.getD_some, pushW]
      have e : k + 32 - 32 + 1 = k + 1 := by omega
      rw [e]
      simp
    have e8 : (ofI (k + 32)).isSome = true := by rw [HE.out]; rfl
    refine ret_rOf (g := w.heap.size) rfl rfl rfl (Go.heap_alloc_new _ _) ⟨?_, bal (Below.refl _ _) _⟩
    rw [e8, e9]
  have hq : ((32 : Int) ≤ (op : Int) ∧ ¬ ((op : Int) ≤ 39)) ∨ ¬ (32 : Int) ≤ (op : Int) := by omega
  by_cases h0 : op = 0
  · subst h0
    clear hq hp
    go_enter Tryd.func12, Tryd.ntmps12
    go_wp2_with fail
    refine ret_rOf (g := w.heap.size) rfl rfl rfl (Go.heap_alloc_new _ _) ⟨rfl, bal (Below.refl _ _) _⟩
  by_cases h1 : op = 1
  · subst h1
    clear hq hp
    go_enter Tryd.func12, Tryd.ntmps12
    go_wp2_with fail
    refine ret_rOf (g := w.heap.size) rfl rfl rfl (Go.heap_alloc_new _ _) ⟨rfl, bal (Below.refl _ _) _⟩
  by_cases h2 : op = 2
  · subst h2
    clear hq hp
    go_enter Tryd.func12, Tryd.ntmps12
    go_wp2_with fail
    refine ret_rOf (g := w.heap.size) rfl rfl rfl (Go.heap_alloc_new _ _) ⟨rfl, bal (Below.refl _ _) _⟩
  by_cases h3 : op = 3
  · subst h3
    clear hq hp
    go_enter Tryd.func12, Tryd.ntmps12
    go_wp2_with fail
    refine ret_rOf (g := w.heap.size) rfl rfl rfl (Go.heap_alloc_new _ _) ⟨rfl, bal (Below.refl _ _) _⟩
  by_cases h4 : op = 4
  · subst h4
    clear hq hp
    go_enter Tryd.func12, Tryd.ntmps12
    go_wp2_with fail
    refine ret_rOf (g := w.heap.size) rfl rfl rfl (Go.heap_alloc_new _ _) ⟨rfl, bal (Below.refl _ _) _⟩
  by_cases h5 : op = 5
  · subst h5
    clear hq hp
    go_enter Tryd.func12, Tryd.ntmps12
    go_wp2_with fail
    refine ret_rOf (g := w.heap.size) rfl rfl rfl (Go.heap_alloc_new _ _) ⟨rfl, bal (Below.refl _ _) _⟩
  by_cases h6 : op = 6
  · subst h6
    clear hq hp
    go_enter Tryd.func12, Tryd.ntmps12
    go_wp2_with fail
    refine ret_rOf (g := w.heap.size) rfl rfl rfl (Go.heap_alloc_new _ _) ⟨rfl, bal (Below.refl _ _) _⟩
  by_cases h7 : op = 7
  · subst h7
    clear hq hp
    go_enter Tryd.func12, Tryd.ntmps12
    go_wp2_with fail
    refine ret_rOf (g := w.heap.size) rfl rfl rfl (Go.heap_alloc_new _ _) ⟨rfl, bal (Below.refl _ _) _⟩
  by_cases h8 : op = 8
  · subst h8
    clear hq hp
    go_enter Tryd.func12, Tryd.ntmps12
    go_wp2_with fail
    refine ret_rOf (g := w.heap.size) rfl rfl rfl (Go.heap_alloc_new _ _) ⟨rfl, bal (Below.refl _ _) _⟩
  by_cases h48 : op = 48
  · subst h48
    clear hq hp
    go_enter Tryd.func12, Tryd.ntmps12
    go_wp2_with fail
    refine ret_rOf (g := w.heap.size) rfl rfl rfl (Go.heap_alloc_new _ _) ⟨rfl, bal (Below.refl _ _) _⟩
  by_cases h49 : op = 49
  · subst h49
    clear hq hp
    go_enter Tryd.func12, Tryd.ntmps12
    go_wp2_with fail
    refine ret_rOf (g := w.heap.size) rfl rfl rfl (Go.heap_alloc_new _ _) ⟨rfl, bal (Below.refl _ _) _⟩
  by_cases h50 : op = 50
  · subst h50
    clear hq hp
    go_enter Tryd.func12, Tryd.ntmps12
    go_wp2_with fail
    refine ret_rOf (g := w.heap.size) rfl rfl rfl (Go.heap_alloc_new _ _) ⟨rfl, bal (Below.refl _ _) _⟩
  by_cases h64 : op = 64
  · subst h64
    clear hq hp
    go_enter Tryd.func12, Tryd.ntmps12
    go_wp2_with fail
    refine ret_rOf (g := w.heap.size) rfl rfl rfl (Go.heap_alloc_new _ _) ⟨rfl, bal (Below.refl _ _) _⟩
  by_cases h65 : op = 65
  · subst h65
    clear hq hp
    go_enter Tryd.func12, Tryd.ntmps12
    go_wp2_with fail
    refine ret_rOf (g := w.heap.size) rfl rfl rfl (Go.heap_alloc_new _ _) ⟨rfl, bal (Below.refl _ _) _⟩
  by_cases h66 : op = 66
  · subst h66
    clear hq hp
    go_enter Tryd.func12, Tryd.ntmps12
    go_wp2_with fail
    refine ret_rOf (g := w.heap.size) rfl rfl rfl (Go.heap_alloc_new _ _) ⟨rfl, bal (Below.refl _ _) _⟩
  have HM := Go.Lib.hid (of_more hp (by intro r hr; simp only [tbl, List.take_succ_cons, List.take_zero, List.mem_cons, List.not_mem_nil, or_false] at hr; rcases hr with rfl | rfl | rfl | rfl | rfl | rfl | rfl | rfl | rfl | rfl | rfl | rfl | rfl | rfl | rfl <;> (simp only; omega)))
  have q0 : ((op : Int) == 0) = false := beq_eq_false_iff_ne.2 (by omega)
  have q1 : ((op : Int) == 1) = false := beq_eq_false_iff_ne.2 (by omega)
  have q2 : ((op : Int) == 2) = false := beq_eq_false_iff_ne.2 (by omega)
  have q3 : ((op : Int) == 3) = false := beq_eq_false_iff_ne.2 (by omega)
  have q4 : ((op : Int) == 4) = false := beq_eq_false_iff_ne.2 (by omega)
  have q5 : ((op : Int) == 5) = false := beq_eq_false_iff_ne.2 (by omega)
  have q6 : ((op : Int) == 6) = false := beq_eq_false_iff_ne.2 (by omega)
  have q7 : ((op : Int) == 7) = false := beq_eq_false_iff_ne.2 (by omega)
  have q8 : ((op : Int) == 8) = false := beq_eq_false_iff_ne.2 (by omega)
  have q48 : ((op : Int) == 48) = false := beq_eq_false_iff_ne.2 (by omega)
  have q49 : ((op : Int) == 49) = false := beq_eq_false_iff_ne.2 (by omega)
  have q50 : ((op : Int) == 50) = false := beq_eq_false_iff_ne.2 (by omega)
  have q64 : ((op : Int) == 64) = false := beq_eq_false_iff_ne.2 (by omega)
  have q65 : ((op : Int) == 65) = false := beq_eq_false_iff_ne.2 (by omega)
  have q66 : ((op : Int) == 66) = false := beq_eq_false_iff_ne.2 (by omega)
  clear hp h0 h1 h2 h3 h4 h5 h6 h7 h8 h48 h49 h50 h64 h65 h66
  rcases hq with ⟨r1, r2⟩ | r1
  all_goals
    go_enter Tryd.func12, Tryd.ntmps12
    go_wp2_with (go_at_call 24; refine (ref_more op _ h256).mono ?_; rintro _ w3 ⟨rfl, hb3⟩; have hlt3 : w.heap.size < w3.heap.size := (by have := hb3.size; simp at this; omega); have hne3 : w.heap.size ≠ w3.heap.size := (by omega); have hne3' : w3.heap.size ≠ w.heap.size := (by omega); have HX3 := Go.Lib.hid (box_keep (Go.heap_alloc_new w _) hb3); have HB3 := Go.Lib.hid (btr (bal (Below.refl _ w) _) hb3); clear hb3; obtain ⟨x0, x1, x2, x3, x4, xf⟩ := cells5 HX3.out)
    refine ret_rOf (g := w.heap.size) rfl rfl rfl (setI_heap HX3.out (moreG op)) ⟨?_, Kp.below HB3.out (kp_setI w3 w.heap.size (moreG op)) (fun i h => Nat.le_of_eq h.symm)⟩
    unfold ofG moreG
    rw [HM.out]

end Go.Proofs.YtlbiahpajcfcfaaDoor
