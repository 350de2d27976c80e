/- opcode.Of, opcode.piece. -/
import Derived.Test.YtlbiahpajcfcfaaDoorOpRows
import Derived.Test.YtlbiahpajcfcfaaDoorLexKit
import Derived.Deep.LoopGhost
import Derived.Outline
namespace Go.Proofs.YtlbiahpajcfcfaaDoor
open Go.ChangeShapes Go.WideShapes Go.ChangeAt Go.RowKit
set_option linter.unusedVariables false
set_option maxRecDepth 100000
attribute [local go_sem ↓] Go.wp_at_zero Go.wp_at_succ

theorem rd_new (w : World) (cs : Array Value) (t : TypeId) : Rd (w.alloc (.cells cs t)) (some ⟨w.heap.size, 0, none⟩) cs.toList := fun _ =>
  ⟨w.heap.size, 0, rfl, by simp, fun j u hu => by
    rw [cell_of_row _ _ _ cs t (0, 0) (Go.heap_alloc_new w _)]
    simpa using hu⟩
theorem heap_set_same {w : World} {g : Nat} {cur : Array Value} {t : TypeId} {fr : Nat × Nat} (h : w.heap[g]? = some (.cells cur t fr)) (i : Nat) (u : Value) : (w.setCell ⟨g, i, none⟩ u).heap[g]? = some (.cells (cur.setIfInBounds i u) t fr) := by
  simp [World.setCell, Array.getElem?_modify, h]
theorem heap_set_list {w : World} {g : Nat} {l : List Value} {t : TypeId} {fr : Nat × Nat} (h : w.heap[g]? = some (.cells l.toArray t fr)) (i : Nat) (u : Value) : (w.setCell ⟨g, i, none⟩ u).heap[g]? = some (.cells (l.set i u).toArray t fr) := by
  rw [heap_set_same h i u, List.setIfInBounds_toArray]
theorem cells5 {w : World} {g : Nat} {a0 a1 a2 a3 a4 : Value} {t : TypeId} (h : w.heap[g]? = some (.cells #[a0, a1, a2, a3, a4] t (0, 0))) :
    w.cell? ⟨g, 0, none⟩ = some a0 ∧ w.cell? ⟨g, 1, none⟩ = some a1 ∧ w.cell? ⟨g, 2, none⟩ = some a2 ∧ w.cell? ⟨g, 3, none⟩ = some a3 ∧ w.cell? ⟨g, 4, none⟩ = some a4 ∧ ∀ j, w.frozen? ⟨g, j, none⟩ = false := by
  refine ⟨?_, ?_, ?_, ?_, ?_, fun j => ?_⟩
  · rw [cell_of_row _ _ _ _ _ _ h]; rfl
  · rw [cell_of_row _ _ _ _ _ _ h]; rfl
  · rw [cell_of_row _ _ _ _ _ _ h]; rfl
  · rw [cell_of_row _ _ _ _ _ _ h]; rfl
  · rw [cell_of_row _ _ _ _ _ _ h]; rfl
  · simp [World.frozen?, h]
theorem box_keep {w w' : World} {g : Nat} {o : Obj} (h : w.heap[g]? = some o) (hb : Below w.heap.size w w') : w'.heap[g]? = some o :=
  (hb.block g (Array.getElem?_eq_some_iff.1 h).1).trans h
theorem kp_sets (g : Nat) : ∀ (l : List (Nat × Value)) (w : World), Kp (fun k => k = g) w (l.foldl (fun w p => w.setCell ⟨g, p.1, none⟩ p.2) w)
  | [], w => Kp.refl _ _
  | p :: l, w => (Kp.setCell (S := fun k => k = g) (p := ⟨g, p.1, none⟩) w rfl p.2).trans (kp_sets g l _)
theorem kp_setI (w : World) (g : Nat) (i : InfoD) : Kp (fun k => k = g) w (World.setCell (World.setCell (World.setCell (World.setCell (World.setCell w ⟨g, 0, none⟩ (.string ⟨List.toArray i.word⟩)) ⟨g, 1, none⟩ (.int .i64 (i.behind : Int))) ⟨g, 2, none⟩ (.int .i64 (i.takes : Int))) ⟨g, 3, none⟩ (.int .i64 (i.gives : Int))) ⟨g, 4, none⟩ (.int .u64 (i.gas : Int))) :=
  kp_sets g [(0, .string ⟨List.toArray i.word⟩), (1, .int .i64 (i.behind : Int)), (2, .int .i64 (i.takes : Int)), (3, .int .i64 (i.gives : Int)), (4, .int .u64 (i.gas : Int))] w
theorem kp_setI0 (w : World) (g : Nat) : Kp (fun k => k = g) w (World.setCell (World.setCell (World.setCell (World.setCell (World.setCell w ⟨g, 0, none⟩ (.string ⟨#[]⟩)) ⟨g, 1, none⟩ (.int .i64 0)) ⟨g, 2, none⟩ (.int .i64 0)) ⟨g, 3, none⟩ (.int .i64 0)) ⟨g, 4, none⟩ (.int .u64 0)) :=
  kp_sets g [(0, .string ⟨#[]⟩), (1, .int .i64 0), (2, .int .i64 0), (3, .int .i64 0), (4, .int .u64 0)] w
theorem setI_heap {w : World} {g : Nat} {a0 a1 a2 a3 a4 : Value} {T : TypeId} (h : w.heap[g]? = some (.cells #[a0, a1, a2, a3, a4] T (0, 0))) (i : InfoD) :
    ((World.setCell (World.setCell (World.setCell (World.setCell (World.setCell w ⟨g, 0, none⟩ (.string ⟨List.toArray i.word⟩)) ⟨g, 1, none⟩ (.int .i64 (i.behind : Int))) ⟨g, 2, none⟩ (.int .i64 (i.takes : Int))) ⟨g, 3, none⟩ (.int .i64 (i.gives : Int))) ⟨g, 4, none⟩ (.int .u64 (i.gas : Int)))).heap[g]? = some (.cells #[.string ⟨List.toArray i.word⟩, .int .i64 (i.behind : Int), .int .i64 (i.takes : Int), .int .i64 (i.gives : Int), .int .u64 (i.gas : Int)] T (0, 0)) := by
  have h0 := heap_set_list (l := [a0, a1, a2, a3, a4]) h 0 (.string ⟨List.toArray i.word⟩)
  have h1 := heap_set_list h0 1 (.int .i64 (i.behind : Int))
  have h2 := heap_set_list h1 2 (.int .i64 (i.takes : Int))
  have h3 := heap_set_list h2 3 (.int .i64 (i.gives : Int))
  have h4 := heap_set_list h3 4 (.int .u64 (i.gas : Int))
  exact h4
theorem setI0_heap {w : World} {g : Nat} {a0 a1 a2 a3 a4 : Value} {T : TypeId} (h : w.heap[g]? = some (.cells #[a0, a1, a2, a3, a4] T (0, 0))) :
    ((World.setCell (World.setCell (World.setCell (World.setCell (World.setCell w ⟨g, 0, none⟩ (.string ⟨#[]⟩)) ⟨g, 1, none⟩ (.int .i64 0)) ⟨g, 2, none⟩ (.int .i64 0)) ⟨g, 3, none⟩ (.int .i64 0)) ⟨g, 4, none⟩ (.int .u64 0))).heap[g]? = some (.cells #[.string ⟨#[]⟩, .int .i64 0, .int .i64 0, .int .i64 0, .int .u64 0] T (0, 0)) := by
  have h0 := heap_set_list (l := [a0, a1, a2, a3, a4]) h 0 (.string ⟨#[]⟩)
  have h1 := heap_set_list h0 1 (.int .i64 0)
  have h2 := heap_set_list h1 2 (.int .i64 0)
  have h3 := heap_set_list h2 3 (.int .i64 0)
  have h4 := heap_set_list h3 4 (.int .u64 0)
  exact h4
theorem ret_Of {R : Ending → World → Prop} {a : Act} {w : World} {g : Nat} {v0 v1 v2 v3 v4 : Value} {b : Bool} (h2 : a.tmps.getD 2 undef = .pointer (some ⟨g, 0, none⟩)) (h3 : a.tmps.getD 3 undef = .bool b) (hd : a.defers = [])
    (h : w.heap[g]? = some (.cells #[v0, v1, v2, v3, v4] 24 (0, 0))) (hR : R (.returned (.tuple #[.agg #[v0, v1, v2, v3, v4], .bool b])) w) : bodyPost Tryd.prog Tryd.f11 R .ret a w := by
  obtain ⟨c0, c1, c2, c3, c4, _⟩ := cells5 h
  refine bodyPost_ret (v := .tuple #[.agg #[v0, v1, v2, v3, v4], .bool b]) ?_ hd hR
  simp at h2 h3
  simp [results, Tryd.results11, go_sem, c0, c1, c2, c3, c4, h2, h3]

/-- A row of the table, in memory. -/
theorem row_cells {w2 wr : World} {g j : Nat} (h : Rd w2 (some ⟨g, 0, none⟩) rowsC) (hb : Below w2.heap.size w2 wr) (hj : j < 28) :
    g < w2.heap.size ∧ wr.cell? ⟨g, j * 6, none⟩ = some (.int .u8 (opJ j : Int)) ∧ wr.cell? ⟨g, j * 6 + 1, none⟩ = some (.string ⟨List.toArray (inJ j).word⟩) ∧ wr.cell? ⟨g, j * 6 + 2, none⟩ = some (.int .i64 ((inJ j).behind : Int)) ∧ wr.cell? ⟨g, j * 6 + 3, none⟩ = some (.int .i64 ((inJ j).takes : Int)) ∧ wr.cell? ⟨g, j * 6 + 4, none⟩ = some (.int .i64 ((inJ j).gives : Int)) ∧ wr.cell? ⟨g, j * 6 + 5, none⟩ = some (.int .u64 ((inJ j).gas : Int)) := by
  obtain ⟨gb, ob, hab, hgb, hcb⟩ := h.at_ (by decide)
  injection hab with hab
  injection hab with hab1 hab2 _
  subst hab1
  subst hab2
  have hc (i : Nat) (u : Value) (hi : i < 6) (hu : (rowC (opJ j, inJ j))[i]? = some u) : wr.cell? ⟨g, j * 6 + i, none⟩ = some u := by
    rw [hb.cell (p := ⟨g, j * 6 + i, none⟩) hgb]
    have := hcb (j * 6 + i) u ((row_at j i hj hi).trans hu)
    rwa [Nat.zero_add] at this
  exact ⟨hgb, hc 0 _ (by omega) rfl, hc 1 _ (by omega) rfl, hc 2 _ (by omega) rfl, hc 3 _ (by omega) rfl, hc 4 _ (by omega) rfl, hc 5 _ (by omega) rfl⟩

/-- What Of answers. -/
def ofG (op : Nat) : InfoD := (ofI op).getD zeroI
def OfP (op : Nat) (w : World) (r : Ending) (w' : World) : Prop := r = .returned (.tuple #[.agg #[.string ⟨List.toArray (ofG op).word⟩, .int .i64 ((ofG op).behind : Int), .int .i64 ((ofG op).takes : Int), .int .i64 ((ofG op).gives : Int), .int .u64 ((ofG op).gas : Int)], .bool (ofI op).isSome]) ∧ Below w.heap.size w w'

set_option maxHeartbeats 4000000 in
theorem op_Of (op : Nat) (w : World) (h256 : op < 256) : Calls Tryd.prog 11 #[.int .u8 (op : Int)] w (OfP op w) := by
  obtain ⟨w1, hw1⟩ : ∃ x, x = w.alloc (.cells #[.string ⟨#[]⟩, .int .i64 0, .int .i64 0, .int .i64 0, .int .u64 0] 24) := ⟨_, rfl⟩
  have hx1 : w1.heap[w.heap.size]? = some (.cells #[.string ⟨#[]⟩, .int .i64 0, .int .i64 0, .int .i64 0, .int .u64 0] 24 (0, 0)) := by rw [hw1]; exact Go.heap_alloc_new w _
  have hb1 : Below w.heap.size w w1 := by rw [hw1]; exact bal (Below.refl _ _) _
  have hlt : w.heap.size < w1.heap.size := (Array.getElem?_eq_some_iff.1 hx1).1
  have HW1 := Go.Lib.hid hw1
  have HX1 := Go.Lib.hid hx1
  have HB1 := Go.Lib.hid hb1
  clear hw1 hx1 hb1
  by_cases hp : 32 ≤ op ∧ op < 40
  · have e1 : ofI op = some ⟨pushW, op - 32 + 1, 0, 1, 1⟩ := by unfold ofI; rw [if_pos hp]
    have HE := Go.Lib.hid e1
    obtain ⟨k, rfl⟩ : ∃ k, op = k + 32 := ⟨op - 32, by omega⟩
    have q1 : (32 : Int) ≤ ((k + 32 : Nat) : Int) := by omega
    have q2 : ((k + 32 : Nat) : Int) < 40 := by omega
    clear e1 hp
    go_enter Tryd.func11, Tryd.ntmps11
    go_wp2_with fail
    have e9 : Value.agg #[.string ⟨#[112, 117, 115, 104]⟩, .int .i64 ((k : Int) + 1), .int .i64 0, .int .i64 1, .int .u64 1] = Value.agg #[.string ⟨List.toArray (ofG (k + 32)).word⟩, .int .i64 ((ofG (k + 32)).behind : Int), .int .i64 ((ofG (k + 32)).takes : Int), .int .i64 ((ofG (k + 32)).gives : Int), .int .u64 ((ofG (k + 32)).gas : Int)] := by
      have h := HE.out
      simp only [ofG, h, Option.getD_some, pushW]
      have e : k + 32 - 32 + 1 = k + 1 := by omega
      rw [e]
      simp
    have e8 : (ofI (k + 32)).isSome = true := by rw [HE.out]; rfl
    refine ret_Of (g := w.heap.size) rfl rfl rfl (Go.heap_alloc_new _ _) ⟨?_, bal (Below.refl _ _) _⟩
    rw [e8, e9]
  · have HP := Go.Lib.hid hp
    obtain ⟨w2, hw2⟩ : ∃ x, x = (w.alloc (.cells #[.string ⟨#[]⟩, .int .i64 0, .int .i64 0, .int .i64 0, .int .u64 0] 24)).alloc (.cells rowsC.toArray 49) := ⟨_, rfl⟩
    have hb2 : Below w.heap.size w w2 := by rw [hw2]; exact bal (bal (Below.refl _ _) _) _
    have hs2 : w2.heap.size = w.heap.size + 2 := by rw [hw2]; simp
    have hx2 : w2.heap[w.heap.size]? = some (.cells #[.string ⟨#[]⟩, .int .i64 0, .int .i64 0, .int .i64 0, .int .u64 0] 24 (0, 0)) := by
      rw [hw2, Below.heap_alloc _ _ _ (by simp)]
      exact Go.heap_alloc_new w _
    have hr2 : Rd w2 (some ⟨w.heap.size + 1, 0, none⟩) rowsC := by
      rw [hw2]
      have := rd_new (w.alloc (.cells #[.string ⟨#[]⟩, .int .i64 0, .int .i64 0, .int .i64 0, .int .u64 0] 24)) rowsC.toArray 49
      simpa using this
    have HW2 := Go.Lib.hid hw2
    have HB2 := Go.Lib.hid hb2
    have HS2 := Go.Lib.hid hs2
    have HX2 := Go.Lib.hid hx2
    have HR2 := Go.Lib.hid hr2
    clear hw2 hb2 hs2 hx2 hr2
    have hq : ((32 : Int) ≤ (op : Int) ∧ (40 : Int) ≤ (op : Int)) ∨ ¬ (32 : Int) ≤ (op : Int) := by omega
    clear hp
    rcases hq with ⟨q1, q2⟩ | q1
    all_goals
      go_enter Tryd.func11, Tryd.ntmps11
      go_wp2_with (go_at_call 23; refine (op_rows _).mono ?_; rintro _ _ ⟨rfl, rfl⟩)
      rw [← HW2.out]
      go_loopg [19] 28 (fun g i wr => ∃ j : Nat, i = .int .i64 j ∧ j ≤ 28 ∧ g = 28 - j ∧ Hid (∀ k, k < j → opJ k ≠ op) ∧ Hid (Below w2.heap.size w2 wr))
      case atStart => exact ⟨0, rfl, Nat.zero_le _, rfl, Go.Lib.hid (by omega), Go.Lib.hid (Below.refl _ _)⟩
      case round =>
        obtain ⟨j, rfl, hj, rfl, HE, HBW⟩ := hrel
        by_cases hlt : j < 28
        · have hji : (0 : Int) ≤ (j : Int) := by omega
          have hjm : (j : Int) < 28 := by omega
          have hsz := HBW.out.size
          have hgl : w.heap.size + 1 < wr.heap.size := by have := HS2.out; omega
          have hg0 : w.heap.size < wr.heap.size := by omega
          have hgn : w.heap.size ≠ wr.heap.size := by omega
          have hgn' : wr.heap.size ≠ w.heap.size := by omega
          obtain ⟨hg2, hc0, hc1, hc2, hc3, hc4, hc5⟩ := row_cells HR2.out HBW.out hlt
          by_cases hQ : opJ j = op
          · have hq' : (opJ j : Int) = (op : Int) := by rw [hQ]
            have HQ := Go.Lib.hid hQ
            clear hQ
            have HX := Go.Lib.hid (box_keep HX2.out HBW.out)
            obtain ⟨x0, x1, x2, x3, x4, xf⟩ := cells5 HX.out
            go_wp2_with fail
            have e8 := ofI_at HP.out hlt HQ.out HE.out
            have e7 : ofG op = inJ j := by simp [ofG, e8]
            refine ret_Of (g := w.heap.size) rfl rfl rfl ((Below.heap_alloc _ _ _ ?_).trans (setI_heap HX.out (inJ j))) ⟨?_, bal (Kp.below (btr HB2.out HBW.out) (kp_setI wr w.heap.size (inJ j)) (fun i h => Nat.le_of_eq h.symm)) _⟩
            · exact Nat.lt_of_lt_of_le hg0 (kp_setI wr w.heap.size (inJ j)).size
            · rw [e7, e8]; rfl
          · have hq' : ¬ ((opJ j : Int) = (op : Int)) := by omega
            have HQ := Go.Lib.hid hQ
            clear hQ
            go_wp2_with fail
            go_roundg (28 - (j + 1))
            case measure => omega
            case rel =>
              refine ⟨j + 1, by go_num, by omega, rfl, Go.Lib.hid ?_, Go.Lib.hid ?_⟩
              · intro k hk
                by_cases hkj : k = j
                · rw [hkj]; exact HQ.out
                · exact HE.out k (by omega)
              · exact bal HBW.out _
        · have HBW' := HBW
          have hj28 : j = 28 := by omega
          subst hj28
          have hg0 : w.heap.size < wr.heap.size := by have := HBW.out.size; have := HS2.out; omega
          have HX := Go.Lib.hid (box_keep HX2.out HBW.out)
          obtain ⟨x0, x1, x2, x3, x4, xf⟩ := cells5 HX.out
          go_wp2_with fail
          have e8 := ofI_none HP.out HE.out
          have e7 : ofG op = zeroI := by simp [ofG, e8]
          refine ret_Of (g := w.heap.size) rfl rfl rfl (setI0_heap HX.out) ⟨?_, Kp.below (btr HB2.out HBW.out) (kp_setI0 wr w.heap.size) (fun i h => Nat.le_of_eq h.symm)⟩
          rw [e7, e8]; rfl

end Go.Proofs.YtlbiahpajcfcfaaDoor
