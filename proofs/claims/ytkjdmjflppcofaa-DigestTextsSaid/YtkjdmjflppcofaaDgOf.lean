/- The digest's Of, and the Hash's Len and Clone. -/
import Derived.Test.YtkjdmjflppcofaaDgSum
namespace Go.Proofs.Ytkjdmjflppcofaa
open Go.ChangeShapes Go.WideShapes Go.ChangeAt Go.RowKit
set_option linter.unusedVariables false

theorem digV_one (f : Nat → Int) : (((List.range 32).map fun i => Value.int .u8 (f i)).toArray).all (·.oneCell') = true := by
  simp [Value.oneCell']
theorem digV_size (f : Nat → Int) : (((List.range 32).map fun i => Value.int .u8 (f i)).toArray).size = 32 := by simp
theorem size28' (f : Nat → Int) : (Try.prog.info? 28).map (·.size) = some (((List.range 32).map fun i => Value.int .u8 (f i)).toArray).size := by rw [digV_size]; exact size28

theorem rd_len_pos {w : World} {A : Option Addr} {xs : List UInt8} (h : Rd w A (bs xs)) : True := trivial

set_option maxHeartbeats 400000 in
theorem digest_Of (B : Option Addr) (n c : Nat) (ys : List UInt8) (w : World) (hn : n = ys.length) (hr : Rd w B (bs ys)) (hlen : ys.length + 64 ≤ 140737488355328) :
    Calls Try.prog 16 #[.slice B n c] w fun e w' => e = .returned (digV (digB ys)) ∧ Below w.heap.size w w' := by
  subst hn
  have HR := Go.Lib.hid hr
  clear hr
  go_enter Try.func16, Try.ntmps16
  go_wp2_with fail
  refine (digest_New _).mono ?_
  rintro e wx ⟨w1, hb1, rfl, rfl⟩
  have hb1' : Below (w.alloc z28).heap.size (w.alloc z28) w1 := hb1
  have HB1 := Go.Lib.hid hb1'
  clear hb1 hb1'
  have hh : HashAt (w1.alloc (.cells #[.int .u64 initS.a, .int .u64 initS.b, .int .u64 initS.c, .int .u64 initS.d, .slice none 0 0, .int .i64 0] 61)) w1.heap.size none (w.heap.size + 1) [] :=
    ⟨initS, none, 0, 0, Go.heap_alloc_new w1 _, rfl, Own.nil _ _ _ _, rfl⟩
  have HH := Go.Lib.hid hh
  clear hh
  have hs1 : w.heap.size + 1 ≤ w1.heap.size := by have := HB1.out.size; simpa using this
  go_wp2_with fail
  refine (digest_Write w1.heap.size none (w.heap.size + 1) [] ys B c _ HH.out hs1 (((HR.out.alloc z28).below HB1.out).alloc _) (by simp; omega)).mono ?_
  rintro e w2 ⟨rfl, R', hh2, hkp2, _⟩
  rw [List.nil_append] at hh2
  have HH2 := Go.Lib.hid hh2
  have hb2 : Below (w.alloc z28).heap.size (w.alloc z28) w2 := Kp.below (bal HB1.out _) hkp2 (fun i h => by
    rcases h with h | h
    · subst h; simpa using hs1
    · simp at h)
  have HB2 := Go.Lib.hid hb2
  clear hh2 hkp2 hb2
  go_wp2_with fail
  refine (digest_Sum w1.heap.size R' (w.heap.size + 1) ys w2 HH2.out hlen).mono ?_
  rintro e w3 ⟨rfl, hb3⟩
  have hres : w3.heap[w.heap.size]? = some z28 := (hb3.block w.heap.size (by have := HB2.out.size; simp at this; omega)).trans ((HB2.out.block w.heap.size (by simp)).trans (Go.heap_alloc_new w z28))
  have HRES := Go.Lib.hid hres
  have hb3' : Below w.heap.size w w3 := btr (btr (bal (Below.refl _ _) z28) HB2.out) hb3
  have HB3 := Go.Lib.hid hb3'
  clear hres hb3 hb3'
  go_wp2_with (refine wpList_store_row rfl 28 (.tmp 2) (.tmp 9) rfl w.heap.size ((List.range 32).map fun i => Value.int .u8 (digB ys i)).toArray rfl rfl 28 _ HRES.out (size28' _) (digV_size _).symm (digV_one _) ?_)
  refine bodyPost_ret (results_cell_row rfl _ _ w.heap.size 28 _ (0, 0) _ rfl (setRow_heap _ _ _ _ _ _ HRES.out) Try.underlying28 rfl (size28' _)) rfl ?_
  exact ⟨rfl, below_row HB3.out (Nat.le_refl _) _⟩

end Go.Proofs.Ytkjdmjflppcofaa
