/- opcode.rows. -/
import Derived.Test.YtlbiahpajcfcfaaDoorOpPure
import Derived.Deep.DeepCutAuto
namespace Go.Proofs.YtlbiahpajcfcfaaDoor
open Go.ChangeShapes Go.WideShapes Go.ChangeAt Go.RowKit
set_option linter.unusedVariables false
set_option maxRecDepth 100000

theorem wpList_value {P : Program} {ops : Array Oper} {rest : List Oper} {o : Oper} {a : Act} {w w' : World} {Q : Exit → Act → World → Prop} (hg : o.guard = none) (v : Value) (h1 : (execOp a.eval o).run P w = .ok (.value v) w') (h : wpList P ops Q rest (a.put o.dst v) w') : wpList P ops Q (o :: rest) a w :=
  wpList_plain hg fun _ hK => by
    unfold Oper.wp
    rw [h1]
    exact hK _ _ h

set_option maxHeartbeats 4000000 in
theorem op_rows (w : World) : Calls Tryd.prog 23 #[] w fun r w' => r = .returned (.slice (some ⟨w.heap.size, 0, none⟩) 28 28) ∧ w' = w.alloc (.cells rowsC.toArray 49) := by
  go_enter Tryd.func23, Tryd.ntmps23
  go_upto_region 1 with (fail)
  refine wp_region_lit ?_
  refine wpList_value (w' := w) rfl (.agg #[.string ⟨#[115, 116, 111, 112]⟩, .int .i64 0, .int .i64 0, .int .i64 0, .int .u64 0]) (by kernel_rfl) ?_
  refine wpList_value (w' := w) rfl (.agg #[.int .u8 0, .string ⟨#[115, 116, 111, 112]⟩, .int .i64 0, .int .i64 0, .int .i64 0, .int .u64 0]) (by kernel_rfl) ?_
  refine wpList_value (w' := w) rfl (.agg #[.string ⟨#[97, 100, 100]⟩, .int .i64 0, .int .i64 2, .int .i64 1, .int .u64 1]) (by kernel_rfl) ?_
  refine wpList_value (w' := w) rfl (.agg #[.int .u8 1, .string ⟨#[97, 100, 100]⟩, .int .i64 0, .int .i64 2, .int .i64 1, .int .u64 1]) (by kernel_rfl) ?_
  refine wpList_value (w' := w) rfl (.agg #[.string ⟨#[115, 117, 98]⟩, .int .i64 0, .int .i64 2, .int .i64 1, .int .u64 1]) (by kernel_rfl) ?_
  refine wpList_value (w' := w) rfl (.agg #[.int .u8 2, .string ⟨#[115, 117, 98]⟩, .int .i64 0, .int .i64 2, .int .i64 1, .int .u64 1]) (by kernel_rfl) ?_
  refine wpList_value (w' := w) rfl (.agg #[.string ⟨#[109, 117, 108]⟩, .int .i64 0, .int .i64 2, .int .i64 1, .int .u64 2]) (by kernel_rfl) ?_
  refine wpList_value (w' := w) rfl (.agg #[.int .u8 3, .string ⟨#[109, 117, 108]⟩, .int .i64 0, .int .i64 2, .int .i64 1, .int .u64 2]) (by kernel_rfl) ?_
  refine wpList_value (w' := w) rfl (.agg #[.string ⟨#[100, 105, 118]⟩, .int .i64 0, .int .i64 2, .int .i64 1, .int .u64 2]) (by kernel_rfl) ?_
  refine wpList_value (w' := w) rfl (.agg #[.int .u8 4, .string ⟨#[100, 105, 118]⟩, .int .i64 0, .int .i64 2, .int .i64 1, .int .u64 2]) (by kernel_rfl) ?_
  refine wpList_value (w' := w) rfl (.agg #[.string ⟨#[109, 111, 100]⟩, .int .i64 0, .int .i64 2, .int .i64 1, .int .u64 2]) (by kernel_rfl) ?_
  refine wpList_value (w' := w) rfl (.agg #[.int .u8 5, .string ⟨#[109, 111, 100]⟩, .int .i64 0, .int .i64 2, .int .i64 1, .int .u64 2]) (by kernel_rfl) ?_
  refine wpList_value (w' := w) rfl (.agg #[.string ⟨#[108, 101, 115, 115]⟩, .int .i64 0, .int .i64 2, .int .i64 1, .int .u64 1]) (by kernel_rfl) ?_
  refine wpList_value (w' := w) rfl (.agg #[.int .u8 6, .string ⟨#[108, 101, 115, 115]⟩, .int .i64 0, .int .i64 2, .int .i64 1, .int .u64 1]) (by kernel_rfl) ?_
  refine wpList_value (w' := w) rfl (.agg #[.string ⟨#[101, 113, 117, 97, 108]⟩, .int .i64 0, .int .i64 2, .int .i64 1, .int .u64 1]) (by kernel_rfl) ?_
  refine wpList_value (w' := w) rfl (.agg #[.int .u8 7, .string ⟨#[101, 113, 117, 97, 108]⟩, .int .i64 0, .int .i64 2, .int .i64 1, .int .u64 1]) (by kernel_rfl) ?_
  refine wpList_value (w' := w) rfl (.agg #[.string ⟨#[110, 111, 116]⟩, .int .i64 0, .int .i64 1, .int .i64 1, .int .u64 1]) (by kernel_rfl) ?_
  refine wpList_value (w' := w) rfl (.agg #[.int .u8 8, .string ⟨#[110, 111, 116]⟩, .int .i64 0, .int .i64 1, .int .i64 1, .int .u64 1]) (by kernel_rfl) ?_
  refine wpList_value (w' := w) rfl (.agg #[.string ⟨#[112, 111, 112]⟩, .int .i64 0, .int .i64 1, .int .i64 0, .int .u64 1]) (by kernel_rfl) ?_
  refine wpList_value (w' := w) rfl (.agg #[.int .u8 48, .string ⟨#[112, 111, 112]⟩, .int .i64 0, .int .i64 1, .int .i64 0, .int .u64 1]) (by kernel_rfl) ?_
  refine wpList_value (w' := w) rfl (.agg #[.string ⟨#[100, 117, 112]⟩, .int .i64 1, .int .i64 0, .int .i64 1, .int .u64 1]) (by kernel_rfl) ?_
  refine wpList_value (w' := w) rfl (.agg #[.int .u8 49, .string ⟨#[100, 117, 112]⟩, .int .i64 1, .int .i64 0, .int .i64 1, .int .u64 1]) (by kernel_rfl) ?_
  refine wpList_value (w' := w) rfl (.agg #[.string ⟨#[115, 119, 97, 112]⟩, .int .i64 1, .int .i64 0, .int .i64 0, .int .u64 1]) (by kernel_rfl) ?_
  refine wpList_value (w' := w) rfl (.agg #[.int .u8 50, .string ⟨#[115, 119, 97, 112]⟩, .int .i64 1, .int .i64 0, .int .i64 0, .int .u64 1]) (by kernel_rfl) ?_
  refine wpList_value (w' := w) rfl (.agg #[.string ⟨#[106, 117, 109, 112]⟩, .int .i64 0, .int .i64 1, .int .i64 0, .int .u64 3]) (by kernel_rfl) ?_
  refine wpList_value (w' := w) rfl (.agg #[.int .u8 64, .string ⟨#[106, 117, 109, 112]⟩, .int .i64 0, .int .i64 1, .int .i64 0, .int .u64 3]) (by kernel_rfl) ?_
  refine wpList_value (w' := w) rfl (.agg #[.string ⟨#[106, 117, 109, 112, 105, 102]⟩, .int .i64 0, .int .i64 2, .int .i64 0, .int .u64 3]) (by kernel_rfl) ?_
  refine wpList_value (w' := w) rfl (.agg #[.int .u8 65, .string ⟨#[106, 117, 109, 112, 105, 102]⟩, .int .i64 0, .int .i64 2, .int .i64 0, .int .u64 3]) (by kernel_rfl) ?_
  refine wpList_value (w' := w) rfl (.agg #[.string ⟨#[109, 97, 114, 107]⟩, .int .i64 0, .int .i64 0, .int .i64 0, .int .u64 1]) (by kernel_rfl) ?_
  refine wpList_value (w' := w) rfl (.agg #[.int .u8 66, .string ⟨#[109, 97, 114, 107]⟩, .int .i64 0, .int .i64 0, .int .i64 0, .int .u64 1]) (by kernel_rfl) ?_
  refine wpList_value (w' := w) rfl (.agg #[.string ⟨#[108, 111, 97, 100]⟩, .int .i64 0, .int .i64 1, .int .i64 1, .int .u64 10]) (by kernel_rfl) ?_
  refine wpList_value (w' := w) rfl (.agg #[.int .u8 80, .string ⟨#[108, 111, 97, 100]⟩, .int .i64 0, .int .i64 1, .int .i64 1, .int .u64 10]) (by kernel_rfl) ?_
  refine wpList_value (w' := w) rfl (.agg #[.string ⟨#[115, 116, 111, 114, 101]⟩, .int .i64 0, .int .i64 2, .int .i64 0, .int .u64 20]) (by kernel_rfl) ?_
  refine wpList_value (w' := w) rfl (.agg #[.int .u8 81, .string ⟨#[115, 116, 111, 114, 101]⟩, .int .i64 0, .int .i64 2, .int .i64 0, .int .u64 20]) (by kernel_rfl) ?_
  refine wpList_value (w' := w) rfl (.agg #[.string ⟨#[115, 101, 108, 102]⟩, .int .i64 0, .int .i64 0, .int .i64 1, .int .u64 1]) (by kernel_rfl) ?_
  refine wpList_value (w' := w) rfl (.agg #[.int .u8 96, .string ⟨#[115, 101, 108, 102]⟩, .int .i64 0, .int .i64 0, .int .i64 1, .int .u64 1]) (by kernel_rfl) ?_
  refine wpList_value (w' := w) rfl (.agg #[.string ⟨#[99, 97, 108, 108, 101, 114]⟩, .int .i64 0, .int .i64 0, .int .i64 1, .int .u64 1]) (by kernel_rfl) ?_
  refine wpList_value (w' := w) rfl (.agg #[.int .u8 97, .string ⟨#[99, 97, 108, 108, 101, 114]⟩, .int .i64 0, .int .i64 0, .int .i64 1, .int .u64 1]) (by kernel_rfl) ?_
  refine wpList_value (w' := w) rfl (.agg #[.string ⟨#[118, 97, 108, 117, 101]⟩, .int .i64 0, .int .i64 0, .int .i64 1, .int .u64 1]) (by kernel_rfl) ?_
  refine wpList_value (w' := w) rfl (.agg #[.int .u8 98, .string ⟨#[118, 97, 108, 117, 101]⟩, .int .i64 0, .int .i64 0, .int .i64 1, .int .u64 1]) (by kernel_rfl) ?_
  refine wpList_value (w' := w) rfl (.agg #[.string ⟨#[105, 110, 112, 117, 116]⟩, .int .i64 0, .int .i64 1, .int .i64 1, .int .u64 1]) (by kernel_rfl) ?_
  refine wpList_value (w' := w) rfl (.agg #[.int .u8 99, .string ⟨#[105, 110, 112, 117, 116]⟩, .int .i64 0, .int .i64 1, .int .i64 1, .int .u64 1]) (by kernel_rfl) ?_
  refine wpList_value (w' := w) rfl (.agg #[.string ⟨#[98, 97, 108, 97, 110, 99, 101]⟩, .int .i64 0, .int .i64 1, .int .i64 1, .int .u64 8]) (by kernel_rfl) ?_
  refine wpList_value (w' := w) rfl (.agg #[.int .u8 100, .string ⟨#[98, 97, 108, 97, 110, 99, 101]⟩, .int .i64 0, .int .i64 1, .int .i64 1, .int .u64 8]) (by kernel_rfl) ?_
  refine wpList_value (w' := w) rfl (.agg #[.string ⟨#[103, 97, 115]⟩, .int .i64 0, .int .i64 0, .int .i64 1, .int .u64 1]) (by kernel_rfl) ?_
  refine wpList_value (w' := w) rfl (.agg #[.int .u8 101, .string ⟨#[103, 97, 115]⟩, .int .i64 0, .int .i64 0, .int .i64 1, .int .u64 1]) (by kernel_rfl) ?_
  refine wpList_value (w' := w) rfl (.agg #[.string ⟨#[110, 117, 109, 98, 101, 114]⟩, .int .i64 0, .int .i64 0, .int .i64 1, .int .u64 1]) (by kernel_rfl) ?_
  refine wpList_value (w' := w) rfl (.agg #[.int .u8 102, .string ⟨#[110, 117, 109, 98, 101, 114]⟩, .int .i64 0, .int .i64 0, .int .i64 1, .int .u64 1]) (by kernel_rfl) ?_
  refine wpList_value (w' := w) rfl (.agg #[.string ⟨#[99, 97, 108, 108]⟩, .int .i64 0, .int .i64 4, .int .i64 1, .int .u64 40]) (by kernel_rfl) ?_
  refine wpList_value (w' := w) rfl (.agg #[.int .u8 112, .string ⟨#[99, 97, 108, 108]⟩, .int .i64 0, .int .i64 4, .int .i64 1, .int .u64 40]) (by kernel_rfl) ?_
  refine wpList_value (w' := w) rfl (.agg #[.string ⟨#[114, 101, 115, 117, 108, 116]⟩, .int .i64 0, .int .i64 0, .int .i64 1, .int .u64 1]) (by kernel_rfl) ?_
  refine wpList_value (w' := w) rfl (.agg #[.int .u8 113, .string ⟨#[114, 101, 115, 117, 108, 116]⟩, .int .i64 0, .int .i64 0, .int .i64 1, .int .u64 1]) (by kernel_rfl) ?_
  refine wpList_value (w' := w) rfl (.agg #[.string ⟨#[114, 101, 116, 117, 114, 110]⟩, .int .i64 0, .int .i64 1, .int .i64 0, .int .u64 0]) (by kernel_rfl) ?_
  refine wpList_value (w' := w) rfl (.agg #[.int .u8 128, .string ⟨#[114, 101, 116, 117, 114, 110]⟩, .int .i64 0, .int .i64 1, .int .i64 0, .int .u64 0]) (by kernel_rfl) ?_
  refine wpList_value (w' := w) rfl (.agg #[.string ⟨#[114, 101, 118, 101, 114, 116]⟩, .int .i64 0, .int .i64 1, .int .i64 0, .int .u64 0]) (by kernel_rfl) ?_
  refine wpList_value (w' := w) rfl (.agg #[.int .u8 129, .string ⟨#[114, 101, 118, 101, 114, 116]⟩, .int .i64 0, .int .i64 1, .int .i64 0, .int .u64 0]) (by kernel_rfl) ?_
  refine wpList_value (w' := w.alloc (.cells rowsC.toArray 49)) rfl (.slice (some ⟨w.heap.size, 0, none⟩) 28 28) (by kernel_rfl) ?_
  refine wpList_value (w' := w.alloc (.cells rowsC.toArray 49)) rfl (.slice (some ⟨w.heap.size, 0, none⟩) 28 28) (by kernel_rfl) ?_
  refine wpList_nil ?_
  rename_i K hK
  refine hK _ _ ?_
  refine wp_ret ?_
  refine bodyPost_ret (v := .slice (some ⟨w.heap.size, 0, none⟩) 28 28) (by kernel_rfl) (by kernel_rfl) ⟨rfl, rfl⟩

end Go.Proofs.YtlbiahpajcfcfaaDoor
