/- The program's words as bytes: Key, number, Word, Read, Bytes. -/
import Derived.Test.YtlbiahpajcfcfaaDoorRows
import Derived.Test.YtlbiahpajcfcfaaDoorDgPure
import Derived.Test.YtlbiahpajcfcfaaDoorWdPure
import Derived.Test.YtlbiahpajcfcfaaDoorMem2
import Derived.WalkKit
import Derived.ProofKit
import Derived.OpenShut
import Derived.WalkSpells
import Derived.WalkLawsBesides
import Derived.Lib.Hide
import Derived.BigQuiet
import Derived.Deep.QuietTactic
import Derived.Deep.LoopGhost
namespace Go.Proofs.YtlbiahpajcfcfaaDoor
open Go.ChangeShapes Go.WideShapes Go.ChangeAt Go.RowKit
set_option linter.unusedVariables false
set_option maxRecDepth 100000

theorem wd_u8 : (Tryd.prog.info? 5).map (fun i => (i.zero, i.size, i.bytes)) = some (some (.int .u8 0), 1, 1) := by kernel_rfl

theorem wbv_mod (m : Nat) : bv (UInt8.ofNat (m % 256)) = .int .u8 ((m : Int) % 256) := by
  rw [bv, toNat_byte]
  rfl
theorem bs_be8 (n : Nat) : bs (be 8 n) = [.int .u8 ((n : Int) / 72057594037927936 % 256), .int .u8 ((n : Int) / 281474976710656 % 256), .int .u8 ((n : Int) / 1099511627776 % 256), .int .u8 ((n : Int) / 4294967296 % 256), .int .u8 ((n : Int) / 16777216 % 256), .int .u8 ((n : Int) / 65536 % 256), .int .u8 ((n : Int) / 256 % 256), .int .u8 ((n : Int) % 256)] := by
  rw [be8]
  simp only [bs, List.map_cons, List.map_nil, wbv_mod]
  rfl

set_option maxHeartbeats 1000000 in
theorem words_Key (n : Nat) (w : World) :
    Calls Tryd.prog 56 #[.int .u64 (n : Int)] w fun r w' => ∃ A, r = .returned (.slice A 8 8) ∧ Own w' w.heap.size 5 1 A 8 8 (bs (be 8 n)) ∧ Below w.heap.size w w' := by
  have hmk : ∀ w : World, (Instr.makeSlice 32 (.int .i64 8) (.int .i64 8)).run Tryd.prog w = .ok (.slice (some ⟨w.heap.size, 0, none⟩) 8 8) (w.alloc (.cells #[.int .u8 0, .int .u8 0, .int .u8 0, .int .u8 0, .int .u8 0, .int .u8 0, .int .u8 0, .int .u8 0] 5)) := fun _ => by kernel_rfl
  go_enter Tryd.func56, Tryd.ntmps56
  go_wp2
  refine wp_loop_rounds 9 ?_
  rw [rounds_succ]
  go_wp2
  rw [rounds_succ]
  go_wp2
  rw [rounds_succ]
  go_wp2
  rw [rounds_succ]
  go_wp2
  rw [rounds_succ]
  go_wp2
  rw [rounds_succ]
  go_wp2
  rw [rounds_succ]
  go_wp2
  rw [rounds_succ]
  go_wp2
  rw [rounds_succ]
  go_wp2
  go_ret
  refine ⟨_, rfl, ?_, bal (Below.refl _ _) _⟩
  rw [bs_be8]
  exact own_made w w.heap.size 5 1 #[.int .u8 ((n : Int) / 72057594037927936 % 256), .int .u8 ((n : Int) / 281474976710656 % 256), .int .u8 ((n : Int) / 1099511627776 % 256), .int .u8 ((n : Int) / 4294967296 % 256), .int .u8 ((n : Int) / 16777216 % 256), .int .u8 ((n : Int) / 65536 % 256), .int .u8 ((n : Int) / 256 % 256), .int .u8 ((n : Int) % 256)] 8 8 (Nat.le_refl _) (by unfold maxLen; omega) (by omega) rfl

theorem wval_take_bd (xs : List UInt8) (k : Nat) (h : k < 8) : ((wval (xs.take k) : Nat) : Int) ≤ 72057594037927935 := by
  have h1 := wval_lt (xs.take k)
  have h2 : 256 ^ (xs.take k).length ≤ 256 ^ 7 := Nat.pow_le_pow_right (by decide) (by rw [List.length_take]; omega)
  have h3 : (256 : Nat) ^ 7 = 72057594037927936 := by decide
  omega
theorem wval_take_succ (xs : List UInt8) (k : Nat) (h : k < xs.length) : ((wval (xs.take (k + 1)) : Nat) : Int) = (wval (xs.take k) : Nat) * 256 + byteF xs k := by
  rw [List.take_succ_eq_append_getElem h, wval_snoc, byteF, List.getD, List.getElem?_eq_getElem h]
  simp

def okW (b : Bool) (n : Nat) : Value := .tuple #[.int .u64 (if b then (n : Int) else 0), .bool b]

end Go.Proofs.YtlbiahpajcfcfaaDoor
