/- Least; same; alive: the answers that the document fixes. -/
import Derived.Test.YtgpaiphjbhkadaaTxDec
import Derived.Lib.SlBytesConst
namespace Go.Proofs.Ytgpaiphjbhkadaa
open Go.ChangeShapes Go.WideShapes Go.ChangeAt Go.RowKit
set_option linter.unusedVariables false
set_option maxRecDepth 100000
attribute [local go_sem ↓] Go.wp_at_zero Go.wp_at_succ

set_option maxHeartbeats 1000000 in
theorem tx_Least (z0 z1 z2 z3 z4 z5 : Int) (A B : Option Addr) (m d k c : Nat) (mk : Bool) (w : World) (hm : m ≤ 1000) (hk : k ≤ 1000) :
    Calls Try.prog 18 #[.agg #[.int .u64 z0, .int .u64 z1, .int .u64 z2, .int .u64 z3, .int .u64 z4, .int .u64 z5, .slice A m d, .bool mk, .slice B k c]] w fun r w' => r = .returned (.int .u64 ((100 + 2 * k + 4 * m : Nat) : Int)) ∧ Below w.heap.size w w' := by
  have e1 : IntKind.u64.wrap (k : Int) = (k : Int) := by rw [IntKind.wrap_u64]; omega
  have e2 : IntKind.u64.wrap (m : Int) = (m : Int) := by rw [IntKind.wrap_u64]; omega
  have e3 : IntKind.u64.wrap (2 * (k : Int)) = 2 * (k : Int) := by rw [IntKind.wrap_u64]; omega
  have e4 : IntKind.u64.wrap (4 * (m : Int)) = 4 * (m : Int) := by rw [IntKind.wrap_u64]; omega
  have e5 : IntKind.u64.wrap (100 + 2 * (k : Int)) = 100 + 2 * (k : Int) := by rw [IntKind.wrap_u64]; omega
  have e6 : IntKind.u64.wrap (100 + 2 * (k : Int) + 4 * (m : Int)) = 100 + 2 * (k : Int) + 4 * (m : Int) := by rw [IntKind.wrap_u64]; omega
  go_enter Try.func18, Try.ntmps18
  go_wp2
  go_ret
  refine ⟨?_, bal (Below.refl _ _) _⟩
  congr 2

set_option maxHeartbeats 1000000 in
theorem law_same (A B : Option Addr) (n c m d : Nat) (xs ys : List UInt8) (w : World) (hx : Rd w A (bs xs)) (hy : Rd w B (bs ys)) (hn : xs.length = n) (hm : ys.length = m) :
    Calls Try.prog 12 #[.slice A n c, .slice B m d] w fun e w' => e = .returned (.bool (xs == ys)) ∧ w' = w := by
  have hc1 := conv_bs (P := Try.prog) w 24 5 9 Try.underlying24 Try.underlying5 Try.underlying9 A n c xs hx hn
  have hc2 := conv_bs (P := Try.prog) w 24 5 9 Try.underlying24 Try.underlying5 Try.underlying9 B m d ys hy hm
  clear hx hy hn hm
  go_enter Try.func12, Try.ntmps12
  go_wp2_with fail
  go_ret
  exact ⟨rfl, rfl⟩

def aliveT : TxD := ⟨1, 0, 100, 2, 2, 7, [], false, []⟩
def aliveU : TxD := ⟨1, 0, 0, 0, 0, 0, [], true, [0]⟩
theorem alive_ok : OkTx aliveT := ⟨by decide, by decide, by decide, by decide, by decide, by decide, by simp [aliveT]⟩
theorem alive_right : rightT aliveT = true := by kernel_rfl
theorem alive_enc : encT (treeT aliveT) = [201, 1, 128, 100, 2, 2, 7, 192, 128, 128] := by kernel_rfl
theorem alive_dec : decTx [201, 1, 128, 128, 128, 128, 128, 192, 1, 0] = some aliveU := by kernel_rfl

set_option maxHeartbeats 2000000 in
theorem law_alive (w : World) :
    Calls Try.prog 11 #[] w fun r w' => r = .returned (.bool true) ∧ Below w.heap.size w w' := by
  go_enter Try.func11, Try.ntmps11
  go_wp2_with fail
  refine (tx_Encode aliveT alive_ok none none 0 0 _ (Rd.nil _ _) (Rd.nil _ _) (Nat.le_refl _) (Nat.le_refl _)).mono ?_
  intro r w2 hp
  unfold TxEncP at hp
  rw [if_pos alive_right, alive_enc] at hp
  obtain ⟨A2, n2, c2, rfl, hown2, hb2⟩ := hp
  obtain rfl : n2 = 10 := by have := hown2.len; simpa using this.symm
  have hcap2 := hown2.cap
  have HO2 := Go.Lib.hid hown2
  have HB2 := Go.Lib.hid hb2
  clear hown2 hb2
  go_wp2_with fail
  refine (tx_Decode _ 10 10 [201, 1, 128, 128, 128, 128, 128, 192, 1, 0] _ (rd_new w2 #[.int .u8 201, .int .u8 1, .int .u8 128, .int .u8 128, .int .u8 128, .int .u8 128, .int .u8 128, .int .u8 192, .int .u8 1, .int .u8 0] 5) rfl (by omega) (by omega)).mono ?_
  rintro r w3 ⟨A3, d3, B3, c3, rfl, ht3, hb3⟩
  have hb3' : Below w2.heap.size w2 w3 := btr (bal (Below.refl _ _) _) hb3
  have hc2 : ∀ w' : World, Below w3.heap.size w3 w' → (convert 24 9 (.slice A2 10 c2)).run Try.prog w' = .ok (.string ⟨#[201, 1, 128, 100, 2, 2, 7, 192, 128, 128]⟩) w' := fun w' h =>
    conv_bs w' _ 5 _ Try.underlying24 Try.underlying5 Try.underlying9 A2 10 c2 [201, 1, 128, 100, 2, 2, 7, 192, 128, 128] ((HO2.out.rd.below hb3').below h) rfl
  rw [alive_dec] at ht3 ⊢
  simp only [txO, txE, Option.getD_some, aliveU, Option.isSome_some, if_true, List.length_nil, List.length_cons, Nat.zero_add]
  have HB3 := Go.Lib.hid (btr HB2.out hb3')
  have e2 := hc2 (w3.alloc (.cells #[.int .u64 1, .int .u64 0, .int .u64 0, .int .u64 0, .int .u64 0, .int .u64 0, .slice A3 0 d3, .bool true, .slice B3 1 c3] 26)) (bal (Below.refl _ _) _)
  clear hb3 hb3' ht3 hc2
  go_wp2_with fail
  refine (tx_Least _ _ _ _ _ _ _ _ 0 _ 1 _ _ _ (by omega) (by omega)).mono ?_
  rintro r w4 ⟨rfl, hb4⟩
  go_wp2_with fail
  go_ret
  exact ⟨rfl, btr (bal HB3.out _) hb4⟩

end Go.Proofs.Ytgpaiphjbhkadaa
