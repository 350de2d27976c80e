/- The reference's Encode of a transaction. -/
import Derived.Test.YtgpaiphjbhkadaaTxEnc
import Derived.Test.YtgpaiphjbhkadaaTxRBytes
namespace Go.Proofs.Ytgpaiphjbhkadaa
open Go.ChangeShapes Go.WideShapes Go.ChangeAt Go.RowKit
set_option linter.unusedVariables false
set_option maxRecDepth 100000

set_option maxHeartbeats 4000000 in
theorem ref_Encode16_no (t : TxD) (hr : rightT t = false) (A B : Option Addr) (d c : Nat) (w : World) :
    Calls Try.prog 10 #[.agg #[.int .u64 (t.a0 : Int), .int .u64 (t.a1 : Int), .int .u64 (t.a2 : Int), .int .u64 (t.a3 : Int), .int .u64 (t.a4 : Int), .int .u64 (t.a5 : Int), .slice A t.inp.length d, .bool t.mak, .slice B t.code.length c]] w (TxEncP t w) := by
  have HRT := Go.Lib.hid hr
  clear hr
  go_enter Try.func10, Try.ntmps10
  go_wp2_with fail
  refine (ref_Right _ _ _ _ _ t.a4 A B t.inp.length d t.code.length c t.mak _).mono ?_
  rintro r w1 ⟨rfl, hb1⟩
  rw [show rightB t.a4 t.inp.length t.mak t.code.length = false from HRT.out]
  have HB1 := Go.Lib.hid hb1
  clear hb1
  go_wp2_with fail
  go_ret2
  unfold TxEncP
  rw [if_neg (by rw [HRT.out]; exact Bool.false_ne_true)]
  exact ⟨rfl, btr (bal (Below.refl _ _) _) HB1.out⟩

set_option maxHeartbeats 4000000 in
theorem ref_Encode16_yes (t : TxD) (hr : rightT t = true) (ho : OkTx t) (A B : Option Addr) (d c : Nat) (w : World) (hA : Rd w A (u64s t.inp)) (hB : Rd w B (bs t.code)) (hd : t.inp.length ≤ d) (hc : t.code.length ≤ c) (hz : c ≤ 9223372036854775807) :
    Calls Try.prog 10 #[.agg #[.int .u64 (t.a0 : Int), .int .u64 (t.a1 : Int), .int .u64 (t.a2 : Int), .int .u64 (t.a3 : Int), .int .u64 (t.a4 : Int), .int .u64 (t.a5 : Int), .slice A t.inp.length d, .bool t.mak, .slice B t.code.length c]] w (TxEncP t w) := by
  have hlen := rightB_len hr
  have HRT := Go.Lib.hid hr
  have HO := Go.Lib.hid ho
  have HA := Go.Lib.hid hA
  have HBC := Go.Lib.hid hB
  clear hr ho hA hB
  go_enter Try.func10, Try.ntmps10
  go_wp2_with fail
  refine (ref_Right _ _ _ _ _ t.a4 A B t.inp.length d t.code.length c t.mak _).mono ?_
  rintro r w1 ⟨rfl, hb1⟩
  rw [show rightB t.a4 t.inp.length t.mak t.code.length = true from HRT.out]
  have hx1 := box_keep (Go.heap_alloc_new w (.cells #[.int .u64 (t.a0 : Int), .int .u64 (t.a1 : Int), .int .u64 (t.a2 : Int), .int .u64 (t.a3 : Int), .int .u64 (t.a4 : Int), .int .u64 (t.a5 : Int), .slice A t.inp.length d, .bool t.mak, .slice B t.code.length c] 26)) hb1
  have HB1 := Go.Lib.hid (btr (bal (Below.refl _ _) _) hb1)
  obtain ⟨c0, c1, c2, c3, c4, c5, c6, c7, c8, cf⟩ := cells9 hx1
  clear hb1 hx1
  go_wp2_with fail
  refine (ref_Bytes16 t hlen.1 hlen.2 HO.out A B d c _ (HA.out.below HB1.out) (HBC.out.below HB1.out) hd hc hz).mono ?_
  rintro r w2 ⟨A2, n2, k2, rfl, hown2, hb2⟩
  have HO2 := Go.Lib.hid (hown2.more (b := w.heap.size) (fun g e => by have := (hown2.block_lt g e).1; have := HB1.out.size; omega))
  have HB2 := Go.Lib.hid (btr HB1.out hb2)
  clear hown2 hb2
  go_wp2_with fail
  go_ret2
  unfold TxEncP
  rw [if_pos HRT.out]
  exact ⟨A2, n2, k2, rfl, HO2.out, HB2.out⟩

theorem ref_Encode16 (t : TxD) (ho : OkTx t) (A B : Option Addr) (d c : Nat) (w : World) (hA : Rd w A (u64s t.inp)) (hB : Rd w B (bs t.code)) (hd : t.inp.length ≤ d) (hc : t.code.length ≤ c) (hz : c ≤ 9223372036854775807) :
    Calls Try.prog 10 #[.agg #[.int .u64 (t.a0 : Int), .int .u64 (t.a1 : Int), .int .u64 (t.a2 : Int), .int .u64 (t.a3 : Int), .int .u64 (t.a4 : Int), .int .u64 (t.a5 : Int), .slice A t.inp.length d, .bool t.mak, .slice B t.code.length c]] w (TxEncP t w) := by
  cases hr : rightT t with
  | true => exact ref_Encode16_yes t hr ho A B d c w hA hB hd hc hz
  | false => exact ref_Encode16_no t hr A B d c w

end Go.Proofs.Ytgpaiphjbhkadaa
