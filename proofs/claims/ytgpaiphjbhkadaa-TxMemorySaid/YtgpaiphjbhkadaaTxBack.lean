/- TxBack, TxOnly: the walks. -/
import Derived.Test.YtgpaiphjbhkadaaTxEncodes
import Derived.Test.YtgpaiphjbhkadaaTxSame
namespace Go.Proofs.Ytgpaiphjbhkadaa
open Go.ChangeShapes Go.WideShapes Go.ChangeAt Go.RowKit
set_option linter.unusedVariables false
set_option maxRecDepth 100000
attribute [local go_sem ↓] Go.wp_at_zero Go.wp_at_succ

theorem tree_short {t : TxD} (h : rightT t = true) : (encT (treeT t)).length ≤ 4000 := (tree_small (rightB_len h).1 (rightB_len h).2).2

theorem right_sum {tt m k : Nat} {mk : Bool} (h : rightB tt m mk k = true) : 100 + 2 * k + 4 * m ≤ 612 := by
  unfold rightB at h
  cases mk <;> simp at h <;> omega

set_option maxHeartbeats 4000000 in
theorem back_walk (w : World) (t : TxD) (A : Option Addr) (d : Nat) (B : Option Addr) (c : Nat) (ht : TxIn w t A d B c) :
    Calls Try.prog 5 #[.agg #[.int .u64 (t.a0 : Int), .int .u64 (t.a1 : Int), .int .u64 (t.a2 : Int), .int .u64 (t.a3 : Int), .int .u64 (t.a4 : Int), .int .u64 (t.a5 : Int), .slice A t.inp.length d, .bool t.mak, .slice B t.code.length c]] w fun r w' => r = .returned (.bool true) ∧ Below w.heap.size w w' := by
  have HT := Go.Lib.hid ht
  have hok := ht.ok
  have hd := ht.hd
  have hdm := ht.hdm
  have hc := ht.hc
  have hcm := ht.hcm
  have HOK := Go.Lib.hid hok
  obtain ⟨w1, hw1⟩ : ∃ w1, w1 = w.alloc (.cells #[.int .u64 (t.a0 : Int), .int .u64 (t.a1 : Int), .int .u64 (t.a2 : Int), .int .u64 (t.a3 : Int), .int .u64 (t.a4 : Int), .int .u64 (t.a5 : Int), .slice A t.inp.length d, .bool t.mak, .slice B t.code.length c] 26) := ⟨_, rfl⟩
  have hx1 : w1.heap[w.heap.size]? = some (.cells #[.int .u64 (t.a0 : Int), .int .u64 (t.a1 : Int), .int .u64 (t.a2 : Int), .int .u64 (t.a3 : Int), .int .u64 (t.a4 : Int), .int .u64 (t.a5 : Int), .slice A t.inp.length d, .bool t.mak, .slice B t.code.length c] 26 (0, 0)) := by rw [hw1]; exact Go.heap_alloc_new w _
  have hb1 : Below w.heap.size w w1 := by rw [hw1]; exact bal (Below.refl _ _) _
  have HW1 := Go.Lib.hid hw1
  have HX1 := Go.Lib.hid hx1
  have HB1 := Go.Lib.hid hb1
  clear ht hw1 hx1 hb1 hok
  go_enter Try.func5, Try.ntmps5
  go_wp2_with fail
  rw [← HW1.out]
  refine (tx_Encode t HOK.out A B d c _ (HT.out.below HB1.out).hA (HT.out.below HB1.out).hB hd hc).mono ?_
  intro r w2 hp
  obtain ⟨A2, c2, rfl, hc2, hm2, hown2, hb2⟩ := hp.shape
  have HX2 := Go.Lib.hid (box_keep HX1.out hb2)
  have HB2 := Go.Lib.hid (btr HB1.out hb2)
  have HR2 := Go.Lib.hid hown2.rd
  obtain ⟨x0, x1, x2, x3, x4, x5, x6, x7, x8, xf⟩ := cells9 HX2.out
  have hs2 : w.heap.size < w2.heap.size := (Array.getElem?_eq_some_iff.1 HX2.out).1
  clear hp hown2 hb2
  go_wp2_with fail
  refine (tx_Right _ _ _ _ _ t.a4 _ _ t.inp.length d t.code.length c t.mak _).mono ?_
  rintro r w3 ⟨rfl, hb3⟩
  have HX3 := Go.Lib.hid (box_keep HX2.out hb3)
  have HB3 := Go.Lib.hid (btr HB2.out hb3)
  have HR3 := Go.Lib.hid (HR2.out.below hb3)
  clear hb3 x0 x1 x2 x3 x4 x5 x6 x7 x8 xf
  cases hq : rightT t with
  | false =>
    have q : rightB t.a4 t.inp.length t.mak t.code.length = false := hq
    have e1 : txEb t = [] := by unfold txEb; rw [hq]; rfl
    have e2 : txEe t = 160 := by unfold txEe; rw [hq]; rfl
    rw [q, e1, e2]
    clear hq q e1 e2 HR3 HR2 hc2
    go_wp2_with fail
    refine (law_alive _).mono ?_
    rintro r w4 ⟨rfl, hb4⟩
    go_wp2_with fail
    go_ret
    exact ⟨rfl, btr HB3.out hb4⟩
  | true =>
    have q : rightB t.a4 t.inp.length t.mak t.code.length = true := hq
    have e1 : txEb t = encT (treeT t) := by unfold txEb; rw [hq]; rfl
    have e2 : txEe t = 0 := by unfold txEe; rw [hq]; rfl
    have hlen := tree_short hq
    obtain ⟨hl1, hl2⟩ := rightB_len q
    have hsum : 100 + 2 * t.code.length + 4 * t.inp.length ≤ 612 := right_sum q
    have hdec : decTx (encT (treeT t)) = some t := (decTx_iff _ _).2 ⟨HOK.out, hq, rfl⟩
    have HD := Go.Lib.hid hdec
    rw [e1] at HR3 hc2
    rw [q, e1, e2]
    clear hq q e1 e2 HR2 hdec
    go_wp2_with fail
    refine (tx_Decode A2 _ c2 _ _ HR3.out rfl hc2 (by omega)).mono ?_
    rw [HD.out]
    rintro r w4 ⟨A4, d4, B4, c4, rfl, ht4, hb4⟩
    simp only [txO, txE, Option.getD_some, Option.isSome_some, if_true] at ht4 ⊢
    obtain ⟨w5, hw5⟩ : ∃ x, x = w4.alloc (.cells #[.int .u64 (t.a0 : Int), .int .u64 (t.a1 : Int), .int .u64 (t.a2 : Int), .int .u64 (t.a3 : Int), .int .u64 (t.a4 : Int), .int .u64 (t.a5 : Int), .slice A4 t.inp.length d4, .bool t.mak, .slice B4 t.code.length c4] 26) := ⟨_, rfl⟩
    have hx5 : w5.heap[w4.heap.size]? = some (.cells #[.int .u64 (t.a0 : Int), .int .u64 (t.a1 : Int), .int .u64 (t.a2 : Int), .int .u64 (t.a3 : Int), .int .u64 (t.a4 : Int), .int .u64 (t.a5 : Int), .slice A4 t.inp.length d4, .bool t.mak, .slice B4 t.code.length c4] 26 (0, 0)) := by rw [hw5]; exact Go.heap_alloc_new w4 _
    have hb45 : Below w4.heap.size w4 w5 := by rw [hw5]; exact bal (Below.refl _ _) _
    have HW5 := Go.Lib.hid hw5
    have HY5 := Go.Lib.hid hx5
    have HX5 := Go.Lib.hid (box_keep (box_keep HX3.out hb4) hb45)
    have HB5 := Go.Lib.hid (btr (btr HB3.out hb4) hb45)
    have HT5 := Go.Lib.hid (ht4.below hb45)
    clear hw5 hx5 hb45 ht4 hb4
    go_wp2_with fail
    rw [← HW5.out]
    refine (law_alive _).mono ?_
    rintro r w6 ⟨rfl, hb6⟩
    have HX6 := Go.Lib.hid (box_keep HX5.out hb6)
    have HY6 := Go.Lib.hid (box_keep HY5.out hb6)
    have HB6 := Go.Lib.hid (btr HB5.out hb6)
    have HT6 := Go.Lib.hid (HT5.out.below hb6)
    clear hb6
    obtain ⟨x0, x1, x2, x3, x4, x5, x6, x7, x8, xf⟩ := cells9 HX6.out
    obtain ⟨y0, y1, y2, y3, y4, y5, y6, y7, y8, yf⟩ := cells9 HY6.out
    have HI6 := Go.Lib.hid (HT.out.below HB6.out)
    go_wp2_with fail
    refine (ref_Same16 t A d B c A4 d4 B4 c4 _ HI6.out.hA HI6.out.hB HT6.out.hA.rd HT6.out.hB.rd (by omega)).mono ?_
    rintro r w7 ⟨rfl, hb7⟩
    clear x0 x1 x2 x3 x4 x5 x6 x7 x8 xf y0 y1 y2 y3 y4 y5 y6 y7 y8 yf
    have HX7 := Go.Lib.hid (box_keep HX6.out hb7)
    have HB7 := Go.Lib.hid (btr HB6.out hb7)
    clear hb7
    obtain ⟨x0, x1, x2, x3, x4, x5, x6, x7, x8, xf⟩ := cells9 HX7.out
    go_wp2_with fail
    refine (tx_Least _ _ _ _ _ _ _ _ t.inp.length _ t.code.length _ _ _ (by omega) (by omega)).mono ?_
    rintro r w8 ⟨rfl, hb8⟩
    obtain ⟨V, hV⟩ : ∃ V : Nat, V = 100 + 2 * t.code.length + 4 * t.inp.length := ⟨_, rfl⟩
    rw [← hV]
    have hle : decide ((V : Int) ≤ 612) = true := decide_eq_true (by rw [hV]; omega)
    clear hV
    clear x0 x1 x2 x3 x4 x5 x6 x7 x8 xf
    go_wp2_with fail
    go_ret
    exact ⟨rfl, btr HB7.out hb8⟩

set_option maxHeartbeats 4000000 in
theorem only_walk (w : World) (A : Option Addr) (n c : Nat) (xs : List UInt8) (hn : xs.length = n) (hc : n ≤ c) (hr : Rd w A (bs xs)) (hz : c ≤ 140737488351232) :
    Calls Try.prog 6 #[.slice A n c] w fun r w' => r = .returned (.bool true) ∧ Below w.heap.size w w' := by
  have HR := Go.Lib.hid hr
  have HN := Go.Lib.hid hn
  clear hr hn
  go_enter Try.func6, Try.ntmps6
  go_wp2_with fail
  refine (tx_Decode A n c xs _ HR.out HN.out.symm hc (by omega)).mono ?_
  rintro r w1 ⟨A1, d1, B1, c1, rfl, ht1, hb1⟩
  cases hq : decTx xs with
  | none =>
    rw [hq] at ht1
    simp only [txO, txE, Option.getD_none, Option.isSome_none, Bool.false_eq_true, if_false] at ht1 ⊢
    obtain ⟨w5, hw5⟩ : ∃ x, x = w1.alloc (.cells #[.int .u64 (TxD.zero.a0 : Int), .int .u64 (TxD.zero.a1 : Int), .int .u64 (TxD.zero.a2 : Int), .int .u64 (TxD.zero.a3 : Int), .int .u64 (TxD.zero.a4 : Int), .int .u64 (TxD.zero.a5 : Int), .slice A1 TxD.zero.inp.length d1, .bool TxD.zero.mak, .slice B1 TxD.zero.code.length c1] 26) := ⟨_, rfl⟩
    have hx5 : w5.heap[w1.heap.size]? = some (.cells #[.int .u64 (TxD.zero.a0 : Int), .int .u64 (TxD.zero.a1 : Int), .int .u64 (TxD.zero.a2 : Int), .int .u64 (TxD.zero.a3 : Int), .int .u64 (TxD.zero.a4 : Int), .int .u64 (TxD.zero.a5 : Int), .slice A1 TxD.zero.inp.length d1, .bool TxD.zero.mak, .slice B1 TxD.zero.code.length c1] 26 (0, 0)) := by rw [hw5]; exact Go.heap_alloc_new w1 _
    have hb15 : Below w1.heap.size w1 w5 := by rw [hw5]; exact bal (Below.refl _ _) _
    have HW5 := Go.Lib.hid hw5
    have HX5 := Go.Lib.hid hx5
    have HB5 := Go.Lib.hid (btr hb1 hb15)
    have HT5 := Go.Lib.hid (ht1.below hb15)
    clear hw5 hx5 hb15 ht1 hb1 hq
    go_wp2_with fail
    rw [← HW5.out]
    refine (law_alive _).mono ?_
    rintro r w6 ⟨rfl, hb6⟩
    have HX6 := Go.Lib.hid (box_keep HX5.out hb6)
    have HB6 := Go.Lib.hid (btr HB5.out hb6)
    have HT6 := Go.Lib.hid (HT5.out.below hb6)
    clear hb6
    obtain ⟨x0, x1, x2, x3, x4, x5, x6, x7, x8, xf⟩ := cells9 HX6.out
    go_wp2_with fail
    refine (ref_Same16 TxD.zero A1 d1 B1 c1 none 0 none 0 _ HT6.out.hA.rd HT6.out.hB.rd (Rd.nil _ _) (Rd.nil _ _) (by simp [TxD.zero])).mono ?_
    rintro r w7 ⟨rfl, hb7⟩
    clear x0 x1 x2 x3 x4 x5 x6 x7 x8 xf
    go_wp2_with fail
    go_ret
    exact ⟨rfl, btr HB6.out hb7⟩
  | some t =>
    obtain ⟨hok, hrt, henc⟩ := (decTx_iff _ _).1 hq
    rw [hq] at ht1
    simp only [txO, txE, Option.getD_some, Option.isSome_some, if_true] at ht1 ⊢
    obtain ⟨w5, hw5⟩ : ∃ x, x = w1.alloc (.cells #[.int .u64 (t.a0 : Int), .int .u64 (t.a1 : Int), .int .u64 (t.a2 : Int), .int .u64 (t.a3 : Int), .int .u64 (t.a4 : Int), .int .u64 (t.a5 : Int), .slice A1 t.inp.length d1, .bool t.mak, .slice B1 t.code.length c1] 26) := ⟨_, rfl⟩
    have hx5 : w5.heap[w1.heap.size]? = some (.cells #[.int .u64 (t.a0 : Int), .int .u64 (t.a1 : Int), .int .u64 (t.a2 : Int), .int .u64 (t.a3 : Int), .int .u64 (t.a4 : Int), .int .u64 (t.a5 : Int), .slice A1 t.inp.length d1, .bool t.mak, .slice B1 t.code.length c1] 26 (0, 0)) := by rw [hw5]; exact Go.heap_alloc_new w1 _
    have hb15 : Below w1.heap.size w1 w5 := by rw [hw5]; exact bal (Below.refl _ _) _
    have hr : rightB t.a4 t.inp.length t.mak t.code.length = true := hrt
    have e1 : txEb t = xs := by unfold txEb; rw [hrt, if_pos rfl, henc]
    have e2 : txEe t = 0 := by unfold txEe; rw [hrt]; rfl
    have HW5 := Go.Lib.hid hw5
    have HX5 := Go.Lib.hid hx5
    have HB5 := Go.Lib.hid (btr hb1 hb15)
    have HT5 := Go.Lib.hid (ht1.below hb15)
    have HRT := Go.Lib.hid hr
    have E1 := Go.Lib.hid e1
    have E2 := Go.Lib.hid e2
    have HOK := Go.Lib.hid hok
    clear hw5 hx5 hb15 ht1 hb1 hq hok hrt henc hr e1 e2
    go_wp2_with fail
    rw [← HW5.out]
    refine (tx_Encode t HOK.out A1 B1 d1 c1 _ HT5.out.hA.rd HT5.out.hB.rd HT5.out.hd HT5.out.hc).mono ?_
    intro r w2 hp
    obtain ⟨A2, c2, rfl, hc2, hm2, hown2, hb2⟩ := hp.shape
    rw [E1.out] at hown2
    rw [E1.out, E2.out]
    have HX2 := Go.Lib.hid (box_keep HX5.out hb2)
    have HB2 := Go.Lib.hid (btr HB5.out hb2)
    have HR2 := Go.Lib.hid hown2.rd
    clear hp hown2 hb2 hc2
    go_wp2_with fail
    refine (law_alive _).mono ?_
    rintro r w6 ⟨rfl, hb6⟩
    have HX6 := Go.Lib.hid (box_keep HX2.out hb6)
    have HB6 := Go.Lib.hid (btr HB2.out hb6)
    have HR6 := Go.Lib.hid (HR2.out.below hb6)
    clear hb6
    go_wp2_with fail
    refine (law_same A A2 n c xs.length c2 xs xs _ (HR.out.below HB6.out) HR6.out HN.out rfl).mono ?_
    rintro r w7 ⟨rfl, rfl⟩
    rw [beq_self_eq_true]
    obtain ⟨x0, x1, x2, x3, x4, x5, x6, x7, x8, xf⟩ := cells9 HX6.out
    go_wp2_with fail
    refine (tx_Right _ _ _ _ _ t.a4 _ _ t.inp.length d1 t.code.length c1 t.mak _).mono ?_
    rintro r w8 ⟨rfl, hb8⟩
    rw [HRT.out]
    clear x0 x1 x2 x3 x4 x5 x6 x7 x8 xf
    go_wp2_with fail
    go_ret
    exact ⟨rfl, btr HB6.out hb8⟩

end Go.Proofs.Ytgpaiphjbhkadaa
