/- tx.Encode. -/
import Derived.Test.YtgpaiphjbhkadaaTxList
import Derived.Test.YtgpaiphjbhkadaaTxRight
namespace Go.Proofs.Ytgpaiphjbhkadaa
open Go.ChangeShapes Go.WideShapes Go.ChangeAt Go.RowKit
set_option linter.unusedVariables false
set_option maxRecDepth 100000

/-- What Encode answers. -/
def TxEncP (t : TxD) (w : World) (r : Ending) (w' : World) : Prop :=
  if rightT t then ∃ A n c, r = .returned (.tuple #[.slice A n c, .int .i64 0]) ∧ Own w' w.heap.size 5 1 A n c (bs (encT (treeT t))) ∧ Below w.heap.size w w'
  else r = .returned (.tuple #[.slice none 0 0, .int .i64 160]) ∧ Below w.heap.size w w'

set_option maxHeartbeats 4000000 in
theorem tx_Encode_no (t : TxD) (hr : rightT t = false) (A B : Option Addr) (d c : Nat) (w : World) :
    Calls Try.prog 9 #[.agg #[.int .u64 (t.a0 : Int), .int .u64 (t.a1 : Int), .int .u64 (t.a2 : Int), .int .u64 (t.a3 : Int), .int .u64 (t.a4 : Int), .int .u64 (t.a5 : Int), .slice A t.inp.length d, .bool t.mak, .slice B t.code.length c]] w (TxEncP t w) := by
  have HRT := Go.Lib.hid hr
  clear hr
  go_enter Try.func9, Try.ntmps9
  go_wp2_with fail
  refine (tx_Right _ _ _ _ _ t.a4 A B t.inp.length d t.code.length c t.mak _).mono ?_
  rintro r w1 ⟨rfl, hb1⟩
  rw [show rightB t.a4 t.inp.length t.mak t.code.length = false from HRT.out]
  have HB1 := Go.Lib.hid hb1
  clear hb1
  go_wp2_with fail
  go_ret2
  unfold TxEncP
  rw [if_neg (by rw [HRT.out]; exact Bool.false_ne_true)]
  exact ⟨rfl, btr (bal (Below.refl _ _) _) HB1.out⟩

set_option maxHeartbeats 8000000 in
theorem tx_Encode_yes (t : TxD) (hr : rightT t = true) (ho : OkTx t) (A B : Option Addr) (d c : Nat) (w : World) (hA : Rd w A (u64s t.inp)) (hB : Rd w B (bs t.code)) (hd : t.inp.length ≤ d) (hc : t.code.length ≤ c) :
    Calls Try.prog 9 #[.agg #[.int .u64 (t.a0 : Int), .int .u64 (t.a1 : Int), .int .u64 (t.a2 : Int), .int .u64 (t.a3 : Int), .int .u64 (t.a4 : Int), .int .u64 (t.a5 : Int), .slice A t.inp.length d, .bool t.mak, .slice B t.code.length c]] w (TxEncP t w) := by
  have hlen := rightB_len hr
  have HRT := Go.Lib.hid hr
  have HO := Go.Lib.hid ho
  have HA := Go.Lib.hid hA
  have HBC := Go.Lib.hid hB
  obtain ⟨m, hm⟩ : ∃ m, m = t.inp.length := ⟨_, rfl⟩
  obtain ⟨k, hk⟩ : ∃ k, k = t.code.length := ⟨_, rfl⟩
  rw [← hm, ← hk] at hlen ⊢
  rw [← hm] at hd
  rw [← hk] at hc
  have HM := Go.Lib.hid hm
  have HKC := Go.Lib.hid hk
  obtain ⟨hm8, hk256⟩ := hlen
  have h6 : ∀ n ∈ [t.a0, t.a1, t.a2, t.a3, t.a4, t.a5], n < 18446744073709551616 := by
    simp
    exact ⟨ho.h0, ho.h1, ho.h2, ho.h3, ho.h4, ho.h5⟩
  have H6 := Go.Lib.hid h6
  have hmk : ∀ w : World, (Instr.makeSlice 42 (.int .i64 9) (.int .i64 9)).run Try.prog w = .ok (.slice (some ⟨w.heap.size, 0, none⟩) 9 9) (w.alloc (.cells #[.bool false, .slice none 0 0, .slice none 0 0, .bool false, .slice none 0 0, .slice none 0 0, .bool false, .slice none 0 0, .slice none 0 0, .bool false, .slice none 0 0, .slice none 0 0, .bool false, .slice none 0 0, .slice none 0 0, .bool false, .slice none 0 0, .slice none 0 0, .bool false, .slice none 0 0, .slice none 0 0, .bool false, .slice none 0 0, .slice none 0 0, .bool false, .slice none 0 0, .slice none 0 0] 45)) := fun _ => by kernel_rfl
  clear hr ho hA hB hm hk h6
  go_enter Try.func9, Try.ntmps9
  go_wp2_with fail
  refine (tx_Right _ _ _ _ _ t.a4 A B m d k c t.mak _).mono ?_
  rintro r w1 ⟨rfl, hb1⟩
  rw [show rightB t.a4 m t.mak k = true from by rw [HM.out, HKC.out]; exact HRT.out]
  have hx1 := box_keep (Go.heap_alloc_new w (.cells #[.int .u64 (t.a0 : Int), .int .u64 (t.a1 : Int), .int .u64 (t.a2 : Int), .int .u64 (t.a3 : Int), .int .u64 (t.a4 : Int), .int .u64 (t.a5 : Int), .slice A m d, .bool t.mak, .slice B k c] 26)) hb1
  have HX1 := Go.Lib.hid hx1
  have hs1 : w.heap.size < w1.heap.size := (Array.getElem?_eq_some_iff.1 hx1).1
  have HB1 := Go.Lib.hid (btr (bal (Below.refl _ _) _) hb1)
  obtain ⟨c0, c1, c2, c3, c4, c5, c6, c7, c8, cf⟩ := cells9 hx1
  clear hb1 hx1
  go_wp2_with fail
  have hr6 : Rd ((w1.alloc (.cells #[.bool false, .slice none 0 0, .slice none 0 0, .bool false, .slice none 0 0, .slice none 0 0, .bool false, .slice none 0 0, .slice none 0 0, .bool false, .slice none 0 0, .slice none 0 0, .bool false, .slice none 0 0, .slice none 0 0, .bool false, .slice none 0 0, .slice none 0 0, .bool false, .slice none 0 0, .slice none 0 0, .bool false, .slice none 0 0, .slice none 0 0, .bool false, .slice none 0 0, .slice none 0 0] 45)).alloc (.cells #[.int .u64 (t.a0 : Int), .int .u64 (t.a1 : Int), .int .u64 (t.a2 : Int), .int .u64 (t.a3 : Int), .int .u64 (t.a4 : Int), .int .u64 (t.a5 : Int)] 22)) (some ⟨w1.heap.size + 1, 0, none⟩) (u64s [t.a0, t.a1, t.a2, t.a3, t.a4, t.a5]) := by
    have h := rd_new (w1.alloc (.cells #[.bool false, .slice none 0 0, .slice none 0 0, .bool false, .slice none 0 0, .slice none 0 0, .bool false, .slice none 0 0, .slice none 0 0, .bool false, .slice none 0 0, .slice none 0 0, .bool false, .slice none 0 0, .slice none 0 0, .bool false, .slice none 0 0, .slice none 0 0, .bool false, .slice none 0 0, .slice none 0 0, .bool false, .slice none 0 0, .slice none 0 0, .bool false, .slice none 0 0, .slice none 0 0] 45)) #[.int .u64 (t.a0 : Int), .int .u64 (t.a1 : Int), .int .u64 (t.a2 : Int), .int .u64 (t.a3 : Int), .int .u64 (t.a4 : Int), .int .u64 (t.a5 : Int)] 22
    simpa [u64s, u64v] using h
  refine (tx_list _ 6 6 [t.a0, t.a1, t.a2, t.a3, t.a4, t.a5] _ hr6 rfl (by omega) H6.out).mono ?_
  rintro r w3 ⟨B3, c3, cs3, rfl, hc3, hown3, hrl3, hb3⟩
  have hb13 : Below w1.heap.size w1 w3 := btr (bal (bal (Below.refl _ _) _) _) hb3
  have hz3 : w3.heap[w1.heap.size]? = some (.cells #[.bool false, .slice none 0 0, .slice none 0 0, .bool false, .slice none 0 0, .slice none 0 0, .bool false, .slice none 0 0, .slice none 0 0, .bool false, .slice none 0 0, .slice none 0 0, .bool false, .slice none 0 0, .slice none 0 0, .bool false, .slice none 0 0, .slice none 0 0, .bool false, .slice none 0 0, .slice none 0 0, .bool false, .slice none 0 0, .slice none 0 0, .bool false, .slice none 0 0, .slice none 0 0] 45 (0, 0)) :=
    (hb3.block w1.heap.size (by simp; omega)).trans ((Below.heap_alloc _ _ w1.heap.size (by simp)).trans (Go.heap_alloc_new w1 _))
  have hx3 := box_keep HX1.out hb13
  have hlen3 : cs3.length = 18 := by have := hown3.len; omega
  obtain ⟨g3, off3, hB3, hg3b, hg3, hcell3, hfr3⟩ := hown3.shape (by omega)
  subst hB3
  have hrl3' : RdL w3 (fun g => w1.heap.size < g) ([t.a0, t.a1, t.a2, t.a3, t.a4, t.a5].map wordT) cs3 := hrl3.mono fun g _ h => by simp at h; omega
  have HZ3 := Go.Lib.hid hz3
  have HX3 := Go.Lib.hid hx3
  have HRL3 := Go.Lib.hid hrl3'
  have HLEN3 := Go.Lib.hid hlen3
  have HC3 : Hid (∀ j v, cs3[j]? = some v → w3.cell? ((⟨g3, off3, none⟩ : Addr).add j) = some v) := Go.Lib.hid (fun j v hv => by rw [Addr.add_lit]; exact hcell3 j v hv)
  have HB13 := Go.Lib.hid hb13
  clear hr6 hown3 hrl3 hrl3' hb3 hz3 hx3 hlen3 hcell3 hfr3 hb13 c0 c1 c2 c4 c5 c6 c7 c8 cf
  go_wp2_with (refine wpList_copy_sz rfl (.tmp 11) (.tmp 25) 42 42 rfl 45 Try.underlying42 3 6 (by kernel_rfl) w1.heap.size 0 9 9 ⟨g3, off3, none⟩ 6 c3 rfl rfl #[.bool false, .slice none 0 0, .slice none 0 0, .bool false, .slice none 0 0, .slice none 0 0, .bool false, .slice none 0 0, .slice none 0 0, .bool false, .slice none 0 0, .slice none 0 0, .bool false, .slice none 0 0, .slice none 0 0, .bool false, .slice none 0 0, .slice none 0 0, .bool false, .slice none 0 0, .slice none 0 0, .bool false, .slice none 0 0, .slice none 0 0, .bool false, .slice none 0 0, .slice none 0 0] 45 HZ3.out cs3 rfl HLEN3.out HC3.out (by rw [HLEN3.out]; decide) HRL3.out.one ?_; intro w4 HZ4 HK4; refine Hid.out ?_)
  refine Go.Lib.hid ?_
  have hrow4 : RowI w4 w1.heap.size cs3 [.bool false, .slice none 0 0, .slice none 0 0, .bool false, .slice none 0 0, .slice none 0 0, .bool false, .slice none 0 0, .slice none 0 0] := by
    have h := HZ4.out
    rw [HLEN3.out] at h
    exact ⟨HLEN3.out, rfl, h⟩
  have hs3 : w1.heap.size < w3.heap.size := (Array.getElem?_eq_some_iff.1 HZ3.out).1
  have hx4 := (HK4.out.block w.heap.size (by omega) (by omega)).trans HX3.out
  have hs4 : w1.heap.size < w4.heap.size := by have := HK4.out.size; omega
  obtain ⟨c0, c1, c2, c3', c4, c5, c6, c7, c8, cf⟩ := cells9 hx4
  have HROW4 := Go.Lib.hid hrow4
  have HX4 := Go.Lib.hid hx4
  have HRL4 := Go.Lib.hid (HRL3.out.kp HK4.out fun g hg h => by omega)
  have HB4 := Go.Lib.hid (btr HB1.out (Kp.below HB13.out HK4.out fun i h => by omega))
  clear hrow4 hx4 hs3
  go_wp2_with fail
  refine (tx_list A m d t.inp _ (HA.out.below HB4.out) HM.out (by omega) HO.out.hi).mono ?_
  rintro r w5 ⟨B5, c5', cs5, rfl, hc5, hown5, hrl5, hb5⟩
  have HRL5 := Go.Lib.hid (hrl5.mono (Q := fun g => w1.heap.size < g) fun g _ h => by omega)
  have HOWN5 := Go.Lib.hid hown5
  have HROW5 := Go.Lib.hid (HROW4.out.below hb5)
  have HX5 := Go.Lib.hid (box_keep HX4.out hb5)
  have HRL45 := Go.Lib.hid (HRL4.out.below hb5)
  have HB5 := Go.Lib.hid (btr HB4.out hb5)
  have hs5 : w4.heap.size ≤ w5.heap.size := hb5.size
  clear hown5 hrl5 hb5 c0 c1 c2 c3' c4 c5 c6 c7 c8 cf
  go_wp2_with fail
  refine (nest_List B5 m c5' cs5 _ HOWN5.out.rd (by have := HOWN5.out.len; omega) HRL5.out.one hc5 (by omega)).mono ?_
  rintro r w6 ⟨B6, c6', rfl, hc6, hown6, hb6⟩
  have HROWw6 := Go.Lib.hid (HROW5.out.below hb6)
  have HXw6 := Go.Lib.hid (box_keep HX5.out hb6)
  have hcap6 := hown6.cap
  have HLw6 : Hid (RdT w6 (fun g => w1.heap.size < g) (.mk true [] (t.inp.map wordT)) (.bool true) (.slice none 0 0) (.slice B6 m c6')) := Go.Lib.hid (RdT.list (by rw [List.length_map]; exact HM.out) hcap6.1 hcap6.2 (hown6.rdp _ fun g _ h _ => by omega) (HRL5.out.below hb6))
  have HWw6 := Go.Lib.hid (HRL45.out.below hb6)
  have HBw6 := Go.Lib.hid (btr HB5.out hb6)
  have hs6 : w5.heap.size ≤ w6.heap.size := hb6.size
  clear hown6 hb6 hcap6
  rcases Bool.eq_false_or_eq_true t.mak with hq | hq
  · have HMK : Hid (t.mak = true) := Go.Lib.hid hq
    have r0 := HROWw6.out.cell 0 _ rfl
    have r1 := HROWw6.out.cell 1 _ rfl
    have r2 := HROWw6.out.cell 2 _ rfl
    have rf := HROWw6.out.frozen
    obtain ⟨c0, c1, c2, c3', c4, c5, c6, c7, c8, cf⟩ := cells9 HXw6.out
    go_wp2_with fail
    clear c0 c1 c2 c3' c4 c5 c6 c7 c8 cf r0 r1 r2 rf
    obtain ⟨w7, hw7⟩ : ∃ x, x = (World.setCell (World.setCell (World.setCell w6 ⟨w1.heap.size, 18, none⟩ (.bool true)) ⟨w1.heap.size, 19, none⟩ (.slice none 0 0)) ⟨w1.heap.size, 20, none⟩ (.slice B6 m c6')) := ⟨_, rfl⟩
    have hkw7 : Kp (fun k => k = w1.heap.size) w6 w7 := by rw [hw7]; exact ((Kp.setCell (S := fun k => k = w1.heap.size) (p := ⟨w1.heap.size, 18, none⟩) _ rfl _).trans (Kp.setCell (S := fun k => k = w1.heap.size) (p := ⟨w1.heap.size, 19, none⟩) _ rfl _)).trans (Kp.setCell (S := fun k => k = w1.heap.size) (p := ⟨w1.heap.size, 20, none⟩) _ rfl _)
    have hroww7 : RowI w7 w1.heap.size cs3 [.bool true, .slice none 0 0, .slice B6 m c6', .bool false, .slice none 0 0, .slice none 0 0, .bool false, .slice none 0 0, .slice none 0 0] := by rw [hw7]; exact ((HROWw6.out.set 0 (.bool true)).set 1 (.slice none 0 0)).set 2 (.slice B6 m c6')
    have hzw7 : w7.heap.size = w6.heap.size := by rw [hw7]; simp
    rw [← hw7]
    have HROWw7 := Go.Lib.hid hroww7
    have HXw7 := Go.Lib.hid ((hkw7.block w.heap.size (by omega) (by omega)).trans HXw6.out)
    have HBw7 := Go.Lib.hid (Kp.below HBw6.out hkw7 fun i h => by omega)
    have HWw7 := Go.Lib.hid (HWw6.out.kp hkw7 fun g hg h => by omega)
    have HLw7 := Go.Lib.hid (HLw6.out.kp hkw7 fun g hg h => by omega)
    have hsw7 : w6.heap.size ≤ w7.heap.size := hkw7.size
    clear hkw7 hroww7 hw7
    have hr1 : Rd (w7.alloc (.cells #[.int .u8 1] 5)) (some ⟨w6.heap.size, 0, none⟩) (bs [1]) := by rw [← hzw7]; exact rd_new w7 #[.int .u8 1] 5
    refine (nest_Text _ 1 1 [1] _ (by simpa using hr1) rfl (Nat.le_refl _) (by decide)).mono ?_
    rintro r w8 ⟨A8, c8', rfl, hc8, hown8, hb8⟩
    have hb78 : Below w7.heap.size w7 w8 := btr (bal (Below.refl _ _) _) hb8
    have hcap8 := hown8.cap
    have hf8 : RdT w8 (fun g => w1.heap.size < g) (boolT true) (.bool false) (.slice A8 1 c8') (.slice none 0 0) := RdT.text rfl hcap8.1 hcap8.2 (by decide) (hown8.rdp _ fun g _ h _ => by simp at h; omega)
    have HFw8 := Go.Lib.hid hf8
    have HROWw8 := Go.Lib.hid (HROWw7.out.below hb78)
    have HXw8 := Go.Lib.hid (box_keep HXw7.out hb78)
    have HBw8 := Go.Lib.hid (btr HBw7.out hb78)
    have HWw8 := Go.Lib.hid (HWw7.out.below hb78)
    have HLw8 := Go.Lib.hid (HLw7.out.below hb78)
    have hsw8 : w7.heap.size ≤ w8.heap.size := hb78.size
    clear hr1 hown8 hb8 hb78 hf8 hcap8
    have r0 := HROWw8.out.cell 3 _ rfl
    have r1 := HROWw8.out.cell 4 _ rfl
    have r2 := HROWw8.out.cell 5 _ rfl
    have rf := HROWw8.out.frozen
    obtain ⟨c0, c1, c2, c3', c4, c5, c6, c7, c8, cf⟩ := cells9 HXw8.out
    go_wp2_with fail
    clear c0 c1 c2 c3' c4 c5 c6 c7 c8 cf r0 r1 r2 rf
    obtain ⟨w9, hw9⟩ : ∃ x, x = (World.setCell (World.setCell (World.setCell w8 ⟨w1.heap.size, 21, none⟩ (.bool false)) ⟨w1.heap.size, 22, none⟩ (.slice A8 1 c8')) ⟨w1.heap.size, 23, none⟩ (.slice none 0 0)) := ⟨_, rfl⟩
    have hkw9 : Kp (fun k => k = w1.heap.size) w8 w9 := by rw [hw9]; exact ((Kp.setCell (S := fun k => k = w1.heap.size) (p := ⟨w1.heap.size, 21, none⟩) _ rfl _).trans (Kp.setCell (S := fun k => k = w1.heap.size) (p := ⟨w1.heap.size, 22, none⟩) _ rfl _)).trans (Kp.setCell (S := fun k => k = w1.heap.size) (p := ⟨w1.heap.size, 23, none⟩) _ rfl _)
    have hroww9 : RowI w9 w1.heap.size cs3 [.bool true, .slice none 0 0, .slice B6 m c6', .bool false, .slice A8 1 c8', .slice none 0 0, .bool false, .slice none 0 0, .slice none 0 0] := by rw [hw9]; exact ((HROWw8.out.set 3 (.bool false)).set 4 (.slice A8 1 c8')).set 5 (.slice none 0 0)
    have hzw9 : w9.heap.size = w8.heap.size := by rw [hw9]; simp
    rw [← hw9]
    have HROWw9 := Go.Lib.hid hroww9
    have HXw9 := Go.Lib.hid ((hkw9.block w.heap.size (by omega) (by omega)).trans HXw8.out)
    have HBw9 := Go.Lib.hid (Kp.below HBw8.out hkw9 fun i h => by omega)
    have HWw9 := Go.Lib.hid (HWw8.out.kp hkw9 fun g hg h => by omega)
    have HLw9 := Go.Lib.hid (HLw8.out.kp hkw9 fun g hg h => by omega)
    have HFw9 := Go.Lib.hid (HFw8.out.kp hkw9 fun g hg h => by omega)
    have hsw9 : w8.heap.size ≤ w9.heap.size := hkw9.size
    clear hkw9 hroww9 hw9
    refine (nest_Text B k c t.code _ (HBC.out.below HBw9.out) HKC.out hc (by have := HKC.out; omega)).mono ?_
    rintro r w10 ⟨A10, c10, rfl, hc10, hown10, hb10⟩
    have hcap10 := hown10.cap
    have hf10 : RdT w10 (fun g => w1.heap.size < g) (.mk false t.code []) (.bool false) (.slice A10 k c10) (.slice none 0 0) := RdT.text HKC.out hcap10.1 hcap10.2 (by omega) (hown10.rdp _ fun g _ h _ => by omega)
    have HCw10 := Go.Lib.hid hf10
    have HROWw10 := Go.Lib.hid (HROWw9.out.below hb10)
    have HXw10 := Go.Lib.hid (box_keep HXw9.out hb10)
    have HBw10 := Go.Lib.hid (btr HBw9.out hb10)
    have HWw10 := Go.Lib.hid (HWw9.out.below hb10)
    have HLw10 := Go.Lib.hid (HLw9.out.below hb10)
    have HFw10 := Go.Lib.hid (HFw9.out.below hb10)
    have hsw10 : w9.heap.size ≤ w10.heap.size := hb10.size
    clear hown10 hb10 hf10 hcap10
    have r0 := HROWw10.out.cell 6 _ rfl
    have r1 := HROWw10.out.cell 7 _ rfl
    have r2 := HROWw10.out.cell 8 _ rfl
    have rf := HROWw10.out.frozen
    obtain ⟨c0, c1, c2, c3', c4, c5, c6, c7, c8, cf⟩ := cells9 HXw10.out
    go_wp2_with fail
    clear c0 c1 c2 c3' c4 c5 c6 c7 c8 cf r0 r1 r2 rf
    obtain ⟨w11, hw11⟩ : ∃ x, x = (World.setCell (World.setCell (World.setCell w10 ⟨w1.heap.size, 24, none⟩ (.bool false)) ⟨w1.heap.size, 25, none⟩ (.slice A10 k c10)) ⟨w1.heap.size, 26, none⟩ (.slice none 0 0)) := ⟨_, rfl⟩
    have hkw11 : Kp (fun k => k = w1.heap.size) w10 w11 := by rw [hw11]; exact ((Kp.setCell (S := fun k => k = w1.heap.size) (p := ⟨w1.heap.size, 24, none⟩) _ rfl _).trans (Kp.setCell (S := fun k => k = w1.heap.size) (p := ⟨w1.heap.size, 25, none⟩) _ rfl _)).trans (Kp.setCell (S := fun k => k = w1.heap.size) (p := ⟨w1.heap.size, 26, none⟩) _ rfl _)
    have hroww11 : RowI w11 w1.heap.size cs3 [.bool true, .slice none 0 0, .slice B6 m c6', .bool false, .slice A8 1 c8', .slice none 0 0, .bool false, .slice A10 k c10, .slice none 0 0] := by rw [hw11]; exact ((HROWw10.out.set 6 (.bool false)).set 7 (.slice A10 k c10)).set 8 (.slice none 0 0)
    have hzw11 : w11.heap.size = w10.heap.size := by rw [hw11]; simp
    rw [← hw11]
    have HROWw11 := Go.Lib.hid hroww11
    have HXw11 := Go.Lib.hid ((hkw11.block w.heap.size (by omega) (by omega)).trans HXw10.out)
    have HBw11 := Go.Lib.hid (Kp.below HBw10.out hkw11 fun i h => by omega)
    have HWw11 := Go.Lib.hid (HWw10.out.kp hkw11 fun g hg h => by omega)
    have HLw11 := Go.Lib.hid (HLw10.out.kp hkw11 fun g hg h => by omega)
    have HFw11 := Go.Lib.hid (HFw10.out.kp hkw11 fun g hg h => by omega)
    have HCw11 := Go.Lib.hid (HCw10.out.kp hkw11 fun g hg h => by omega)
    have hsw11 : w10.heap.size ≤ w11.heap.size := hkw11.size
    clear hkw11 hroww11 hw11
    have hrl11 : RdL w11 (fun g => w1.heap.size < g) [wordT t.a0, wordT t.a1, wordT t.a2, wordT t.a3, wordT t.a4, wordT t.a5, .mk true [] (t.inp.map wordT), boolT t.mak, .mk false t.code []] (cs3 ++ [.bool true, .slice none 0 0, .slice B6 m c6', .bool false, .slice A8 1 c8', .slice none 0 0, .bool false, .slice A10 k c10, .slice none 0 0]) := by
      rw [HMK.out]
      exact HWw11.out.append ((RdL.single HLw11.out).append ((RdL.single HFw11.out).append (RdL.single HCw11.out)))
    have HRL11 := Go.Lib.hid hrl11
    clear hrl11
    refine (nest_List (some ⟨w1.heap.size, 0, none⟩) 9 9 (cs3 ++ [.bool true, .slice none 0 0, .slice B6 m c6', .bool false, .slice A8 1 c8', .slice none 0 0, .bool false, .slice A10 k c10, .slice none 0 0]) _ HROWw11.out.rd (by have := HROWw11.out.1; simp; omega) HRL11.out.one (Nat.le_refl _) (by decide)).mono ?_
    rintro r w12 ⟨A12, c12, rfl, hc12, hown12, hb12⟩
    have hcap12 := hown12.cap
    have ht12 : RdT w12 (fun _ => True) (treeT t) (.bool true) (.slice none 0 0) (.slice A12 9 c12) := RdT.list rfl hcap12.1 hcap12.2 (hown12.rdp _ fun _ _ _ _ => trivial) ((HRL11.out.below hb12).mono fun _ _ _ => trivial)
    have HT12 := Go.Lib.hid ht12
    have HB12 := Go.Lib.hid (btr HBw11.out hb12)
    clear hown12 hb12 ht12 hcap12
    go_wp2_with fail
    refine (nest_Encode (treeT t) _ _ _ _ _ HT12.out).mono ?_
    intro r w13 hp
    unfold EncP at hp
    rw [tree_enc (by have := HM.out; omega) (by have := HKC.out; omega)] at hp
    obtain ⟨A13, n13, c13, rfl, hown13, hb13⟩ := hp
    have HO13 := Go.Lib.hid hown13
    have HB13' := Go.Lib.hid hb13
    clear hown13 hb13
    go_wp2_with fail
    go_ret2
    unfold TxEncP
    rw [if_pos HRT.out]
    exact ⟨A13, n13, c13, rfl, HO13.out.more (fun g e => by have := (HO13.out.block_lt g e).1; have := HB12.out.size; omega), btr HB12.out HB13'.out⟩
  · have HMK : Hid (t.mak = false) := Go.Lib.hid hq
    have r0 := HROWw6.out.cell 0 _ rfl
    have r1 := HROWw6.out.cell 1 _ rfl
    have r2 := HROWw6.out.cell 2 _ rfl
    have rf := HROWw6.out.frozen
    obtain ⟨c0, c1, c2, c3', c4, c5, c6, c7, c8, cf⟩ := cells9 HXw6.out
    go_wp2_with fail
    clear c0 c1 c2 c3' c4 c5 c6 c7 c8 cf r0 r1 r2 rf
    obtain ⟨w9, hw9⟩ : ∃ x, x = (World.setCell (World.setCell (World.setCell w6 ⟨w1.heap.size, 18, none⟩ (.bool true)) ⟨w1.heap.size, 19, none⟩ (.slice none 0 0)) ⟨w1.heap.size, 20, none⟩ (.slice B6 m c6')) := ⟨_, rfl⟩
    have hkw9 : Kp (fun k => k = w1.heap.size) w6 w9 := by rw [hw9]; exact ((Kp.setCell (S := fun k => k = w1.heap.size) (p := ⟨w1.heap.size, 18, none⟩) _ rfl _).trans (Kp.setCell (S := fun k => k = w1.heap.size) (p := ⟨w1.heap.size, 19, none⟩) _ rfl _)).trans (Kp.setCell (S := fun k => k = w1.heap.size) (p := ⟨w1.heap.size, 20, none⟩) _ rfl _)
    have hroww9 : RowI w9 w1.heap.size cs3 [.bool true, .slice none 0 0, .slice B6 m c6', .bool false, .slice none 0 0, .slice none 0 0, .bool false, .slice none 0 0, .slice none 0 0] := by rw [hw9]; exact ((HROWw6.out.set 0 (.bool true)).set 1 (.slice none 0 0)).set 2 (.slice B6 m c6')
    have hzw9 : w9.heap.size = w6.heap.size := by rw [hw9]; simp
    rw [← hw9]
    have HROWw9 := Go.Lib.hid hroww9
    have HXw9 := Go.Lib.hid ((hkw9.block w.heap.size (by omega) (by omega)).trans HXw6.out)
    have HBw9 := Go.Lib.hid (Kp.below HBw6.out hkw9 fun i h => by omega)
    have HWw9 := Go.Lib.hid (HWw6.out.kp hkw9 fun g hg h => by omega)
    have HLw9 := Go.Lib.hid (HLw6.out.kp hkw9 fun g hg h => by omega)
    have hsw9 : w6.heap.size ≤ w9.heap.size := hkw9.size
    clear hkw9 hroww9 hw9
    have HFw9 : Hid (RdT w9 (fun g => w1.heap.size < g) (boolT false) (.bool false) (.slice none 0 0) (.slice none 0 0)) := Go.Lib.hid (RdT.zero _ _)
    refine (nest_Text B k c t.code _ (HBC.out.below HBw9.out) HKC.out hc (by have := HKC.out; omega)).mono ?_
    rintro r w10 ⟨A10, c10, rfl, hc10, hown10, hb10⟩
    have hcap10 := hown10.cap
    have hf10 : RdT w10 (fun g => w1.heap.size < g) (.mk false t.code []) (.bool false) (.slice A10 k c10) (.slice none 0 0) := RdT.text HKC.out hcap10.1 hcap10.2 (by omega) (hown10.rdp _ fun g _ h _ => by omega)
    have HCw10 := Go.Lib.hid hf10
    have HROWw10 := Go.Lib.hid (HROWw9.out.below hb10)
    have HXw10 := Go.Lib.hid (box_keep HXw9.out hb10)
    have HBw10 := Go.Lib.hid (btr HBw9.out hb10)
    have HWw10 := Go.Lib.hid (HWw9.out.below hb10)
    have HLw10 := Go.Lib.hid (HLw9.out.below hb10)
    have HFw10 := Go.Lib.hid (HFw9.out.below hb10)
    have hsw10 : w9.heap.size ≤ w10.heap.size := hb10.size
    clear hown10 hb10 hf10 hcap10
    have r0 := HROWw10.out.cell 6 _ rfl
    have r1 := HROWw10.out.cell 7 _ rfl
    have r2 := HROWw10.out.cell 8 _ rfl
    have rf := HROWw10.out.frozen
    obtain ⟨c0, c1, c2, c3', c4, c5, c6, c7, c8, cf⟩ := cells9 HXw10.out
    go_wp2_with fail
    clear c0 c1 c2 c3' c4 c5 c6 c7 c8 cf r0 r1 r2 rf
    obtain ⟨w11, hw11⟩ : ∃ x, x = (World.setCell (World.setCell (World.setCell w10 ⟨w1.heap.size, 24, none⟩ (.bool false)) ⟨w1.heap.size, 25, none⟩ (.slice A10 k c10)) ⟨w1.heap.size, 26, none⟩ (.slice none 0 0)) := ⟨_, rfl⟩
    have hkw11 : Kp (fun k => k = w1.heap.size) w10 w11 := by rw [hw11]; exact ((Kp.setCell (S := fun k => k = w1.heap.size) (p := ⟨w1.heap.size, 24, none⟩) _ rfl _).trans (Kp.setCell (S := fun k => k = w1.heap.size) (p := ⟨w1.heap.size, 25, none⟩) _ rfl _)).trans (Kp.setCell (S := fun k => k = w1.heap.size) (p := ⟨w1.heap.size, 26, none⟩) _ rfl _)
    have hroww11 : RowI w11 w1.heap.size cs3 [.bool true, .slice none 0 0, .slice B6 m c6', .bool false, .slice none 0 0, .slice none 0 0, .bool false, .slice A10 k c10, .slice none 0 0] := by rw [hw11]; exact ((HROWw10.out.set 6 (.bool false)).set 7 (.slice A10 k c10)).set 8 (.slice none 0 0)
    have hzw11 : w11.heap.size = w10.heap.size := by rw [hw11]; simp
    rw [← hw11]
    have HROWw11 := Go.Lib.hid hroww11
    have HXw11 := Go.Lib.hid ((hkw11.block w.heap.size (by omega) (by omega)).trans HXw10.out)
    have HBw11 := Go.Lib.hid (Kp.below HBw10.out hkw11 fun i h => by omega)
    have HWw11 := Go.Lib.hid (HWw10.out.kp hkw11 fun g hg h => by omega)
    have HLw11 := Go.Lib.hid (HLw10.out.kp hkw11 fun g hg h => by omega)
    have HFw11 := Go.Lib.hid (HFw10.out.kp hkw11 fun g hg h => by omega)
    have HCw11 := Go.Lib.hid (HCw10.out.kp hkw11 fun g hg h => by omega)
    have hsw11 : w10.heap.size ≤ w11.heap.size := hkw11.size
    clear hkw11 hroww11 hw11
    have hrl11 : RdL w11 (fun g => w1.heap.size < g) [wordT t.a0, wordT t.a1, wordT t.a2, wordT t.a3, wordT t.a4, wordT t.a5, .mk true [] (t.inp.map wordT), boolT t.mak, .mk false t.code []] (cs3 ++ [.bool true, .slice none 0 0, .slice B6 m c6', .bool false, .slice none 0 0, .slice none 0 0, .bool false, .slice A10 k c10, .slice none 0 0]) := by
      rw [HMK.out]
      exact HWw11.out.append ((RdL.single HLw11.out).append ((RdL.single HFw11.out).append (RdL.single HCw11.out)))
    have HRL11 := Go.Lib.hid hrl11
    clear hrl11
    refine (nest_List (some ⟨w1.heap.size, 0, none⟩) 9 9 (cs3 ++ [.bool true, .slice none 0 0, .slice B6 m c6', .bool false, .slice none 0 0, .slice none 0 0, .bool false, .slice A10 k c10, .slice none 0 0]) _ HROWw11.out.rd (by have := HROWw11.out.1; simp; omega) HRL11.out.one (Nat.le_refl _) (by decide)).mono ?_
    rintro r w12 ⟨A12, c12, rfl, hc12, hown12, hb12⟩
    have hcap12 := hown12.cap
    have ht12 : RdT w12 (fun _ => True) (treeT t) (.bool true) (.slice none 0 0) (.slice A12 9 c12) := RdT.list rfl hcap12.1 hcap12.2 (hown12.rdp _ fun _ _ _ _ => trivial) ((HRL11.out.below hb12).mono fun _ _ _ => trivial)
    have HT12 := Go.Lib.hid ht12
    have HB12 := Go.Lib.hid (btr HBw11.out hb12)
    clear hown12 hb12 ht12 hcap12
    go_wp2_with fail
    refine (nest_Encode (treeT t) _ _ _ _ _ HT12.out).mono ?_
    intro r w13 hp
    unfold EncP at hp
    rw [tree_enc (by have := HM.out; omega) (by have := HKC.out; omega)] at hp
    obtain ⟨A13, n13, c13, rfl, hown13, hb13⟩ := hp
    have HO13 := Go.Lib.hid hown13
    have HB13' := Go.Lib.hid hb13
    clear hown13 hb13
    go_wp2_with fail
    go_ret2
    unfold TxEncP
    rw [if_pos HRT.out]
    exact ⟨A13, n13, c13, rfl, HO13.out.more (fun g e => by have := (HO13.out.block_lt g e).1; have := HB12.out.size; omega), btr HB12.out HB13'.out⟩

theorem tx_Encode (t : TxD) (ho : OkTx t) (A B : Option Addr) (d c : Nat) (w : World) (hA : Rd w A (u64s t.inp)) (hB : Rd w B (bs t.code)) (hd : t.inp.length ≤ d) (hc : t.code.length ≤ c) :
    Calls Try.prog 9 #[.agg #[.int .u64 (t.a0 : Int), .int .u64 (t.a1 : Int), .int .u64 (t.a2 : Int), .int .u64 (t.a3 : Int), .int .u64 (t.a4 : Int), .int .u64 (t.a5 : Int), .slice A t.inp.length d, .bool t.mak, .slice B t.code.length c]] w (TxEncP t w) := by
  cases hr : rightT t with
  | true => exact tx_Encode_yes t hr ho A B d c w hA hB hd hc
  | false => exact tx_Encode_no t hr A B d c w

end Go.Proofs.Ytgpaiphjbhkadaa
