/- TxDecodes, TxMemory: the walks. -/
import Derived.Test.YtgpaiphjbhkadaaTxRDec
import Derived.Test.YtgpaiphjbhkadaaTxBack
namespace Go.Proofs.Ytgpaiphjbhkadaa
open Go.ChangeShapes Go.WideShapes Go.ChangeAt Go.RowKit
set_option linter.unusedVariables false
set_option maxRecDepth 100000
attribute [local go_sem ↓] Go.wp_at_zero Go.wp_at_succ

set_option maxHeartbeats 4000000 in
theorem decodes_walk (w : World) (A : Option Addr) (n c : Nat) (xs : List UInt8) (hn : xs.length = n) (hc : n ≤ c) (hr : Rd w A (bs xs)) (hz : c ≤ 140737488351232) :
    Calls Try.prog 4 #[.slice A n c] w fun r w' => r = .returned (.bool true) ∧ Below w.heap.size w w' := by
  have HR := Go.Lib.hid hr
  have HN := Go.Lib.hid hn
  clear hr hn
  go_enter Try.func4, Try.ntmps4
  go_wp2_with fail
  refine (tx_Decode A n c xs _ HR.out HN.out.symm hc (by omega)).mono ?_
  rintro r w1 ⟨A1, d1, B1, c1, rfl, ht1, hb1⟩
  obtain ⟨t, ht⟩ : ∃ t, t = txO (decTx xs) := ⟨_, rfl⟩
  obtain ⟨e, he⟩ : ∃ e, e = txE (decTx xs) := ⟨_, rfl⟩
  have HTT := Go.Lib.hid ht
  have HEE := Go.Lib.hid he
  rw [← ht] at ht1
  rw [← ht, ← he]
  obtain ⟨w2, hw2⟩ : ∃ x, x = w1.alloc (.cells #[.int .u64 (t.a0 : Int), .int .u64 (t.a1 : Int), .int .u64 (t.a2 : Int), .int .u64 (t.a3 : Int), .int .u64 (t.a4 : Int), .int .u64 (t.a5 : Int), .slice A1 t.inp.length d1, .bool t.mak, .slice B1 t.code.length c1] 26) := ⟨_, rfl⟩
  have hx2 : w2.heap[w1.heap.size]? = some (.cells #[.int .u64 (t.a0 : Int), .int .u64 (t.a1 : Int), .int .u64 (t.a2 : Int), .int .u64 (t.a3 : Int), .int .u64 (t.a4 : Int), .int .u64 (t.a5 : Int), .slice A1 t.inp.length d1, .bool t.mak, .slice B1 t.code.length c1] 26 (0, 0)) := by rw [hw2]; exact Go.heap_alloc_new w1 _
  have hb12 : Below w1.heap.size w1 w2 := by rw [hw2]; exact bal (Below.refl _ _) _
  have HW2 := Go.Lib.hid hw2
  have HX2 := Go.Lib.hid hx2
  have HB2 := Go.Lib.hid (btr hb1 hb12)
  have HT2 := Go.Lib.hid (ht1.below hb12)
  clear hw2 hx2 hb12 ht1 hb1 ht he
  go_wp2_with fail
  rw [← HW2.out]
  refine (ref_Decode16 A n c xs _ (HR.out.below HB2.out) HN.out.symm hc (by omega)).mono ?_
  rintro r w3 ⟨A3, d3, B3, c3, rfl, ht3, hb3⟩
  rw [← HTT.out] at ht3
  rw [← HTT.out, ← HEE.out]
  obtain ⟨w4, hw4⟩ : ∃ x, x = w3.alloc (.cells #[.int .u64 (t.a0 : Int), .int .u64 (t.a1 : Int), .int .u64 (t.a2 : Int), .int .u64 (t.a3 : Int), .int .u64 (t.a4 : Int), .int .u64 (t.a5 : Int), .slice A3 t.inp.length d3, .bool t.mak, .slice B3 t.code.length c3] 26) := ⟨_, rfl⟩
  have hx4 : w4.heap[w3.heap.size]? = some (.cells #[.int .u64 (t.a0 : Int), .int .u64 (t.a1 : Int), .int .u64 (t.a2 : Int), .int .u64 (t.a3 : Int), .int .u64 (t.a4 : Int), .int .u64 (t.a5 : Int), .slice A3 t.inp.length d3, .bool t.mak, .slice B3 t.code.length c3] 26 (0, 0)) := by rw [hw4]; exact Go.heap_alloc_new w3 _
  have hb34 : Below w3.heap.size w3 w4 := by rw [hw4]; exact bal (Below.refl _ _) _
  have HW4 := Go.Lib.hid hw4
  have HY4 := Go.Lib.hid hx4
  have HX4 := Go.Lib.hid (box_keep (box_keep HX2.out hb3) hb34)
  have HB4 := Go.Lib.hid (btr (btr HB2.out hb3) hb34)
  have HT4 := Go.Lib.hid ((HT2.out.below hb3).below hb34)
  have HU4 := Go.Lib.hid (ht3.below hb34)
  clear hw4 hx4 hb34 ht3 hb3
  go_wp2_with fail
  rw [← HW4.out]
  refine (law_alive _).mono ?_
  rintro r w5 ⟨rfl, hb5⟩
  have HX5 := Go.Lib.hid (box_keep HX4.out hb5)
  have HY5 := Go.Lib.hid (box_keep HY4.out hb5)
  have HB5 := Go.Lib.hid (btr HB4.out hb5)
  have HT5 := Go.Lib.hid (HT4.out.below hb5)
  have HU5 := Go.Lib.hid (HU4.out.below hb5)
  clear hb5
  obtain ⟨x0, x1, x2, x3, x4, x5, x6, x7, x8, xf⟩ := cells9 HX5.out
  obtain ⟨y0, y1, y2, y3, y4, y5, y6, y7, y8, yf⟩ := cells9 HY5.out
  go_wp2_with fail
  refine (ref_Same16 t A1 d1 B1 c1 A3 d3 B3 c3 _ HT5.out.hA.rd HT5.out.hB.rd HU5.out.hA.rd HU5.out.hB.rd (Nat.le_trans HT5.out.hd HT5.out.hdm)).mono ?_
  rintro r w6 ⟨rfl, hb6⟩
  clear x0 x1 x2 x3 x4 x5 x6 x7 x8 xf y0 y1 y2 y3 y4 y5 y6 y7 y8 yf
  go_wp2_with fail
  go_ret
  exact ⟨rfl, btr HB5.out hb6⟩

def u8s (cs : List Value) : Prop := ∀ u ∈ cs, ∃ z : Int, u = .int .u8 z
theorem u8s_bs (xs : List UInt8) : u8s (bs xs) := by
  intro u hu
  obtain ⟨x, _, rfl⟩ := List.mem_map.1 hu
  exact ⟨_, rfl⟩
theorem txO_right (xs : List UInt8) : OkTx (txO (decTx xs)) ∧ rightT (txO (decTx xs)) = true := by
  cases hq : decTx xs with
  | none => exact ⟨OkTx.zero, rfl⟩
  | some t =>
    obtain ⟨h1, h2, _⟩ := (decTx_iff _ _).1 hq
    exact ⟨h1, h2⟩

set_option maxHeartbeats 8000000 in
theorem memory_walk (w : World) (A : Option Addr) (n c : Nat) (xs : List UInt8) (hn : xs.length = n) (hc : n ≤ c) (hr : Rd w A (bs xs)) (hz : c ≤ 140737488351232) :
    Calls Try.prog 7 #[.slice A n c] w fun r w' => r = .returned (.bool true) ∧ Below w.heap.size w w' := by
  have HR := Go.Lib.hid hr
  have HN := Go.Lib.hid hn
  obtain ⟨i0, hi, hz0, hz1, hz2⟩ := info_parts info_u8
  obtain ⟨t, ht⟩ : ∃ t, t = txO (decTx xs) := ⟨_, rfl⟩
  obtain ⟨e, he⟩ : ∃ e, e = txE (decTx xs) := ⟨_, rfl⟩
  have hok : OkTx t := by rw [ht]; exact (txO_right xs).1
  have hrt : rightT t = true := by rw [ht]; exact (txO_right xs).2
  have he0 : txEe t = 0 := by unfold txEe; rw [hrt]; rfl
  have heb : (e = 160) ∨ (e = 0 ∧ txEb t = xs) := by
    rw [he, ht]
    cases hq : decTx xs with
    | none => exact .inl rfl
    | some t' =>
      obtain ⟨_, h2, h3⟩ := (decTx_iff _ _).1 hq
      refine .inr ⟨rfl, ?_⟩
      show txEb t' = xs
      unfold txEb
      rw [h2, if_pos rfl, h3]
  have HTT := Go.Lib.hid ht
  have HEE := Go.Lib.hid he
  have HOK := Go.Lib.hid hok
  have HE0 := Go.Lib.hid he0
  have HEB := Go.Lib.hid heb
  clear hr hn ht he hok hrt he0 heb
  go_enter Try.func7, Try.ntmps7
  go_wp2_with (at_builtin; refine wpList_append_o _ rfl _ _ 24 rfl 5 i0 (.int .u8 0) 1 1 Try.underlying24 hi hz0 hz1 hz2 rfl (by decide) w.heap.size none 0 0 [] rfl (Own.nil _ _ _ _) A n c (bs xs) rfl (by have := HN.out; simp; omega) HR.out (bs_one _) (by omega) (by unfold maxLen; omega) (by simp) ?_)
  intro A1 c1 w1 hown1 hk1 hl1
  have hb1 : Below w.heap.size w w1 := Kp.below (Below.refl _ _) hk1 (fun i h => by simp at h)
  have hcap1 := hown1.cap
  have hown1' : Own w1 w.heap.size 5 1 A1 n c1 (bs xs) := by simpa using hown1
  have HO1 := Go.Lib.hid hown1'
  have HB1 := Go.Lib.hid hb1
  clear hown1 hk1 hl1 hb1 hown1'
  go_wp2_with fail
  refine (tx_Decode A1 n c1 xs _ HO1.out.rd HN.out.symm hcap1.1 (by omega)).mono ?_
  rintro r w2 ⟨A2, d2, B2, c2, rfl, ht2, hb2⟩
  rw [← HTT.out] at ht2
  rw [← HTT.out, ← HEE.out]
  obtain ⟨w3, hw3⟩ : ∃ x, x = w2.alloc (.cells #[.int .u64 (t.a0 : Int), .int .u64 (t.a1 : Int), .int .u64 (t.a2 : Int), .int .u64 (t.a3 : Int), .int .u64 (t.a4 : Int), .int .u64 (t.a5 : Int), .slice A2 t.inp.length d2, .bool t.mak, .slice B2 t.code.length c2] 26) := ⟨_, rfl⟩
  have hx3 : w3.heap[w2.heap.size]? = some (.cells #[.int .u64 (t.a0 : Int), .int .u64 (t.a1 : Int), .int .u64 (t.a2 : Int), .int .u64 (t.a3 : Int), .int .u64 (t.a4 : Int), .int .u64 (t.a5 : Int), .slice A2 t.inp.length d2, .bool t.mak, .slice B2 t.code.length c2] 26 (0, 0)) := by rw [hw3]; exact Go.heap_alloc_new w2 _
  have hb23 : Below w2.heap.size w2 w3 := by rw [hw3]; exact bal (Below.refl _ _) _
  have hs12 := hb2.size
  have hs23 := hb23.size
  have HW3 := Go.Lib.hid hw3
  have HX3 := Go.Lib.hid hx3
  have HB3 := Go.Lib.hid (btr (btr HB1.out hb2) hb23)
  have HT3 := Go.Lib.hid (ht2.below hb23)
  have HO3 := Go.Lib.hid ((HO1.out.below hb2).below hb23)
  clear hw3 hx3 hb23 ht2 hb2
  go_wp2_with fail
  rw [← HW3.out]
  refine (ref_Decode16 A n c xs _ (HR.out.below HB3.out) HN.out.symm hc (by omega)).mono ?_
  rintro r w4 ⟨A4, d4, B4, c4, rfl, ht4, hb4⟩
  rw [← HTT.out] at ht4
  rw [← HTT.out, ← HEE.out]
  obtain ⟨w5, hw5⟩ : ∃ x, x = w4.alloc (.cells #[.int .u64 (t.a0 : Int), .int .u64 (t.a1 : Int), .int .u64 (t.a2 : Int), .int .u64 (t.a3 : Int), .int .u64 (t.a4 : Int), .int .u64 (t.a5 : Int), .slice A4 t.inp.length d4, .bool t.mak, .slice B4 t.code.length c4] 26) := ⟨_, rfl⟩
  have hx5 : w5.heap[w4.heap.size]? = some (.cells #[.int .u64 (t.a0 : Int), .int .u64 (t.a1 : Int), .int .u64 (t.a2 : Int), .int .u64 (t.a3 : Int), .int .u64 (t.a4 : Int), .int .u64 (t.a5 : Int), .slice A4 t.inp.length d4, .bool t.mak, .slice B4 t.code.length c4] 26 (0, 0)) := by rw [hw5]; exact Go.heap_alloc_new w4 _
  have hb45 : Below w4.heap.size w4 w5 := by rw [hw5]; exact bal (Below.refl _ _) _
  have hs34 := hb4.size
  have hs45 := hb45.size
  have HW5 := Go.Lib.hid hw5
  have HY5 := Go.Lib.hid hx5
  have HX5 := Go.Lib.hid (box_keep (box_keep HX3.out hb4) hb45)
  have HB5 := Go.Lib.hid (btr (btr HB3.out hb4) hb45)
  have HT5 := Go.Lib.hid ((HT3.out.below hb4).below hb45)
  have HU5 := Go.Lib.hid (ht4.below hb45)
  have HO5 := Go.Lib.hid ((HO3.out.below hb4).below hb45)
  have hA1 : ∀ g, A1.map (·.block) = some g → w.heap.size ≤ g ∧ g < w1.heap.size := fun g e => HO1.out.block_lt g e
  have HA1 := Go.Lib.hid hA1
  clear hw5 hx5 hb45 ht4 hb4 hA1
  go_wp2_with fail
  rw [← HW5.out]
  go_loopg [28, 8] n (fun g i s8 wr => ∃ (j : Nat) (zs : List Value), i = .int .i64 j ∧ j ≤ n ∧ g = n - j ∧ u8s zs ∧ zs.length = n ∧ Hid (Own wr w.heap.size 5 1 A1 n c1 zs) ∧ Hid (Kp (fun k => some k = A1.map (·.block)) w5 wr))
  case atStart => exact ⟨0, bs xs, rfl, Nat.zero_le _, rfl, u8s_bs xs, by have := HN.out; simp; omega, HO5, Go.Lib.hid (Kp.refl _ _)⟩
  case round =>
    obtain ⟨j, zs, rfl, hj, rfl, hzs, hzl, HOJ, HKJ⟩ := hrel
    by_cases hlt : j < n
    · obtain ⟨g, off, rfl, hg, hgl, hcell, hfr⟩ := HOJ.out.shape (by omega)
      obtain ⟨z, hz'⟩ := hzs zs[j] (List.getElem_mem (by omega))
      have hcj := hcell j zs[j] (by rw [List.getElem?_eq_getElem])
      rw [hz'] at hcj
      have HZS := Go.Lib.hid hzs
      clear hz' hzs hcell
      go_wp2_with fail
      go_roundg (n - (j + 1))
      case measure => omega
      case rel =>
        refine ⟨j + 1, zs.set j (.int .u8 ((z + 1) % 256)), by go_num, by omega, rfl, ?_, by simpa using hzl, Go.Lib.hid (HOJ.out.store rfl j (by omega) _), Go.Lib.hid (HKJ.out.trans (Kp.setCell (S := fun k => some k = Option.map (fun x => x.block) (some (⟨g, off, none⟩ : Addr))) (p := ⟨g, off + j, none⟩) wr rfl _))⟩
        intro u hu
        rcases List.mem_or_eq_of_mem_set hu with hu | rfl
        · exact HZS.out u hu
        · exact ⟨_, rfl⟩
    · obtain rfl : n = j := by omega
      obtain ⟨w6, rfl⟩ : ∃ w' : World, w' = wr := ⟨_, rfl⟩
      have hk6 : Kp (fun k => some k = A1.map (·.block)) w5 w6 := HKJ.out
      have hlt4 : w4.heap.size < w5.heap.size := (Array.getElem?_eq_some_iff.1 HY5.out).1
      have HX6 := Go.Lib.hid ((hk6.block w2.heap.size (by omega) fun e => by have := (HA1.out _ e.symm).2; omega).trans HX5.out)
      have HY6 := Go.Lib.hid ((hk6.block w4.heap.size hlt4 fun e => by have := (HA1.out _ e.symm).2; omega).trans HY5.out)
      have HB6 := Go.Lib.hid (Kp.below HB5.out hk6 (fun i e => (HA1.out i e.symm).1))
      have HT6 := Go.Lib.hid (HT5.out.kp hk6 fun g hg e => by have := (HA1.out g e.symm).2; omega)
      have HU6 := Go.Lib.hid (HU5.out.kp hk6 fun g hg e => by have := (HA1.out g e.symm).2; omega)
      clear hlt hzs hk6 HKJ HOJ
      go_wp2_with fail
      refine (law_alive _).mono ?_
      rintro r w7 ⟨rfl, hb7⟩
      have HX7 := Go.Lib.hid (box_keep HX6.out hb7)
      have HY7 := Go.Lib.hid (box_keep HY6.out hb7)
      have HB7 := Go.Lib.hid (btr HB6.out hb7)
      have HT7 := Go.Lib.hid (HT6.out.below hb7)
      have HU7 := Go.Lib.hid (HU6.out.below hb7)
      clear hb7
      obtain ⟨x0, x1, x2, x3, x4, x5, x6, x7, x8, xf⟩ := cells9 HX7.out
      obtain ⟨y0, y1, y2, y3, y4, y5, y6, y7, y8, yf⟩ := cells9 HY7.out
      go_wp2_with fail
      refine (ref_Same16 t A2 d2 B2 c2 A4 d4 B4 c4 _ HT7.out.hA.rd HT7.out.hB.rd HU7.out.hA.rd HU7.out.hB.rd (Nat.le_trans HT7.out.hd HT7.out.hdm)).mono ?_
      rintro r w8 ⟨rfl, hb8⟩
      clear x0 x1 x2 x3 x4 x5 x6 x7 x8 xf y0 y1 y2 y3 y4 y5 y6 y7 y8 yf
      have HX8 := Go.Lib.hid (box_keep HX7.out hb8)
      have HB8 := Go.Lib.hid (btr HB7.out hb8)
      have HT8 := Go.Lib.hid (HT7.out.below hb8)
      have hs28 : w2.heap.size < w8.heap.size := (Array.getElem?_eq_some_iff.1 HX8.out).1
      clear hb8
      obtain ⟨x0, x1, x2, x3, x4, x5, x6, x7, x8, xf⟩ := cells9 HX8.out
      go_wp2_with fail
      refine (tx_Encode t HOK.out A2 B2 d2 c2 _ HT8.out.hA.rd HT8.out.hB.rd HT8.out.hd HT8.out.hc).mono ?_
      intro r w9 hp
      obtain ⟨A9, c9, rfl, hc9, hm9, hown9, hb9⟩ := hp.shape
      have HX9 := Go.Lib.hid (box_keep HX8.out hb9)
      have HB9 := Go.Lib.hid (btr HB8.out hb9)
      have HT9 := Go.Lib.hid ((HT8.out.mono (Q := fun g => w1.heap.size ≤ g ∧ g < w8.heap.size) fun g hg h => ⟨h, hg⟩).below hb9)
      have HO9 := Go.Lib.hid hown9
      have hs89 := hb9.size
      obtain ⟨m, hm⟩ : ∃ m, m = (txEb t).length := ⟨_, rfl⟩
      rw [← hm] at hc9
      rw [← hm, HE0.out]
      have HM := Go.Lib.hid hm
      have hO9 : Own w9 w8.heap.size 5 1 A9 m c9 (bs (txEb t)) := by rw [hm]; exact hown9
      have HO9' := Go.Lib.hid hO9
      clear hp hown9 hb9 hm x0 x1 x2 x3 x4 x5 x6 x7 x8 xf hO9
      go_wp2_with fail
      go_loopg [58, 11] m (fun g i s8 wr => ∃ (j : Nat) (zs : List Value), i = .int .i64 j ∧ j ≤ m ∧ g = m - j ∧ u8s zs ∧ zs.length = m ∧ Hid (Own wr w8.heap.size 5 1 A9 m c9 zs) ∧ Hid (Kp (fun k => some k = A9.map (·.block)) w9 wr))
      case atStart => exact ⟨0, bs (txEb t), rfl, Nat.zero_le _, rfl, u8s_bs _, by have := HM.out; simp; omega, HO9', Go.Lib.hid (Kp.refl _ _)⟩
      case round =>
        obtain ⟨j, zs, rfl, hj, rfl, hzs, hzl, HOJ, HKJ⟩ := hrel
        by_cases hlt : j < m
        · obtain ⟨g, off, rfl, hg, hgl, hcell, hfr⟩ := HOJ.out.shape (by omega)
          obtain ⟨z, hz'⟩ := hzs zs[j] (List.getElem_mem (by omega))
          have hcj := hcell j zs[j] (by rw [List.getElem?_eq_getElem])
          rw [hz'] at hcj
          have HZS := Go.Lib.hid hzs
          clear hz' hzs hcell
          go_wp2_with fail
          go_roundg (m - (j + 1))
          case measure => omega
          case rel =>
            refine ⟨j + 1, zs.set j (.int .u8 ((z + 1) % 256)), by go_num, by omega, rfl, ?_, by simpa using hzl, Go.Lib.hid (HOJ.out.store rfl j (by omega) _), Go.Lib.hid (HKJ.out.trans (Kp.setCell (S := fun k => some k = Option.map (fun x => x.block) (some (⟨g, off, none⟩ : Addr))) (p := ⟨g, off + j, none⟩) wr rfl _))⟩
            intro u hu
            rcases List.mem_or_eq_of_mem_set hu with hu | rfl
            · exact HZS.out u hu
            · exact ⟨_, rfl⟩
        · obtain rfl : m = j := by omega
          obtain ⟨w10, rfl⟩ : ∃ w' : World, w' = wr := ⟨_, rfl⟩
          have hk10 : Kp (fun k => some k = A9.map (·.block)) w9 w10 := HKJ.out
          have HX10 := Go.Lib.hid ((hk10.block w2.heap.size (by omega) fun e => by have := (HO9'.out.block_lt _ e.symm).1; omega).trans HX9.out)
          have HB10 := Go.Lib.hid (Kp.below HB9.out hk10 (fun i e => by have := (HO9'.out.block_lt i e.symm).1; have := HB8.out.size; omega))
          have HT10 := Go.Lib.hid (HT9.out.kp hk10 fun g hg e => by have := (HO9'.out.block_lt g e.symm).1; omega)
          clear hlt hzs hk10 HKJ HOJ
          obtain ⟨x0, x1, x2, x3, x4, x5, x6, x7, x8, xf⟩ := cells9 HX10.out
          go_wp2_with fail
          refine (tx_Encode t HOK.out A2 B2 d2 c2 _ HT10.out.hA.rd HT10.out.hB.rd HT10.out.hd HT10.out.hc).mono ?_
          intro r w11 hp
          obtain ⟨A11, c11, rfl, hc11, hm11, hown11, hb11⟩ := hp.shape
          rw [HE0.out]
          have HB11 := Go.Lib.hid (btr HB10.out hb11)
          have HR11 := Go.Lib.hid hown11.rd
          clear hp hown11 hb11 x0 x1 x2 x3 x4 x5 x6 x7 x8 xf
          rcases HEB.out with h | ⟨h, h'⟩
          · subst h
            go_wp2_with fail
            go_ret
            exact ⟨rfl, HB11.out⟩
          · subst h
            have HR11' : Hid (Rd w11 A11 (bs xs)) := Go.Lib.hid (by have := HR11.out; rwa [h'] at this)
            rw [h']
            clear h'
            go_wp2_with fail
            refine (law_same A11 A xs.length c11 n c xs xs _ HR11'.out (HR.out.below HB11.out) rfl HN.out).mono ?_
            rintro r w12 ⟨rfl, rfl⟩
            rw [beq_self_eq_true]
            go_wp2_with fail
            go_ret
            exact ⟨rfl, HB11.out⟩

end Go.Proofs.Ytgpaiphjbhkadaa
