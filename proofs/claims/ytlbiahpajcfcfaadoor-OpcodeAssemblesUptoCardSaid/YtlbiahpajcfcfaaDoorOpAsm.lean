/- opcode.Assemble. Written by wip/bin/opasm.py. -/
import Derived.Test.YtlbiahpajcfcfaaDoorOpSplit
import Derived.Test.YtlbiahpajcfcfaaDoorOpAsmP
namespace Go.Proofs.YtlbiahpajcfcfaaDoor
open Go.ChangeShapes Go.WideShapes Go.ChangeAt Go.RowKit
set_option linter.unusedVariables false
set_option maxRecDepth 100000
attribute [local go_sem ↓] Go.wp_at_zero Go.wp_at_succ

theorem cells2 {w : World} {g : Nat} {a0 a1 : Value} {t : TypeId} (h : w.heap[g]? = some (.cells #[a0, a1] t (0, 0))) :
    w.cell? ⟨g, 0, none⟩ = some a0 ∧ w.cell? ⟨g, 1, none⟩ = some a1 ∧ ∀ j, w.frozen? ⟨g, j, none⟩ = false := by
  refine ⟨?_, ?_, fun j => ?_⟩
  · rw [cell_of_row _ _ _ _ _ _ h]; rfl
  · rw [cell_of_row _ _ _ _ _ _ h]; rfl
  · simp [World.frozen?, h]
theorem slice_two (B : Option Addr) (n c : Nat) (hn : 1 ≤ n) : ∃ B2, Hid (B2 = if c = 1 then B else B.map (·.add 2)) ∧ ∀ w, (Instr.slice 54 (.slice B n c) (some (.int .i64 1)) none none).run Tryd.prog w = .ok (.slice B2 (n - 1) (c - 1)) w := by
  refine ⟨_, Go.Lib.hid rfl, fun w => ?_⟩
  rw [run_slice_l w 54 B n c Tryd.underlying54 .i64 1 (by omega) (by omega)]
  have hs : (sizeOf (Tryd.prog.elem 54)).run Tryd.prog w = .ok 2 w := by kernel_rfl
  rw [hs]
  simp [Result.andThen, sliced]
theorem words_tail {w : World} {B B2 : Option Addr} {c : Nat} {p : List UInt8 × Nat} {l : List (List UInt8 × Nat)} (h : Rd w B (wordsC (p :: l))) (hc : l.length + 1 ≤ c) (hB : B2 = if c = 1 then B else B.map (·.add 2)) : Rd w B2 (wordsC l) := by
  by_cases h1 : c = 1
  · have : l = [] := List.eq_nil_of_length_eq_zero (by omega)
    subst this
    exact Rd.nil _ _
  · subst hB
    rw [if_neg h1]
    have := h.cut 2 (c * 2) (by rw [wordsC_length]; simp; omega)
    rw [if_neg (by omega)] at this
    exact this
theorem word_cells {w : World} {B : Option Addr} {p : List UInt8 × Nat} {l : List (List UInt8 × Nat)} (h : Rd w B (wordsC (p :: l))) : ∃ g off, B = some ⟨g, off, none⟩ ∧ g < w.heap.size ∧ ∀ wx, Below w.heap.size w wx → wx.cell? ⟨g, off, none⟩ = some (.string ⟨List.toArray p.1⟩) ∧ wx.cell? ⟨g, off + 1, none⟩ = some (.int .i64 (p.2 : Int)) := by
  obtain ⟨g, off, rfl, hg, hc⟩ := h.at_ (by rw [wordsC_length]; simp)
  refine ⟨g, off, rfl, hg, fun wx hb => ⟨?_, ?_⟩⟩
  · rw [hb.cell (p := ⟨g, off, none⟩) hg]
    exact hc 0 _ rfl
  · rw [hb.cell (p := ⟨g, off + 1, none⟩) hg]
    exact hc 1 _ rfl

def AsmP (t : List UInt8 × Nat × Nat) (w : World) (r : Ending) (w' : World) : Prop := ∃ A c, r = .returned (.tuple #[.slice A t.1.length c, .int .i64 (t.2.1 : Int), .int .i64 (t.2.2 : Int)]) ∧ Own w' w.heap.size 5 1 A t.1.length c (bs t.1) ∧ Below w.heap.size w w'
theorem AsmP.bad {t : List UInt8 × Nat × Nat} {p e : Nat} {w w3 w' : World} (ht : t = ([], p, e)) (h3 : Below w.heap.size w w3) (hb : Below w3.heap.size w3 w') : AsmP t w (.returned (.tuple #[.slice none 0 0, .int .i64 (p : Int), .int .i64 (e : Int)])) w' := by
  subst ht
  exact ⟨none, 0, rfl, Own.nil _ _ _ _, btr h3 hb⟩

theorem simpleG_lt {l : List UInt8} {op : Nat} (h : simpleG l = some op) : op < 256 := by
  unfold simpleG at h
  rw [Option.map_eq_some_iff] at h
  obtain ⟨r, hr, rfl⟩ := h
  have : ∀ r ∈ tbl, r.1 < 256 := by decide
  exact this r (List.mem_of_find?_eq_some hr)
theorem rd_one (w : World) (E : TypeId) {z : Int} {x : UInt8} (h : z = (x.toNat : Int)) : Rd (w.alloc (.cells #[.int .u8 z] E)) (some ⟨w.heap.size, 0, none⟩) (bs [x]) := by
  subst h
  exact rd_new w _ _
theorem takes_false {wd : List UInt8} (h : takesN wd = false) : (wideG wd).isSome = false ∧ (wd == [100, 117, 112]) = false ∧ (wd == [115, 119, 97, 112]) = false ∧ (wd == [98, 121, 116, 101]) = false := by
  unfold takesN at h
  simp only [Bool.or_eq_false_iff] at h
  exact ⟨h.1.1.1, h.1.1.2, h.1.2, h.2⟩
theorem takes_true {wd : List UInt8} (h : takesN wd = true) : (wideG wd).isSome = true ∨ ((wideG wd).isSome = false ∧ (wd == [100, 117, 112]) = true) ∨ ((wideG wd).isSome = false ∧ (wd == [100, 117, 112]) = false ∧ (wd == [115, 119, 97, 112]) = true) ∨ ((wideG wd).isSome = false ∧ (wd == [100, 117, 112]) = false ∧ (wd == [115, 119, 97, 112]) = false ∧ (wd == [98, 121, 116, 101]) = true) := by
  unfold takesN dupW swapW byteW at h
  cases h0 : (wideG wd).isSome <;> cases h1 : (wd == [100, 117, 112]) <;> cases h2 : (wd == [115, 119, 97, 112]) <;> cases h3 : (wd == [98, 121, 116, 101]) <;> simp_all

set_option maxHeartbeats 16000000 in
theorem op_Assemble (l : List UInt8) (hz : l.length ≤ 1099511627776) (w : World) (hw : WL w) : Calls Tryd.prog 17 #[.string ⟨l.toArray⟩] w (AsmP (asmT l) w) := by
  have HWL := Go.Lib.hid hw
  have hsz : (ByteArray.mk l.toArray).size = l.length := by simp [ByteArray.size]
  have hml : (l.length : Int) ≤ 9223372036854775807 := by omega
  obtain ⟨i0, hi, hz0, hz1, hz2⟩ := info_parts wd_u8
  clear hw
  go_enter Tryd.func17, Tryd.ntmps17
  go_wp2_with (go_at_call 27; refine (op_split l hz _).mono ?_; rintro _ w3 ⟨B0, cB0, rfl, hown3, hb3⟩; have HRD := Go.Lib.hid hown3.rd; have HW3 := Go.Lib.hid hb3; have HCAP := Go.Lib.hid hown3.cap; clear hown3 hb3)
  go_loopg [5, 6] ((wordsL l).length) (fun g v5 v6 wr => ∃ (rest : List (List UInt8 × Nat)) (code : List UInt8) (A : Option Addr) (c : Nat) (B : Option Addr) (cB : Nat), v5 = .slice A code.length c ∧ v6 = .slice B rest.length cB ∧ g = rest.length ∧ code.length ≤ 256 ∧ rest.length ≤ cB ∧ cB ≤ 9223372036854775807 ∧ Hid (Below w3.heap.size w3 wr) ∧ Hid (Own wr w3.heap.size 5 1 A code.length c (bs code)) ∧ Hid (Rd w3 B (wordsC rest)) ∧ Hid (asmL l.length rest code = asmT l) ∧ Hid (∀ x ∈ rest, x.1.length ≤ l.length))
  case atStart => exact ⟨wordsL l, [], none, 0, B0, cB0, rfl, rfl, rfl, by simp, HCAP.out.1, HCAP.out.2, Go.Lib.hid (Below.refl _ _), Go.Lib.hid (Own.nil _ _ _ _), HRD, Go.Lib.hid rfl, Go.Lib.hid (words_len l)⟩
  case round =>
    obtain ⟨rest, code, A, c, B, cB, rfl, rfl, rfl, hc256, hcB, hcB2, HBR, HO, HR, HINV, HLEN⟩ := hrel
    cases rest with
    | nil =>
      have hn0 : ([] : List (List UInt8 × Nat)).length = 0 := rfl
      go_wp2_with fail
      refine bodyPost_ret (v := .tuple #[.slice A code.length c, .int .i64 0, .int .i64 0]) (by simp [results, Tryd.results17, go_sem]) rfl ?_
      have e : asmT l = (code, 0, 0) := HINV.out.symm.trans rfl
      rw [e]
      exact ⟨A, c, rfl, HO.out.more (fun g e => Nat.le_trans HW3.out.size (HO.out.block_lt g e).1), btr HW3.out HBR.out⟩
    | cons x rest =>
      obtain ⟨wd, p⟩ := x
      obtain ⟨g, off, rfl, hg, hc0⟩ := word_cells HR.out
      obtain ⟨hx0, hx1⟩ := hc0 wr HBR.out
      have HWZ := Go.Lib.hid (Nat.le_trans (HLEN.out (wd, p) (by simp)) (show l.length ≤ 140737488351232 by omega))
      obtain ⟨m, hm⟩ : ∃ m, m = rest.length := ⟨_, rfl⟩
      have hm1 : ((wd, p) :: rest).length = m + 1 := by rw [List.length_cons, hm]
      rw [hm1] at hcB ⊢
      obtain ⟨B2, HB2, hsl⟩ := slice_two (some ⟨g, off, none⟩) (m + 1) cB (by omega)
      have HR2 := Go.Lib.hid (words_tail HR.out (by rw [← hm]; exact hcB) HB2.out)
      have hgr : g < wr.heap.size := Nat.lt_of_lt_of_le hg HBR.out.size
      have hgn : g ≠ wr.heap.size := by omega
      have hgn' : wr.heap.size ≠ g := by omega
      have HM := Go.Lib.hid hm
      clear hm hm1 hc0
      cases hs : simpleG wd with
      | some op =>
        have HS := Go.Lib.hid hs
        have hop : op < 256 := simpleG_lt hs
        obtain ⟨xb, hxb⟩ : ∃ x, x = UInt8.ofNat op := ⟨_, rfl⟩
        have HX := Go.Lib.hid (And.intro hxb (show (op : Int) = (xb.toNat : Int) by rw [hxb, toNat_small _ hop]))
        have hop2 : (op : Int) ≤ 255 := by omega
        clear hs hxb hop
        by_cases hlong : code.length + 1 > 256
        · have hlq : ((code.length : Int) + 1 > 256) := by omega
          have HLQ := Go.Lib.hid hlong
          clear hlong
          go_wp2_with (first | (go_at_call 28; refine (op_simple wd _).mono ?_; rintro _ w4 ⟨rfl, hb4⟩; rw [HS.out]; simp only [Option.getD_some, Option.isSome_some]; have HX4 := Go.Lib.hid (box_keep (Go.heap_alloc_new wr _) hb4); have HO4 := Go.Lib.hid ((HO.out.alloc _).below hb4); have HB4 := Go.Lib.hid (btr (bal HBR.out _) hb4); have hl4 : wr.heap.size < w4.heap.size := ((Array.getElem?_eq_some_iff.1 HX4.out).1); have hn4 : wr.heap.size ≠ w4.heap.size := (by omega); have hn4b : w4.heap.size ≠ wr.heap.size := (by omega); clear hb4; obtain ⟨y0, y1, yf⟩ := cells2 HX4.out; have HR5 := Go.Lib.hid (rd_one w4 5 HX.out.2)) | (at_builtin; go_loud (refine wpList_append_o _ rfl _ _ 32 rfl 5 i0 (.int .u8 0) 1 1 Tryd.underlying32 hi hz0 hz1 hz2 rfl (by decide) w3.heap.size A code.length c (bs code) rfl (HO4.out.alloc _) (some ⟨w4.heap.size, 0, none⟩) 1 1 (bs [xb]) rfl (by simp) HR5.out (bs_one _) (by omega) (by unfold maxLen; omega) (bal HB4.out _).size ?_)))
          intro A9 c9 w9 hown9 hkp9 hlie9
          have HB9 := Go.Lib.hid (show Below w3.heap.size w3 w9 from Kp.below (bal HB4.out _) hkp9 (fun i h => by have := HO.out.block_lt i h.symm; omega))
          have HX9 := Go.Lib.hid (show w9.heap[wr.heap.size]? = some (.cells #[.string ⟨List.toArray wd⟩, .int .i64 (p : Int)] 57 (0, 0)) from (hkp9.block wr.heap.size (by simp; omega) (fun h => by have := HO.out.block_lt _ h.symm; omega)).trans ((Below.heap_alloc w4 _ _ hl4).trans HX4.out))
          have HO9 := Go.Lib.hid hown9
          clear hown9 hkp9 hlie9
          obtain ⟨y12, y13, yf9⟩ := cells2 HX9.out
          go_wp2_with fail
          (try (go_region; go_wp2_with fail))
          refine bodyPost_ret (v := .tuple #[.slice none 0 0, .int .i64 (p : Int), .int .i64 142]) (by simp [results, Tryd.results17, go_sem]) rfl (AsmP.bad (e := 142) ?_ HW3.out (bdr HB9.out))
          rw [← HINV.out, asm_simple HS.out, if_pos HLQ.out]
        · have hlq : ¬ ((code.length : Int) + 1 > 256) := by omega
          have HLQ := Go.Lib.hid hlong
          clear hlong
          go_wp2_with (first | (go_at_call 28; refine (op_simple wd _).mono ?_; rintro _ w4 ⟨rfl, hb4⟩; rw [HS.out]; simp only [Option.getD_some, Option.isSome_some]; have HX4 := Go.Lib.hid (box_keep (Go.heap_alloc_new wr _) hb4); have HO4 := Go.Lib.hid ((HO.out.alloc _).below hb4); have HB4 := Go.Lib.hid (btr (bal HBR.out _) hb4); have hl4 : wr.heap.size < w4.heap.size := ((Array.getElem?_eq_some_iff.1 HX4.out).1); have hn4 : wr.heap.size ≠ w4.heap.size := (by omega); have hn4b : w4.heap.size ≠ wr.heap.size := (by omega); clear hb4; obtain ⟨y0, y1, yf⟩ := cells2 HX4.out; have HR5 := Go.Lib.hid (rd_one w4 5 HX.out.2)) | (at_builtin; go_loud (refine wpList_append_o _ rfl _ _ 32 rfl 5 i0 (.int .u8 0) 1 1 Tryd.underlying32 hi hz0 hz1 hz2 rfl (by decide) w3.heap.size A code.length c (bs code) rfl (HO4.out.alloc _) (some ⟨w4.heap.size, 0, none⟩) 1 1 (bs [xb]) rfl (by simp) HR5.out (bs_one _) (by omega) (by unfold maxLen; omega) (bal HB4.out _).size ?_)))
          intro A9 c9 w9 hown9 hkp9 hlie9
          have HB9 := Go.Lib.hid (show Below w3.heap.size w3 w9 from Kp.below (bal HB4.out _) hkp9 (fun i h => by have := HO.out.block_lt i h.symm; omega))
          have HX9 := Go.Lib.hid (show w9.heap[wr.heap.size]? = some (.cells #[.string ⟨List.toArray wd⟩, .int .i64 (p : Int)] 57 (0, 0)) from (hkp9.block wr.heap.size (by simp; omega) (fun h => by have := HO.out.block_lt _ h.symm; omega)).trans ((Below.heap_alloc w4 _ _ hl4).trans HX4.out))
          have HO9 := Go.Lib.hid hown9
          clear hown9 hkp9 hlie9
          obtain ⟨y12, y13, yf9⟩ := cells2 HX9.out
          go_wp2_with fail
          go_roundg m
          case measure => (have := HM.out; simp only [List.length_cons]; omega)
          case rel =>
            refine ⟨rest, code ++ [xb], A9, c9, B2, cB - 1, ?_, ?_, HM.out, ?_, ?_, ?_, HB9, ?_, HR2, ?_, Go.Lib.hid (fun x hx => HLEN.out x (by simp [hx]))⟩
            · rw [List.length_append]; rfl
            · have h := HM.out; subst h; simp
            · rw [List.length_append]; simp; omega
            · have := HM.out; omega
            · omega
            · refine Go.Lib.hid ?_
              have := HO9.out
              rw [← bs_append] at this
              rw [List.length_append]
              exact this
            · refine Go.Lib.hid ?_
              rw [← HINV.out, asm_simple HS.out, if_neg HLQ.out, HX.out.1]
      | none =>
        have HS := Go.Lib.hid hs
        clear hs
        cases ht : takesN wd with
        | false =>
          have HT := Go.Lib.hid ht
          obtain ⟨b0, b1, b2, b3⟩ := takes_false ht
          clear ht
          go_wp2_with (first | (go_at_call 28; refine (op_simple wd _).mono ?_; rintro _ w4 ⟨rfl, hb4⟩; rw [HS.out]; simp only [Option.getD_none, Option.isSome_none]; have HX4 := Go.Lib.hid (box_keep (Go.heap_alloc_new wr _) hb4); have HO4 := Go.Lib.hid ((HO.out.alloc _).below hb4); have HB4 := Go.Lib.hid (btr (bal HBR.out _) hb4); have hl4 : wr.heap.size < w4.heap.size := ((Array.getElem?_eq_some_iff.1 HX4.out).1); have hn4 : wr.heap.size ≠ w4.heap.size := (by omega); have hn4b : w4.heap.size ≠ wr.heap.size := (by omega); clear hb4; obtain ⟨y0, y1, yf⟩ := cells2 HX4.out) | (go_at_call 29; refine (op_wide wd HWZ.out _ (HWL.out.below (btr HW3.out (bal HB4.out _)))).mono ?_; rintro _ w6 ⟨rfl, hb6⟩; rw [b0]; have HX6 := Go.Lib.hid (box_keep ((Below.heap_alloc w4 _ _ hl4).trans HX4.out) hb6); have HO6 := Go.Lib.hid ((HO4.out.alloc _).below hb6); have HB6 := Go.Lib.hid (btr (bal HB4.out _) hb6); clear hb6; obtain ⟨y6, y7, yf6⟩ := cells2 HX6.out))
          (try (go_region; go_wp2_with fail))
          refine bodyPost_ret (v := .tuple #[.slice none 0 0, .int .i64 (p : Int), .int .i64 140]) (by simp [results, Tryd.results17, go_sem]) rfl (AsmP.bad (e := 140) ?_ HW3.out (bdr HB6.out))
          rw [← HINV.out, asm_word HS.out HT.out]
        | true =>
          have HT := Go.Lib.hid ht
          have h4 := takes_true ht
          clear ht
          cases rest with
          | nil =>
            have hm0 : m = 0 := HM.out
            subst hm0
            rcases h4 with b0 | ⟨b0, b1⟩ | ⟨b0, b1, b2⟩ | ⟨b0, b1, b2, b3⟩
            all_goals
              go_wp2_with (first | (go_at_call 28; refine (op_simple wd _).mono ?_; rintro _ w4 ⟨rfl, hb4⟩; rw [HS.out]; simp only [Option.getD_none, Option.isSome_none]; have HX4 := Go.Lib.hid (box_keep (Go.heap_alloc_new wr _) hb4); have HO4 := Go.Lib.hid ((HO.out.alloc _).below hb4); have HB4 := Go.Lib.hid (btr (bal HBR.out _) hb4); have hl4 : wr.heap.size < w4.heap.size := ((Array.getElem?_eq_some_iff.1 HX4.out).1); have hn4 : wr.heap.size ≠ w4.heap.size := (by omega); have hn4b : w4.heap.size ≠ wr.heap.size := (by omega); clear hb4; obtain ⟨y0, y1, yf⟩ := cells2 HX4.out) | (go_at_call 29; refine (op_wide wd HWZ.out _ (HWL.out.below (btr HW3.out (bal HB4.out _)))).mono ?_; rintro _ w6 ⟨rfl, hb6⟩; rw [b0]; have HX6 := Go.Lib.hid (box_keep ((Below.heap_alloc w4 _ _ hl4).trans HX4.out) hb6); have HO6 := Go.Lib.hid ((HO4.out.alloc _).below hb6); have HB6 := Go.Lib.hid (btr (bal HB4.out _) hb6); clear hb6; obtain ⟨y6, y7, yf6⟩ := cells2 HX6.out))
              refine bodyPost_ret (v := .tuple #[.slice none 0 0, .int .i64 (l.length : Int), .int .i64 141]) (by simp [results, Tryd.results17, go_sem]) rfl (AsmP.bad (e := 141) ?_ HW3.out HB6.out)
              rw [← HINV.out, asm_end HS.out HT.out]
          | cons x2 rest =>
            obtain ⟨v, q⟩ := x2
            obtain ⟨g2, off2, rfl, hg2, hc2⟩ := word_cells HR2.out
            have HC2 := Go.Lib.hid hc2
            have HVZ := Go.Lib.hid (Nat.le_trans (HLEN.out (v, q) (by simp)) (show l.length ≤ 140737488351232 by omega))
            obtain ⟨m2, hm2⟩ : ∃ m2, m2 = rest.length := ⟨_, rfl⟩
            have hmm : m = m2 + 1 := HM.out.trans (by rw [List.length_cons, hm2])
            subst hmm
            have HM2 := Go.Lib.hid hm2
            clear hm2 hc2
            obtain ⟨B3, HB3, hsl3⟩ := slice_two (some ⟨g2, off2, none⟩) (m2 + 1) (cB - 1) (by omega)
            have HR3 := Go.Lib.hid (words_tail HR2.out (by rw [← HM2.out]; omega) HB3.out)
            cases hp : parW v with
            | none =>
              have HP := Go.Lib.hid hp
              clear hp
              rcases h4 with b0 | ⟨b0, b1⟩ | ⟨b0, b1, b2⟩ | ⟨b0, b1, b2, b3⟩
              all_goals
                go_wp2_with (first | (go_at_call 28; refine (op_simple wd _).mono ?_; rintro _ w4 ⟨rfl, hb4⟩; rw [HS.out]; simp only [Option.getD_none, Option.isSome_none]; have HX4 := Go.Lib.hid (box_keep (Go.heap_alloc_new wr _) hb4); have HO4 := Go.Lib.hid ((HO.out.alloc _).below hb4); have HB4 := Go.Lib.hid (btr (bal HBR.out _) hb4); have hl4 : wr.heap.size < w4.heap.size := ((Array.getElem?_eq_some_iff.1 HX4.out).1); have hn4 : wr.heap.size ≠ w4.heap.size := (by omega); have hn4b : w4.heap.size ≠ wr.heap.size := (by omega); clear hb4; obtain ⟨y0, y1, yf⟩ := cells2 HX4.out) | (go_at_call 29; refine (op_wide wd HWZ.out _ (HWL.out.below (btr HW3.out (bal HB4.out _)))).mono ?_; rintro _ w6 ⟨rfl, hb6⟩; rw [b0]; have HX6 := Go.Lib.hid (box_keep ((Below.heap_alloc w4 _ _ hl4).trans HX4.out) hb6); have HO6 := Go.Lib.hid ((HO4.out.alloc _).below hb6); have HB6 := Go.Lib.hid (btr (bal HB4.out _) hb6); clear hb6; obtain ⟨y6, y7, yf6⟩ := cells2 HX6.out; obtain ⟨z6, z7⟩ := HC2.out w6 HB6.out) | (go_at_call 30; refine (parse_list v HVZ.out _ (HWL.out.below (btr HW3.out HB6.out))).mono ?_; rintro _ w7 ⟨rfl, hb7⟩; rw [HP.out]; simp only [oW]; have HX7 := Go.Lib.hid (box_keep HX6.out hb7); have HO7 := Go.Lib.hid (HO6.out.below hb7); have HB7 := Go.Lib.hid (btr HB6.out hb7); clear hb7; obtain ⟨y8, y9, yf7⟩ := cells2 HX7.out; obtain ⟨z8, z9⟩ := HC2.out w7 HB7.out))
                (try (go_region; go_wp2_with fail))
                refine bodyPost_ret (v := .tuple #[.slice none 0 0, .int .i64 (q : Int), .int .i64 141]) (by simp [results, Tryd.results17, go_sem]) rfl (AsmP.bad (e := 141) ?_ HW3.out (bdr HB7.out))
                rw [← HINV.out, asm_bad HS.out HT.out (by rw [HP.out]; rfl)]
            | some n =>
              have HP := Go.Lib.hid hp
              have HN64 := Go.Lib.hid (parW_some hp).2
              clear hp
              cases hn : numG wd n with
              | none =>
                have HN := Go.Lib.hid hn
                clear hn
                rcases h4 with b0 | ⟨b0, b1⟩ | ⟨b0, b1, b2⟩ | ⟨b0, b1, b2, b3⟩
                all_goals
                  go_wp2_with (first | (go_at_call 28; refine (op_simple wd _).mono ?_; rintro _ w4 ⟨rfl, hb4⟩; rw [HS.out]; simp only [Option.getD_none, Option.isSome_none]; have HX4 := Go.Lib.hid (box_keep (Go.heap_alloc_new wr _) hb4); have HO4 := Go.Lib.hid ((HO.out.alloc _).below hb4); have HB4 := Go.Lib.hid (btr (bal HBR.out _) hb4); have hl4 : wr.heap.size < w4.heap.size := ((Array.getElem?_eq_some_iff.1 HX4.out).1); have hn4 : wr.heap.size ≠ w4.heap.size := (by omega); have hn4b : w4.heap.size ≠ wr.heap.size := (by omega); clear hb4; obtain ⟨y0, y1, yf⟩ := cells2 HX4.out) | (go_at_call 29; refine (op_wide wd HWZ.out _ (HWL.out.below (btr HW3.out (bal HB4.out _)))).mono ?_; rintro _ w6 ⟨rfl, hb6⟩; rw [b0]; have HX6 := Go.Lib.hid (box_keep ((Below.heap_alloc w4 _ _ hl4).trans HX4.out) hb6); have HO6 := Go.Lib.hid ((HO4.out.alloc _).below hb6); have HB6 := Go.Lib.hid (btr (bal HB4.out _) hb6); clear hb6; obtain ⟨y6, y7, yf6⟩ := cells2 HX6.out; obtain ⟨z6, z7⟩ := HC2.out w6 HB6.out) | (go_at_call 30; refine (parse_list v HVZ.out _ (HWL.out.below (btr HW3.out HB6.out))).mono ?_; rintro _ w7 ⟨rfl, hb7⟩; rw [HP.out]; simp only [oW]; have HX7 := Go.Lib.hid (box_keep HX6.out hb7); have HO7 := Go.Lib.hid (HO6.out.below hb7); have HB7 := Go.Lib.hid (btr HB6.out hb7); clear hb7; obtain ⟨y8, y9, yf7⟩ := cells2 HX7.out; obtain ⟨z8, z9⟩ := HC2.out w7 HB7.out) | (go_at_call 31; refine (op_numbered wd n HN64.out HWZ.out _ (HWL.out.below (btr HW3.out HB7.out))).mono ?_; intro r w8 hp; rw [HN.out] at hp; obtain ⟨rfl, hb8⟩ := hp; have HB8 := Go.Lib.hid (btr HB7.out hb8); clear hb8; obtain ⟨z10, z11⟩ := HC2.out w8 HB8.out))
                  (try (go_region; go_wp2_with fail))
                  refine bodyPost_ret (v := .tuple #[.slice none 0 0, .int .i64 (q : Int), .int .i64 141]) (by simp [results, Tryd.results17, go_sem]) rfl (AsmP.bad (e := 141) ?_ HW3.out (bdr HB8.out))
                  rw [← HINV.out, asm_bad HS.out HT.out (by rw [HP.out]; exact HN.out)]
              | some b =>
                have HN := Go.Lib.hid hn
                have hb9 := numG_len hn
                clear hn
                by_cases hlong : code.length + b.length > 256
                · have hlq : ((code.length : Int) + (b.length : Int) > 256) := by omega
                  have HLQ := Go.Lib.hid hlong
                  clear hlong
                  rcases h4 with b0 | ⟨b0, b1⟩ | ⟨b0, b1, b2⟩ | ⟨b0, b1, b2, b3⟩
                  all_goals
                    go_wp2_with (first | (go_at_call 28; refine (op_simple wd _).mono ?_; rintro _ w4 ⟨rfl, hb4⟩; rw [HS.out]; simp only [Option.getD_none, Option.isSome_none]; have HX4 := Go.Lib.hid (box_keep (Go.heap_alloc_new wr _) hb4); have HO4 := Go.Lib.hid ((HO.out.alloc _).below hb4); have HB4 := Go.Lib.hid (btr (bal HBR.out _) hb4); have hl4 : wr.heap.size < w4.heap.size := ((Array.getElem?_eq_some_iff.1 HX4.out).1); have hn4 : wr.heap.size ≠ w4.heap.size := (by omega); have hn4b : w4.heap.size ≠ wr.heap.size := (by omega); clear hb4; obtain ⟨y0, y1, yf⟩ := cells2 HX4.out) | (go_at_call 29; refine (op_wide wd HWZ.out _ (HWL.out.below (btr HW3.out (bal HB4.out _)))).mono ?_; rintro _ w6 ⟨rfl, hb6⟩; rw [b0]; have HX6 := Go.Lib.hid (box_keep ((Below.heap_alloc w4 _ _ hl4).trans HX4.out) hb6); have HO6 := Go.Lib.hid ((HO4.out.alloc _).below hb6); have HB6 := Go.Lib.hid (btr (bal HB4.out _) hb6); clear hb6; obtain ⟨y6, y7, yf6⟩ := cells2 HX6.out; obtain ⟨z6, z7⟩ := HC2.out w6 HB6.out) | (go_at_call 30; refine (parse_list v HVZ.out _ (HWL.out.below (btr HW3.out HB6.out))).mono ?_; rintro _ w7 ⟨rfl, hb7⟩; rw [HP.out]; simp only [oW]; have HX7 := Go.Lib.hid (box_keep HX6.out hb7); have HO7 := Go.Lib.hid (HO6.out.below hb7); have HB7 := Go.Lib.hid (btr HB6.out hb7); clear hb7; obtain ⟨y8, y9, yf7⟩ := cells2 HX7.out; obtain ⟨z8, z9⟩ := HC2.out w7 HB7.out) | (go_at_call 31; refine (op_numbered wd n HN64.out HWZ.out _ (HWL.out.below (btr HW3.out HB7.out))).mono ?_; intro r w8 hp; rw [HN.out] at hp; obtain ⟨⟨A8, c8, rfl, hown8⟩, hb8⟩ := hp; have HR8 := Go.Lib.hid hown8.rd; have HX8 := Go.Lib.hid (box_keep HX7.out hb8); have HO8 := Go.Lib.hid (HO7.out.below hb8); have HB8 := Go.Lib.hid (btr HB7.out hb8); clear hown8 hb8; obtain ⟨y10, y11, yf8⟩ := cells2 HX8.out) | (at_builtin; go_loud (refine wpList_append_o _ rfl _ _ 32 rfl 5 i0 (.int .u8 0) 1 1 Tryd.underlying32 hi hz0 hz1 hz2 rfl (by decide) w3.heap.size A code.length c (bs code) rfl HO8.out A8 b.length c8 (bs b) rfl (by simp) HR8.out (bs_one _) (by omega) (by unfold maxLen; omega) HB8.out.size ?_)))
                    intro A9 c9 w9 hown9 hkp9 hlie9
                    have HB9 := Go.Lib.hid (show Below w3.heap.size w3 w9 from Kp.below HB8.out hkp9 (fun i h => by have := HO.out.block_lt i h.symm; omega))
                    have HX9 := Go.Lib.hid (show w9.heap[wr.heap.size]? = some (.cells #[.string ⟨List.toArray wd⟩, .int .i64 (p : Int)] 57 (0, 0)) from (hkp9.block wr.heap.size (by have := (Array.getElem?_eq_some_iff.1 HX8.out).1; omega) (fun h => by have := HO.out.block_lt _ h.symm; omega)).trans HX8.out)
                    have HO9 := Go.Lib.hid hown9
                    clear hown9 hkp9 hlie9
                    obtain ⟨y12, y13, yf9⟩ := cells2 HX9.out
                    go_wp2_with fail
                    (try (go_region; go_wp2_with fail))
                    refine bodyPost_ret (v := .tuple #[.slice none 0 0, .int .i64 (p : Int), .int .i64 142]) (by simp [results, Tryd.results17, go_sem]) rfl (AsmP.bad (e := 142) ?_ HW3.out (bdr HB9.out))
                    rw [← HINV.out, asm_num HS.out HT.out (by rw [HP.out]; exact HN.out), if_pos HLQ.out]
                · have hlq : ¬ ((code.length : Int) + (b.length : Int) > 256) := by omega
                  have HLQ := Go.Lib.hid hlong
                  clear hlong
                  rcases h4 with b0 | ⟨b0, b1⟩ | ⟨b0, b1, b2⟩ | ⟨b0, b1, b2, b3⟩
                  all_goals
                    go_wp2_with (first | (go_at_call 28; refine (op_simple wd _).mono ?_; rintro _ w4 ⟨rfl, hb4⟩; rw [HS.out]; simp only [Option.getD_none, Option.isSome_none]; have HX4 := Go.Lib.hid (box_keep (Go.heap_alloc_new wr _) hb4); have HO4 := Go.Lib.hid ((HO.out.alloc _).below hb4); have HB4 := Go.Lib.hid (btr (bal HBR.out _) hb4); have hl4 : wr.heap.size < w4.heap.size := ((Array.getElem?_eq_some_iff.1 HX4.out).1); have hn4 : wr.heap.size ≠ w4.heap.size := (by omega); have hn4b : w4.heap.size ≠ wr.heap.size := (by omega); clear hb4; obtain ⟨y0, y1, yf⟩ := cells2 HX4.out) | (go_at_call 29; refine (op_wide wd HWZ.out _ (HWL.out.below (btr HW3.out (bal HB4.out _)))).mono ?_; rintro _ w6 ⟨rfl, hb6⟩; rw [b0]; have HX6 := Go.Lib.hid (box_keep ((Below.heap_alloc w4 _ _ hl4).trans HX4.out) hb6); have HO6 := Go.Lib.hid ((HO4.out.alloc _).below hb6); have HB6 := Go.Lib.hid (btr (bal HB4.out _) hb6); clear hb6; obtain ⟨y6, y7, yf6⟩ := cells2 HX6.out; obtain ⟨z6, z7⟩ := HC2.out w6 HB6.out) | (go_at_call 30; refine (parse_list v HVZ.out _ (HWL.out.below (btr HW3.out HB6.out))).mono ?_; rintro _ w7 ⟨rfl, hb7⟩; rw [HP.out]; simp only [oW]; have HX7 := Go.Lib.hid (box_keep HX6.out hb7); have HO7 := Go.Lib.hid (HO6.out.below hb7); have HB7 := Go.Lib.hid (btr HB6.out hb7); clear hb7; obtain ⟨y8, y9, yf7⟩ := cells2 HX7.out; obtain ⟨z8, z9⟩ := HC2.out w7 HB7.out) | (go_at_call 31; refine (op_numbered wd n HN64.out HWZ.out _ (HWL.out.below (btr HW3.out HB7.out))).mono ?_; intro r w8 hp; rw [HN.out] at hp; obtain ⟨⟨A8, c8, rfl, hown8⟩, hb8⟩ := hp; have HR8 := Go.Lib.hid hown8.rd; have HX8 := Go.Lib.hid (box_keep HX7.out hb8); have HO8 := Go.Lib.hid (HO7.out.below hb8); have HB8 := Go.Lib.hid (btr HB7.out hb8); clear hown8 hb8; obtain ⟨y10, y11, yf8⟩ := cells2 HX8.out) | (at_builtin; go_loud (refine wpList_append_o _ rfl _ _ 32 rfl 5 i0 (.int .u8 0) 1 1 Tryd.underlying32 hi hz0 hz1 hz2 rfl (by decide) w3.heap.size A code.length c (bs code) rfl HO8.out A8 b.length c8 (bs b) rfl (by simp) HR8.out (bs_one _) (by omega) (by unfold maxLen; omega) HB8.out.size ?_)))
                    intro A9 c9 w9 hown9 hkp9 hlie9
                    have HB9 := Go.Lib.hid (show Below w3.heap.size w3 w9 from Kp.below HB8.out hkp9 (fun i h => by have := HO.out.block_lt i h.symm; omega))
                    have HX9 := Go.Lib.hid (show w9.heap[wr.heap.size]? = some (.cells #[.string ⟨List.toArray wd⟩, .int .i64 (p : Int)] 57 (0, 0)) from (hkp9.block wr.heap.size (by have := (Array.getElem?_eq_some_iff.1 HX8.out).1; omega) (fun h => by have := HO.out.block_lt _ h.symm; omega)).trans HX8.out)
                    have HO9 := Go.Lib.hid hown9
                    clear hown9 hkp9 hlie9
                    obtain ⟨y12, y13, yf9⟩ := cells2 HX9.out
                    go_wp2_with fail
                    go_roundg m2
                    case measure => (have := HM2.out; simp only [List.length_cons]; omega)
                    case rel =>
                      refine ⟨rest, code ++ b, A9, c9, B3, cB - 1 - 1, ?_, ?_, HM2.out, ?_, ?_, ?_, HB9, ?_, HR3, ?_, Go.Lib.hid (fun x hx => HLEN.out x (by simp [hx]))⟩
                      · rw [List.length_append]
                      · have h := HM2.out; subst h; simp
                      · rw [List.length_append]; omega
                      · have := HM2.out; omega
                      · omega
                      · refine Go.Lib.hid ?_
                        have := HO9.out
                        rw [← bs_append] at this
                        rw [List.length_append]
                        exact this
                      · refine Go.Lib.hid ?_
                        rw [← HINV.out, asm_num HS.out HT.out (by rw [HP.out]; exact HN.out), if_neg HLQ.out]

end Go.Proofs.YtlbiahpajcfcfaaDoor
