/- NestAhead: the walk. -/
import Derived.Test.YtfolidaonnblbaaNsLaws3
namespace Go.Proofs.Ytfolidaonnblbaa
open Go.ChangeShapes Go.WideShapes Go.RowKit
set_option linter.unusedVariables false

/-- One encoding begins with another: the items are the same. -/
theorem ahead_eq {t u : Tree} {b c : List UInt8} (ht : pEncode t = .ok b) (hu : pEncode u = .ok c) (hl : b.length ≤ c.length) (he : b = c.take b.length) : t = u := by
  have h1 := encode_first ht (c.drop b.length)
  have e : b ++ c.drop b.length = c := by
    have := List.take_append_drop b.length c
    rw [← he] at this
    exact this
  rw [e] at h1
  have h2 := encode_first hu []
  rw [List.append_nil, h1] at h2
  injection h2 with h2
  injection h2 with h2

theorem sameT_iff (t u : Tree) : sameT t u = true ↔ t = u := ⟨sameT_eq t u, fun h => by rw [h]; exact sameT_refl u⟩

set_option maxHeartbeats 2000000 in
set_option maxRecDepth 100000 in
theorem ahead_walk (w : World) (t : Tree) (v0 v1 v2 : Value) (ht : RdT w (fun _ => True) t v0 v1 v2) (u : Tree) (u0 u1 u2 : Value) (hu : RdT w (fun _ => True) u u0 u1 u2) (Am : Option Addr) (nm cm : Nat) (ms : List UInt8) (hnm : ms.length = nm) (hcm : nm ≤ cm) (hrm : Rd w Am (bs ms)) (hzm : cm ≤ 140737488351232) :
    Calls Try.prog 5 #[.agg #[v0, v1, v2], .agg #[u0, u1, u2], .slice Am nm cm] w fun r w' => r = .returned (.bool true) ∧ Below w.heap.size w w' := by
  obtain ⟨a1, a2, a3, a4, a5, a6, rfl, rfl, rfl⟩ := ht.shape
  obtain ⟨b1, b2, b3, b4, b5, b6, rfl, rfl, rfl⟩ := hu.shape
  have HT := Go.Lib.hid ht
  have HU := Go.Lib.hid hu
  have HRM := Go.Lib.hid hrm
  have HNM := Go.Lib.hid hnm
  obtain ⟨i0, hi, hz0, hz1, hz2⟩ := info_parts info_u8
  clear ht hu hrm hnm
  obtain ⟨w0, hw0⟩ : ∃ w0, w0 = (w.alloc (.cells #[.bool t.l, .slice a1 a2 a3, .slice a4 a5 a6] 25)).alloc (.cells #[.bool u.l, .slice b1 b2 b3, .slice b4 b5 b6] 25) := ⟨_, rfl⟩
  have hb0 : Below w.heap.size w w0 := by rw [hw0]; exact bal (bal (Below.refl _ _) _) _
  have hx0 : w0.heap[w.heap.size]? = some (.cells #[.bool t.l, .slice a1 a2 a3, .slice a4 a5 a6] 25 (0, 0)) := by
    rw [hw0]; exact (Below.heap_alloc _ _ w.heap.size (by simp)).trans (Go.heap_alloc_new w _)
  have hy0 : w0.heap[w.heap.size + 1]? = some (.cells #[.bool u.l, .slice b1 b2 b3, .slice b4 b5 b6] 25 (0, 0)) := by
    rw [hw0]
    have := Go.heap_alloc_new (w.alloc (.cells #[.bool t.l, .slice a1 a2 a3, .slice a4 a5 a6] 25)) (.cells #[.bool u.l, .slice b1 b2 b3, .slice b4 b5 b6] 25)
    simpa using this
  have HW0 := Go.Lib.hid hw0
  have HB0 := Go.Lib.hid hb0
  have HX0 := Go.Lib.hid hx0
  have HY0 := Go.Lib.hid hy0
  clear hw0 hb0 hx0 hy0
  go_enter Try.func5, Try.ntmps5
  go_wp2_with fail
  rw [← HW0.out]
  refine (nest_Encode t _ _ _ _ _ (HT.out.below HB0.out)).mono ?_
  intro r w1 hp
  unfold EncP at hp
  cases hq : pEncode t with
  | error e =>
    rw [hq] at hp
    obtain ⟨rfl, hb1⟩ := hp
    have he := encode_err hq
    have he1 : (e != 0) = true := by rw [bne_iff_ne]; omega
    obtain ⟨y0, y1, y2, yf⟩ := cells3 (box_keep HY0.out hb1)
    have HB1 := Go.Lib.hid (btr HB0.out hb1)
    clear hq hb1
    go_wp2_with fail
    refine (nest_Encode u _ _ _ _ _ (HU.out.below HB1.out)).mono ?_
    intro r w2 hp
    unfold EncP at hp
    cases hqu : pEncode u with
    | error e2 =>
      rw [hqu] at hp
      obtain ⟨rfl, hb2⟩ := hp
      have HB2 := Go.Lib.hid (btr HB1.out hb2)
      clear hb2 hqu
      go_wp2_with fail
      refine (law_alive _).mono ?_
      rintro r w3 ⟨rfl, hb3⟩
      go_wp2_with fail
      go_ret
      exact ⟨rfl, btr HB2.out hb3⟩
    | ok c =>
      rw [hqu] at hp
      obtain ⟨A2, n2, c2, rfl, hown2, hb2⟩ := hp
      have HB2 := Go.Lib.hid (btr HB1.out hb2)
      clear hb2 hqu hown2
      go_wp2_with fail
      refine (law_alive _).mono ?_
      rintro r w3 ⟨rfl, hb3⟩
      go_wp2_with fail
      go_ret
      exact ⟨rfl, btr HB2.out hb3⟩
  | ok b =>
    rw [hq] at hp
    obtain ⟨A1, n1, c1, rfl, hown1, hb1⟩ := hp
    have hsm : b.length ≤ 83886080 := by obtain ⟨_, _, _, _, h⟩ := encode_ok hq; exact h
    obtain rfl : n1 = b.length := by have := hown1.len; simpa using this.symm
    have HX1 := Go.Lib.hid (box_keep HX0.out hb1)
    have HY1 := Go.Lib.hid (box_keep HY0.out hb1)
    have HB1 := Go.Lib.hid (btr HB0.out hb1)
    have HO1 := Go.Lib.hid hown1.rd
    have HQ := Go.Lib.hid hq
    have hcap1 := hown1.cap
    clear hb1 hown1 hq
    obtain ⟨y0, y1, y2, yf⟩ := cells3 HY1.out
    go_wp2_with fail
    refine (nest_Encode u _ _ _ _ _ (HU.out.below HB1.out)).mono ?_
    intro r w2 hp
    unfold EncP at hp
    have hres : ∃ (A2 : Option Addr) (n2 c2 : Nat) (f : Int), r = .returned (.tuple #[.slice A2 n2 c2, .int .i64 f]) ∧ Below w1.heap.size w1 w2 ∧ n2 ≤ c2 ∧ n2 ≤ 83886080 ∧ c2 ≤ 9223372036854775807 ∧
        ((f ≠ 0 ∧ ∃ e, pEncode u = .error e) ∨ (f = 0 ∧ ∃ c, pEncode u = .ok c ∧ n2 = c.length ∧ Rd w2 A2 (bs c))) := by
      cases hqu : pEncode u with
      | error e2 =>
        rw [hqu] at hp
        obtain ⟨rfl, hb2⟩ := hp
        have he := encode_err hqu
        exact ⟨none, 0, 0, e2, rfl, hb2, by omega, by omega, by omega, .inl ⟨by omega, e2, rfl⟩⟩
      | ok c =>
        rw [hqu] at hp
        obtain ⟨A2, n2, c2, rfl, hown2, hb2⟩ := hp
        obtain ⟨_, _, _, _, hsm2⟩ := encode_ok hqu
        obtain rfl : n2 = c.length := by have := hown2.len; simpa using this.symm
        have hcap2 := hown2.cap
        exact ⟨A2, c.length, c2, 0, rfl, hb2, hcap2.1, hsm2, hcap2.2, .inr ⟨rfl, c, rfl, rfl, hown2.rd⟩⟩
    clear hp
    obtain ⟨A2, n2, c2, f, rfl, hb2, hnc2, hn2s, hc2, hcase⟩ := hres
    have hfirst := encode_first HQ.out ms
    have HF := Go.Lib.hid hfirst
    have HX2 := Go.Lib.hid (box_keep HX1.out hb2)
    have HY2 := Go.Lib.hid (box_keep HY1.out hb2)
    have HB2 := Go.Lib.hid (btr HB1.out hb2)
    have HO2 := Go.Lib.hid (HO1.out.below hb2)
    have HC := Go.Lib.hid hcase
    clear hfirst hb2 hcase y0 y1 y2 yf
    have hnm2 : nm ≤ 140737488351232 := by omega
    go_wp2_with (at_builtin; refine wpList_append_o _ rfl _ _ 22 rfl 5 i0 (.int .u8 0) 1 1 Try.underlying22 hi hz0 hz1 hz2 rfl (by decide) w2.heap.size none 0 0 [] rfl (Own.nil _ _ _ _) A1 b.length c1 (bs b) rfl (by simp) HO2.out (bs_one _) (by omega) (by unfold maxLen; omega) (by simp) ?_)
    intro A3 c3 w3 hown3 hk3 hl3
    have hb3 : Below w2.heap.size w2 w3 := Kp.below (Below.refl _ _) hk3 (fun i h => by simp at h)
    have HO3 := Go.Lib.hid hown3
    have HB3 := Go.Lib.hid hb3
    clear hown3 hk3 hl3 hb3
    go_wp2_with (at_builtin; refine wpList_append_o _ rfl _ _ 22 rfl 5 i0 (.int .u8 0) 1 1 Try.underlying22 hi hz0 hz1 hz2 rfl (by decide) w2.heap.size A3 b.length c3 (bs b) rfl HO3.out Am nm cm (bs ms) rfl (by have := HNM.out; simp; omega) ((HRM.out.below HB2.out).below HB3.out) (bs_one _) (by omega) (by unfold maxLen; omega) (by exact HB3.out.size) ?_)
    intro A4 c4 w4 hown4 hk4 hl4
    have hb4 : Below w2.heap.size w2 w4 := Kp.below HB3.out hk4 (fun i h => (HO3.out.block_lt i h.symm).1)
    rw [← bs_append] at hown4
    have hcap4 := hown4.cap
    have HO4 := Go.Lib.hid hown4
    have HB4 := Go.Lib.hid hb4
    clear hown4 hk4 hl4 hb4
    go_wp2_with fail
    refine (nest_First A4 (b.length + nm) c4 (b ++ ms) _ HO4.out.rd (by have := HNM.out; simp; omega) hcap4.1 (by omega)).mono ?_
    intro r w5 hp
    rw [HF.out] at hp
    obtain ⟨z0, z1, z2, rfl, htz, hb5⟩ := hp
    obtain ⟨d1, d2, d3, d4, d5, d6, rfl, rfl, rfl⟩ := htz.shape
    have hb25 : Below w2.heap.size w2 w5 := HB4.out.trans (hb5.mono HB4.out.size)
    have HX5 := Go.Lib.hid (box_keep HX2.out hb25)
    have HY5 := Go.Lib.hid (box_keep HY2.out hb25)
    have HB25 := Go.Lib.hid hb25
    have HTZ := Go.Lib.hid htz
    have hl5 : w.heap.size < w5.heap.size := (Array.getElem?_eq_some_iff.1 (box_keep HX2.out hb25)).1
    have hl6 : w.heap.size + 1 < w5.heap.size := (Array.getElem?_eq_some_iff.1 (box_keep HY2.out hb25)).1
    clear hb5 hb25 htz
    obtain ⟨x0, x1, x2, xf⟩ := cells3 HX5.out
    obtain ⟨y0, y1, y2, yf⟩ := cells3 HY5.out
    go_wp2_with fail
    refine (ref_Same t t _ _ _ _ _ _ _ _ _ ((HT.out.below (btr HB2.out HB25.out)).below (bal (Below.refl _ _) _)) (HTZ.out.below (bal (Below.refl _ _) _))).mono ?_
    rintro r w6 ⟨rfl, hb6⟩
    rw [sameT_refl]
    have hb26 : Below w2.heap.size w2 w6 := btr (bal HB25.out _) hb6
    have HX6 := Go.Lib.hid (box_keep HX2.out hb26)
    have HY6 := Go.Lib.hid (box_keep HY2.out hb26)
    have HB26 := Go.Lib.hid hb26
    clear hb6 hb26 x0 x1 x2 xf y0 y1 y2 yf
    rcases HC.out with ⟨hf, _⟩ | ⟨rfl, c, hc, rfl, hrc⟩
    · have hf0 : (f == 0) = false := by simpa using hf
      clear hf
      go_wp2_with fail
      refine (law_alive _).mono ?_
      rintro r w7 ⟨rfl, hb7⟩
      go_wp2_with fail
      go_ret
      exact ⟨rfl, btr (btr HB2.out HB26.out) hb7⟩
    · have HCC := Go.Lib.hid hc
      have HRC := Go.Lib.hid hrc
      clear hc hrc
      by_cases hle : b.length ≤ c.length
      · have heq : (b == c.take b.length) = sameT t u := by
          cases hst : sameT t u with
          | true =>
            have := (sameT_iff t u).1 hst
            subst this
            have h5 := HQ.out.symm.trans HCC.out
            injection h5 with h5
            subst h5
            simp
          | false =>
            rw [beq_eq_false_iff_ne]
            intro h
            have := ahead_eq HQ.out HCC.out hle h
            rw [this, sameT_refl] at hst
            cases hst
        have HEQ := Go.Lib.hid heq
        clear heq
        go_wp2_with fail
        refine (law_same A1 A2 b.length c1 b.length c2 b (c.take b.length) _ (HO2.out.below HB26.out) (by rw [bs_take]; exact (HRC.out.below HB26.out).take _) rfl (by rw [List.length_take]; omega)).mono ?_
        rintro r w7 ⟨rfl, rfl⟩
        rw [HEQ.out]
        obtain ⟨q, hqq⟩ : ∃ q, q = sameT t u := ⟨_, rfl⟩
        rw [← hqq]
        have HQQ := Go.Lib.hid hqq
        clear hqq
        go_wp2_with fail
        refine (law_alive _).mono ?_
        rintro r w8 ⟨rfl, hb8⟩
        obtain ⟨x0, x1, x2, xf⟩ := cells3 (box_keep HX6.out hb8)
        obtain ⟨y0, y1, y2, yf⟩ := cells3 (box_keep HY6.out hb8)
        have HB8 := Go.Lib.hid (btr (btr HB2.out HB26.out) hb8)
        clear hb8
        go_wp2_with fail
        refine (ref_Same t u _ _ _ _ _ _ _ _ _ (HT.out.below HB8.out) (HU.out.below HB8.out)).mono ?_
        rintro r w9 ⟨rfl, hb9⟩
        rw [← HQQ.out]
        go_wp2_with fail
        go_ret
        exact ⟨by simp, btr HB8.out hb9⟩
      · have hst : sameT t u = false := by
          cases hst : sameT t u with
          | true =>
            have := (sameT_iff t u).1 hst
            subst this
            have h5 := HQ.out.symm.trans HCC.out
            injection h5 with h5
            subst h5
            exact absurd (Nat.le_refl _) hle
          | false => rfl
        have HST := Go.Lib.hid hst
        clear hst
        go_wp2_with fail
        refine (law_alive _).mono ?_
        rintro r w8 ⟨rfl, hb8⟩
        obtain ⟨x0, x1, x2, xf⟩ := cells3 (box_keep HX6.out hb8)
        obtain ⟨y0, y1, y2, yf⟩ := cells3 (box_keep HY6.out hb8)
        have HB8 := Go.Lib.hid (btr (btr HB2.out HB26.out) hb8)
        clear hb8
        go_wp2_with fail
        refine (ref_Same t u _ _ _ _ _ _ _ _ _ (HT.out.below HB8.out) (HU.out.below HB8.out)).mono ?_
        rintro r w9 ⟨rfl, hb9⟩
        rw [HST.out]
        go_wp2_with fail
        go_ret
        exact ⟨rfl, btr HB8.out hb9⟩

end Go.Proofs.Ytfolidaonnblbaa
