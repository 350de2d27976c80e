/- The reference's Assemble; OpcodeAssembles: the walk. -/
import Derived.Test.YtlbiahpajcfcfaaDoorOpStmt
import Derived.Test.YtlbiahpajcfcfaaDoorOpAlive
namespace Go.Proofs.YtlbiahpajcfcfaaDoor
open Go.ChangeShapes Go.WideShapes Go.ChangeAt Go.RowKit
set_option linter.unusedVariables false
set_option maxRecDepth 100000
attribute [local go_sem ↓] Go.wp_at_zero Go.wp_at_succ

theorem StmtP.get1 {g : Nat} {s : ByteArray} {a p op : Nat} {wd : List UInt8} {w w' : World} {r : Ending} (h : simpleG wd = some op) (hb : StmtP g s a p wd w r w') : OkS [UInt8.ofNat op] g s a p w r w' := by
  unfold StmtP at hb; rw [h] at hb; exact hb
theorem StmtP.get2 {g : Nat} {s : ByteArray} {a p : Nat} {wd : List UInt8} {w w' : World} {r : Ending} (h : simpleG wd = none) (ht : takesN wd = false) (hb : StmtP g s a p wd w r w') : BadS 140 g s a p w r w' := by
  unfold StmtP at hb; rw [h] at hb; simp only at hb; rw [if_pos ht] at hb; exact hb
theorem StmtP.get3 {g : Nat} {s : ByteArray} {a p : Nat} {wd : List UInt8} {w w' : World} {r : Ending} (h : simpleG wd = none) (ht : takesN wd = true) (hn : (parW (nextW s.data.toList p)).bind (numG wd) = none) (hb : StmtP g s a p wd w r w') : BadS 141 g s (nextAt s.data.toList p) (nextTo s.data.toList p) w r w' := by
  unfold StmtP at hb; rw [h] at hb; simp only at hb; rw [if_neg (by rw [ht]; simp), hn] at hb; exact hb
theorem StmtP.get4 {g : Nat} {s : ByteArray} {a p : Nat} {wd b : List UInt8} {w w' : World} {r : Ending} (h : simpleG wd = none) (ht : takesN wd = true) (hn : (parW (nextW s.data.toList p)).bind (numG wd) = some b) (hb : StmtP g s a p wd w r w') : OkS b g s (nextAt s.data.toList p) (nextTo s.data.toList p) w r w' := by
  unfold StmtP at hb; rw [h] at hb; simp only at hb; rw [if_neg (by rw [ht]; simp), hn] at hb; exact hb
theorem parW_nil : parW [] = none := by
  cases h : parW [] with
  | none => rfl
  | some v =>
    have := (parW_some h).1
    exact absurd this (digits_ne v)

/-- What the reference's Assemble holds at a place. -/
structure RAI (w : World) (g : Nat) (l : List UInt8) (a pos : Nat) (code : List UInt8) (A : Option Addr) (c : Nat) (wr : World) : Prop where
  le : pos ≤ l.length
  few : code.length ≤ 256
  box : RBox wr g ⟨l.toArray⟩ a pos
  own : Own wr (g + 1) 5 1 A code.length c (bs code)
  bel : Below w.heap.size w wr
  inv : asmL l.length (wordsAt l pos) code = asmT l
theorem RAI.start (w : World) (l : List UInt8) : RAI w w.heap.size l 0 0 [] none 0 (w.alloc (.cells #[.string ⟨l.toArray⟩, .int .i64 0, .int .i64 0] 67)) :=
  ⟨Nat.zero_le _, by simp, Go.heap_alloc_new w _, Own.nil _ _ _ _, bal (Below.refl _ _) _, by rw [wordsAt_start]; rfl⟩
theorem RAI.word {w wr : World} {g a pos c : Nat} {l code : List UInt8} {A : Option Addr} (h : RAI w g l a pos code A c wr) (hne : nextW l pos ≠ []) : asmL l.length ((nextW l pos, nextAt l pos) :: wordsAt l (nextTo l pos)) code = asmT l := by
  have := h.inv
  rw [words_next, if_neg hne] at this
  exact this
theorem next_more {l : List UInt8} {pos : Nat} (h : nextW l pos ≠ []) : pos < nextTo l pos := by
  have : 0 < (nextW l pos).length := List.length_pos_iff.2 h
  unfold nextTo nextAt
  omega
theorem next_ge (l : List UInt8) (pos : Nat) : pos ≤ nextTo l pos := by
  unfold nextTo nextAt
  omega


set_option maxHeartbeats 16000000 in
theorem ref_Assemble (l : List UInt8) (hz : l.length ≤ 1099511627776) (w : World) : Calls Tryd.prog 18 #[.string ⟨l.toArray⟩] w (AsmP (asmT l) w) := by
  obtain ⟨i0, hi, hz0, hz1, hz2⟩ := info_parts wd_u8
  have hsl : (ByteArray.mk l.toArray).size = l.length := by simp [ByteArray.size]
  have H0 := Go.Lib.hid (RAI.start w l)
  go_enter Tryd.func18, Tryd.ntmps18
  go_wp2_with fail
  obtain ⟨g, hg⟩ : ∃ g, g = w.heap.size := ⟨_, rfl⟩
  rw [← hg] at H0 ⊢
  have hgw : w.heap.size ≤ g := by omega
  clear hg
  go_loopg [6] (l.length + 1) (fun gk v6 wr => ∃ (code : List UInt8) (A : Option Addr) (c a pos : Nat), v6 = .slice A code.length c ∧ code.length ≤ 256 ∧ gk = l.length + 1 - pos ∧ Hid (RAI w g l a pos code A c wr))
  case atStart => exact ⟨[], none, 0, 0, 0, rfl, by simp, rfl, H0⟩
  case round =>
    obtain ⟨code, A, c, a, pos, rfl, hc256, rfl, H⟩ := hrel
    obtain ⟨v, hv⟩ : ∃ v, v = nextW l pos := ⟨_, rfl⟩
    have HV := Go.Lib.hid hv
    have HNT := Go.Lib.hid (nextW_len H.out.le)
    have hvl : v.length ≤ l.length := by
      have h1 := HNT.out
      unfold nextTo at h1
      rw [hv]
      omega
    clear hv
    go_wp2_with fail
    refine (ref_next g ⟨l.toArray⟩ a pos _ (by rw [hsl]; exact hz) (by rw [hsl]; exact H.out.le) H.out.box).mono ?_
    rintro _ w3 ⟨rfl, hbx3, hk3⟩
    have HBX3 := Go.Lib.hid (show RBox w3 g ⟨l.toArray⟩ (nextAt l pos) (nextTo l pos) from hbx3)
    have HB3 := Go.Lib.hid (show Below w.heap.size w w3 from Kp.below H.out.bel hk3 (fun i h => by have h2 : i = g := h; omega))
    have HO3 := Go.Lib.hid (H.out.own.kp hk3 (fun q e h => by have h2 : q = g := h; have := (H.out.own.block_lt q e).1; omega))
    clear hbx3 hk3
    rw [show nextW (ByteArray.mk l.toArray).data.toList pos = v from HV.out.symm]
    by_cases hv0 : v = []
    · have HE := Go.Lib.hid (show asmT l = (code, 0, 0) by
        have h := H.out.inv
        rw [words_next, if_pos (by rw [← HV.out]; exact hv0)] at h
        exact h.symm)
      subst hv0
      go_wp2_with fail
      refine bodyPost_ret (v := .tuple #[.slice A code.length c, .int .i64 0, .int .i64 0]) (by simp [results, Tryd.results18, go_sem]) rfl ?_
      rw [HE.out]
      exact ⟨A, c, rfl, HO3.out.more (fun q e => by have := (HO3.out.block_lt q e).1; omega), HB3.out⟩
    · have hvq : (v == []) = false := beq_eq_false_iff_ne.2 hv0
      have hvn : nextW l pos ≠ [] := by rw [← HV.out]; exact hv0
      have HW := Go.Lib.hid (show asmL l.length ((v, nextAt l pos) :: wordsAt l (nextTo l pos)) code = asmT l by rw [HV.out]; exact H.out.word hvn)
      have HMORE := Go.Lib.hid (next_more hvn)
      obtain ⟨x0, x1, x2, xf⟩ := cells3 HBX3.out
      obtain ⟨p, hp⟩ : ∃ p, p = nextAt l pos := ⟨_, rfl⟩
      rw [← hp] at HW x1
      have HP := Go.Lib.hid hp
      clear hv0 hvn hp
      go_wp2_with fail
      cases hs : simpleG v with
      | some op =>
        have HS := Go.Lib.hid hs
        refine ((ref_statement g ⟨l.toArray⟩ (nextAt l pos) (nextTo l pos) v w3 (by rw [hsl]; exact hz) (by rw [hsl]; exact HNT.out) (by omega) HBX3.out).mono fun r w' h => h.get1 HS.out).mono ?_
        clear hs
        by_cases hlong : code.length + 1 > 256
        · have hlq : (code.length : Int) + 1 > 256 := by omega
          have HQ := Go.Lib.hid (show asmT l = ([], p, 142) by rw [← HW.out, asm_simple HS.out, if_pos hlong])
          clear hlong
          rintro _ w4 ⟨A4, c4, rfl, hr4, hc4, hc42, hbx4, hkk4⟩
          (try rw [← HNB.out] at hc4 ⊢)
          have hk4 := hkk4
          have HB4 := Go.Lib.hid (show Below w.heap.size w w4 from Kp.below HB3.out hk4 (fun i h => by have h2 : i = g := h; omega))
          have HO4 := Go.Lib.hid (HO3.out.kp hk4 (fun q e h => by have h2 : q = g := h; have := (HO3.out.block_lt q e).1; omega))
          have HR4 := Go.Lib.hid hr4
          have HBX4 := Go.Lib.hid hbx4
          clear hr4 hbx4 hkk4 hk4
          go_wp2_with (at_builtin; go_loud (refine wpList_append_o _ rfl _ _ 32 rfl 5 i0 (.int .u8 0) 1 1 Tryd.underlying32 hi hz0 hz1 hz2 rfl (by decide) (g + 1) A code.length c (bs code) rfl HO4.out A4 1 c4 (bs [UInt8.ofNat op]) rfl (by simp) HR4.out (bs_one _) (by omega) (by unfold maxLen; omega) (Array.getElem?_eq_some_iff.1 HBX4.out).1 ?_))
          intro A6 c6 w6 hown6 hkp6 hlie6
          have HB6 := Go.Lib.hid (show Below w.heap.size w w6 from Kp.below HB4.out hkp6 (fun i h => by have := (HO4.out.block_lt i h.symm).1; omega))
          have HBX6 := Go.Lib.hid (show RBox w6 g _ _ _ from (hkp6.block g (Array.getElem?_eq_some_iff.1 HBX4.out).1 (fun h => by have := (HO4.out.block_lt g h.symm).1; omega)).trans HBX4.out)
          rw [← bs_append] at hown6
          have HO6 := Go.Lib.hid hown6
          clear hown6 hkp6 hlie6
          go_wp2_with fail
          refine bodyPost_ret (v := .tuple #[.slice none 0 0, .int .i64 (p : Int), .int .i64 142]) (by simp [results, Tryd.results18, go_sem]) rfl ?_
          exact AsmP.bad (p := p) (e := 142) HQ.out HB6.out (Below.refl _ _)
        · have hlq : ¬ ((code.length : Int) + 1 > 256) := by omega
          have HQ := Go.Lib.hid (show asmL l.length (wordsAt l (nextTo l pos)) (code ++ [UInt8.ofNat op]) = asmT l by rw [← HW.out, asm_simple HS.out, if_neg hlong])
          rintro _ w4 ⟨A4, c4, rfl, hr4, hc4, hc42, hbx4, hkk4⟩
          (try rw [← HNB.out] at hc4 ⊢)
          have hk4 := hkk4
          have HB4 := Go.Lib.hid (show Below w.heap.size w w4 from Kp.below HB3.out hk4 (fun i h => by have h2 : i = g := h; omega))
          have HO4 := Go.Lib.hid (HO3.out.kp hk4 (fun q e h => by have h2 : q = g := h; have := (HO3.out.block_lt q e).1; omega))
          have HR4 := Go.Lib.hid hr4
          have HBX4 := Go.Lib.hid hbx4
          clear hr4 hbx4 hkk4 hk4
          go_wp2_with (at_builtin; go_loud (refine wpList_append_o _ rfl _ _ 32 rfl 5 i0 (.int .u8 0) 1 1 Tryd.underlying32 hi hz0 hz1 hz2 rfl (by decide) (g + 1) A code.length c (bs code) rfl HO4.out A4 1 c4 (bs [UInt8.ofNat op]) rfl (by simp) HR4.out (bs_one _) (by omega) (by unfold maxLen; omega) (Array.getElem?_eq_some_iff.1 HBX4.out).1 ?_))
          intro A6 c6 w6 hown6 hkp6 hlie6
          have HB6 := Go.Lib.hid (show Below w.heap.size w w6 from Kp.below HB4.out hkp6 (fun i h => by have := (HO4.out.block_lt i h.symm).1; omega))
          have HBX6 := Go.Lib.hid (show RBox w6 g _ _ _ from (hkp6.block g (Array.getElem?_eq_some_iff.1 HBX4.out).1 (fun h => by have := (HO4.out.block_lt g h.symm).1; omega)).trans HBX4.out)
          rw [← bs_append] at hown6
          have HO6 := Go.Lib.hid hown6
          clear hown6 hkp6 hlie6
          go_wp2_with fail
          go_roundg (l.length + 1 - (nextTo l pos))
          case measure => have h1 := HNT.out; have h2 := HMORE.out; (try have h3 := HGE.out); (try have h4 := HN2.out); omega
          case rel =>
            refine ⟨code ++ [UInt8.ofNat op], A6, c6, (nextAt l pos), (nextTo l pos), by rw [List.length_append, (show [UInt8.ofNat op].length = 1 from rfl)], by rw [List.length_append, (show [UInt8.ofNat op].length = 1 from rfl)]; omega, rfl, Go.Lib.hid ⟨HNT.out, by rw [List.length_append, (show [UInt8.ofNat op].length = 1 from rfl)]; omega, HBX6.out, by have h := HO6.out; rw [List.length_append, (show [UInt8.ofNat op].length = 1 from rfl)]; exact h, HB6.out, HQ.out⟩⟩
      | none =>
        have HS := Go.Lib.hid hs
        clear hs
        cases ht : takesN v with
        | false =>
          have HT := Go.Lib.hid ht
          clear ht
          have HQ := Go.Lib.hid (show asmT l = ([], nextAt l pos, 140) by rw [← HW.out, asm_word HS.out HT.out, HP.out])
          refine ((ref_statement g ⟨l.toArray⟩ (nextAt l pos) (nextTo l pos) v w3 (by rw [hsl]; exact hz) (by rw [hsl]; exact HNT.out) (by omega) HBX3.out).mono fun r w' h => h.get2 HS.out HT.out).mono ?_
          rintro _ w4 ⟨rfl, hbx4, hkk4⟩
          have hk4 := hkk4
          have HB4 := Go.Lib.hid (show Below w.heap.size w w4 from Kp.below HB3.out hk4 (fun i h => by have h2 : i = g := h; omega))
          have HO4 := Go.Lib.hid (HO3.out.kp hk4 (fun q e h => by have h2 : q = g := h; have := (HO3.out.block_lt q e).1; omega))
          have HBX4 := Go.Lib.hid hbx4
          clear hbx4 hkk4 hk4 x0 x1 x2 xf
          obtain ⟨y0, y1, y2, yf⟩ := cells3 HBX4.out
          go_wp2_with fail
          (try (go_region; go_wp2_with fail))
          refine bodyPost_ret (v := .tuple #[.slice none 0 0, .int .i64 ((nextAt l pos) : Int), .int .i64 140]) (by simp [results, Tryd.results18, go_sem]) rfl ?_
          exact AsmP.bad (p := (nextAt l pos)) (e := 140) HQ.out (bdr HB4.out) (Below.refl _ _)
        | true =>
          have HT := Go.Lib.hid ht
          clear ht
          have HN2 := Go.Lib.hid (nextW_len HNT.out)
          have HGE := Go.Lib.hid (next_ge l (nextTo l pos))
          cases hn : (parW (nextW l (nextTo l pos))).bind (numG v) with
          | none =>
            have HN := Go.Lib.hid hn
            clear hn
            have HQ := Go.Lib.hid (show asmT l = ([], nextAt l (nextTo l pos), 141) by
              rw [← HW.out, words_next]
              by_cases hu : nextW l (nextTo l pos) = []
              · rw [if_pos hu, asm_end HS.out HT.out, next_end HNT.out hu]
              · rw [if_neg hu, asm_bad HS.out HT.out HN.out])
            refine ((ref_statement g ⟨l.toArray⟩ (nextAt l pos) (nextTo l pos) v w3 (by rw [hsl]; exact hz) (by rw [hsl]; exact HNT.out) (by omega) HBX3.out).mono fun r w' h => h.get3 HS.out HT.out HN.out).mono ?_
            rintro _ w4 ⟨rfl, hbx4, hkk4⟩
            have hk4 := hkk4
            have HB4 := Go.Lib.hid (show Below w.heap.size w w4 from Kp.below HB3.out hk4 (fun i h => by have h2 : i = g := h; omega))
            have HO4 := Go.Lib.hid (HO3.out.kp hk4 (fun q e h => by have h2 : q = g := h; have := (HO3.out.block_lt q e).1; omega))
            have HBX4 := Go.Lib.hid hbx4
            clear hbx4 hkk4 hk4 x0 x1 x2 xf
            obtain ⟨y0, y1, y2, yf⟩ := cells3 HBX4.out
            go_wp2_with fail
            (try (go_region; go_wp2_with fail))
            refine bodyPost_ret (v := .tuple #[.slice none 0 0, .int .i64 ((nextAt l (nextTo l pos)) : Int), .int .i64 141]) (by simp [results, Tryd.results18, go_sem]) rfl ?_
            exact AsmP.bad (p := (nextAt l (nextTo l pos))) (e := 141) HQ.out (bdr HB4.out) (Below.refl _ _)
          | some b =>
            have HN := Go.Lib.hid hn
            have hu : nextW l (nextTo l pos) ≠ [] := by
              intro h
              rw [h, parW_nil] at hn
              cases hn
            obtain ⟨u, hpu, hnu⟩ := Option.bind_eq_some_iff.1 hn
            have hb9 := numG_len hnu
            clear hn hpu hnu
            obtain ⟨nb, hnb⟩ : ∃ nb, nb = b.length := ⟨_, rfl⟩
            have HNB := Go.Lib.hid hnb
            rw [← hnb] at hb9
            have hw2 : asmL l.length ((v, p) :: (nextW l (nextTo l pos), nextAt l (nextTo l pos)) :: wordsAt l (nextTo l (nextTo l pos))) code = asmT l := by
              have h := HW.out
              rw [words_next, if_neg hu] at h
              exact h
            have HW2 := Go.Lib.hid hw2
            clear hw2 hu
            refine ((ref_statement g ⟨l.toArray⟩ (nextAt l pos) (nextTo l pos) v w3 (by rw [hsl]; exact hz) (by rw [hsl]; exact HNT.out) (by omega) HBX3.out).mono fun r w' h => h.get4 HS.out HT.out HN.out).mono ?_
            by_cases hlong : code.length + nb > 256
            · have hlq : (code.length : Int) + (nb : Int) > 256 := by omega
              have HQ := Go.Lib.hid (show asmT l = ([], p, 142) by rw [← HW2.out, asm_num HS.out HT.out HN.out, if_pos (by rw [← HNB.out]; exact hlong)])
              clear hlong
              clear hnb
              rintro _ w4 ⟨A4, c4, rfl, hr4, hc4, hc42, hbx4, hkk4⟩
              (try rw [← HNB.out] at hc4 ⊢)
              have hk4 := hkk4
              have HB4 := Go.Lib.hid (show Below w.heap.size w w4 from Kp.below HB3.out hk4 (fun i h => by have h2 : i = g := h; omega))
              have HO4 := Go.Lib.hid (HO3.out.kp hk4 (fun q e h => by have h2 : q = g := h; have := (HO3.out.block_lt q e).1; omega))
              have HR4 := Go.Lib.hid hr4
              have HBX4 := Go.Lib.hid hbx4
              clear hr4 hbx4 hkk4 hk4
              go_wp2_with (at_builtin; go_loud (refine wpList_append_o _ rfl _ _ 32 rfl 5 i0 (.int .u8 0) 1 1 Tryd.underlying32 hi hz0 hz1 hz2 rfl (by decide) (g + 1) A code.length c (bs code) rfl HO4.out A4 nb c4 (bs b) rfl (by have := HNB.out; simp; omega) HR4.out (bs_one _) (by omega) (by unfold maxLen; omega) (Array.getElem?_eq_some_iff.1 HBX4.out).1 ?_))
              intro A6 c6 w6 hown6 hkp6 hlie6
              have HB6 := Go.Lib.hid (show Below w.heap.size w w6 from Kp.below HB4.out hkp6 (fun i h => by have := (HO4.out.block_lt i h.symm).1; omega))
              have HBX6 := Go.Lib.hid (show RBox w6 g _ _ _ from (hkp6.block g (Array.getElem?_eq_some_iff.1 HBX4.out).1 (fun h => by have := (HO4.out.block_lt g h.symm).1; omega)).trans HBX4.out)
              rw [← bs_append] at hown6
              have HO6 := Go.Lib.hid hown6
              clear hown6 hkp6 hlie6
              go_wp2_with fail
              refine bodyPost_ret (v := .tuple #[.slice none 0 0, .int .i64 (p : Int), .int .i64 142]) (by simp [results, Tryd.results18, go_sem]) rfl ?_
              exact AsmP.bad (p := p) (e := 142) HQ.out HB6.out (Below.refl _ _)
            · have hlq : ¬ ((code.length : Int) + (nb : Int) > 256) := by omega
              have HQ := Go.Lib.hid (show asmL l.length (wordsAt l (nextTo l (nextTo l pos))) (code ++ b) = asmT l by rw [← HW2.out, asm_num HS.out HT.out HN.out, if_neg (by rw [← HNB.out]; exact hlong)])
              clear hnb
              rintro _ w4 ⟨A4, c4, rfl, hr4, hc4, hc42, hbx4, hkk4⟩
              (try rw [← HNB.out] at hc4 ⊢)
              have hk4 := hkk4
              have HB4 := Go.Lib.hid (show Below w.heap.size w w4 from Kp.below HB3.out hk4 (fun i h => by have h2 : i = g := h; omega))
              have HO4 := Go.Lib.hid (HO3.out.kp hk4 (fun q e h => by have h2 : q = g := h; have := (HO3.out.block_lt q e).1; omega))
              have HR4 := Go.Lib.hid hr4
              have HBX4 := Go.Lib.hid hbx4
              clear hr4 hbx4 hkk4 hk4
              go_wp2_with (at_builtin; go_loud (refine wpList_append_o _ rfl _ _ 32 rfl 5 i0 (.int .u8 0) 1 1 Tryd.underlying32 hi hz0 hz1 hz2 rfl (by decide) (g + 1) A code.length c (bs code) rfl HO4.out A4 nb c4 (bs b) rfl (by have := HNB.out; simp; omega) HR4.out (bs_one _) (by omega) (by unfold maxLen; omega) (Array.getElem?_eq_some_iff.1 HBX4.out).1 ?_))
              intro A6 c6 w6 hown6 hkp6 hlie6
              have HB6 := Go.Lib.hid (show Below w.heap.size w w6 from Kp.below HB4.out hkp6 (fun i h => by have := (HO4.out.block_lt i h.symm).1; omega))
              have HBX6 := Go.Lib.hid (show RBox w6 g _ _ _ from (hkp6.block g (Array.getElem?_eq_some_iff.1 HBX4.out).1 (fun h => by have := (HO4.out.block_lt g h.symm).1; omega)).trans HBX4.out)
              rw [← bs_append] at hown6
              have HO6 := Go.Lib.hid hown6
              clear hown6 hkp6 hlie6
              go_wp2_with fail
              go_roundg (l.length + 1 - (nextTo l (nextTo l pos)))
              case measure => have h1 := HNT.out; have h2 := HMORE.out; (try have h3 := HGE.out); (try have h4 := HN2.out); omega
              case rel =>
                refine ⟨code ++ b, A6, c6, (nextAt l (nextTo l pos)), (nextTo l (nextTo l pos)), by rw [List.length_append, (show b.length = nb from HNB.out.symm)], by rw [List.length_append, (show b.length = nb from HNB.out.symm)]; omega, rfl, Go.Lib.hid ⟨HN2.out, by rw [List.length_append, (show b.length = nb from HNB.out.symm)]; omega, HBX6.out, by have h := HO6.out; rw [List.length_append, (show b.length = nb from HNB.out.symm)]; exact h, HB6.out, HQ.out⟩⟩

end Go.Proofs.YtlbiahpajcfcfaaDoor
