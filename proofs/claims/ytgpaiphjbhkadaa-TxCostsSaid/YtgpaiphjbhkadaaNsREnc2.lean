/- ref.Bytes, ref.Encode. -/
import Derived.Test.YtgpaiphjbhkadaaNsREnc
namespace Go.Proofs.Ytgpaiphjbhkadaa
open Go.ChangeShapes Go.WideShapes Go.RowKit
set_option linter.unusedVariables false
set_option maxRecDepth 100000

set_option maxHeartbeats 2000000 in
set_option maxRecDepth 100000 in
theorem bytes_step (t : Tree) (hb : RBodySt t) : BytesSt t := by
  obtain ⟨l, b, its⟩ := t
  intro P v0 v1 v2 w ht hwl hlen
  have BD := Go.Lib.hid hb
  obtain ⟨A, c, B, d, cs, rfl, rfl, rfl, hbc, hb47, hid', hd, hA, hB, hL⟩ := ht.parts
  obtain ⟨i0, hi, hz0, hz1, hz2⟩ := info_parts info_u8
  have hform := hwl.form
  have HT := Go.Lib.hid ht
  have HWL := Go.Lib.hid hwl
  obtain ⟨w1, hw1⟩ : ∃ w1, w1 = w.alloc (.cells #[.bool l, .slice A b.length c, .slice B its.length d] 45) := ⟨_, rfl⟩
  have hx1 : w1.heap[w.heap.size]? = some (.cells #[.bool l, .slice A b.length c, .slice B its.length d] 45 (0, 0)) := by rw [hw1]; exact Go.heap_alloc_new w _
  have hb1 : Below w.heap.size w w1 := by rw [hw1]; exact bal (Below.refl _ _) _
  have hs1 : w1.heap.size = w.heap.size + 1 := by rw [hw1]; simp
  have HW1 := Go.Lib.hid hw1
  have HX1 := Go.Lib.hid hx1
  have HB1 := Go.Lib.hid hb1
  have HS1 := Go.Lib.hid hs1
  have hcases : (l = true ∧ encT (.mk l b its) = headN 192 (bodyT (.mk l b its)).length ++ bodyT (.mk l b its)) ∨ (l = false ∧ (bodyT (.mk l b its)).length ≠ 1 ∧ encT (.mk l b its) = headN 128 (bodyT (.mk l b its)).length ++ bodyT (.mk l b its)) ∨
      (l = false ∧ ∃ x : UInt8, bodyT (.mk l b its) = [x] ∧ (128 ≤ x.toNat ∧ encT (.mk l b its) = headN 128 1 ++ [x] ∨ x.toNat < 128 ∧ encT (.mk l b its) = [x])) := by
    cases hp : plainT (.mk l b its) with
    | true =>
      have he : encT (.mk l b its) = b := by rw [encT, if_pos hp]
      simp only [plainT, Bool.and_eq_true, beq_iff_eq, Bool.not_eq_true', decide_eq_true_eq] at hp
      obtain ⟨⟨rfl, h1⟩, h2⟩ := hp
      have hi0 := hform.2 rfl
      subst hi0
      match b, h1 with
      | [x], _ =>
        right; right
        refine ⟨rfl, x, by simp [bodyT, encL], .inr ⟨?_, he⟩⟩
        simp only [List.headD_cons] at h2
        simpa [UInt8.lt_iff_toNat_lt] using h2
    | false =>
      have he : encT (.mk l b its) = headB l (b ++ encL its).length ++ (b ++ encL its) := by rw [encT, if_neg (by rw [hp]; decide)]
      cases l with
      | true => exact .inl ⟨rfl, he⟩
      | false =>
        have hi0 := hform.2 rfl
        subst hi0
        by_cases h1 : b.length = 1
        · match b, h1 with
          | [x], _ =>
            right; right
            refine ⟨rfl, x, by simp [bodyT, encL], .inl ⟨?_, by rw [encL, List.append_nil] at he; exact he⟩⟩
            simp [plainT, UInt8.le_iff_toNat_le] at hp
            exact hp
        · exact .inr (.inl ⟨rfl, by simpa [bodyT, encL] using h1, he⟩)
  generalize hE : encT (.mk l b its) = E at *
  generalize hBo : bodyT (.mk l b its) = bo at *
  have HBO := Go.Lib.hid hBo
  clear ht hb hA hB hL hform hw1 hx1 hb1 hs1 hwl hE hBo
  go_enter Try.func49, Try.ntmps49
  go_wp2_with fail
  rw [← HW1.out]
  refine (BD.out P _ _ _ _ (HT.out.below HB1.out) HWL.out (by rw [HBO.out]; exact hlen)).mono ?_
  rintro r w2 ⟨A2, n2, c2, rfl, hown2, hb2⟩
  rw [HBO.out] at hown2
  obtain rfl : n2 = bo.length := by have := hown2.len; simpa using this.symm
  obtain ⟨x0, x1, x2, xf⟩ := cells3 (box_keep HX1.out hb2)
  have hs2 : w.heap.size < w2.heap.size := by have h1 := hb2.size; have := HS1.out; omega
  have HO2 := Go.Lib.hid hown2
  have HB2 := Go.Lib.hid (btr HB1.out hb2)
  have HB12 := Go.Lib.hid hb2
  clear hown2 hb2
  rcases hcases with ⟨rfl, hE⟩ | ⟨rfl, hb1, hE⟩ | ⟨rfl, x, rfl, hx⟩
  · go_wp2_with fail
    refine (ref_head 192 bo.length _ _ _ rfl rfl (by omega) (by omega)).mono ?_
    rintro r w3 ⟨A3, c3, rfl, hown3, hb3⟩
    have hhl := headN_length 192 bo.length
    have hn4 := numN_le bo.length
    obtain ⟨H, hH⟩ : ∃ H, H = headN 192 bo.length := ⟨_, rfl⟩
    rw [← hH] at hown3 hhl hE ⊢
    have hh5 : H.length ≤ 5 := by rw [hhl]; split <;> omega
    have HO3 := Go.Lib.hid hown3
    have HR3 := Go.Lib.hid (HO2.out.rd.below hb3)
    have HB3 := Go.Lib.hid (btr HB2.out hb3)
    have hs3 : w2.heap.size ≤ w3.heap.size := hb3.size
    have HE := Go.Lib.hid hE
    clear hhl hown3 hb3 hH hE
    go_wp2_with (at_builtin; refine wpList_append_o _ rfl _ _ 24 rfl 5 i0 (.int .u8 0) 1 1 Try.underlying24 hi hz0 hz1 hz2 rfl (by decide) w2.heap.size A3 H.length c3 _ rfl HO3.out A2 bo.length c2 _ rfl (by simp) HR3.out (bs_one _) (by omega) (by unfold maxLen; omega) hs3 ?_)
    intro A6 c6 w6 hown6 hk6 hl6
    have hb6 : Below w.heap.size w w6 := Kp.below HB3.out hk6 (fun i h => by have := (HO3.out.block_lt i h.symm).1; omega)
    rw [← bs_append, ← HE.out] at hown6
    have HO6 := Go.Lib.hid (hown6.more (b := w.heap.size) (fun g e => by have := (hown6.block_lt g e).1; omega))
    have HB6 := Go.Lib.hid hb6
    clear hown6 hk6 hl6 hb6
    go_wp2_with fail
    go_ret
    exact ⟨A6, _, c6, rfl, HO6.out, HB6.out⟩
  · go_wp2_with fail
    refine (ref_head 128 bo.length _ _ _ rfl rfl (by omega) (by omega)).mono ?_
    rintro r w3 ⟨A3, c3, rfl, hown3, hb3⟩
    have hhl := headN_length 128 bo.length
    have hn4 := numN_le bo.length
    obtain ⟨H, hH⟩ : ∃ H, H = headN 128 bo.length := ⟨_, rfl⟩
    rw [← hH] at hown3 hhl hE ⊢
    have hh5 : H.length ≤ 5 := by rw [hhl]; split <;> omega
    have HO3 := Go.Lib.hid hown3
    have HR3 := Go.Lib.hid (HO2.out.rd.below hb3)
    have HB3 := Go.Lib.hid (btr HB2.out hb3)
    have hs3 : w2.heap.size ≤ w3.heap.size := hb3.size
    have HE := Go.Lib.hid hE
    clear hhl hown3 hb3 hH hE
    go_wp2_with (at_builtin; refine wpList_append_o _ rfl _ _ 24 rfl 5 i0 (.int .u8 0) 1 1 Try.underlying24 hi hz0 hz1 hz2 rfl (by decide) w2.heap.size A3 H.length c3 _ rfl HO3.out A2 bo.length c2 _ rfl (by simp) HR3.out (bs_one _) (by omega) (by unfold maxLen; omega) hs3 ?_)
    intro A6 c6 w6 hown6 hk6 hl6
    have hb6 : Below w.heap.size w w6 := Kp.below HB3.out hk6 (fun i h => by have := (HO3.out.block_lt i h.symm).1; omega)
    rw [← bs_append, ← HE.out] at hown6
    have HO6 := Go.Lib.hid (hown6.more (b := w.heap.size) (fun g e => by have := (hown6.block_lt g e).1; omega))
    have HB6 := Go.Lib.hid hb6
    clear hown6 hk6 hl6 hb6
    go_wp2_with fail
    go_ret
    exact ⟨A6, _, c6, rfl, HO6.out, HB6.out⟩
  · obtain ⟨g, off, rfl, hg, hc⟩ := HO2.out.rd (by simp [bs])
    have hc0 := hc 0 (.int .u8 (x.toNat : Int)) (by simp [bs, bv])
    rw [Nat.add_zero] at hc0
    have hx8 := x.toNat_lt
    clear hc
    rcases hx with ⟨h128, hE⟩ | ⟨h128, hE⟩
    · have hbx : decide ((x.toNat : Int) < 128) = false := by simp; omega
      go_wp2_with fail
      refine (ref_head 128 1 _ _ _ rfl rfl (by omega) (by omega)).mono ?_
      rintro r w3 ⟨A3, c3, rfl, hown3, hb3⟩
      have hhl := headN_length 128 1
      have hn4 := numN_le 1
      obtain ⟨H, hH⟩ : ∃ H, H = headN 128 1 := ⟨_, rfl⟩
      rw [← hH] at hown3 hhl hE ⊢
      have hh5 : H.length ≤ 5 := by rw [hhl]; split <;> omega
      have HO3 := Go.Lib.hid hown3
      have HR3 := Go.Lib.hid (HO2.out.rd.below hb3)
      have HB3 := Go.Lib.hid (btr HB2.out hb3)
      have hs3 : w2.heap.size ≤ w3.heap.size := hb3.size
      have HE := Go.Lib.hid hE
      clear hhl hown3 hb3 hH hE
      go_wp2_with (at_builtin; refine wpList_append_o _ rfl _ _ 24 rfl 5 i0 (.int .u8 0) 1 1 Try.underlying24 hi hz0 hz1 hz2 rfl (by decide) w2.heap.size A3 H.length c3 _ rfl HO3.out (some ⟨g, off, none⟩) 1 c2 _ rfl (by simp) HR3.out (bs_one _) (by omega) (by unfold maxLen; omega) hs3 ?_)
      intro A6 c6 w6 hown6 hk6 hl6
      have hb6 : Below w.heap.size w w6 := Kp.below HB3.out hk6 (fun i h => by have := (HO3.out.block_lt i h.symm).1; omega)
      rw [← bs_append, ← HE.out] at hown6
      have HO6 := Go.Lib.hid (hown6.more (b := w.heap.size) (fun g e => by have := (hown6.block_lt g e).1; omega))
      have HB6 := Go.Lib.hid hb6
      clear hown6 hk6 hl6 hb6
      go_wp2_with fail
      go_ret
      exact ⟨A6, _, c6, rfl, HO6.out, HB6.out⟩
    · have hbx : decide ((x.toNat : Int) < 128) = true := by simp; omega
      have HE := Go.Lib.hid hE
      clear hE
      go_wp2_with fail
      go_ret
      exact ⟨_, _, _, rfl, by rw [HE.out]; exact HO2.out.more (fun g e => by have := (HO2.out.block_lt g e).1; have := HS1.out; omega), HB2.out⟩

theorem rbytes_lt : ∀ (k : Nat) (t : Tree), SizeOf.sizeOf t < k → BytesSt t
  | 0, t, h => by omega
  | k + 1, .mk l b its, h => bytes_step _ (rbody_step l b its fun i hi => rbytes_lt k its[i] (by have := its_size (l := l) (b := b) hi; omega))
theorem ref_Bytes (t : Tree) : BytesSt t := rbytes_lt _ t (Nat.lt_succ_self _)

end Go.Proofs.Ytgpaiphjbhkadaa
