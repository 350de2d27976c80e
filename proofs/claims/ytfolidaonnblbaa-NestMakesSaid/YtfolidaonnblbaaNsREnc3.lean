/- ref.Encode; NestEncodes: the walk. -/
import Derived.Test.YtfolidaonnblbaaNsREnc2
namespace Go.Proofs.Ytfolidaonnblbaa
open Go.ChangeShapes Go.WideShapes Go.RowKit
set_option linter.unusedVariables false

set_option maxHeartbeats 2000000 in
set_option maxRecDepth 100000 in
theorem ref_Encode (t : Tree) (P : Nat → Prop) (v0 v1 v2 : Value) (w : World) (ht : RdT w P t v0 v1 v2) :
    Calls Try.prog 24 #[.agg #[v0, v1, v2]] w (EncP t w) := by
  obtain ⟨l, b, its⟩ := t
  obtain ⟨A, c, B, d, cs, rfl, rfl, rfl, hbc, hb47, hid', hd, hA, hB, hL⟩ := ht.parts
  generalize hT : Tree.mk l b its = t at *
  have HTT := Go.Lib.hid hT
  have HT := Go.Lib.hid ht
  have HB := Go.Lib.hid hB
  have HL := Go.Lib.hid hL
  obtain ⟨w1, hw1⟩ : ∃ w1, w1 = w.alloc (.cells #[.bool l, .slice A b.length c, .slice B its.length d] 25) := ⟨_, rfl⟩
  have hx1 : w1.heap[w.heap.size]? = some (.cells #[.bool l, .slice A b.length c, .slice B its.length d] 25 (0, 0)) := by rw [hw1]; exact Go.heap_alloc_new w _
  have hb1 : Below w.heap.size w w1 := by rw [hw1]; exact bal (Below.refl _ _) _
  have HW1 := Go.Lib.hid hw1
  have HX1 := Go.Lib.hid hx1
  have HB1 := Go.Lib.hid hb1
  clear ht hT hA hB hL hw1 hx1 hb1
  go_enter Try.func24, Try.ntmps24
  go_wp2_with fail
  rw [← HW1.out]
  refine (ref_walk t P _ _ _ 0 0 _ _ _ (HT.out.below HB1.out) (by omega) (by omega) rfl rfl).mono ?_
  rintro r w2 ⟨hb2, hr⟩
  have hs2 : w.heap.size < w2.heap.size := by have h1 := hb2.size; have := (Array.getElem?_eq_some_iff.1 HX1.out).1; omega
  obtain ⟨x0, x1, x2, xf⟩ := cells3 (box_keep HX1.out hb2)
  have HX2 := Go.Lib.hid (box_keep HX1.out hb2)
  have HB2 := Go.Lib.hid (btr HB1.out hb2)
  clear hb2
  cases hq : lookT 0 0 t with
  | error e =>
    rw [hq] at hr
    obtain ⟨x, rfl⟩ := hr
    have he := lookT_err _ _ _ _ hq
    have he1 : (e != 0) = true := by rw [bne_iff_ne]; omega
    have HPE : Hid (pEncode t = .error e) := Go.Lib.hid (by rw [pEncode, hq])
    clear hq
    go_wp2_with fail
    go_ret2
    unfold EncP
    rw [HPE.out]
    exact ⟨rfl, HB2.out⟩
  | ok nn =>
    rw [hq] at hr
    subst hr
    have hwl : WellT t := ⟨_, _, _, hq⟩
    have hbl : (bodyT t).length ≤ 83886080 := Nat.le_trans hwl.body hwl.small
    have hsz : sizeL its = (encL its).length ∨ (16777215 < sizeL its ∧ sizeL its ≤ (encL its).length) := by
      have hw2 := hwl
      rw [← HTT.out] at hw2
      exact sizeL_enc its hw2.items
    have hwi : ∀ u ∈ its, WellT u := by
      have hw2 := hwl
      rw [← HTT.out] at hw2
      exact hw2.items
    have hbo : (bodyT t).length = b.length + (encL its).length := by rw [← HTT.out, bodyT, List.length_append]
    have HPE : Hid (pEncode t = if 16777215 < (bodyT t).length then .error 20 else .ok (encT t)) := Go.Lib.hid (by rw [pEncode, hq])
    have HWL := Go.Lib.hid hwl
    have HWI := Go.Lib.hid hwi
    obtain ⟨Q, hQ⟩ : ∃ Q, Q = (bodyT t).length := ⟨_, rfl⟩
    have HQ := Go.Lib.hid hQ
    rw [← hQ] at hbl hbo
    have hsl : b.length + sizeL its ≤ 83886080 := by omega
    have hdec : (16777215 < b.length + sizeL its) ↔ 16777215 < Q := by omega
    have HDEC := Go.Lib.hid hdec
    clear hq hwl hwi hQ hsz hdec hbo
    go_wp2_with fail
    go_loopg [6, 7] its.length (fun g s3 i wr => ∃ (j : Nat), i = .int .i64 j ∧ s3 = .int .i64 ((b.length + sizeL (its.take j) : Nat) : Int) ∧ j ≤ its.length ∧ g = its.length - j ∧ Hid (Below w2.heap.size w2 wr))
    case atStart => exact ⟨0, rfl, by simp [sizeL], Nat.zero_le _, rfl, Go.Lib.hid (Below.refl _ _)⟩
    case round =>
      obtain ⟨j, rfl, rfl, hj, rfl, HBj⟩ := hrel
      clear x0 x1 x2 xf
      obtain ⟨x0, x1, x2, xf⟩ := cells3 (box_keep HX2.out HBj.out)
      have hs3 : w.heap.size < wr.heap.size := by have h1 := HBj.out.size; omega
      have hsj := sizeL_take_le its j
      by_cases hlt : j < its.length
      · obtain ⟨g, off, p0, p1, p2, rfl, hp, c0, c1, c2⟩ := item_cells HB.out HL.out (btr HB2.out HBj.out) j hlt
        obtain ⟨a1, a2, a3, a4, a5, a6, rfl, rfl, rfl⟩ := hp.shape
        have HP := Go.Lib.hid hp
        have hle := sizeT_le_sizeL its j hlt
        have hts := Go.Lib.hid (sizeL_take_succ its j hlt)
        clear hp
        go_wp2_with fail
        refine (ref_size its[j] P _ _ _ _ HP.out (HWI.out _ (List.getElem_mem hlt))).mono ?_
        rintro r w5 ⟨rfl, hb5⟩
        have HB5 := Go.Lib.hid hb5
        clear hb5
        go_wp2_with fail
        go_roundg (its.length - (j + 1))
        case measure => omega
        case rel =>
          exact ⟨j + 1, by go_num, by rw [hts.out]; go_num, by omega, rfl, Go.Lib.hid (btr HBj.out HB5.out)⟩
      · obtain rfl : j = its.length := by omega
        have hB3 : Below w.heap.size w wr := btr HB2.out HBj.out
        rw [List.take_length] at hsj ⊢
        obtain ⟨S, hS⟩ : ∃ S : Nat, S = b.length + sizeL its := ⟨_, rfl⟩
        have HS := Go.Lib.hid hS
        have HB3 := Go.Lib.hid hB3
        rw [← hS] at hsl ⊢
        clear hlt hS hB3 hsj
        by_cases hbig : 16777215 < S
        · have hQb : 16777215 < Q := HDEC.out.1 (by rw [← HS.out]; exact hbig)
          go_wp2_with fail
          go_ret2
          unfold EncP
          rw [HPE.out, ← HQ.out, if_pos hQb]
          exact ⟨rfl, HB3.out⟩
        · have hQb : ¬ 16777215 < Q := fun h => hbig (by rw [HS.out]; exact HDEC.out.2 h)
          go_wp2_with fail
          refine (ref_Bytes t P _ _ _ _ (HT.out.below HB3.out) HWL.out (by rw [← HQ.out]; omega)).mono ?_
          rintro r w6 ⟨A6, n6, c6, rfl, hown6, hb6⟩
          have HO6 := Go.Lib.hid (hown6.more (b := w.heap.size) (fun g e => by have h1 := (hown6.block_lt g e).1; have h2 := HB3.out.size; omega))
          have HB6 := Go.Lib.hid (btr HB3.out hb6)
          clear hown6 hb6
          go_wp2_with fail
          go_ret2
          unfold EncP
          rw [HPE.out, ← HQ.out, if_neg hQb]
          exact ⟨A6, n6, c6, rfl, HO6.out, HB6.out⟩

end Go.Proofs.Ytfolidaonnblbaa
