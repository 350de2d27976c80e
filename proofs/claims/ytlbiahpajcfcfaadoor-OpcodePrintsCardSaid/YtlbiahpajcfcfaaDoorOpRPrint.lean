/- The reference's Print; OpcodePrints. -/
import Derived.Test.YtlbiahpajcfcfaaDoorOpROne
namespace Go.Proofs.YtlbiahpajcfcfaaDoor
open Go.ChangeShapes Go.WideShapes Go.ChangeAt Go.RowKit
set_option linter.unusedVariables false
set_option maxRecDepth 100000
attribute [local go_sem ↓] Go.wp_at_zero Go.wp_at_succ

/-- The rest of a joined text: each word behind a blank. -/
def tailJ (l : List (List UInt8)) : List UInt8 := l.flatMap (32 :: ·)
theorem tailJ_append (l k : List (List UInt8)) : tailJ (l ++ k) = tailJ l ++ tailJ k := by simp [tailJ]
theorem joinB_cons : ∀ (w : List UInt8) (l : List (List UInt8)), joinB (w :: l) = w ++ tailJ l
  | w, [] => by simp [joinB, tailJ]
  | w, x :: l => by
    show w ++ 32 :: joinB (x :: l) = _
    rw [joinB_cons x l]
    simp [tailJ]
theorem tailJ_ne {l : List (List UInt8)} (h : l ≠ []) : tailJ l = 32 :: joinB l := by
  cases l with
  | nil => exact absurd rfl h
  | cons w l => rw [joinB_cons]; simp [tailJ]
theorem joinB_append {N R : List (List UInt8)} (h : N ≠ []) : joinB (N ++ R) = joinB N ++ tailJ R := by
  cases N with
  | nil => exact absurd rfl h
  | cons w l => rw [List.cons_append, joinB_cons, joinB_cons, tailJ_append, List.append_assoc]
theorem tellP_ne (x : UInt8) (ys : List UInt8) : tellP ((x :: ys).take (pieceN (x :: ys))) ≠ [] := by
  cases h : pieceI (x :: ys) with
  | none => rw [tell_none h]; simp
  | some i =>
    by_cases h0 : i.behind = 0
    · rw [tell_bare h h0]; simp
    · rw [tell_own h h0]; simp [tellI]

/-- What the reference's Print holds at a place. -/
structure RPrI (w : World) (xs : List UInt8) (pos : Nat) (s : List UInt8) (wr : World) : Prop where
  le : pos ≤ xs.length
  bel : Below w.heap.size w wr
  zero : pos = 0 → s = []
  inv : printL xs = if pos = 0 then joinB (tells (xs.drop pos)) else s ++ tailJ (tells (xs.drop pos))
  few : s.length ≤ 60 * pos
theorem RPrI.step {w wr wr' : World} {x : UInt8} {xs ys : List UInt8} {pos k : Nat} {s s' o : List UInt8} (h : RPrI w xs pos s wr) (hd : xs.drop pos = x :: ys) (hk : pieceN (x :: ys) = k) (ho : joinB (tellP ((x :: ys).take (pieceN (x :: ys)))) = o)
    (hs : s' = if pos = 0 then o else s ++ [32] ++ o) (hb : Below w.heap.size w wr') : RPrI w xs (pos + k) s' wr' := by
  have h4 := pieceN_pos (x :: ys)
  have h5 := pieceN_le x ys
  have h6 := drop_len hd
  have ht := tellP_len (x := x) (ys := ys)
  have hj := joinB_len _ ht.1
  rw [ho] at hj
  have hne := tellP_ne x ys
  have h7 := h.few
  have hd2 : xs.drop (pos + k) = (x :: ys).drop k := by rw [← hd, List.drop_drop]
  have htc := tells_cons x ys
  rw [hk] at htc
  refine ⟨by omega, hb, by omega, ?_, ?_⟩
  · rw [h.inv, hd, hd2, htc]
    rw [hk] at hne ho
    rw [if_neg (show ¬ pos + k = 0 by omega)]
    by_cases h0 : pos = 0
    · rw [if_pos h0, hs, if_pos h0, joinB_append hne, ho]
    · rw [if_neg h0, hs, if_neg h0, tailJ_append, tailJ_ne hne, ho]
      simp
  · rw [hs]
    split
    · omega
    · simp only [List.length_append, List.length_cons, List.length_nil]
      omega

set_option maxHeartbeats 8000000 in
theorem ref_Print (A : Option Addr) (n c : Nat) (xs : List UInt8) (w : World) (hn : n = xs.length) (hc : n ≤ c) (hc2 : c ≤ 9223372036854775807) (hr : Rd w A (bs xs)) :
    Calls Tryd.prog 21 #[.slice A n c] w (PrintP xs w) := by
  by_cases hlong : n > 256
  · have hq : (n : Int) > 256 := by omega
    have HL := Go.Lib.hid (show xs.length > 256 by omega)
    clear hlong hn
    go_enter Tryd.func21, Tryd.ntmps21
    go_wp2_with fail
    refine bodyPost_ret (v := .tuple #[.string ⟨#[]⟩, .int .i64 142]) (by simp [results, Tryd.results21, go_sem]) rfl ⟨by rw [if_pos HL.out], Below.refl _ _⟩
  · have hq : ¬ (n : Int) > 256 := by omega
    have HL := Go.Lib.hid (show ¬ xs.length > 256 by omega)
    have hn256 : n ≤ 256 := by omega
    have H0 := Go.Lib.hid (show RPrI w xs 0 [] w from ⟨Nat.zero_le _, Below.refl _ _, fun _ => rfl, by rw [if_pos rfl]; rfl, Nat.zero_le _⟩)
    have HN := Go.Lib.hid hn
    have HR := Go.Lib.hid hr
    clear hlong hr hn
    go_enter Tryd.func21, Tryd.ntmps21
    go_wp2_with fail
    go_loopg [4, 5] (n + 1) (fun g v4 v5 wr => ∃ (pos : Nat) (s : List UInt8), v4 = .string ⟨List.toArray s⟩ ∧ v5 = .int .i64 (pos : Int) ∧ g = n + 1 - pos ∧ Hid (RPrI w xs pos s wr))
    case atStart => exact ⟨0, [], rfl, rfl, rfl, H0⟩
    case round =>
      obtain ⟨pos, s, rfl, rfl, rfl, H⟩ := hrel
      have HLE := Go.Lib.hid H.out.le
      have hple : pos ≤ n := by rw [HN.out]; exact HLE.out
      by_cases hp : pos < n
      · have hpi : (0 : Int) ≤ (pos : Int) := by omega
        obtain ⟨x, ys, hd⟩ : ∃ x ys, xs.drop pos = x :: ys := List.exists_cons_of_length_pos (by rw [List.length_drop, ← HN.out]; omega)
        have HD := Go.Lib.hid hd
        have hdl := drop_len hd
        rw [← HN.out] at hdl
        have hkp := pieceN_pos (x :: ys)
        have hkl := pieceN_le x ys
        obtain ⟨k, hk⟩ : ∃ k, k = pieceN (x :: ys) := ⟨_, rfl⟩
        have HK := Go.Lib.hid hk
        rw [← hk] at hkp hkl
        have hkn : pos + k ≤ n := by omega
        have hk0 : (0 : Int) ≤ (k : Int) := by omega
        obtain ⟨o, ho⟩ : ∃ o, o = joinB (tellP ((x :: ys).take (pieceN (x :: ys)))) := ⟨_, rfl⟩
        have HO := Go.Lib.hid ho
        have ht := tellP_len (x := x) (ys := ys)
        have hj := joinB_len _ ht.1
        rw [← ho] at hj
        have ho58 : o.length ≤ 58 := by omega
        have hs60 : s.length ≤ 15360 := by have := H.out.few; omega
        clear hd hdl hk hkl ht hj ho
        have hz1 := size_list s
        have hz2 := size_list o
        by_cases h0 : pos = 0
        · have hs0 : s = [] := H.out.zero h0
          have HB := Go.Lib.hid H.out.bel
          have HS := Go.Lib.hid hs0
          have HP0 := Go.Lib.hid h0
          have hcat : (ByteArray.mk #[]) ++ (ByteArray.mk (List.toArray o)) = ⟨List.toArray o⟩ := cat_lists [] o
          subst hs0
          subst h0
          go_wp2_with fail
          refine (ref_one A n c 0 xs x ys _ HD.out HN.out hc hc2 (HR.out.below HB.out)).mono ?_
          rintro _ w3 ⟨rfl, hb3⟩
          rw [← HO.out]
          have HB3 := Go.Lib.hid (btr HB.out hb3)
          clear hb3
          go_wp2_with fail
          refine (ref_Piece A n c 0 xs x ys _ HD.out HN.out (by omega) (HR.out.below HB3.out)).mono ?_
          rintro _ w4 ⟨rfl, hb4⟩
          rw [← HK.out]
          have HB4 := Go.Lib.hid (btr HB3.out hb4)
          clear hb4
          go_wp2_with fail
          go_roundg (n + 1 - (0 + k))
          case measure => omega
          case rel =>
            exact ⟨0 + k, o, rfl, by simp, rfl, Go.Lib.hid (H.out.step HD.out HK.out.symm HO.out.symm (by rw [if_pos rfl]) HB4.out)⟩
        · have HB := Go.Lib.hid H.out.bel
          have hpg : (0 : Int) < (pos : Int) := by omega
          have HP0 := Go.Lib.hid h0
          obtain ⟨s1, hs1⟩ : ∃ s1, s1 = s ++ [32] := ⟨_, rfl⟩
          obtain ⟨s2, hs2⟩ : ∃ s2, s2 = s1 ++ o := ⟨_, rfl⟩
          have hl1 : s1.length ≤ 15361 := by rw [hs1, List.length_append]; simp; omega
          have hcat1 : (ByteArray.mk (List.toArray s)) ++ (ByteArray.mk #[32]) = ⟨List.toArray s1⟩ := by rw [hs1]; exact cat_lists s [32]
          have hcat2 : (ByteArray.mk (List.toArray s1)) ++ (ByteArray.mk (List.toArray o)) = ⟨List.toArray s2⟩ := by rw [hs2]; exact cat_lists s1 o
          have hz3 := size_list s1
          have HSS := Go.Lib.hid (And.intro hs1 hs2)
          clear hs1 hs2 h0
          go_wp2_with fail
          refine (ref_one A n c pos xs x ys _ HD.out HN.out hc hc2 (HR.out.below HB.out)).mono ?_
          rintro _ w3 ⟨rfl, hb3⟩
          rw [← HO.out]
          have HB3 := Go.Lib.hid (btr HB.out hb3)
          clear hb3
          go_wp2_with fail
          refine (ref_Piece A n c pos xs x ys _ HD.out HN.out (by omega) (HR.out.below HB3.out)).mono ?_
          rintro _ w4 ⟨rfl, hb4⟩
          rw [← HK.out]
          have HB4 := Go.Lib.hid (btr HB3.out hb4)
          clear hb4
          go_wp2_with fail
          go_roundg (n + 1 - (pos + k))
          case measure => omega
          case rel =>
            exact ⟨pos + k, s2, rfl, by go_num, rfl, Go.Lib.hid (H.out.step HD.out HK.out.symm HO.out.symm (by rw [if_neg HP0.out, HSS.out.2, HSS.out.1]) HB4.out)⟩
      · have HB := Go.Lib.hid H.out.bel
        have HS := Go.Lib.hid (show s = printL xs by
          have h := H.out.inv
          have hd : xs.drop pos = [] := List.drop_eq_nil_of_le (by rw [← HN.out]; omega)
          rw [hd] at h
          by_cases h0 : pos = 0
          · rw [if_pos h0] at h
            rw [H.out.zero h0, h]
            rfl
          · rw [if_neg h0] at h
            rw [h]
            simp [tells, pieces_nil, tailJ])
        go_wp2_with fail
        refine bodyPost_ret (v := .tuple #[.string ⟨List.toArray s⟩, .int .i64 0]) (by simp [results, Tryd.results21, go_sem]) rfl ⟨?_, HB.out⟩
        rw [if_neg HL.out, ← HS.out]

set_option maxHeartbeats 4000000 in
theorem prints_walk (w : World) (hw : WL w) (A : Option Addr) (n c : Nat) (xs : List UInt8) (hn : xs.length = n) (hc : n ≤ c) (hr : Rd w A (bs xs)) (hz : c ≤ 140737488351232) : Calls Tryd.prog 6 #[.slice A n c] w fun r w' => r = .returned (.bool true) ∧ Below w.heap.size w w' := by
  have HWL := Go.Lib.hid hw
  have HR := Go.Lib.hid hr
  have HN := Go.Lib.hid hn
  obtain ⟨T, e, ht⟩ : ∃ T e, (if xs.length > 256 then #[.string ⟨#[]⟩, .int .i64 142] else #[.string ⟨List.toArray (printL xs)⟩, .int .i64 0] : Array Value) = #[.string T, .int .i64 e] := by
    by_cases h : xs.length > 256
    · exact ⟨_, _, if_pos h⟩
    · exact ⟨_, _, if_neg h⟩
  have HT := Go.Lib.hid ht
  clear hw hr hn ht
  go_enter Tryd.func6, Tryd.ntmps6
  go_wp2_with fail
  refine (op_Print A n c xs _ HN.out.symm hc (by omega) HR.out HWL.out).mono ?_
  rintro _ w3 ⟨rfl, hb3⟩
  rw [HT.out]
  have HB3 := Go.Lib.hid hb3
  clear hb3
  go_wp2_with fail
  refine (ref_Print A n c xs _ HN.out.symm hc (by omega) (HR.out.below HB3.out)).mono ?_
  rintro _ w4 ⟨rfl, hb4⟩
  rw [HT.out]
  have HB4 := Go.Lib.hid (btr HB3.out hb4)
  clear hb4
  go_wp2_with fail
  refine (law_alive _ (HWL.out.below HB4.out)).mono ?_
  rintro _ w5 ⟨rfl, hb5⟩
  have HB5 := Go.Lib.hid (btr HB4.out hb5)
  clear hb5
  go_wp2_with fail
  refine bodyPost_ret (v := .bool true) (by simp [results, Tryd.results6, go_sem]) rfl ⟨rfl, HB5.out⟩

end Go.Proofs.YtlbiahpajcfcfaaDoor
