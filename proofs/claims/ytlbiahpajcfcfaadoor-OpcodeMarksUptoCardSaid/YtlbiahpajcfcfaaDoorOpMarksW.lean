/- The reference's Marks; OpcodeMarks: the walk. -/
import Derived.Test.YtlbiahpajcfcfaaDoorOpRPiece
import Derived.Test.YtlbiahpajcfcfaaDoorOpAlive
import Derived.Test.YtlbiahpajcfcfaaDoorOpMarksP
namespace Go.Proofs.YtlbiahpajcfcfaaDoor
open Go.ChangeShapes Go.WideShapes Go.ChangeAt Go.RowKit
set_option linter.unusedVariables false
set_option maxRecDepth 100000
attribute [local go_sem ↓] Go.wp_at_zero Go.wp_at_succ

set_option maxHeartbeats 8000000 in
theorem ref_Marks (A : Option Addr) (n c : Nat) (xs : List UInt8) (w : World) (hn : n = xs.length) (hc : n ≤ c) (hc2 : c ≤ 9223372036854775807) (hz : n ≤ 1099511627776) (hr : Rd w A (bs xs)) :
    Calls Tryd.prog 16 #[.slice A n c] w (MarksP xs w) := by
  have HR := Go.Lib.hid hr
  have HN := Go.Lib.hid hn
  have H0 := Go.Lib.hid (show MkI w xs 0 [] none 0 w from ⟨Nat.zero_le _, Below.refl _ _, Own.nil _ _ _ _, rfl, Nat.le_refl _⟩)
  obtain ⟨i0, hi, hz0, hz1, hz2⟩ := info_parts wd_int
  clear hr hn
  go_enter Tryd.func16, Tryd.ntmps16
  go_wp2_with fail
  go_loopg [3, 4] (n + 1) (fun g v3 v4 wr => ∃ (pos : Nat) (L : List Nat) (B : Option Addr) (cB : Nat), v3 = .slice B L.length cB ∧ v4 = .int .i64 (pos : Int) ∧ g = n + 1 - pos ∧ Hid (MkI w xs pos L B cB wr))
  case atStart => exact ⟨0, [], none, 0, rfl, rfl, rfl, H0⟩
  case round =>
    obtain ⟨pos, L, B, cB, rfl, rfl, rfl, H⟩ := hrel
    have hle := H.out.le
    have HLE := Go.Lib.hid hle
    have hple : pos ≤ n := by rw [HN.out]; exact hle
    clear hle
    by_cases hp : pos < n
    · have hpi : (0 : Int) ≤ (pos : Int) := by omega
      have hfew := H.out.few
      obtain ⟨x, ys, hd⟩ : ∃ x ys, xs.drop pos = x :: ys := List.exists_cons_of_length_pos (by rw [List.length_drop, ← HN.out]; omega)
      have HD := Go.Lib.hid hd
      have hl : n - pos = ys.length + 1 := by
        have := congrArg List.length hd
        rw [List.length_drop, ← HN.out, List.length_cons] at this
        exact this
      have HLN := Go.Lib.hid hl
      obtain ⟨g, off, rfl, hg, hcell⟩ := HR.out.at_ (by simp; have := HN.out; omega)
      have hxb : (bs xs)[pos]? = some (.int .u8 (x.toNat : Int)) := by
        have e : xs[pos]? = some x := by
          have := List.getElem?_drop (xs := xs) (i := pos) (j := 0)
          rw [hd] at this
          simpa using this.symm
        rw [bs, List.getElem?_map, e]
        rfl
      have HX0 := Go.Lib.hid (show ∀ wx, Below w.heap.size w wx → wx.cell? ⟨g, off + pos, none⟩ = some (.int .u8 (x.toNat : Int)) from fun wx hb => (hb.cell (p := ⟨g, off + pos, none⟩) hg).trans (hcell pos _ hxb))
      have hx256 : x.toNat < 256 := x.toNat_lt
      have hkp := pieceN_pos (x :: ys)
      have hkl := pieceN_le x ys
      obtain ⟨k, hk⟩ : ∃ k, k = pieceN (x :: ys) := ⟨_, rfl⟩
      have HK := Go.Lib.hid hk
      rw [← hk] at hkp hkl
      have hkn : pos + k ≤ n := by omega
      have hk0 : (0 : Int) ≤ (k : Int) := by omega
      clear hd hcell hxb hk hl hkl
      by_cases hm : (pieceI (x :: ys)).isSome = true ∧ x = 66
      · have HM := Go.Lib.hid (show (if (pieceI (x :: ys)).isSome = true ∧ x = 66 then [pos] else []) = [pos] from if_pos hm)
        have HI := Go.Lib.hid hm.1
        have hx66 : (x.toNat : Int) = 66 := by rw [hm.2]; rfl
        clear hm
        go_wp2_with (first | (go_at_call 26; refine (ref_Piece (some ⟨g, off, none⟩) n c pos xs x ys _ HD.out HN.out (by omega) (HR.out.below H.out.bel)).mono ?_; rintro _ w3 ⟨rfl, hb3⟩; rw [HI.out, ← HK.out]; have HB3 := Go.Lib.hid (btr H.out.bel hb3); have HO3 := Go.Lib.hid (H.out.own.below hb3); clear hb3; have hx3 := HX0.out w3 HB3.out; have hg3 : g < w3.heap.size := Nat.lt_of_lt_of_le hg HB3.out.size; have hgn3 : g ≠ w3.heap.size := (by omega); have hgn3' : w3.heap.size ≠ g := (by omega); have HR4 := Go.Lib.hid (rd_int w3 3 pos rfl)) | (at_builtin; go_loud (refine wpList_append_o _ rfl _ _ 33 rfl 3 i0 (.int .i64 0) 1 8 Tryd.underlying33 hi hz0 hz1 hz2 rfl (by decide) w.heap.size B L.length cB (ints L) rfl (HO3.out.alloc _) (some ⟨w3.heap.size, 0, none⟩) 1 1 (ints [pos]) rfl (by simp) HR4.out (ints_one _) (by omega) (by unfold maxLen; omega) (bal HB3.out _).size ?_)))
        intro B6 cB6 w6 hown6 hkp6 hlie6
        have HB6 := Go.Lib.hid (show Below w.heap.size w w6 from Kp.below (bal HB3.out _) hkp6 (fun i h => (HO3.out.block_lt i h.symm).1))
        have HO6 := Go.Lib.hid hown6
        clear hown6 hkp6 hlie6
        go_wp2_with fail
        go_roundg (n + 1 - (pos + k))
        case measure => omega
        case rel =>
          refine ⟨pos + k, L ++ [pos], B6, cB6, by simp, by go_num, rfl, Go.Lib.hid (H.out.step HD.out HK.out.symm HM.out HB6.out ?_)⟩
          have := HO6.out
          rw [← ints_append] at this
          rw [List.length_append]
          exact this
      · have HM := Go.Lib.hid (show (if (pieceI (x :: ys)).isSome = true ∧ x = 66 then [pos] else []) = [] from if_neg hm)
        rcases (show (pieceI (x :: ys)).isSome = false ∨ ((pieceI (x :: ys)).isSome = true ∧ ¬ ((x.toNat : Int) = 66)) by
          cases hI : (pieceI (x :: ys)).isSome with
          | false => exact .inl rfl
          | true =>
            refine .inr ⟨rfl, fun h => hm ⟨hI, ?_⟩⟩
            apply UInt8.toNat_inj.1
            have : x.toNat = 66 := by omega
            rw [this]; rfl) with hI | ⟨hI, hx66⟩
        all_goals
          have HI := Go.Lib.hid hI
          clear hm hI
          go_wp2_with (go_at_call 26; refine (ref_Piece (some ⟨g, off, none⟩) n c pos xs x ys _ HD.out HN.out (by omega) (HR.out.below H.out.bel)).mono ?_; rintro _ w3 ⟨rfl, hb3⟩; rw [HI.out, ← HK.out]; have HB3 := Go.Lib.hid (btr H.out.bel hb3); have HO3 := Go.Lib.hid (H.out.own.below hb3); clear hb3; have hx3 := HX0.out w3 HB3.out; have hg3 : g < w3.heap.size := Nat.lt_of_lt_of_le hg HB3.out.size; have hgn3 : g ≠ w3.heap.size := (by omega); have hgn3' : w3.heap.size ≠ g := (by omega))
          go_roundg (n + 1 - (pos + k))
          case measure => omega
          case rel =>
            refine ⟨pos + k, L ++ [], B, cB, by simp, by go_num, rfl, Go.Lib.hid (H.out.step HD.out HK.out.symm HM.out HB3.out ?_)⟩
            rw [List.append_nil]
            exact HO3.out
    · have HD := Go.Lib.hid (show L = marksL xs by
        have h := H.out.inv
        have hd : xs.drop pos = [] := List.drop_eq_nil_of_le (by rw [← HN.out]; omega)
        rw [hd] at h
        simpa [pieces_nil, marksP] using h)
      go_wp2_with fail
      refine bodyPost_ret (v := .slice B L.length cB) (by simp [results, Tryd.results16, go_sem]) rfl ?_
      have h := H.out.own
      have h2 := H.out.bel
      refine ⟨B, cB, ?_, ?_, h2⟩
      · rw [← HD.out]
      · rw [← HD.out]; exact h


theorem cell_ints {w : World} {g off : Nat} {l : List Nat} {j a : Nat} (hc : ∀ i u, (ints l)[i]? = some u → w.cell? ⟨g, off + i, none⟩ = some u) (h : l[j]? = some a) : w.cell? ⟨g, off + j, none⟩ = some (.int .i64 (a : Int)) :=
  hc j _ (by rw [ints, List.getElem?_map, h]; rfl)

set_option maxHeartbeats 8000000 in
theorem marks_walk (w : World) (hw : WL w) (A : Option Addr) (n c : Nat) (xs : List UInt8) (hn : xs.length = n) (hc : n ≤ c) (hr : Rd w A (bs xs)) (hz : c ≤ 1048576) : Calls Tryd.prog 4 #[.slice A n c] w fun r w' => r = .returned (.bool true) ∧ Below w.heap.size w w' := by
  have HWL := Go.Lib.hid hw
  have HR := Go.Lib.hid hr
  have HN := Go.Lib.hid hn
  obtain ⟨l, hl⟩ : ∃ l, l = marksL xs := ⟨_, rfl⟩
  have hlen := marksL_len xs
  rw [← hl] at hlen
  have HL := Go.Lib.hid hl
  obtain ⟨m, hm⟩ : ∃ m, m = l.length := ⟨_, rfl⟩
  have HM := Go.Lib.hid hm
  rw [← hm] at hlen
  have hmz : m ≤ 1048576 := by omega
  clear hw hr hn hl hm hlen
  go_enter Tryd.func4, Tryd.ntmps4
  go_wp2_with fail
  refine (op_Marks A n c xs _ HN.out.symm hc (by omega) (by omega) HR.out).mono ?_
  rintro _ w3 ⟨A3, c3, rfl, hown3, hb3⟩
  rw [← HL.out] at hown3 ⊢
  rw [← HM.out] at hown3 ⊢
  have HR3 := Go.Lib.hid hown3.rd
  have HB3 := Go.Lib.hid hb3
  clear hown3 hb3
  go_wp2_with fail
  go_loop [10] (fun v => ∃ j : Nat, v = .int .i64 j ∧ j ≤ m) (fun v => m - (intOf v).toNat)
  case atStart => exact ⟨0, rfl, Nat.zero_le _⟩
  case round =>
    obtain ⟨j, rfl, hj⟩ := hrel
    by_cases hlt : j < m
    · obtain ⟨gl, ol, rfl, hgl, hcl⟩ := HR3.out.at_ (by simp; have := HM.out; omega)
      have hjl : j < (marksL xs).length := by rw [← HL.out, ← HM.out]; exact hlt
      obtain ⟨hat1, hat2⟩ := marks_at hjl
      obtain ⟨a, ha⟩ : ∃ a, a = (marksL xs)[j] := ⟨_, rfl⟩
      have haj : l[j]? = some a := by rw [HL.out, List.getElem?_eq_getElem hjl, ha]
      rw [← ha, HN.out] at hat1
      rw [← ha] at hat2
      have hcj := cell_ints hcl haj
      obtain ⟨g, off, rfl, hg, hcc⟩ := HR.out.at_ (by simp; have := HN.out; omega)
      have hca : w3.cell? ⟨g, off + a, none⟩ = some (.int .u8 66) := (HB3.out.cell (p := ⟨g, off + a, none⟩) hg).trans (hcc a _ (by rw [bs, List.getElem?_map, hat2]; rfl))
      have hj0 : (0 : Int) ≤ (j : Int) := by omega
      have ha0 : (0 : Int) ≤ (a : Int) := by omega
      have hjm : (j : Int) < (m : Int) := by omega
      have han : (a : Int) < (n : Int) := by omega
      cases j with
      | zero =>
        rw [Nat.add_zero] at hcj
        clear hcl hcc ha haj hat2 hjl
        go_wp2_with fail
        go_round
        case rel => exact ⟨1, by go_num, by omega⟩
        case measure => simp [intOf]; omega
      | succ k =>
        have hkl : k < (marksL xs).length := Nat.lt_of_succ_lt hjl
        have hri := marks_rise hjl
        obtain ⟨b, hb⟩ : ∃ b, b = (marksL xs)[k] := ⟨_, rfl⟩
        have hbk : l[k]? = some b := by rw [HL.out, List.getElem?_eq_getElem hkl, hb]
        have hck := cell_ints hcl hbk
        rw [← hb, ← ha] at hri
        have hba : (b : Int) < (a : Int) := by omega
        have hk0 : (0 : Int) ≤ (k : Int) := by omega
        clear hcl hcc ha haj hat2 hjl hb hbk hkl
        go_wp2_with fail
        go_round
        case rel => exact ⟨k + 1 + 1, by go_num, by omega⟩
        case measure => simp [intOf]; omega
    · go_wp2_with fail
      refine (law_alive _ (HWL.out.below HB3.out)).mono ?_
      rintro _ w4 ⟨rfl, hb4⟩
      have HR4 := Go.Lib.hid (HR3.out.below hb4)
      have HB4 := Go.Lib.hid (btr HB3.out hb4)
      clear hb4
      go_wp2_with fail
      refine (ref_Marks A n c xs _ HN.out.symm hc (by omega) (by omega) (HR.out.below HB4.out)).mono ?_
      rintro _ w5 ⟨A5, c5, rfl, hown5, hb5⟩
      rw [← HL.out] at hown5 ⊢
      rw [← HM.out] at hown5 ⊢
      have HR5 := Go.Lib.hid hown5.rd
      have HR45 := Go.Lib.hid (HR4.out.below hb5)
      have HB5 := Go.Lib.hid (btr HB4.out hb5)
      clear hown5 hb5
      go_wp2_with fail
      refine (law_places A3 A5 m c3 m c5 l l _ HR45.out HR5.out HM.out.symm HM.out.symm (by omega) (by omega)).mono ?_
      rintro _ w6 ⟨rfl, hb6⟩
      have HB6 := Go.Lib.hid (btr HB5.out hb6)
      clear hb6
      simp only [decide_true]
      go_wp2_with fail
      refine bodyPost_ret (v := .bool true) (by simp [results, Tryd.results4, go_sem]) rfl ⟨rfl, HB6.out⟩


end Go.Proofs.YtlbiahpajcfcfaaDoor
