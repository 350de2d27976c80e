/- The law's cutOff. Written by wip/bin/oppieces.py. -/
import Derived.Test.YtlbiahpajcfcfaaDoorOpRPiece
import Derived.Test.YtlbiahpajcfcfaaDoorOpPiecesP
namespace Go.Proofs.YtlbiahpajcfcfaaDoor
open Go.ChangeShapes Go.WideShapes Go.ChangeAt Go.RowKit
set_option linter.unusedVariables false
set_option maxRecDepth 100000
attribute [local go_sem ↓] Go.wp_at_zero Go.wp_at_succ

def CutP (xs : List UInt8) (w : World) (r : Ending) (w' : World) : Prop := ∃ b : Bool, r = .returned (.bool b) ∧ (b = false → Whole xs) ∧ Below w.heap.size w w'

set_option maxHeartbeats 8000000 in
theorem law_cutOff (A : Option Addr) (n c : Nat) (xs : List UInt8) (w : World) (hn : n = xs.length) (hz : n ≤ 1099511627776) (hr : Rd w A (bs xs)) :
    Calls Tryd.prog 22 #[.slice A n c] w (CutP xs w) := by
  have HR := Go.Lib.hid hr
  have HN := Go.Lib.hid hn
  clear hr hn
  go_enter Tryd.func22, Tryd.ntmps22
  go_wp2_with fail
  go_loopg [3] (n + 1) (fun g v wr => ∃ pos : Nat, v = .int .i64 (pos : Int) ∧ g = n + 1 - pos ∧ Hid (pos ≤ xs.length) ∧ Hid (MkA xs pos) ∧ Hid (Below w.heap.size w wr))
  case atStart => exact ⟨0, rfl, rfl, Go.Lib.hid (Nat.zero_le _), Go.Lib.hid (MkA.start xs), Go.Lib.hid (Below.refl _ _)⟩
  case round =>
    obtain ⟨pos, rfl, rfl, HLE, HM, HB⟩ := hrel
    have hple : pos ≤ n := by rw [HN.out]; exact HLE.out
    by_cases hp : pos < n
    · have hpi : (0 : Int) ≤ (pos : Int) := by omega
      obtain ⟨x, ys, hd⟩ : ∃ x ys, xs.drop pos = x :: ys := List.exists_cons_of_length_pos (by rw [List.length_drop, ← HN.out]; omega)
      have HD := Go.Lib.hid hd
      obtain ⟨g, off, rfl, hg, hcell⟩ := HR.out.at_ (by simp; have := HN.out; omega)
      have HX0 := Go.Lib.hid (show ∀ wx, Below w.heap.size w wx → wx.cell? ⟨g, off + pos, none⟩ = some (.int .u8 (x.toNat : Int)) from fun wx hb => (hb.cell (p := ⟨g, off + pos, none⟩) hg).trans (hcell pos _ (byte_at hd)))
      have hx256 : x.toNat < 256 := x.toNat_lt
      have hdl := drop_len hd
      have hkp := pieceN_pos (x :: ys)
      have hkl := pieceN_le x ys
      rw [← HN.out] at hdl
      obtain ⟨k, hk⟩ : ∃ k, k = pieceN (x :: ys) := ⟨_, rfl⟩
      have HK := Go.Lib.hid hk
      rw [← hk] at hkp hkl
      have hkn : pos + k ≤ n := by omega
      have hk0 : (0 : Int) ≤ (k : Int) := by omega
      clear hd hcell hk hkl hdl
      cases hpi2 : pieceI (x :: ys) with
      | none =>
        have HI := Go.Lib.hid hpi2
        cases ho : ofI x.toNat with
        | none =>
          have HO := Go.Lib.hid (And.intro ho (show ofG x.toNat = zeroI by simp [ofG, ho]))
          clear hpi2 ho
          go_wp2_with (first | (go_at_call 26; refine (ref_Piece (some ⟨g, off, none⟩) n c pos xs x ys _ HD.out HN.out (by omega) (HR.out.below HB.out)).mono ?_; rintro _ w3 ⟨rfl, hb3⟩; rw [HI.out, ← HK.out]; simp only [Option.isSome_none]; have HB3 := Go.Lib.hid (btr HB.out hb3); clear hb3; have hx3 := HX0.out w3 HB3.out; have hg3 : g < w3.heap.size := Nat.lt_of_lt_of_le hg HB3.out.size; have hgn3 : g ≠ w3.heap.size := (by omega); have hgn3' : w3.heap.size ≠ g := (by omega)) | (go_at_call 12; refine (ref_Of _ _ hx256).mono ?_; rintro _ w4 ⟨rfl, hb4⟩; rw [HO.out.1, HO.out.2]; simp only [Option.isSome_none]; have HB4 := Go.Lib.hid (btr HB3.out hb4); clear hb4))
          go_roundg (n + 1 - (pos + k))
          case measure => omega
          case rel => exact ⟨pos + k, by go_num, rfl, Go.Lib.hid (by rw [← HN.out]; exact hkn), Go.Lib.hid (HM.out.step HD.out HK.out.symm (fun _ => HO.out.1)), Go.Lib.hid (bal HB4.out _)⟩
        | some i =>
          have hib : 0 < i.behind := by
            have h := hpi2
            simp only [pieceI, ho, Option.bind_some] at h
            by_cases hl : ys.length + 1 ≤ i.behind
            · omega
            · rw [if_neg hl] at h; cases h
          have hib2 : (0 : Int) < (i.behind : Int) := by omega
          have HO := Go.Lib.hid (And.intro (show (ofI x.toNat).isSome = true by rw [ho]; rfl) (show ofG x.toNat = i by simp [ofG, ho]))
          clear hpi2 ho
          go_wp2_with (first | (go_at_call 26; refine (ref_Piece (some ⟨g, off, none⟩) n c pos xs x ys _ HD.out HN.out (by omega) (HR.out.below HB.out)).mono ?_; rintro _ w3 ⟨rfl, hb3⟩; rw [HI.out, ← HK.out]; simp only [Option.isSome_none]; have HB3 := Go.Lib.hid (btr HB.out hb3); clear hb3; have hx3 := HX0.out w3 HB3.out; have hg3 : g < w3.heap.size := Nat.lt_of_lt_of_le hg HB3.out.size; have hgn3 : g ≠ w3.heap.size := (by omega); have hgn3' : w3.heap.size ≠ g := (by omega)) | (go_at_call 12; refine (ref_Of _ _ hx256).mono ?_; rintro _ w4 ⟨rfl, hb4⟩; rw [HO.out.1, HO.out.2]; have HB4 := Go.Lib.hid (btr HB3.out hb4); clear hb4))
          refine bodyPost_ret (v := .bool true) (by simp [results, Tryd.results22, go_sem]) rfl ⟨true, rfl, (fun h => by cases h), bal HB4.out _⟩
      | some i =>
        have HI := Go.Lib.hid hpi2
        obtain ⟨ho, _, _⟩ := pieceI_behind hpi2
        have HO := Go.Lib.hid (And.intro (show (ofI x.toNat).isSome = true by rw [ho]; rfl) (show ofG x.toNat = i by simp [ofG, ho]))
        clear hpi2 ho
        go_wp2_with (first | (go_at_call 26; refine (ref_Piece (some ⟨g, off, none⟩) n c pos xs x ys _ HD.out HN.out (by omega) (HR.out.below HB.out)).mono ?_; rintro _ w3 ⟨rfl, hb3⟩; rw [HI.out, ← HK.out]; simp only [Option.isSome_some]; have HB3 := Go.Lib.hid (btr HB.out hb3); clear hb3; have hx3 := HX0.out w3 HB3.out; have hg3 : g < w3.heap.size := Nat.lt_of_lt_of_le hg HB3.out.size; have hgn3 : g ≠ w3.heap.size := (by omega); have hgn3' : w3.heap.size ≠ g := (by omega)) | (go_at_call 12; refine (ref_Of _ _ hx256).mono ?_; rintro _ w4 ⟨rfl, hb4⟩; rw [HO.out.1, HO.out.2]; have HB4 := Go.Lib.hid (btr HB3.out hb4); clear hb4))
        go_roundg (n + 1 - (pos + k))
        case measure => omega
        case rel => exact ⟨pos + k, by go_num, rfl, Go.Lib.hid (by rw [← HN.out]; exact hkn), Go.Lib.hid (HM.out.step HD.out HK.out.symm (fun h => by rw [HI.out] at h; cases h)), Go.Lib.hid (bal HB4.out _)⟩
    · have HW := Go.Lib.hid (show Whole xs by
        have e : pos = xs.length := by rw [← HN.out]; omega
        have h := HM.out
        rw [e] at h
        exact fun zs => h.done zs)
      go_wp2_with fail
      refine bodyPost_ret (v := .bool false) (by simp [results, Tryd.results22, go_sem]) rfl ⟨false, rfl, fun _ => HW.out, HB.out⟩

end Go.Proofs.YtlbiahpajcfcfaaDoor
