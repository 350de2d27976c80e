/- Words: alive: the answers that the document fixes. WordsTexts: the walk. -/
import Derived.Test.YtmdffggegnngjaaDoorWdPar
namespace Go.Proofs.YtmdffggegnngjaaDoor
open Go.ChangeShapes Go.WideShapes Go.ChangeAt Go.RowKit Go.Sort Go.Lib
set_option linter.unusedVariables false

theorem par258 : parW [50, 53, 56] = some 258 := by
  have h : Lib.decDigits 258 = [50, 53, 56] := by decide +kernel
  rw [← h]
  exact parW_digits (by decide)
theorem rd_own2 (w : World) : Rd (w.alloc (.cells #[.int .u8 1, .int .u8 2] 5)) (some ⟨w.heap.size, 0, none⟩) (bs [1, 2]) := by
  have h := (own_made w 0 5 1 #[.int .u8 1, .int .u8 2] 2 2 (Nat.zero_le _) (by simp [maxLen]) (Nat.le_refl _) rfl).rd
  exact h
theorem oW_form (P : Option Nat) : ∃ (v : Int) (b : Bool), oW P = .tuple #[.int .u64 v, .bool b] := by
  cases P with
  | none => exact ⟨0, false, rfl⟩
  | some v => exact ⟨v, true, rfl⟩
theorem dig7 : Lib.decDigits 7 = [55] := by decide +kernel

set_option maxHeartbeats 1000000 in
set_option maxRecDepth 100000 in
theorem law_wAlive (w : World) (hw : WL w) :
    Calls Tryd.prog 11 #[] w fun e w' => e = .returned (.bool true) ∧ Below w.heap.size w w' := by
  have HW := Lib.hid hw
  have P1 := Lib.hid par258
  have D7 := Lib.hid dig7
  have V1 : Hid (wval (be 8 258) = 258) := Lib.hid (by decide +kernel)
  have V2 : Hid (wval [1, 2] = 258) := Lib.hid (by decide +kernel)
  have I2 : Hid (isWord [1, 2] = true) := Lib.hid (by decide +kernel)
  clear hw
  go_enter Tryd.func11, Tryd.ntmps11
  go_wp2_with fail
  refine (words_Parse ⟨#[50, 53, 56]⟩ (by decide) _ HW.out).mono ?_
  rintro e w1 ⟨rfl, hb1⟩
  rw [show (⟨#[50, 53, 56]⟩ : ByteArray).data.toList = [50, 53, 56] from rfl, P1.out]
  simp only [oW]
  have HB1 := Lib.hid hb1
  clear hb1
  go_wp2_with fail
  refine (words_Key 258 _).mono ?_
  rintro e w2 ⟨A2, rfl, hown2, hb2⟩
  have HO2 := Lib.hid hown2
  have HB2 := Lib.hid hb2
  clear hown2 hb2
  go_wp2_with fail
  refine (words_Word A2 8 8 (be 8 258) _ HO2.out.rd (by simp)).mono ?_
  rintro e w3 ⟨rfl, rfl⟩
  rw [V1.out, be_length]
  simp only [okW, decide_true, if_true]
  go_wp2_with fail
  refine (words_Read (some ⟨w2.heap.size, 0, none⟩) 2 2 [1, 2] _ (rd_own2 w2) rfl).mono ?_
  rintro e w4 ⟨rfl, rfl⟩
  rw [V2.out, I2.out]
  simp only [okW, if_true]
  go_wp2_with fail
  refine (words_Print 7 (by decide) _ (((HW.out.below HB1.out).below HB2.out).below (bal (Below.refl _ _) _))).mono ?_
  rintro e w5 ⟨rfl, hb5⟩
  rw [D7.out]
  have HB5 := Lib.hid hb5
  clear hb5
  go_wp2_with fail
  go_ret
  exact ⟨rfl, btr (bal (btr HB1.out HB2.out) _) HB5.out⟩

set_option maxHeartbeats 1000000 in
set_option maxRecDepth 100000 in
theorem wtexts_walk (n : Nat) (hn : n < 18446744073709551616) (s : ByteArray) (hz : s.size ≤ 140737488351232) (w : World) (hw : WL w) :
    Calls Tryd.prog 4 #[.int .u64 (n : Int), .string s] w fun e w' => e = .returned (.bool true) ∧ Below w.heap.size w w' := by
  have HW := Lib.hid hw
  have HN := Lib.hid hn
  obtain ⟨D, hD⟩ : ∃ D, D = Lib.decDigits n := ⟨_, rfl⟩
  have HD := Lib.hid hD
  obtain ⟨P, hP⟩ : ∃ P, P = parW s.data.toList := ⟨_, rfl⟩
  have HP := Lib.hid hP
  clear hw hn hD hP
  go_enter Tryd.func4, Tryd.ntmps4
  go_wp2_with fail
  refine (words_Parse s hz _ HW.out).mono ?_
  rintro e w1 ⟨rfl, hb1⟩
  rw [← HP.out]
  have HB1 := Lib.hid hb1
  clear hb1
  obtain ⟨v, b, hv⟩ : ∃ (v : Int) (b : Bool), oW P = .tuple #[.int .u64 v, .bool b] := oW_form P
  rw [hv]
  have HV := Lib.hid hv
  clear hv
  go_wp2_with fail
  refine (ref_WParse s hz _).mono ?_
  rintro e w2 ⟨rfl, hb2⟩
  rw [← HP.out, HV.out]
  have HB2 := Lib.hid (btr HB1.out hb2)
  clear hb2
  go_wp2_with fail
  refine (law_wAlive _ (HW.out.below HB2.out)).mono ?_
  rintro e w3 ⟨rfl, hb3⟩
  have HB3 := Lib.hid (btr HB2.out hb3)
  clear hb3
  go_wp2_with fail
  refine (words_Print n HN.out _ (HW.out.below HB3.out)).mono ?_
  rintro e w4 ⟨rfl, hb4⟩
  rw [← HD.out]
  have HB4 := Lib.hid (btr HB3.out hb4)
  clear hb4
  go_wp2_with fail
  refine (ref_WPrint n HN.out _).mono ?_
  rintro e w5 ⟨rfl, hb5⟩
  rw [← HD.out]
  have HB5 := Lib.hid (btr HB4.out hb5)
  clear hb5
  go_wp2_with fail
  go_ret
  exact ⟨rfl, HB5.out⟩

end Go.Proofs.YtmdffggegnngjaaDoor
