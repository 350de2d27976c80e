/- Words as texts: Print of the reference; Parse of both. -/
import Derived.Test.YtlbiahpajcfcfaaDoorWdFmt
import Derived.Deep.LoopGhost
namespace Go.Proofs.YtlbiahpajcfcfaaDoor
open Go.ChangeShapes Go.WideShapes Go.ChangeAt Go.RowKit Go.Sort Go.Lib
set_option linter.unusedVariables false
set_option maxRecDepth 100000

theorem ba_cons (c : UInt8) (t : List UInt8) : (⟨#[c]⟩ : ByteArray) ++ ⟨t.toArray⟩ = ⟨(c :: t).toArray⟩ := by
  apply ByteArray.ext
  simp

/-- What Parse answers. -/
def oW : Option Nat → Value
  | some v => .tuple #[.int .u64 (v : Int), .bool true]
  | none => .tuple #[.int .u64 0, .bool false]

set_option maxHeartbeats 1000000 in
theorem ref_WPrint (u : Nat) (hu64 : u < 18446744073709551616) (w : World) :
    Calls Tryd.prog 51 #[.int .u64 (u : Int)] w fun e w' => e = .returned (.string ⟨(Lib.decDigits u).toArray⟩) ∧ Below w.heap.size w w' := by
  have H64 := Lib.hid hu64
  clear hu64
  by_cases hu : u = 0
  · subst hu
    have hd : Lib.decDigits 0 = [48] := by decide +kernel
    rw [hd]
    go_enter Tryd.func51, Tryd.ntmps51
    go_wp2
    refine wp_loop_rounds 1 ?_
    rw [rounds_succ]
    go_wp2
    go_ret
    exact ⟨rfl, Below.refl _ _⟩
  · have hz : ((u : Int) == 0) = false := by rw [beq_eq_false_iff_ne]; omega
    go_enter Tryd.func51, Tryd.ntmps51
    go_wp2
    go_loopg [3, 4] u (fun g v m wr => ∃ (t : List UInt8), m = .int .u64 (g : Int) ∧ Hid (g < 18446744073709551616) ∧ v = .string ⟨t.toArray⟩ ∧ Hid (preD g ++ t = preD u) ∧ Hid (Below w.heap.size w wr))
    case atStart => exact ⟨[], rfl, H64, rfl, Lib.hid (by simp), Lib.hid (Below.refl _ _)⟩
    case round =>
      obtain ⟨k, rfl⟩ : ∃ k, k = gk := ⟨_, rfl⟩
      obtain ⟨t, rfl, HK, rfl, HP, HB⟩ := hrel
      have htl : t.length ≤ 20 := by
        have h1 := congrArg List.length HP.out
        have h2 := Lib.decDigits_length u
        have h3 := nDigits_le20 H64.out
        rw [List.length_append, preD, preD, if_neg hu] at h1
        omega
      by_cases hk : 0 < k
      · have hcv := wconv_bs (P := Tryd.prog) (wr.alloc (.cells #[.int .u8 (48 + (k : Int) % 10)] 5)) 32 5 9 Tryd.underlying32 Tryd.underlying5 Tryd.underlying9 (some ⟨wr.heap.size, 0, none⟩) 1 1 [UInt8.ofNat (48 + k % 10)] (by
          have h := (own_one wr 0 (Nat.zero_le _) (.int .u8 (48 + (k : Int) % 10)) 5).rd
          have e : bs [UInt8.ofNat (48 + k % 10)] = [.int .u8 (48 + (k : Int) % 10)] := by
            simp only [bs, List.map_cons, List.map_nil, bv, digit_nat (show k % 10 < 10 by omega)]
            rfl
          rw [e]
          exact h) rfl
        go_wp2_with fail
        go_roundg (k / 10)
        case measure => omega
        case rel =>
          refine ⟨UInt8.ofNat (48 + k % 10) :: t, ?_, Lib.hid ?_, ?_, Lib.hid ?_, Lib.hid ?_⟩
          · have h64 := HK.out
            have hw : IntKind.u64.wrap ((k : Int) / 10) = ((k / 10 : Nat) : Int) := by rw [IntKind.wrap_u64]; omega
            first | rw [hw] | go_num
          · have := HK.out; omega
          · simp only [UInt8.ofNat_add] at *
            rw [← ba_cons]
            rfl
          · rw [← HP.out, preD_step hk]; simp
          · exact bal HB.out _
      · have h0 : k = 0 := by omega
        have hd : t = Lib.decDigits u := by
          have := HP.out
          rw [h0, preD, preD, if_pos rfl, if_neg hu] at this
          exact this
        have HD := Lib.hid hd
        clear hd h0
        go_wp2
        go_ret
        exact ⟨by rw [← HD.out]; rfl, HB.out⟩

set_option maxHeartbeats 1000000 in
/-- The program's Parse of any text. -/
theorem words_Parse (s : ByteArray) (hz : s.size ≤ 140737488351232) (w : World) (hw : WL w) :
    Calls Tryd.prog 30 #[.string s] w fun e w' => e = .returned (oW (parW s.data.toList)) ∧ Below w.heap.size w w' := by
  have HW := Lib.hid hw
  clear hw
  cases hp : Lib.parseUintB 64 s.data.toList with
  | ok u =>
    have HP := Lib.hid hp
    have H64 := Lib.hid (parB_lt hp)
    clear hp
    obtain ⟨L, hL⟩ : ∃ L, L = s.data.toList := ⟨_, rfl⟩
    by_cases hd : Lib.decDigits u = s.data.toList
    · rw [parB_yes HP.out hd]
      have hds : (⟨(Lib.decDigits u).toArray⟩ : ByteArray) = s := by rw [hd]
      have HDS := Lib.hid hds
      clear hd hds hL
      go_enter Tryd.func30, Tryd.ntmps30
      go_wp2_with fail
      refine (Tryd.strconv_ParseUint_10_at64_ok s (by omega) u HP.out _).mono ?_
      rintro e w1 ⟨rfl, hw1⟩
      have hb1 : Below w.heap.size w w1 := by
        rcases hw1 with rfl | rfl
        · exact Below.refl _ _
        · exact Lib.bytesWorld_below _ _ _
      have HB1 := Lib.hid hb1
      clear hw1 hb1
      go_wp2_with (go_at_call 34; refine (words_Print u H64.out _ (HW.out.below HB1.out)).mono ?_; rintro e w2 ⟨rfl, hb2⟩; rw [HDS.out]; have HB2 := Lib.hid hb2; clear hb2)
      go_ret2
      exact ⟨rfl, btr HB1.out HB2.out⟩
    · rw [parB_no HP.out hd]
      have q1 : (Lib.decDigits u == s.toList) = false := by rw [ByteArray.toList_eq]; exact beq_eq_false_iff_ne.2 hd
      clear hL hd
      go_enter Tryd.func30, Tryd.ntmps30
      go_wp2_with fail
      refine (Tryd.strconv_ParseUint_10_at64_ok s (by omega) u HP.out _).mono ?_
      rintro e w1 ⟨rfl, hw1⟩
      have hb1 : Below w.heap.size w w1 := by
        rcases hw1 with rfl | rfl
        · exact Below.refl _ _
        · exact Lib.bytesWorld_below _ _ _
      have HB1 := Lib.hid hb1
      clear hw1 hb1
      go_wp2_with (go_at_call 34; refine (words_Print u H64.out _ (HW.out.below HB1.out)).mono ?_; rintro e w2 ⟨rfl, hb2⟩; have HB2 := Lib.hid hb2; clear hb2)
      go_ret2
      exact ⟨rfl, btr HB1.out HB2.out⟩
  | «syntax» =>
    rw [parB_bad (fun u h => by rw [hp] at h; cases h)]
    obtain ⟨tp, p, hv⟩ := HW.out.syn
    have HP := Lib.hid hp
    have HV := Lib.hid hv
    clear hp hv
    go_enter Tryd.func30, Tryd.ntmps30
    go_wp2_with fail
    refine (Tryd.strconv_ParseUint_10_at64_syntax_var s (by omega) HP.out tp p _ HV.out).mono ?_
    rintro e w1 ⟨N, rfl, _, _, hb1⟩
    have HB1 := Lib.hid hb1
    clear hb1
    go_wp2
    go_ret2
    exact ⟨rfl, HB1.out⟩
  | range =>
    rw [parB_bad (fun u h => by rw [hp] at h; cases h)]
    obtain ⟨tp, p, hv⟩ := HW.out.rng
    have HP := Lib.hid hp
    have HV := Lib.hid hv
    clear hp hv
    go_enter Tryd.func30, Tryd.ntmps30
    go_wp2_with fail
    refine (Tryd.strconv_ParseUint_10_at64_range_var s (by omega) HP.out tp p _ HV.out).mono ?_
    rintro e w1 ⟨N, rfl, _, _, hb1⟩
    have HB1 := Lib.hid hb1
    clear hb1
    go_wp2
    go_ret2
    exact ⟨rfl, HB1.out⟩

/-- A text's letter, as the walk writes it. -/
theorem take_letter (s : ByteArray) (k : Nat) (h : k < s.size) : s.data.toList.take (k + 1) = s.data.toList.take k ++ [s[k]] := by
  rw [List.take_succ_eq_append_getElem (by simpa using h)]; rfl

set_option maxHeartbeats 1000000 in
/-- The reference's Parse of any text. -/
theorem ref_WParse (s : ByteArray) (hz : s.size ≤ 140737488351232) (w : World) :
    Calls Tryd.prog 43 #[.string s] w fun e w' => e = .returned (oW (parW s.data.toList)) ∧ Below w.heap.size w w' := by
  have hsl : s.data.toList.length = s.size := Array.length_toList
  by_cases h20 : 20 < s.size
  · have hp : parW s.data.toList = none := by
      unfold parW
      rw [if_neg (by rw [hsl]; omega)]
    rw [hp]
    have hi : (20 : Int) < (s.size : Int) := by omega
    clear hp hsl
    go_enter Tryd.func43, Tryd.ntmps43
    go_wp2
    go_ret2
    exact ⟨rfl, Below.refl _ _⟩
  · have hi : ¬ (20 : Int) < (s.size : Int) := by omega
    have HSL := Lib.hid hsl
    clear hsl
    go_enter Tryd.func43, Tryd.ntmps43
    go_wp2
    go_loop [4, 5] (fun t i => ∃ k : Nat, k ≤ s.size ∧ i = .int .i64 k ∧ t = .int .u64 ((decN (s.data.toList.take k) : Nat) : Int)) (fun _ i => s.size - (RowKit.intOf i).toNat)
    case atStart => exact ⟨0, Nat.zero_le _, rfl, rfl⟩
    case round =>
      obtain ⟨k, hk, rfl, rfl⟩ := hrel
      by_cases hlt : k < s.size
      · have hs1 : decN (s.data.toList.take (k + 1)) = decV (decN (s.data.toList.take k)) s[k] := by rw [take_letter s k hlt, decN_snoc]
        have hv := decN_lt (s.data.toList.take k)
        have HS := Lib.hid hs1
        have HV := Lib.hid hv
        clear hs1 hv
        generalize decN (s.data.toList.take k) = v at *
        have hc := s[k].toNat_lt
        by_cases hd : 48 ≤ s[k].toNat ∧ s[k].toNat ≤ 57
        · obtain ⟨hd1, hd2⟩ := hd
          have t1 : decide (48 ≤ (s[k].toNat : Int)) = true := by simp; omega
          have t2 : decide ((s[k].toNat : Int) ≤ 57) = true := by simp; omega
          have e : Hid (IntKind.u64.wrap (IntKind.u64.wrap ((v : Int) * 10) + ((s[k].toNat : Int) - 48)) = ((decV v s[k] : Nat) : Int)) := Lib.hid (by
            unfold decV
            rw [if_pos ⟨hd1, hd2⟩, IntKind.wrap_u64, IntKind.wrap_u64]
            omega)
          go_wp2
          all_goals
            go_round
            case rel => exact ⟨k + 1, by omega, by go_num, by rw [HS.out, ← e.out]⟩
            case measure => simp [RowKit.intOf]; omega
        · have e : Hid (decV v s[k] = v) := Lib.hid (by unfold decV; rw [if_neg hd])
          by_cases h1 : 48 ≤ s[k].toNat
          · have h2 : 57 < s[k].toNat := by omega
            have t1 : decide (48 ≤ (s[k].toNat : Int)) = true := by simp; omega
            have t2 : decide ((s[k].toNat : Int) ≤ 57) = false := by simp; omega
            clear hd
            go_wp2
            go_round
            case rel => exact ⟨k + 1, by omega, by go_num, by rw [HS.out, e.out]⟩
            case measure => simp [RowKit.intOf]; omega
          · have t1 : decide (48 ≤ (s[k].toNat : Int)) = false := by simp; omega
            clear hd
            go_wp2
            go_round
            case rel => exact ⟨k + 1, by omega, by go_num, by rw [HS.out, e.out]⟩
            case measure => simp [RowKit.intOf]; omega
      · have htk : s.data.toList.take k = s.data.toList := List.take_of_length_le (by rw [HSL.out]; omega)
        rw [htk]
        have hv := decN_lt s.data.toList
        have hpw : parW s.data.toList = if Lib.decDigits (decN s.data.toList) = s.data.toList then some (decN s.data.toList) else none := by
          unfold parW
          by_cases h : Lib.decDigits (decN s.data.toList) = s.data.toList
          · rw [if_pos h, if_pos ⟨by rw [HSL.out]; omega, h⟩]
          · rw [if_neg h, if_neg (fun h' => h h'.2)]
        have HPW := Lib.hid hpw
        have HV := Lib.hid hv
        clear htk hpw hv
        obtain ⟨v, hv⟩ : ∃ v, v = decN s.data.toList := ⟨_, rfl⟩
        rw [← hv]
        have HVE := Lib.hid hv
        clear hv
        obtain ⟨wq, rfl⟩ : ∃ wq : World, wq = w := ⟨_, rfl⟩
        by_cases hd : Lib.decDigits v = s.data.toList
        · have hds : (⟨(Lib.decDigits v).toArray⟩ : ByteArray) = s := by rw [hd]
          have HDS := Lib.hid hds
          have hpo : parW s.data.toList = some v := by rw [HPW.out, ← HVE.out, if_pos hd]
          have HPO := Lib.hid hpo
          clear hds hpo hd
          go_wp2_with (go_at_call 51; refine (ref_WPrint v (by rw [HVE.out]; exact HV.out) _).mono ?_; rintro e w2 ⟨rfl, hb2⟩; rw [HDS.out]; have HB2 := Lib.hid hb2; clear hb2)
          go_ret2
          exact ⟨by rw [HPO.out]; rfl, HB2.out⟩
        · have q1 : (Lib.decDigits v == s.toList) = false := by rw [ByteArray.toList_eq]; exact beq_eq_false_iff_ne.2 hd
          have hpo : parW s.data.toList = none := by rw [HPW.out, ← HVE.out, if_neg hd]
          have HPO := Lib.hid hpo
          clear hpo hd
          go_wp2_with (go_at_call 51; refine (ref_WPrint v (by rw [HVE.out]; exact HV.out) _).mono ?_; rintro e w2 ⟨rfl, hb2⟩; have HB2 := Lib.hid hb2; clear hb2)
          go_ret2
          exact ⟨by rw [HPO.out]; rfl, HB2.out⟩

end Go.Proofs.YtlbiahpajcfcfaaDoor
