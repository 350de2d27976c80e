/- The reference's width, pushed. -/
import Derived.Test.YtlbiahpajcfcfaaDoorOpRPiece
import Derived.Test.YtlbiahpajcfcfaaDoorOpPush
import Derived.Test.YtlbiahpajcfcfaaDoorOpReadP
namespace Go.Proofs.YtlbiahpajcfcfaaDoor
open Go.ChangeShapes Go.WideShapes Go.ChangeAt Go.RowKit
set_option linter.unusedVariables false
set_option maxRecDepth 100000
attribute [local go_sem ↓] Go.wp_at_zero Go.wp_at_succ

set_option maxHeartbeats 2000000 in
theorem ref_width (l : List UInt8) (hz : l.length ≤ 140737488351232) (w : World) : Calls Tryd.prog 42 #[.string ⟨l.toArray⟩] w fun e w' => e = .returned (.int .i64 (widthG l : Int)) ∧ w' = w := by
  by_cases h5 : l.length = 5
  · obtain ⟨a, b, c, d, e, rfl⟩ : ∃ a b c d e, l = [a, b, c, d, e] := by
      match l, h5 with
      | [a, b, c, d, e], _ => exact ⟨a, b, c, d, e, rfl⟩
    have hex : (ByteArray.mk (List.toArray [a, b, c, d, e])).extract 0 4 = ⟨#[a, b, c, d]⟩ := by
      apply ByteArray.ext
      rw [ByteArray.data_extract]
      simp
    have hwg : widthG [a, b, c, d, e] = if [a, b, c, d] = pushW then (if 49 ≤ e.toNat ∧ e.toNat ≤ 56 then e.toNat - 48 else 0) else 0 := by
      unfold widthG
      simp
    have HW := Go.Lib.hid hwg
    have he := e.toNat_lt
    have h4 : 4 < (ByteArray.mk #[a, b, c, d, e]).size := by simp [ByteArray.size]
    have e4 : (ByteArray.mk #[a, b, c, d, e])[4]'h4 = e := rfl
    clear h5 hwg hz
    by_cases hp : [a, b, c, d] = pushW
    · have hq : ([a, b, c, d] == [112, 117, 115, 104]) = true := by rw [hp]; rfl
      have HP := Go.Lib.hid hp
      clear hp
      by_cases h49 : 49 ≤ e.toNat
      · by_cases h56 : e.toNat ≤ 56
        · have t1 : decide (49 ≤ (e.toNat : Int)) = true := by simp; omega
          have t2 : decide ((e.toNat : Int) ≤ 56) = true := by simp; omega
          go_enter Tryd.func42, Tryd.ntmps42
          go_wp2_with fail
          go_ret
          exact ⟨by rw [HW.out, if_pos HP.out, if_pos ⟨h49, h56⟩, show ((e.toNat - 48 : Nat) : Int) = (e.toNat : Int) - 48 by omega]; rfl, rfl⟩
        · have t1 : decide (49 ≤ (e.toNat : Int)) = true := by simp; omega
          have t2 : decide ((e.toNat : Int) ≤ 56) = false := by simp; omega
          go_enter Tryd.func42, Tryd.ntmps42
          go_wp2_with fail
          go_ret
          exact ⟨by rw [HW.out, if_pos HP.out, if_neg (by omega)]; rfl, rfl⟩
      · have t1 : decide (49 ≤ (e.toNat : Int)) = false := by simp; omega
        go_enter Tryd.func42, Tryd.ntmps42
        go_wp2_with fail
        go_ret
        exact ⟨by rw [HW.out, if_pos HP.out, if_neg (by omega)]; rfl, rfl⟩
    · have hq : ([a, b, c, d] == [112, 117, 115, 104]) = false := by simpa [pushW] using hp
      have HP := Go.Lib.hid hp
      clear hp
      go_enter Tryd.func42, Tryd.ntmps42
      go_wp2_with fail
      go_ret
      exact ⟨by rw [HW.out, if_neg HP.out]; rfl, rfl⟩
  · have hwg : widthG l = 0 := by unfold widthG; rw [if_neg (fun h => h5 h.1)]
    have hsz : (ByteArray.mk l.toArray).size = l.length := by simp [ByteArray.size]
    have hq : ((l.length : Int) == 5) = false := beq_eq_false_iff_ne.2 (by omega)
    rw [hwg]
    clear hwg h5
    go_enter Tryd.func42, Tryd.ntmps42
    go_wp2_with fail
    go_ret
    exact ⟨rfl, rfl⟩

theorem key_at (n i : Nat) (hi : i < 8) : ∃ x : UInt8, (be 8 n)[i]? = some x ∧ (bs (be 8 n))[i]? = some (.int .u8 (x.toNat : Int)) := by
  have hl : i < (be 8 n).length := by simp; exact hi
  refine ⟨(be 8 n)[i], List.getElem?_eq_getElem hl, ?_⟩
  rw [bs, List.getElem?_map, List.getElem?_eq_getElem hl]
  rfl
def PushedP (n k : Nat) (w : World) (r : Ending) (w' : World) : Prop := ∃ A c, r = .returned (.tuple #[.slice A k c, .bool true]) ∧ Rd w' A (bs ((be 8 n).drop (8 - k))) ∧ k ≤ c ∧ c ≤ 9223372036854775807 ∧ Below w.heap.size w w'
def UnpushedP (w : World) (r : Ending) (w' : World) : Prop := r = .returned (.tuple #[.slice none 0 0, .bool false]) ∧ Below w.heap.size w w'

set_option maxHeartbeats 4000000 in
theorem ref_pushed (n k : Nat) (hn : n < 18446744073709551616) (h1 : 1 ≤ k) (h8 : k ≤ 8) (w : World) :
    Calls Tryd.prog 45 #[.int .u64 (n : Int), .int .i64 (k : Int)] w fun r w' => (leastN n ≤ k → PushedP n k w r w') ∧ (¬ leastN n ≤ k → UnpushedP w r w') := by
  have HZ := Go.Lib.hid (zeros_least hn h1 h8)
  go_enter Tryd.func45, Tryd.ntmps45
  go_wp2_with (go_at_call 58; refine (ref_WKey n hn _).mono ?_; rintro _ w3 ⟨A3, c3, rfl, hown3, hb3⟩; have HO3 := Go.Lib.hid hown3; have HB3 := Go.Lib.hid hb3; have hc3 := hown3.cap; clear hown3 hb3)
  go_loop [7] (fun v => ∃ i : Nat, v = .int .i64 i ∧ i ≤ 8 - k ∧ Hid (∀ j, j < i → (be 8 n)[j]? = some 0)) (fun v => 8 - k - (intOf v).toNat)
  case atStart => exact ⟨0, rfl, Nat.zero_le _, Go.Lib.hid (by omega)⟩
  case round =>
    obtain ⟨i, rfl, hi, HE⟩ := hrel
    have hi0 : (0 : Int) ≤ (i : Int) := by omega
    by_cases hlt : i < 8 - k
    · have hli : (i : Int) < 8 - (k : Int) := by omega
      obtain ⟨x, hx, hxc⟩ := key_at n i (by omega)
      obtain ⟨g, off, rfl, hg, hcell⟩ := HO3.out.rd.at_ (by simp)
      have hx0 := hcell i _ hxc
      have hx256 := x.toNat_lt
      clear hcell hxc
      by_cases hz : x = 0
      · subst hz
        have HX := Go.Lib.hid hx
        clear hx
        have hx1 : w3.cell? ⟨g, off + i, none⟩ = some (.int .u8 0) := hx0
        clear hx0
        go_wp2_with fail
        go_round
        case rel =>
          refine ⟨i + 1, by go_num, by omega, Go.Lib.hid ?_⟩
          intro j hj
          by_cases hji : j = i
          · rw [hji]; exact HX.out
          · exact HE.out j (by omega)
        case measure => simp [intOf]; omega
      · have hxn : ((x.toNat : Int) == 0) = false := beq_eq_false_iff_ne.2 (by
          intro h
          apply hz
          apply UInt8.toNat_inj.1
          have : x.toNat = 0 := by omega
          rw [this]; rfl)
        have HNO := Go.Lib.hid (show ¬ leastN n ≤ k by
          intro h
          have h2 := HZ.out.2 h i hlt
          rw [hx] at h2
          injection h2 with h2
          exact hz h2)
        clear hz hx
        go_wp2_with fail
        refine bodyPost_ret (v := .tuple #[.slice none 0 0, .bool false]) (by simp [results, Tryd.results45, go_sem]) rfl ⟨fun h => absurd h HNO.out, fun _ => ⟨rfl, HB3.out⟩⟩
    · have hi8 : i = 8 - k := by omega
      have hli : ¬ ((i : Int) < 8 - (k : Int)) := by omega
      have HYES := Go.Lib.hid (show leastN n ≤ k from HZ.out.1 (by rw [← hi8]; exact HE.out))
      obtain ⟨A5, hA5, hsl⟩ := slice_from (P := Tryd.prog) 32 Tryd.underlying32 Tryd.sizeOf5 A3 8 c3 (8 - k) (8 - (k : Int)) (by omega) (by omega)
      have hsl2 : ∀ w, (Instr.slice 32 (.slice A3 8 c3) (some (.int .i64 (8 - (k : Int)))) none none).run Tryd.prog w = .ok (.slice A5 k (c3 - (8 - k))) w := by
        intro w
        have h := hsl w
        rw [show 8 - (8 - k) = k by omega] at h
        exact h
      clear hsl hi8
      go_wp2_with fail
      refine bodyPost_ret (v := .tuple #[.slice A5 k (c3 - (8 - k)), .bool true]) (by simp [results, Tryd.results45, go_sem]) rfl ⟨fun _ => ?_, fun h => absurd HYES.out (by omega)⟩
      exact ⟨A5, _, rfl, HO3.out.rd_from hA5.out (by omega), by omega, by omega, HB3.out⟩

end Go.Proofs.YtlbiahpajcfcfaaDoor
