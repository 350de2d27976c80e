/- opcode.pushing. -/
import Derived.Test.YtlbiahpajcfcfaaDoorOpWide
import Derived.Deep.DeepCutAuto
namespace Go.Proofs.YtlbiahpajcfcfaaDoor
open Go.ChangeShapes Go.WideShapes Go.ChangeAt Go.RowKit
set_option linter.unusedVariables false
set_option maxRecDepth 100000
attribute [local go_sem ↓] Go.wp_at_zero Go.wp_at_succ

def OutB (o : Option (List UInt8)) (w : World) (r : Ending) (w' : World) : Prop :=
  (match o with
    | none => r = .returned (.tuple #[.slice none 0 0, .bool false])
    | some b => ∃ A c, r = .returned (.tuple #[.slice A b.length c, .bool true]) ∧ Own w' w.heap.size 5 1 A b.length c (bs b)) ∧ Below w.heap.size w w'

theorem Own.rd_from {w : World} {base c : Nat} {E : TypeId} {A A5 : Option Addr} {xs : List UInt8} {n l : Nat} (h : Own w base E 1 A n c (bs xs)) (hA : A5 = if c = l then A else A.map (·.add l)) (hl : l ≤ n) : Rd w A5 (bs (xs.drop l)) := by
  have := (h.cut l hl).rd
  rw [← hA, ← bs_drop] at this
  exact this
theorem own_pushed {w w3 w4 : World} {v : Int} {x : UInt8} {E : TypeId} (hb3 : Below w.heap.size w w3) (hb4 : Below (w3.alloc (.cells #[.int .u8 v] E)).heap.size (w3.alloc (.cells #[.int .u8 v] E)) w4) (hx : v = (x.toNat : Int)) : Own w4 w.heap.size E 1 (some ⟨w3.heap.size, 0, none⟩) 1 1 (bs [x]) := by
  subst hx
  exact (own_made w3 w.heap.size E 1 #[.int .u8 (x.toNat : Int)] 1 1 hb3.size (by decide) (by decide) (by rfl)).below hb4
theorem toNat_small (n : Nat) (h : n < 256) : (UInt8.ofNat n).toNat = n := by simp; omega
theorem OutB.ok {n k K : Nat} {w w6 : World} {A6 : Option Addr} {c6 : Nat} (he : pushG n k = some (UInt8.ofNat (32 + K - 1) :: (be 8 n).drop (8 - K))) {xb : UInt8} (hx : xb = UInt8.ofNat (32 + K - 1)) (ho : Own w6 w.heap.size 5 1 A6 (1 + (8 - (8 - K))) c6 (bs [xb] ++ bs ((be 8 n).drop (8 - K)))) (hb : Below w.heap.size w w6) (hK : K ≤ 8) :
    OutB (pushG n k) w (.returned (.tuple #[.slice A6 (1 + (8 - (8 - K))) c6, .bool true])) w6 := by
  subst hx
  rw [he]
  have hl : (UInt8.ofNat (32 + K - 1) :: (be 8 n).drop (8 - K)).length = 1 + (8 - (8 - K)) := by simp; omega
  refine ⟨⟨A6, c6, ?_, ?_⟩, hb⟩
  · rw [hl]
  · rw [hl]
    rw [← bs_append] at ho
    exact ho

set_option maxHeartbeats 4000000 in
theorem op_pushing (n k : Nat) (hk : k ≤ 8) (w : World) : Calls Tryd.prog 40 #[.int .u64 (n : Int), .int .i64 (k : Int)] w (OutB (pushG n k) w) := by
  have hl8 := wbytes_len n
  obtain ⟨i0, hi, hz0, hz1, hz2⟩ := info_parts wd_u8
  obtain ⟨m, hm⟩ : ∃ m, m = (wbytes n).length := ⟨_, rfl⟩
  obtain ⟨q, hq⟩ : ∃ q, q = leastN n := ⟨_, rfl⟩
  have HM := Go.Lib.hid hm
  have hls : q = max m 1 := by rw [hq, leastN, hm]
  have HQ := Go.Lib.hid hq
  rw [← hm] at hl8
  have hmx : max (m : Int) 1 = (q : Int) := by omega
  have hq1 : 1 ≤ q := by omega
  have hq8 : q ≤ 8 := by omega
  clear hm hls hq
  by_cases hk0 : k = 0
  · have HE := Go.Lib.hid (show pushG n k = some (UInt8.ofNat (32 + q - 1) :: (be 8 n).drop (8 - q)) by
      unfold pushG
      rw [hk0, if_pos rfl, ← HQ.out, if_neg (by omega)])
    subst hk0
    obtain ⟨xb, hxb⟩ : ∃ x, x = UInt8.ofNat (32 + q - 1) := ⟨_, rfl⟩
    have HX := Go.Lib.hid (And.intro hxb (show (32 + (q : Int) - 1) = (xb.toNat : Int) by rw [hxb, toNat_small _ (by omega)]; omega))
    clear hxb
    go_enter Tryd.func40, Tryd.ntmps40
    go_wp2_with (first | (go_at_call 47; refine (words_Bytes n _).mono ?_; rintro _ w3 ⟨A3, m3, c3, rfl, hm3, hown3, hb3⟩; rw [← HM.out] at hm3; subst hm3; have HB3 := Go.Lib.hid hb3; clear hb3 hown3) | (go_at_call 56; refine (words_Key n _).mono ?_; rintro _ w4 ⟨A4, rfl, hown4, hb4⟩; have HO4 := Go.Lib.hid hown4; have HB4 := Go.Lib.hid hb4; clear hown4 hb4; obtain ⟨A5, hA5, hsl⟩ := slice_from (P := Tryd.prog) 32 Tryd.underlying32 Tryd.sizeOf5 A4 8 8 (8 - q) (8 - (q : Int)) (by omega) (by omega)) | (at_builtin; go_loud (refine wpList_append_o _ rfl _ _ 32 rfl 5 i0 (.int .u8 0) 1 1 Tryd.underlying32 hi hz0 hz1 hz2 rfl (by decide) w.heap.size _ 1 1 (bs [xb]) rfl (own_pushed HB3.out HB4.out HX.out.2) A5 (8 - (8 - q)) (8 - (8 - q)) (bs ((be 8 n).drop (8 - q))) rfl (by simp) (HO4.out.rd_from hA5.out (by omega)) (bs_one _) (by omega) (by unfold maxLen; omega) (btr (bal HB3.out _) HB4.out).size ?_)))
    intro A6 c6 w6 hown6 hkp6 hlie6
    have hk6 := Kp.below (btr (bal HB3.out _) HB4.out) hkp6 (fun i h => by have h2 : i = w3.heap.size := h; have := HB3.out.size; omega)
    have HO6 := Go.Lib.hid hown6
    have HK6 := Go.Lib.hid hk6
    clear hown6 hkp6 hlie6 hk6
    go_wp2_with fail
    refine bodyPost_ret (v := .tuple #[.slice A6 (1 + (8 - (8 - q))) c6, .bool true]) (by simp [results, Tryd.results40, go_sem]) rfl (OutB.ok HE.out HX.out.1 HO6.out HK6.out (by omega))
  · have hk1 : ¬ ((k : Int) = 0) := by omega
    by_cases hkq : k < q
    · have hkq' : (k : Int) < (q : Int) := by omega
      have HE := Go.Lib.hid (show pushG n k = none by
        unfold pushG
        rw [if_neg hk0, ← HQ.out, if_pos hkq])
      clear hk0 hkq
      go_enter Tryd.func40, Tryd.ntmps40
      go_wp2_with (first | (go_at_call 47; refine (words_Bytes n _).mono ?_; rintro _ w3 ⟨A3, m3, c3, rfl, hm3, hown3, hb3⟩; rw [← HM.out] at hm3; subst hm3; have HB3 := Go.Lib.hid hb3; clear hb3 hown3))
      refine bodyPost_ret (v := .tuple #[.slice none 0 0, .bool false]) (by simp [results, Tryd.results40, go_sem]) rfl ⟨by rw [HE.out], HB3.out⟩
    · have hkq' : ¬ ((k : Int) < (q : Int)) := by omega
      have hkp : 1 ≤ k := by omega
      have HE := Go.Lib.hid (show pushG n k = some (UInt8.ofNat (32 + k - 1) :: (be 8 n).drop (8 - k)) by
        unfold pushG
        rw [if_neg hk0, ← HQ.out, if_neg hkq])
      clear hk0 hkq
      obtain ⟨xb, hxb⟩ : ∃ x, x = UInt8.ofNat (32 + k - 1) := ⟨_, rfl⟩
      have HX := Go.Lib.hid (And.intro hxb (show (32 + (k : Int) - 1) = (xb.toNat : Int) by rw [hxb, toNat_small _ (by omega)]; omega))
      clear hxb
      go_enter Tryd.func40, Tryd.ntmps40
      go_wp2_with (first | (go_at_call 47; refine (words_Bytes n _).mono ?_; rintro _ w3 ⟨A3, m3, c3, rfl, hm3, hown3, hb3⟩; rw [← HM.out] at hm3; subst hm3; have HB3 := Go.Lib.hid hb3; clear hb3 hown3) | (go_at_call 56; refine (words_Key n _).mono ?_; rintro _ w4 ⟨A4, rfl, hown4, hb4⟩; have HO4 := Go.Lib.hid hown4; have HB4 := Go.Lib.hid hb4; clear hown4 hb4; obtain ⟨A5, hA5, hsl⟩ := slice_from (P := Tryd.prog) 32 Tryd.underlying32 Tryd.sizeOf5 A4 8 8 (8 - k) (8 - (k : Int)) (by omega) (by omega)) | (at_builtin; go_loud (refine wpList_append_o _ rfl _ _ 32 rfl 5 i0 (.int .u8 0) 1 1 Tryd.underlying32 hi hz0 hz1 hz2 rfl (by decide) w.heap.size _ 1 1 (bs [xb]) rfl (own_pushed HB3.out HB4.out HX.out.2) A5 (8 - (8 - k)) (8 - (8 - k)) (bs ((be 8 n).drop (8 - k))) rfl (by simp) (HO4.out.rd_from hA5.out (by omega)) (bs_one _) (by omega) (by unfold maxLen; omega) (btr (bal HB3.out _) HB4.out).size ?_)))
      intro A6 c6 w6 hown6 hkp6 hlie6
      have hk6 := Kp.below (btr (bal HB3.out _) HB4.out) hkp6 (fun i h => by have h2 : i = w3.heap.size := h; have := HB3.out.size; omega)
      have HO6 := Go.Lib.hid hown6
      have HK6 := Go.Lib.hid hk6
      clear hown6 hkp6 hlie6 hk6
      go_wp2_with fail
      refine bodyPost_ret (v := .tuple #[.slice A6 (1 + (8 - (8 - k))) c6, .bool true]) (by simp [results, Tryd.results40, go_sem]) rfl (OutB.ok HE.out HX.out.1 HO6.out HK6.out (by omega))

end Go.Proofs.YtlbiahpajcfcfaaDoor
