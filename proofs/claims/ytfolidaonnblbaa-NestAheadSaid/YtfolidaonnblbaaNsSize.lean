/- The program's reader of items: size. -/
import Derived.Test.YtfolidaonnblbaaNsRead
import Derived.BigQuiet
import Derived.Deep.QuietTactic
namespace Go.Proofs.Ytfolidaonnblbaa
open Go.ChangeShapes Go.WideShapes Go.RowKit
set_option linter.unusedVariables false

theorem or_byte64 (a b : Int) (h0 : 0 ≤ a) (h1 : a ≤ 65535) (h2 : 0 ≤ b) (h3 : b ≤ 255) : bits .or .i64 (a * 256) b = a * 256 + b := by
  obtain ⟨n, rfl⟩ := Int.eq_ofNat_of_zero_le h0
  obtain ⟨m, rfl⟩ := Int.eq_ofNat_of_zero_le h2
  have hx : (n * 256) ||| m < 2 ^ 63 := Nat.or_lt_two_pow (by omega) (by omega)
  have ha : (BitVec.ofInt 64 ((n : Int) * 256)).toNat = n * 256 := by
    rw [show ((n : Int) * 256) = ((n * 256 : Nat) : Int) from by omega]
    exact ofInt_u64 _ (by omega)
  show IntKind.i64.wrap ((BitVec.ofInt 64 ((n : Int) * 256) ||| BitVec.ofInt 64 (m : Int)).toNat : Int) = _
  rw [BitVec.toNat_or, ha, ofInt_u64 m (by omega), IntKind.wrap_i64, nat_join 8 _ _ (by omega) (by omega)]
  omega

theorem beL_append (a : Nat) : ∀ (xs : List UInt8) (c : UInt8), beL a (xs ++ [c]) = beL a xs * 256 + c.toNat
  | [], c => rfl
  | x :: xs, c => by simpa [beL] using beL_append (a * 256 + x.toNat) xs c
theorem beL_bd : ∀ (xs : List UInt8) (a k : Nat), a < 256 ^ k → beL a xs < 256 ^ (k + xs.length)
  | [], a, k, h => by simpa [beL] using h
  | x :: xs, a, k, h => by
    have hx := x.toNat_lt
    have h2 : a * 256 + x.toNat < 256 ^ (k + 1) := by rw [Nat.pow_succ]; omega
    have := beL_bd xs _ _ h2
    rw [List.length_cons, show k + (xs.length + 1) = k + 1 + xs.length from by omega]
    exact this
theorem beL_small (xs : List UInt8) (h : xs.length ≤ 3) : beL 0 xs ≤ 16777215 := by
  have h1 := beL_bd xs 0 0 (by decide)
  have h2 : 256 ^ (0 + xs.length) ≤ 256 ^ 3 := Nat.pow_le_pow_right (by decide) (by omega)
  have h3 : 256 ^ 3 = 16777216 := by decide
  omega
theorem beL_small2 (xs : List UInt8) (h : xs.length ≤ 2) : beL 0 xs ≤ 65535 := by
  have h1 := beL_bd xs 0 0 (by decide)
  have h2 : 256 ^ (0 + xs.length) ≤ 256 ^ 2 := Nat.pow_le_pow_right (by decide) (by omega)
  have h3 : 256 ^ 2 = 65536 := by decide
  omega
theorem take_snoc (xs : List UInt8) (k : Nat) (h : k < xs.length) : xs.take (k + 1) = xs.take k ++ [xs.getD k 0] := by
  rw [List.take_succ_eq_append_getElem h]
  simp [List.getD, h]
theorem pSize_le {n : Nat} {b : List UInt8} {m k : Nat} (h : pSize n b = .ok (m, k)) : m ≤ 16777215 := by
  have h1 := pSize_ok h
  rcases h1.2.2 with h2 | h2
  · omega
  · rw [h2.2.2.2.1]
    exact beL_small _ (by rw [List.length_take]; omega)

/-- What size answers. -/
def SizeP (rb : Nat) (xs : List UInt8) (w : World) (p : Except Int (Nat × Nat)) (r : Ending) (w' : World) : Prop :=
  match p with
  | .ok (m, k) => r = .returned (.tuple #[.int .i64 m, .bool true]) ∧ RdrAt w' rb (xs.drop k) 0 ∧ Kp (fun k => k = rb) w w'
  | .error e => r = .returned (.tuple #[.int .i64 0, .bool false]) ∧ (∃ ys, RdrAt w' rb ys e) ∧ Kp (fun k => k = rb) w w'

theorem Kp.same {S : Nat → Prop} {a b c : World} (h : Kp S a b) (k : Kp S b c) : Kp S a c := h.then k fun _ _ s => s

set_option maxHeartbeats 1000000 in
theorem nest_size (rb : Nat) (xs : List UInt8) (n : Nat) (N : Int) (w : World) (h : RdrAt w rb xs 0) (hN : N = n) (hn : n ≤ 127) :
    Calls Try.prog 39 #[.pointer (some ⟨rb, 0, none⟩), .int .i64 N] w (SizeP rb xs w (pSize n xs)) := by
  subst hN
  unfold pSize
  by_cases h1 : n ≤ 55
  · rw [if_pos h1]
    have H := Go.Lib.hid h
    clear h
    go_enter Try.func39, Try.ntmps39
    go_wp2
    go_ret2
    exact ⟨rfl, H.out, Kp.refl _ _⟩
  rw [if_neg h1]
  by_cases h2 : 58 < n
  · rw [if_pos h2]
    obtain ⟨A, n', c, hb, hn', hnc, hc, hr, hap⟩ := h
    have HB := Go.Lib.hid hb
    have HN := Go.Lib.hid hn'
    have HR := Go.Lib.hid hr
    have HA := Go.Lib.hid hap
    clear hb hn' hr hap
    go_enter Try.func39, Try.ntmps39
    go_wp2_with (go_at_call 37; refine (nest_fail rb A n' c 23 _ (by exact HB.out)).mono ?_; rintro e w1 ⟨rfl, h1, hk⟩)
    go_ret2
    exact ⟨rfl, ⟨xs, A, n', c, h1, HN.out, hnc, hc, rd_far1 HR.out hk HA.out, HA.out⟩, hk⟩
  rw [if_neg h2]
  have e1 : ((n : Int) - 55) = ((n - 55 : Nat) : Int) := by omega
  by_cases h3 : xs.length < n - 55
  · rw [if_pos h3]
    have H := Go.Lib.hid h
    have E := Go.Lib.hid e1
    clear h e1
    go_enter Try.func39, Try.ntmps39
    go_wp2_with (go_at_call 36; refine (nest_take_no rb xs (n - 55) _ _ (by exact H.out) (by omega) h3).mono ?_; rintro e w1 ⟨rfl, h1, hk⟩)
    go_ret2
    exact ⟨rfl, ⟨xs, h1⟩, hk⟩
  rw [if_neg h3]
  have H := Go.Lib.hid h
  clear h
  obtain ⟨k, hk⟩ : ∃ k, k = n - 55 := ⟨_, rfl⟩
  have hk3 : 1 ≤ k ∧ k ≤ 3 := by omega
  obtain ⟨hk1, hk3⟩ := hk3
  rw [← hk]
  have hkl : k ≤ xs.length := by omega
  have E : Hid ((n : Int) - 55 = (k : Int)) := Go.Lib.hid (by omega)
  have b1 : decide ((n : Int) ≤ 55) = false := by simp; omega
  have b2 : decide (58 < (n : Int)) = false := by simp; omega
  have hn2 : n ≤ 58 := by omega
  have hn3 : 56 ≤ n := by omega
  clear hk e1 h1 h2 h3
  generalize hP : (if xs.headD 0 = 0 ∨ beL 0 (xs.take k) ≤ 55 then (.error 23 : Except Int (Nat × Nat)) else .ok (beL 0 (xs.take k), k)) = P
  have HP := Go.Lib.hid hP
  clear hP
  go_enter Try.func39, Try.ntmps39
  go_wp2_with fail
  refine (nest_take rb xs k _ _ (by exact H.out) E.out hkl).mono ?_
  rintro e w1 ⟨A, c, rfl, hkc, hc, hr, hap, hra, hkp⟩
  have hlk : (bs (xs.take k)).length = k := by simp; omega
  obtain ⟨g, off, rfl, hg, hcell⟩ := hr.at_ (by omega)
  have HL := Go.Lib.hid hlk
  have HA := Go.Lib.hid hra
  have HK := Go.Lib.hid hkp
  have HC := Go.Lib.hid hcell
  clear hlk hra hkp hcell hap hr
  go_wp2
  go_loop [1, 28] (fun t i => ∃ j : Nat, j ≤ k ∧ i = .int .i64 j ∧ t = .int .i64 ((beL 0 (xs.take j) : Nat) : Int)) (fun _ i => k - (intOf i).toNat)
  case atStart => exact ⟨0, by omega, rfl, rfl⟩
  case round =>
    obtain ⟨j, hj, rfl, rfl⟩ := hrel
    have hbd := beL_small (xs.take j) (by rw [List.length_take]; omega)
    by_cases hlt : j < k
    · have hc1 := HC.out j _ (bs_at (xs.take k) j (by rw [List.length_take]; omega))
      have hb1 := byteF_bd (xs.take k) j
      have hbd2 := beL_small2 (xs.take j) (by rw [List.length_take]; omega)
      go_wp2
      go_round
      case rel =>
        refine ⟨j + 1, by omega, by go_num, ?_⟩
        rw [take_snoc _ _ (by omega), beL_append, or_byte64 _ _ (by omega) (by omega) hb1.1 hb1.2]
        simp [byteF, List.getD, hlt]
      case measure => simp [intOf]; omega
    · obtain rfl : j = k := by omega
      have hc0 := HC.out 0 _ (bs_at (xs.take j) 0 (by rw [List.length_take]; omega))
      have hb0 := byteF_bd (xs.take j) 0
      have e0 : byteF (xs.take j) 0 = ((xs.headD 0).toNat : Int) := by
        cases xs with
        | nil => simp at hkl; omega
        | cons x xs => 
          have : 0 < j := by omega
          simp [byteF, List.getD, this]
      have E0 := Go.Lib.hid e0
      obtain ⟨A2, n2, c2, hb, hn', hnc, hc', hr, hap⟩ := HA.out
      clear hlt e0
      rw [Nat.add_zero] at hc0
      have HB := Go.Lib.hid hb
      have HN := Go.Lib.hid hn'
      have HR := Go.Lib.hid hr
      have HAP := Go.Lib.hid hap
      clear hb hn' hr hap
      have fin : (xs.headD 0 = 0 ∨ beL 0 (xs.take j) ≤ 55) → P = .error 23 := fun h => by rw [← HP.out, if_pos h]
      have fin2 : ¬ (xs.headD 0 = 0 ∨ beL 0 (xs.take j) ≤ 55) → P = .ok (beL 0 (xs.take j), j) := fun h => by rw [← HP.out, if_neg h]
      have F1 := Go.Lib.hid fin
      have F2 := Go.Lib.hid fin2
      clear fin fin2
      by_cases hz : byteF (xs.take j) 0 = 0
      · have hzb : (byteF (xs.take j) 0 == 0) = true := by simpa using hz
        have HZ := Go.Lib.hid hz
        clear hz
        go_wp2_with (go_at_call 37; refine (nest_fail rb A2 n2 c2 23 _ (by exact HB.out)).mono ?_; rintro e w2 ⟨rfl, h1, hk⟩)
        go_ret2
        rw [F1.out (.inl (by have h1 := HZ.out; rw [E0.out] at h1; exact UInt8.toNat_inj.1 (by simpa using h1)))]
        exact ⟨rfl, ⟨_, A2, n2, c2, h1, HN.out, hnc, hc', rd_far1 HR.out hk HAP.out, HAP.out⟩, HK.out.same hk⟩
      · have hzb : (byteF (xs.take j) 0 == 0) = false := by simpa using hz
        have hzx : xs.headD 0 ≠ 0 := by
          intro h
          apply hz
          rw [E0.out, h]
          rfl
        have HZ := Go.Lib.hid hzx
        clear hz hzx
        by_cases hle : beL 0 (xs.take j) ≤ 55
        · have hleb : decide (((beL 0 (xs.take j) : Nat) : Int) ≤ 55) = true := by simp; omega
          go_wp2_with (go_at_call 37; refine (nest_fail rb A2 n2 c2 23 _ (by exact HB.out)).mono ?_; rintro e w2 ⟨rfl, h1, hk⟩)
          go_ret2
          rw [F1.out (.inr hle)]
          exact ⟨rfl, ⟨_, A2, n2, c2, h1, HN.out, hnc, hc', rd_far1 HR.out hk HAP.out, HAP.out⟩, HK.out.same hk⟩
        · have hleb : decide (((beL 0 (xs.take j) : Nat) : Int) ≤ 55) = false := by simp; omega
          go_wp2
          go_ret2
          rw [F2.out (fun h => by
            rcases h with h | h
            · exact HZ.out h
            · exact hle h)]
          exact ⟨rfl, HA.out, HK.out⟩

end Go.Proofs.Ytfolidaonnblbaa
