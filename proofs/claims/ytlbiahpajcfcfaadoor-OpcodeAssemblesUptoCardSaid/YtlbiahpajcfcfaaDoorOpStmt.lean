/- The reference's statement: the bytes of a statement that begins with a word. -/
import Derived.Test.YtlbiahpajcfcfaaDoorOpNext
import Derived.Test.YtlbiahpajcfcfaaDoorOpPushed
import Derived.Test.YtlbiahpajcfcfaaDoorOpStmtP
import Derived.Test.YtlbiahpajcfcfaaDoorOpNum
import Derived.Test.YtlbiahpajcfcfaaDoorWdPar
namespace Go.Proofs.YtlbiahpajcfcfaaDoor
open Go.ChangeShapes Go.WideShapes Go.ChangeAt Go.RowKit
set_option linter.unusedVariables false
set_option maxRecDepth 100000
attribute [local go_sem ↓] Go.wp_at_zero Go.wp_at_succ

def OkS (b : List UInt8) (g : Nat) (s : ByteArray) (a t : Nat) (w : World) (r : Ending) (w' : World) : Prop :=
  ∃ A c, r = .returned (.tuple #[.slice A b.length c, .int .i64 0]) ∧ Rd w' A (bs b) ∧ b.length ≤ c ∧ c ≤ 9223372036854775807 ∧ RBox w' g s a t ∧ Kp (fun i => i = g) w w'
def BadS (e : Nat) (g : Nat) (s : ByteArray) (a t : Nat) (w : World) (r : Ending) (w' : World) : Prop :=
  r = .returned (.tuple #[.slice none 0 0, .int .i64 (e : Int)]) ∧ RBox w' g s a t ∧ Kp (fun i => i = g) w w'
/-- What the reference's statement tells. -/
def StmtP (g : Nat) (s : ByteArray) (a p : Nat) (wd : List UInt8) (w : World) (r : Ending) (w' : World) : Prop :=
  match simpleG wd with
  | some op => OkS [UInt8.ofNat op] g s a p w r w'
  | none => if takesN wd = false then BadS 140 g s a p w r w' else
    match (parW (nextW s.data.toList p)).bind (numG wd) with
    | none => BadS 141 g s (nextAt s.data.toList p) (nextTo s.data.toList p) w r w'
    | some b => OkS b g s (nextAt s.data.toList p) (nextTo s.data.toList p) w r w'
theorem rd_two (w : World) (E : TypeId) {u v : Int} {x y : UInt8} (hx : u = (x.toNat : Int)) (hy : v = (y.toNat : Int)) : Rd (w.alloc (.cells #[.int .u8 u, .int .u8 v] E)) (some ⟨w.heap.size, 0, none⟩) (bs [x, y]) := by
  subst hx hy
  exact rd_new w _ _
theorem rd_oneb (w : World) (E : TypeId) {v : Int} {x : UInt8} (hx : v = (x.toNat : Int)) : Rd (w.alloc (.cells #[.int .u8 v] E)) (some ⟨w.heap.size, 0, none⟩) (bs [x]) := by
  subst hx
  exact rd_new w _ _
theorem rd_onebg (w : World) (E : TypeId) {v : Int} {x : UInt8} {g : Nat} (hg : w.heap.size = g) (hx : v = (x.toNat : Int)) : Rd (w.alloc (.cells #[.int .u8 v] E)) (some ⟨g, 0, none⟩) (bs [x]) := by
  subst hg hx
  exact rd_new w _ _
theorem ofG_hits {wd : List UInt8} {k : Nat} : hits wd k ↔ (ofI k).isSome = true ∧ (ofG k).word = wd ∧ (ofG k).behind = 0 := by
  unfold hits ofG
  cases ofI k with
  | none => simp
  | some i => simp
theorem next_bound {s : ByteArray} {p : Nat} (h : p ≤ s.size) : (nextW s.data.toList p).length ≤ s.size := by
  have h1 : p ≤ s.data.toList.length := by rw [Array.length_toList]; exact h
  have h2 := nextW_len h1
  rw [Array.length_toList] at h2
  unfold nextTo at h2
  have h3 : s.data.size = s.size := rfl
  omega

theorem StmtP.one {g : Nat} {s : ByteArray} {a p op : Nat} {wd : List UInt8} {w w' : World} {r : Ending} (h : simpleG wd = some op) (hb : OkS [UInt8.ofNat op] g s a p w r w') : StmtP g s a p wd w r w' := by
  unfold StmtP; rw [h]; exact hb
theorem StmtP.word {g : Nat} {s : ByteArray} {a p : Nat} {wd : List UInt8} {w w' : World} {r : Ending} (h : simpleG wd = none) (ht : takesN wd = false) (hb : BadS 140 g s a p w r w') : StmtP g s a p wd w r w' := by
  unfold StmtP; rw [h]; simp only; rw [if_pos ht]; exact hb
theorem StmtP.bad {g : Nat} {s : ByteArray} {a p : Nat} {wd v : List UInt8} {w w' : World} {r : Ending} (h : simpleG wd = none) (ht : takesN wd = true) (hv : v = nextW s.data.toList p) (hn : (parW v).bind (numG wd) = none) (hb : BadS 141 g s (nextAt s.data.toList p) (nextTo s.data.toList p) w r w') : StmtP g s a p wd w r w' := by
  unfold StmtP; rw [h]; simp only; rw [if_neg (by rw [ht]; simp), ← hv, hn]; exact hb
theorem StmtP.ok {g : Nat} {s : ByteArray} {a p : Nat} {wd v b : List UInt8} {w w' : World} {r : Ending} (h : simpleG wd = none) (ht : takesN wd = true) (hv : v = nextW s.data.toList p) (hn : (parW v).bind (numG wd) = some b) (hb : OkS b g s (nextAt s.data.toList p) (nextTo s.data.toList p) w r w') : StmtP g s a p wd w r w' := by
  unfold StmtP; rw [h]; simp only; rw [if_neg (by rw [ht]; simp), ← hv, hn]; exact hb
theorem ref_parse_list (l : List UInt8) (hz : l.length ≤ 140737488351232) (w : World) : Calls Tryd.prog 43 #[.string ⟨l.toArray⟩] w fun e w' => e = .returned (oW (parW l)) ∧ Below w.heap.size w w' := by
  refine (ref_WParse ⟨l.toArray⟩ (by simpa [ByteArray.size] using hz) w).mono ?_
  rintro _ w' ⟨rfl, hb⟩
  exact ⟨rfl, hb⟩


set_option maxHeartbeats 16000000 in
theorem ref_statement (g : Nat) (s : ByteArray) (a p : Nat) (wd : List UInt8) (w : World) (hzs : s.size ≤ 1099511627776) (hp : p ≤ s.size) (hz : wd.length ≤ 140737488351232) (hbox : RBox w g s a p) :
    Calls Tryd.prog 33 #[.pointer (some ⟨g, 0, none⟩), .string ⟨wd.toArray⟩] w (StmtP g s a p wd w) := by
  obtain ⟨i0, hi, hz0, hz1, hz2⟩ := info_parts wd_u8
  have HBX := Go.Lib.hid hbox
  have hg := (Array.getElem?_eq_some_iff.1 hbox).1
  have HG := Go.Lib.hid hg
  clear hbox hg
  go_enter Tryd.func33, Tryd.ntmps33
  go_wp2_with fail
  go_loopg [6] 257 (fun gk x wr => ∃ k : Nat, x = .int .i64 k ∧ k ≤ 256 ∧ gk = 257 - k ∧ Hid (∀ j, j < k → ¬ hits wd j) ∧ Hid (Below w.heap.size w wr))
  case atStart => exact ⟨0, rfl, Nat.zero_le _, rfl, Go.Lib.hid (by omega), Go.Lib.hid (Below.refl _ _)⟩
  case round =>
    obtain ⟨k, rfl, hk, rfl, HE, HB⟩ := hrel
    have hk0 : (0 : Int) ≤ (k : Int) := by omega
    by_cases hlt : k < 256
    · have hki : (k : Int) < 256 := by omega
      have hki2 : (k : Int) ≤ 255 := by omega
      by_cases hh : hits wd k
      · have HH := Go.Lib.hid (hits_simple hh)
        obtain ⟨h1, h2, h3⟩ := ofG_hits.1 hh
        have H1 := Go.Lib.hid h1
        have hq1 : ((ofG k).word == wd) = true := by simpa using h2
        have hq2 : ((ofG k).behind : Int) = 0 := by omega
        clear h1 h2 h3 hh
        go_wp2_with (go_at_call 12; refine (ref_Of k _ hlt).mono ?_; rintro _ w3 ⟨rfl, hb3⟩; rw [H1.out]; have HB3 := Go.Lib.hid (btr HB.out hb3); clear hb3)
        refine bodyPost_ret (v := .tuple #[.slice (some ⟨w3.heap.size + 1, 0, none⟩) 1 1, .int .i64 0]) (by simp [results, Tryd.results33, go_sem]) rfl ?_
        refine StmtP.one HH.out ⟨_, 1, rfl, ?_, by simp, by omega, HBX.out.below (bal (bal HB3.out _) _), Kp.of_below (bal (bal HB3.out _) _) _⟩
        exact rd_onebg _ _ (by simp) (by rw [toNat_small _ hlt])
      · have HNH := Go.Lib.hid hh
        cases h1 : (ofI k).isSome with
        | false =>
          have H1 := Go.Lib.hid h1
          clear h1 hh
          go_wp2_with (go_at_call 12; refine (ref_Of k _ hlt).mono ?_; rintro _ w3 ⟨rfl, hb3⟩; rw [H1.out]; have HB3 := Go.Lib.hid (btr HB.out hb3); clear hb3)
          go_roundg (257 - (k + 1))
          case measure => omega
          case rel =>
            refine ⟨k + 1, by go_num, by omega, rfl, Go.Lib.hid ?_, Go.Lib.hid (bal HB3.out _)⟩
            intro j hj
            by_cases hjk : j = k
            · rw [hjk]; exact HNH.out
            · exact HE.out j (by omega)
        | true =>
          have H1 := Go.Lib.hid h1
          by_cases h2 : (ofG k).word = wd
          · have h3 : (ofG k).behind ≠ 0 := fun h3 => hh (ofG_hits.2 ⟨h1, h2, h3⟩)
            have hq1 : ((ofG k).word == wd) = true := by simpa using h2
            have hq2 : ¬ (((ofG k).behind : Int) = 0) := by omega
            clear h1 h2 h3 hh
            go_wp2_with (go_at_call 12; refine (ref_Of k _ hlt).mono ?_; rintro _ w3 ⟨rfl, hb3⟩; rw [H1.out]; have HB3 := Go.Lib.hid (btr HB.out hb3); clear hb3)
            go_roundg (257 - (k + 1))
            case measure => omega
            case rel =>
              refine ⟨k + 1, by go_num, by omega, rfl, Go.Lib.hid ?_, Go.Lib.hid (bal HB3.out _)⟩
              intro j hj
              by_cases hjk : j = k
              · rw [hjk]; exact HNH.out
              · exact HE.out j (by omega)
          · have hq1 : ((ofG k).word == wd) = false := by simpa using h2
            clear h1 h2 hh
            go_wp2_with (go_at_call 12; refine (ref_Of k _ hlt).mono ?_; rintro _ w3 ⟨rfl, hb3⟩; rw [H1.out]; have HB3 := Go.Lib.hid (btr HB.out hb3); clear hb3)
            go_roundg (257 - (k + 1))
            case measure => omega
            case rel =>
              refine ⟨k + 1, by go_num, by omega, rfl, Go.Lib.hid ?_, Go.Lib.hid (bal HB3.out _)⟩
              intro j hj
              by_cases hjk : j = k
              · rw [hjk]; exact HNH.out
              · exact HE.out j (by omega)
    · have HS := Go.Lib.hid (show simpleG wd = none from miss_none (fun j hj => HE.out j (by omega)))
      have hk256 : k = 256 := by omega
      subst hk256
      have HBR := Go.Lib.hid (HBX.out.below HB.out)
      have HKR := Go.Lib.hid (Kp.of_below HB.out (fun i => i = g))
      obtain ⟨v, hv⟩ : ∃ v, v = nextW s.data.toList p := ⟨_, rfl⟩
      have hvl : v.length ≤ s.size := by rw [hv]; exact next_bound hp
      have HV := Go.Lib.hid hv
      clear hv hk0 hlt hk
      rcases takes_kinds wd with ⟨h1, hwd, ht⟩ | ⟨h1, hwd, h0, h2, ht⟩ | ⟨h1, hwd, h0, h2, ht⟩ | ⟨h1, hwd, h0, h2, ht⟩ | ⟨h1, h2, h3, h4, h0, hwd, ht⟩ | ⟨h1, h2, h3, h4, h0, ht⟩
      · have hq1 : (wd == [112, 117, 115, 104]) = true := by rw [h1]; rfl
        have H0 := Go.Lib.hid (show widthG wd = 0 by rw [h1]; decide)
        have HWD := Go.Lib.hid hwd
        have HT := Go.Lib.hid ht
        clear h1 hwd ht
        cases hpv : parW v with
        | none =>
          have HPV := Go.Lib.hid hpv
          clear hpv
          go_wp2_with fail
          refine (ref_width wd hz _).mono ?_
          rintro _ _ ⟨rfl, rfl⟩
          rw [H0.out]
          go_wp2_with fail
          refine (ref_next g s a p _ hzs hp HBR.out).mono ?_
          rintro _ w4 ⟨rfl, hb4, hk4⟩
          have HB4 := Go.Lib.hid hb4
          have HK4 := Go.Lib.hid (HKR.out.trans hk4)
          clear hb4 hk4
          rw [← HV.out]
          go_wp2_with fail
          refine (ref_parse_list v (by omega) _).mono ?_
          rintro _ w5 ⟨rfl, hb5⟩
          have HB5 := Go.Lib.hid (HB4.out.below hb5)
          have HK5 := Go.Lib.hid (HK4.out.trans (Kp.of_below hb5 _))
          clear hb5
          rw [HPV.out]
          simp only [oW]
          go_wp2_with fail
          refine bodyPost_ret (v := .tuple #[.slice none 0 0, .int .i64 141]) (by simp [results, Tryd.results33, go_sem]) rfl ?_
          exact StmtP.bad HS.out HT.out HV.out (by rw [HPV.out]; rfl) ⟨rfl, HB5.out, HK5.out⟩
        | some n =>
          have HPV := Go.Lib.hid hpv
          have hn64 := (parW_some hpv).2
          clear hpv
          obtain ⟨k, hk⟩ : ∃ k, k = leastN n := ⟨_, rfl⟩
          have hkb := leastN_bd n
          rw [← hk] at hkb
          have hk1 := hkb.1
          have hk8 := hkb.2
          have hki : (0 : Int) < (k : Int) := by omega
          have HKL := Go.Lib.hid hk
          have HLK := Go.Lib.hid (show leastN n ≤ k by omega)
          have HNG := Go.Lib.hid (show numG wd n = some (UInt8.ofNat (32 + k - 1) :: (be 8 n).drop (8 - k)) by
            unfold numG pushG
            rw [HWD.out]
            simp only
            rw [if_pos trivial, ← hk, if_neg (by omega)])
          clear hk hkb
          go_wp2_with fail
          refine (ref_width wd hz _).mono ?_
          rintro _ _ ⟨rfl, rfl⟩
          rw [H0.out]
          go_wp2_with fail
          refine (ref_next g s a p _ hzs hp HBR.out).mono ?_
          rintro _ w4 ⟨rfl, hb4, hk4⟩
          have HB4 := Go.Lib.hid hb4
          have HK4 := Go.Lib.hid (HKR.out.trans hk4)
          clear hb4 hk4
          rw [← HV.out]
          go_wp2_with fail
          refine (ref_parse_list v (by omega) _).mono ?_
          rintro _ w5 ⟨rfl, hb5⟩
          have HB5 := Go.Lib.hid (HB4.out.below hb5)
          have HK5 := Go.Lib.hid (HK4.out.trans (Kp.of_below hb5 _))
          clear hb5
          rw [HPV.out]
          simp only [oW]
          go_wp2_with fail
          refine (ref_least n hn64 _).mono ?_
          rintro _ w6 ⟨rfl, hb6⟩
          have HB6 := Go.Lib.hid (HB5.out.below hb6)
          have HK6 := Go.Lib.hid (HK5.out.trans (Kp.of_below hb6 _))
          clear hb6
          rw [← HKL.out]
          go_wp2_with fail
          refine ((ref_pushed n k hn64 hk1 hk8 _).mono fun r w' h => h.1 HLK.out).mono ?_
          rintro _ w7 ⟨A7, c7, rfl, hr7, hc71, hc72, hb7⟩
          have HR7 := Go.Lib.hid hr7
          have HB7 := Go.Lib.hid (HB6.out.below hb7)
          have HK7 := Go.Lib.hid (HK6.out.trans (Kp.of_below hb7 _))
          clear hr7 hb7
          obtain ⟨xb, hxb⟩ : ∃ x, x = UInt8.ofNat (32 + k - 1) := ⟨_, rfl⟩
          have HX := Go.Lib.hid (And.intro hxb (show (32 + (k : Int) - 1) = (xb.toNat : Int) by rw [hxb, toNat_small _ (by omega)]; omega))
          have HO7 := Go.Lib.hid (own_new1 w7 w7 (Below.refl _ _) (E := 5) HX.out.2)
          clear hxb
          go_wp2_with (at_builtin; go_loud (refine wpList_append_o _ rfl _ _ 32 rfl 5 i0 (.int .u8 0) 1 1 Tryd.underlying32 hi hz0 hz1 hz2 rfl (by decide) w7.heap.size (some ⟨w7.heap.size, 0, none⟩) 1 1 (bs [xb]) rfl HO7.out A7 k c7 (bs ((be 8 n).drop (8 - k))) rfl (by simp; omega) (HR7.out.alloc _) (bs_one _) (by omega) (by unfold maxLen; omega) (bal (Below.refl _ _) _).size ?_))
          intro A8 c8 w8 hown8 hkp8 hlie8
          have hb8 : Below w7.heap.size w7 w8 := Kp.below (bal (Below.refl _ _) _) hkp8 (fun i h => by have h2 : i = w7.heap.size := (by simpa using h); omega)
          have hc8 := hown8.cap
          have HR8 := Go.Lib.hid (show Rd w8 A8 (bs (xb :: (be 8 n).drop (8 - k))) from hown8.rd)
          have HB8 := Go.Lib.hid (HB7.out.below hb8)
          have HK8 := Go.Lib.hid (HK7.out.trans (Kp.of_below hb8 _))
          clear hown8 hkp8 hlie8 hb8
          go_wp2_with fail
          refine bodyPost_ret (v := .tuple #[.slice A8 (1 + k) c8, .int .i64 0]) (by simp [results, Tryd.results33, go_sem]) rfl ?_
          refine StmtP.ok (b := xb :: (be 8 n).drop (8 - k)) HS.out HT.out HV.out (by rw [HPV.out, Option.bind_some, HNG.out, HX.out.1]) ⟨A8, c8, ?_, HR8.out, ?_, hc8.2, HB8.out, HK8.out⟩
          · have e : (xb :: (be 8 n).drop (8 - k)).length = 1 + k := by simp; omega
            rw [e]
          · have e : (xb :: (be 8 n).drop (8 - k)).length = 1 + k := by simp; omega
            rw [e]
            exact hc8.1
      · have hq1 : (wd == [112, 117, 115, 104]) = false := by simpa [pushW] using h1
        have hq2 : (wd == [100, 117, 112]) = true := by rw [h2]; rfl
        have H0 := Go.Lib.hid h0
        have HWD := Go.Lib.hid hwd
        have HT := Go.Lib.hid ht
        have HW2 := Go.Lib.hid h2
        clear h1 h2 h0 hwd ht
        cases hpv : parW v with
        | none =>
          have HPV := Go.Lib.hid hpv
          clear hpv
          go_wp2_with fail
          refine (ref_width wd hz _).mono ?_
          rintro _ _ ⟨rfl, rfl⟩
          rw [H0.out]
          go_wp2_with fail
          refine (ref_next g s a p _ hzs hp HBR.out).mono ?_
          rintro _ w4 ⟨rfl, hb4, hk4⟩
          have HB4 := Go.Lib.hid hb4
          have HK4 := Go.Lib.hid (HKR.out.trans hk4)
          clear hb4 hk4
          rw [← HV.out]
          go_wp2_with fail
          refine (ref_parse_list v (by omega) _).mono ?_
          rintro _ w5 ⟨rfl, hb5⟩
          have HB5 := Go.Lib.hid (HB4.out.below hb5)
          have HK5 := Go.Lib.hid (HK4.out.trans (Kp.of_below hb5 _))
          clear hb5
          rw [HPV.out]
          simp only [oW]
          go_wp2_with fail
          refine bodyPost_ret (v := .tuple #[.slice none 0 0, .int .i64 141]) (by simp [results, Tryd.results33, go_sem]) rfl ?_
          exact StmtP.bad HS.out HT.out HV.out (by rw [HPV.out]; rfl) ⟨rfl, HB5.out, HK5.out⟩
        | some n =>
          have HPV := Go.Lib.hid hpv
          have hn64 := (parW_some hpv).2
          clear hpv
          by_cases h255 : 255 < n
          · have hq : (255 : Int) < (n : Int) := by omega
            have HNG := Go.Lib.hid (show numG wd n = none by unfold numG; rw [HWD.out]; simp only; rw [if_pos h255])
            clear h255
            go_wp2_with fail
            refine (ref_width wd hz _).mono ?_
            rintro _ _ ⟨rfl, rfl⟩
            rw [H0.out]
            go_wp2_with fail
            refine (ref_next g s a p _ hzs hp HBR.out).mono ?_
            rintro _ w4 ⟨rfl, hb4, hk4⟩
            have HB4 := Go.Lib.hid hb4
            have HK4 := Go.Lib.hid (HKR.out.trans hk4)
            clear hb4 hk4
            rw [← HV.out]
            go_wp2_with fail
            refine (ref_parse_list v (by omega) _).mono ?_
            rintro _ w5 ⟨rfl, hb5⟩
            have HB5 := Go.Lib.hid (HB4.out.below hb5)
            have HK5 := Go.Lib.hid (HK4.out.trans (Kp.of_below hb5 _))
            clear hb5
            rw [HPV.out]
            simp only [oW]
            go_wp2_with fail
            refine bodyPost_ret (v := .tuple #[.slice none 0 0, .int .i64 141]) (by simp [results, Tryd.results33, go_sem]) rfl ?_
            exact StmtP.bad HS.out HT.out HV.out (by rw [HPV.out]; exact HNG.out) ⟨rfl, HB5.out, HK5.out⟩
          · have hq : ¬ (255 : Int) < (n : Int) := by omega
            obtain ⟨xb, hxb⟩ : ∃ x, x = UInt8.ofNat n := ⟨_, rfl⟩
            have HX := Go.Lib.hid (And.intro hxb (show (n : Int) = (xb.toNat : Int) by rw [hxb, toNat_small _ (by omega)]))
            have hn2 : (n : Int) ≤ 255 := by omega
            have HNG := Go.Lib.hid (show numG wd n = some [49,xb] by unfold numG; rw [HWD.out]; simp only; rw [if_neg h255, hxb]; rw [if_pos HW2.out])
            clear hxb h255
            go_wp2_with fail
            refine (ref_width wd hz _).mono ?_
            rintro _ _ ⟨rfl, rfl⟩
            rw [H0.out]
            go_wp2_with fail
            refine (ref_next g s a p _ hzs hp HBR.out).mono ?_
            rintro _ w4 ⟨rfl, hb4, hk4⟩
            have HB4 := Go.Lib.hid hb4
            have HK4 := Go.Lib.hid (HKR.out.trans hk4)
            clear hb4 hk4
            rw [← HV.out]
            go_wp2_with fail
            refine (ref_parse_list v (by omega) _).mono ?_
            rintro _ w5 ⟨rfl, hb5⟩
            have HB5 := Go.Lib.hid (HB4.out.below hb5)
            have HK5 := Go.Lib.hid (HK4.out.trans (Kp.of_below hb5 _))
            clear hb5
            rw [HPV.out]
            simp only [oW]
            go_wp2_with fail
            refine bodyPost_ret (v := .tuple #[.slice (some ⟨w5.heap.size, 0, none⟩) 2 2, .int .i64 0]) (by simp [results, Tryd.results33, go_sem]) rfl ?_
            exact StmtP.ok HS.out HT.out HV.out (by rw [HPV.out, Option.bind_some, HNG.out]) ⟨_, 2, rfl, rd_two w5 _ (by decide) HX.out.2, by simp, by omega, HB5.out.below (bal (Below.refl _ _) _), HK5.out.trans (Kp.alloc _ _ _)⟩
      · have hq1 : (wd == [112, 117, 115, 104]) = false := by simpa [pushW] using h1
        have hq2 : (wd == [100, 117, 112]) = false := by rw [h2]; rfl
        have hq3 : (wd == [115, 119, 97, 112]) = true := by rw [h2]; rfl
        have H0 := Go.Lib.hid h0
        have HWD := Go.Lib.hid hwd
        have HT := Go.Lib.hid ht
        have HW2 := Go.Lib.hid h2
        clear h1 h2 h0 hwd ht
        cases hpv : parW v with
        | none =>
          have HPV := Go.Lib.hid hpv
          clear hpv
          go_wp2_with fail
          refine (ref_width wd hz _).mono ?_
          rintro _ _ ⟨rfl, rfl⟩
          rw [H0.out]
          go_wp2_with fail
          refine (ref_next g s a p _ hzs hp HBR.out).mono ?_
          rintro _ w4 ⟨rfl, hb4, hk4⟩
          have HB4 := Go.Lib.hid hb4
          have HK4 := Go.Lib.hid (HKR.out.trans hk4)
          clear hb4 hk4
          rw [← HV.out]
          go_wp2_with fail
          refine (ref_parse_list v (by omega) _).mono ?_
          rintro _ w5 ⟨rfl, hb5⟩
          have HB5 := Go.Lib.hid (HB4.out.below hb5)
          have HK5 := Go.Lib.hid (HK4.out.trans (Kp.of_below hb5 _))
          clear hb5
          rw [HPV.out]
          simp only [oW]
          go_wp2_with fail
          refine bodyPost_ret (v := .tuple #[.slice none 0 0, .int .i64 141]) (by simp [results, Tryd.results33, go_sem]) rfl ?_
          exact StmtP.bad HS.out HT.out HV.out (by rw [HPV.out]; rfl) ⟨rfl, HB5.out, HK5.out⟩
        | some n =>
          have HPV := Go.Lib.hid hpv
          have hn64 := (parW_some hpv).2
          clear hpv
          by_cases h255 : 255 < n
          · have hq : (255 : Int) < (n : Int) := by omega
            have HNG := Go.Lib.hid (show numG wd n = none by unfold numG; rw [HWD.out]; simp only; rw [if_pos h255])
            clear h255
            go_wp2_with fail
            refine (ref_width wd hz _).mono ?_
            rintro _ _ ⟨rfl, rfl⟩
            rw [H0.out]
            go_wp2_with fail
            refine (ref_next g s a p _ hzs hp HBR.out).mono ?_
            rintro _ w4 ⟨rfl, hb4, hk4⟩
            have HB4 := Go.Lib.hid hb4
            have HK4 := Go.Lib.hid (HKR.out.trans hk4)
            clear hb4 hk4
            rw [← HV.out]
            go_wp2_with fail
            refine (ref_parse_list v (by omega) _).mono ?_
            rintro _ w5 ⟨rfl, hb5⟩
            have HB5 := Go.Lib.hid (HB4.out.below hb5)
            have HK5 := Go.Lib.hid (HK4.out.trans (Kp.of_below hb5 _))
            clear hb5
            rw [HPV.out]
            simp only [oW]
            go_wp2_with fail
            refine bodyPost_ret (v := .tuple #[.slice none 0 0, .int .i64 141]) (by simp [results, Tryd.results33, go_sem]) rfl ?_
            exact StmtP.bad HS.out HT.out HV.out (by rw [HPV.out]; exact HNG.out) ⟨rfl, HB5.out, HK5.out⟩
          · have hq : ¬ (255 : Int) < (n : Int) := by omega
            obtain ⟨xb, hxb⟩ : ∃ x, x = UInt8.ofNat n := ⟨_, rfl⟩
            have HX := Go.Lib.hid (And.intro hxb (show (n : Int) = (xb.toNat : Int) by rw [hxb, toNat_small _ (by omega)]))
            have hn2 : (n : Int) ≤ 255 := by omega
            have HNG := Go.Lib.hid (show numG wd n = some [50,xb] by unfold numG; rw [HWD.out]; simp only; rw [if_neg h255, hxb]; rw [if_neg (by rw [HW2.out]; decide), if_pos HW2.out])
            clear hxb h255
            go_wp2_with fail
            refine (ref_width wd hz _).mono ?_
            rintro _ _ ⟨rfl, rfl⟩
            rw [H0.out]
            go_wp2_with fail
            refine (ref_next g s a p _ hzs hp HBR.out).mono ?_
            rintro _ w4 ⟨rfl, hb4, hk4⟩
            have HB4 := Go.Lib.hid hb4
            have HK4 := Go.Lib.hid (HKR.out.trans hk4)
            clear hb4 hk4
            rw [← HV.out]
            go_wp2_with fail
            refine (ref_parse_list v (by omega) _).mono ?_
            rintro _ w5 ⟨rfl, hb5⟩
            have HB5 := Go.Lib.hid (HB4.out.below hb5)
            have HK5 := Go.Lib.hid (HK4.out.trans (Kp.of_below hb5 _))
            clear hb5
            rw [HPV.out]
            simp only [oW]
            go_wp2_with fail
            refine bodyPost_ret (v := .tuple #[.slice (some ⟨w5.heap.size, 0, none⟩) 2 2, .int .i64 0]) (by simp [results, Tryd.results33, go_sem]) rfl ?_
            exact StmtP.ok HS.out HT.out HV.out (by rw [HPV.out, Option.bind_some, HNG.out]) ⟨_, 2, rfl, rd_two w5 _ (by decide) HX.out.2, by simp, by omega, HB5.out.below (bal (Below.refl _ _) _), HK5.out.trans (Kp.alloc _ _ _)⟩
      · have hq1 : (wd == [112, 117, 115, 104]) = false := by simpa [pushW] using h1
        have hq2 : (wd == [100, 117, 112]) = false := by rw [h2]; rfl
        have hq3 : (wd == [115, 119, 97, 112]) = false := by rw [h2]; rfl
        have hq4 : (wd == [98, 121, 116, 101]) = true := by rw [h2]; rfl
        have H0 := Go.Lib.hid h0
        have HWD := Go.Lib.hid hwd
        have HT := Go.Lib.hid ht
        have HW2 := Go.Lib.hid h2
        clear h1 h2 h0 hwd ht
        cases hpv : parW v with
        | none =>
          have HPV := Go.Lib.hid hpv
          clear hpv
          go_wp2_with fail
          refine (ref_width wd hz _).mono ?_
          rintro _ _ ⟨rfl, rfl⟩
          rw [H0.out]
          go_wp2_with fail
          refine (ref_next g s a p _ hzs hp HBR.out).mono ?_
          rintro _ w4 ⟨rfl, hb4, hk4⟩
          have HB4 := Go.Lib.hid hb4
          have HK4 := Go.Lib.hid (HKR.out.trans hk4)
          clear hb4 hk4
          rw [← HV.out]
          go_wp2_with fail
          refine (ref_parse_list v (by omega) _).mono ?_
          rintro _ w5 ⟨rfl, hb5⟩
          have HB5 := Go.Lib.hid (HB4.out.below hb5)
          have HK5 := Go.Lib.hid (HK4.out.trans (Kp.of_below hb5 _))
          clear hb5
          rw [HPV.out]
          simp only [oW]
          go_wp2_with fail
          refine bodyPost_ret (v := .tuple #[.slice none 0 0, .int .i64 141]) (by simp [results, Tryd.results33, go_sem]) rfl ?_
          exact StmtP.bad HS.out HT.out HV.out (by rw [HPV.out]; rfl) ⟨rfl, HB5.out, HK5.out⟩
        | some n =>
          have HPV := Go.Lib.hid hpv
          have hn64 := (parW_some hpv).2
          clear hpv
          by_cases h255 : 255 < n
          · have hq : (255 : Int) < (n : Int) := by omega
            have HNG := Go.Lib.hid (show numG wd n = none by unfold numG; rw [HWD.out]; simp only; rw [if_pos h255])
            clear h255
            go_wp2_with fail
            refine (ref_width wd hz _).mono ?_
            rintro _ _ ⟨rfl, rfl⟩
            rw [H0.out]
            go_wp2_with fail
            refine (ref_next g s a p _ hzs hp HBR.out).mono ?_
            rintro _ w4 ⟨rfl, hb4, hk4⟩
            have HB4 := Go.Lib.hid hb4
            have HK4 := Go.Lib.hid (HKR.out.trans hk4)
            clear hb4 hk4
            rw [← HV.out]
            go_wp2_with fail
            refine (ref_parse_list v (by omega) _).mono ?_
            rintro _ w5 ⟨rfl, hb5⟩
            have HB5 := Go.Lib.hid (HB4.out.below hb5)
            have HK5 := Go.Lib.hid (HK4.out.trans (Kp.of_below hb5 _))
            clear hb5
            rw [HPV.out]
            simp only [oW]
            go_wp2_with fail
            refine bodyPost_ret (v := .tuple #[.slice none 0 0, .int .i64 141]) (by simp [results, Tryd.results33, go_sem]) rfl ?_
            exact StmtP.bad HS.out HT.out HV.out (by rw [HPV.out]; exact HNG.out) ⟨rfl, HB5.out, HK5.out⟩
          · have hq : ¬ (255 : Int) < (n : Int) := by omega
            obtain ⟨xb, hxb⟩ : ∃ x, x = UInt8.ofNat n := ⟨_, rfl⟩
            have HX := Go.Lib.hid (And.intro hxb (show (n : Int) = (xb.toNat : Int) by rw [hxb, toNat_small _ (by omega)]))
            have hn2 : (n : Int) ≤ 255 := by omega
            have HNG := Go.Lib.hid (show numG wd n = some [xb] by unfold numG; rw [HWD.out]; simp only; rw [if_neg h255, hxb]; rw [if_neg (by rw [HW2.out]; decide), if_neg (by rw [HW2.out]; decide)])
            clear hxb h255
            go_wp2_with fail
            refine (ref_width wd hz _).mono ?_
            rintro _ _ ⟨rfl, rfl⟩
            rw [H0.out]
            go_wp2_with fail
            refine (ref_next g s a p _ hzs hp HBR.out).mono ?_
            rintro _ w4 ⟨rfl, hb4, hk4⟩
            have HB4 := Go.Lib.hid hb4
            have HK4 := Go.Lib.hid (HKR.out.trans hk4)
            clear hb4 hk4
            rw [← HV.out]
            go_wp2_with fail
            refine (ref_parse_list v (by omega) _).mono ?_
            rintro _ w5 ⟨rfl, hb5⟩
            have HB5 := Go.Lib.hid (HB4.out.below hb5)
            have HK5 := Go.Lib.hid (HK4.out.trans (Kp.of_below hb5 _))
            clear hb5
            rw [HPV.out]
            simp only [oW]
            go_wp2_with fail
            refine bodyPost_ret (v := .tuple #[.slice (some ⟨w5.heap.size, 0, none⟩) 1 1, .int .i64 0]) (by simp [results, Tryd.results33, go_sem]) rfl ?_
            exact StmtP.ok HS.out HT.out HV.out (by rw [HPV.out, Option.bind_some, HNG.out]) ⟨_, 1, rfl, rd_oneb w5 _ HX.out.2, by simp, by omega, HB5.out.below (bal (Below.refl _ _) _), HK5.out.trans (Kp.alloc _ _ _)⟩
      · have hq1 : (wd == [112, 117, 115, 104]) = false := by simpa [pushW] using h1
        have hq2 : (wd == [100, 117, 112]) = false := by simpa [dupW] using h2
        have hq3 : (wd == [115, 119, 97, 112]) = false := by simpa [swapW] using h3
        have hq4 : (wd == [98, 121, 116, 101]) = false := by simpa [byteW] using h4
        obtain ⟨k, hk⟩ : ∃ k, k = widthG wd := ⟨_, rfl⟩
        have hk8 := widthG_le wd
        rw [← hk] at hwd h0 hk8
        have hk1 : 1 ≤ k := by omega
        have hki : (0 : Int) < (k : Int) := by omega
        have HKW := Go.Lib.hid hk
        have HWD := Go.Lib.hid hwd
        have HT := Go.Lib.hid ht
        clear h1 h2 h3 h4 h0 hwd ht hk
        cases hpv : parW v with
        | none =>
          have HPV := Go.Lib.hid hpv
          clear hpv
          go_wp2_with fail
          refine (ref_width wd hz _).mono ?_
          rintro _ _ ⟨rfl, rfl⟩
          rw [← HKW.out]
          go_wp2_with fail
          refine (ref_next g s a p _ hzs hp HBR.out).mono ?_
          rintro _ w4 ⟨rfl, hb4, hk4⟩
          have HB4 := Go.Lib.hid hb4
          have HK4 := Go.Lib.hid (HKR.out.trans hk4)
          clear hb4 hk4
          rw [← HV.out]
          go_wp2_with fail
          refine (ref_parse_list v (by omega) _).mono ?_
          rintro _ w5 ⟨rfl, hb5⟩
          have HB5 := Go.Lib.hid (HB4.out.below hb5)
          have HK5 := Go.Lib.hid (HK4.out.trans (Kp.of_below hb5 _))
          clear hb5
          rw [HPV.out]
          simp only [oW]
          go_wp2_with fail
          refine bodyPost_ret (v := .tuple #[.slice none 0 0, .int .i64 141]) (by simp [results, Tryd.results33, go_sem]) rfl ?_
          exact StmtP.bad HS.out HT.out HV.out (by rw [HPV.out]; rfl) ⟨rfl, HB5.out, HK5.out⟩
        | some n =>
          have HPV := Go.Lib.hid hpv
          have hn64 := (parW_some hpv).2
          clear hpv
          by_cases hlk : leastN n ≤ k
          · have HLK := Go.Lib.hid hlk
            have HNG := Go.Lib.hid (show numG wd n = some (UInt8.ofNat (32 + k - 1) :: (be 8 n).drop (8 - k)) by
              unfold numG pushG
              rw [HWD.out]
              simp only
              rw [if_neg (show ¬ k = 0 by omega), if_neg (by omega)])
            clear hlk
            go_wp2_with fail
            refine (ref_width wd hz _).mono ?_
            rintro _ _ ⟨rfl, rfl⟩
            rw [← HKW.out]
            go_wp2_with fail
            refine (ref_next g s a p _ hzs hp HBR.out).mono ?_
            rintro _ w4 ⟨rfl, hb4, hk4⟩
            have HB4 := Go.Lib.hid hb4
            have HK4 := Go.Lib.hid (HKR.out.trans hk4)
            clear hb4 hk4
            rw [← HV.out]
            go_wp2_with fail
            refine (ref_parse_list v (by omega) _).mono ?_
            rintro _ w5 ⟨rfl, hb5⟩
            have HB5 := Go.Lib.hid (HB4.out.below hb5)
            have HK5 := Go.Lib.hid (HK4.out.trans (Kp.of_below hb5 _))
            clear hb5
            rw [HPV.out]
            simp only [oW]
            go_wp2_with fail
            refine ((ref_pushed n k hn64 hk1 hk8 _).mono fun r w' h => h.1 HLK.out).mono ?_
            rintro _ w7 ⟨A7, c7, rfl, hr7, hc71, hc72, hb7⟩
            have HR7 := Go.Lib.hid hr7
            have HB7 := Go.Lib.hid (HB5.out.below hb7)
            have HK7 := Go.Lib.hid (HK5.out.trans (Kp.of_below hb7 _))
            clear hr7 hb7
            obtain ⟨xb, hxb⟩ : ∃ x, x = UInt8.ofNat (32 + k - 1) := ⟨_, rfl⟩
            have HX := Go.Lib.hid (And.intro hxb (show (32 + (k : Int) - 1) = (xb.toNat : Int) by rw [hxb, toNat_small _ (by omega)]; omega))
            have HO7 := Go.Lib.hid (own_new1 w7 w7 (Below.refl _ _) (E := 5) HX.out.2)
            clear hxb
            go_wp2_with (at_builtin; go_loud (refine wpList_append_o _ rfl _ _ 32 rfl 5 i0 (.int .u8 0) 1 1 Tryd.underlying32 hi hz0 hz1 hz2 rfl (by decide) w7.heap.size (some ⟨w7.heap.size, 0, none⟩) 1 1 (bs [xb]) rfl HO7.out A7 k c7 (bs ((be 8 n).drop (8 - k))) rfl (by simp; omega) (HR7.out.alloc _) (bs_one _) (by omega) (by unfold maxLen; omega) (bal (Below.refl _ _) _).size ?_))
            intro A8 c8 w8 hown8 hkp8 hlie8
            have hb8 : Below w7.heap.size w7 w8 := Kp.below (bal (Below.refl _ _) _) hkp8 (fun i h => by have h2 : i = w7.heap.size := (by simpa using h); omega)
            have hc8 := hown8.cap
            have HR8 := Go.Lib.hid (show Rd w8 A8 (bs (xb :: (be 8 n).drop (8 - k))) from hown8.rd)
            have HB8 := Go.Lib.hid (HB7.out.below hb8)
            have HK8 := Go.Lib.hid (HK7.out.trans (Kp.of_below hb8 _))
            clear hown8 hkp8 hlie8 hb8
            go_wp2_with fail
            refine bodyPost_ret (v := .tuple #[.slice A8 (1 + k) c8, .int .i64 0]) (by simp [results, Tryd.results33, go_sem]) rfl ?_
            refine StmtP.ok (b := xb :: (be 8 n).drop (8 - k)) HS.out HT.out HV.out (by rw [HPV.out, Option.bind_some, HNG.out, HX.out.1]) ⟨A8, c8, ?_, HR8.out, ?_, hc8.2, HB8.out, HK8.out⟩
            · have e : (xb :: (be 8 n).drop (8 - k)).length = 1 + k := by simp; omega
              rw [e]
            · have e : (xb :: (be 8 n).drop (8 - k)).length = 1 + k := by simp; omega
              rw [e]
              exact hc8.1
          · have HLK := Go.Lib.hid hlk
            have HNG := Go.Lib.hid (show numG wd n = none by
              unfold numG pushG
              rw [HWD.out]
              simp only
              rw [if_neg (show ¬ k = 0 by omega), if_pos (by omega)])
            clear hlk
            go_wp2_with fail
            refine (ref_width wd hz _).mono ?_
            rintro _ _ ⟨rfl, rfl⟩
            rw [← HKW.out]
            go_wp2_with fail
            refine (ref_next g s a p _ hzs hp HBR.out).mono ?_
            rintro _ w4 ⟨rfl, hb4, hk4⟩
            have HB4 := Go.Lib.hid hb4
            have HK4 := Go.Lib.hid (HKR.out.trans hk4)
            clear hb4 hk4
            rw [← HV.out]
            go_wp2_with fail
            refine (ref_parse_list v (by omega) _).mono ?_
            rintro _ w5 ⟨rfl, hb5⟩
            have HB5 := Go.Lib.hid (HB4.out.below hb5)
            have HK5 := Go.Lib.hid (HK4.out.trans (Kp.of_below hb5 _))
            clear hb5
            rw [HPV.out]
            simp only [oW]
            go_wp2_with fail
            refine ((ref_pushed n k hn64 hk1 hk8 _).mono fun r w' h => h.2 HLK.out).mono ?_
            rintro _ w7 ⟨rfl, hb7⟩
            have HB7 := Go.Lib.hid (HB5.out.below hb7)
            have HK7 := Go.Lib.hid (HK5.out.trans (Kp.of_below hb7 _))
            clear hb7
            go_wp2_with fail
            refine bodyPost_ret (v := .tuple #[.slice none 0 0, .int .i64 141]) (by simp [results, Tryd.results33, go_sem]) rfl ?_
            exact StmtP.bad HS.out HT.out HV.out (by rw [HPV.out]; exact HNG.out) ⟨rfl, HB7.out, HK7.out⟩
      · have hq1 : (wd == [112, 117, 115, 104]) = false := by simpa [pushW] using h1
        have hq2 : (wd == [100, 117, 112]) = false := by simpa [dupW] using h2
        have hq3 : (wd == [115, 119, 97, 112]) = false := by simpa [swapW] using h3
        have hq4 : (wd == [98, 121, 116, 101]) = false := by simpa [byteW] using h4
        have H0 := Go.Lib.hid h0
        have HT := Go.Lib.hid ht
        clear h1 h2 h3 h4 h0 ht
        go_wp2_with fail
        refine (ref_width wd hz _).mono ?_
        rintro _ _ ⟨rfl, rfl⟩
        rw [H0.out]
        go_wp2_with fail
        refine bodyPost_ret (v := .tuple #[.slice none 0 0, .int .i64 140]) (by simp [results, Tryd.results33, go_sem]) rfl ?_
        exact StmtP.word HS.out HT.out ⟨rfl, HBR.out, HKR.out⟩

end Go.Proofs.YtlbiahpajcfcfaaDoor
