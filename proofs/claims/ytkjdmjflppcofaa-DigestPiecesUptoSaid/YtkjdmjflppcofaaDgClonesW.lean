/- DigestClones: the walk. -/
import Derived.Test.YtkjdmjflppcofaaDgClone
import Derived.Test.YtkjdmjflppcofaaDgPad
import Derived.Outline
namespace Go.Proofs.Ytkjdmjflppcofaa
open Go.ChangeShapes Go.WideShapes Go.ChangeAt Go.RowKit
set_option linter.unusedVariables false

theorem hashAt_new (w : World) : HashAt (w.alloc (.cells #[.int .u64 initS.a, .int .u64 initS.b, .int .u64 initS.c, .int .u64 initS.d, .slice none 0 0, .int .i64 0] 61)) w.heap.size none w.heap.size [] :=
  ⟨initS, none, 0, 0, Go.heap_alloc_new _ _, rfl, by simpa [bs] using Own.nil _ _ _ _, rfl⟩

set_option maxHeartbeats 4000000 in
set_option maxRecDepth 100000 in
theorem clones_walk (w : World) (A : Option Addr) (n c : Nat) (xs : List UInt8) (hn : xs.length = n) (hc : n ≤ c) (hr : Rd w A (bs xs)) (hz : c ≤ 1048576)
    (A' : Option Addr) (n' c' : Nat) (ys : List UInt8) (hn' : ys.length = n') (hc' : n' ≤ c') (hr' : Rd w A' (bs ys)) (hz' : c' ≤ 1048576)
    (A'' : Option Addr) (n'' c'' : Nat) (zs : List UInt8) (hn'' : zs.length = n'') (hc'' : n'' ≤ c'') (hr'' : Rd w A'' (bs zs)) (hz'' : c'' ≤ 1048576) :
    Calls Try.prog 8 #[.slice A n c, .slice A' n' c', .slice A'' n'' c''] w fun e w' => e = .returned (.bool true) ∧ Below w.heap.size w w' := by
  subst hn hn' hn''
  have HR := Go.Lib.hid hr
  have HR' := Go.Lib.hid hr'
  have HR'' := Go.Lib.hid hr''
  clear hr hr' hr''
  obtain ⟨i0, hi, hz0, hz1, hz2⟩ := info_parts info_u8
  obtain ⟨p, hp⟩ : ∃ p, p = digB (xs ++ ys) := ⟨_, rfl⟩
  obtain ⟨q, hq⟩ : ∃ q, q = digB (xs ++ zs) := ⟨_, rfl⟩
  have HP := Go.Lib.hid hp
  have HQ := Go.Lib.hid hq
  clear hp hq
  go_enter Try.func8, Try.ntmps8
  go_wp2_with fail
  refine (digest_New _).mono ?_
  rintro e w1 ⟨w0, hb0, rfl, rfl⟩
  have hh0 := hashAt_new w0
  obtain ⟨h, hh⟩ : ∃ h, h = w0.heap.size := ⟨_, rfl⟩
  have hwh : w.heap.size ≤ h := by rw [hh]; exact hb0.size
  obtain ⟨w1, hw1⟩ : ∃ w1, w1 = (w0.alloc (.cells #[.int .u64 initS.a, .int .u64 initS.b, .int .u64 initS.c, .int .u64 initS.d, .slice none 0 0, .int .i64 0] 61)) := ⟨_, rfl⟩
  rw [← hw1, ← hh] at hh0
  rw [← hw1, ← hh]
  have hb1 : Below w.heap.size w w1 := by rw [hw1]; exact bal hb0 _
  have H1 := Go.Lib.hid hh0
  have HB1 := Go.Lib.hid hb1
  clear hh0 hb0 hh hw1 hb1
  go_wp2_with fail
  refine (law_alive _).mono ?_
  rintro e w2 ⟨rfl, hb2⟩
  have H2 := Go.Lib.hid (H1.out.below hb2)
  have HB2 := Go.Lib.hid (btr HB1.out hb2)
  clear hb2
  go_wp2_with fail
  refine (digest_Write h none h [] xs A c w2 H2.out (Nat.le_refl _) (HR.out.below HB2.out) (by simp; omega)).mono ?_
  rintro e w3 ⟨rfl, R3, hh3, hk3, hR3⟩
  rw [List.nil_append] at hh3
  have hb3 : Below w.heap.size w w3 := Kp.below HB2.out hk3 (fun i e => by rcases e with rfl | e; exact hwh; cases e)
  have H3 := Go.Lib.hid hh3
  have HB3 := Go.Lib.hid hb3
  clear hh3 hk3 hR3 hb3
  go_wp2_with fail
  refine (digest_Clone h R3 h xs w3 H3.out (by omega)).mono ?_
  rintro e w4 ⟨k, K4, rfl, hk4, hb4, hwk⟩
  have H4 := Go.Lib.hid (H3.out.below hb4)
  have K4' := Go.Lib.hid hk4
  have HB4 := Go.Lib.hid (btr HB3.out hb4)
  have hlt3 := H3.out.lt
  have hltk := hk4.lt
  have HL3 := Go.Lib.hid hlt3
  have HLK := Go.Lib.hid hltk
  clear hk4 hb4 hlt3 hltk
  go_wp2_with fail
  refine (digest_Write h R3 h xs ys A' c' w4 H4.out (Nat.le_refl _) (HR'.out.below HB4.out) (by omega)).mono ?_
  rintro e w5 ⟨rfl, R5, hh5, hk5, hR5⟩
  have hkk5 : HashAt w5 k K4 w3.heap.size xs := K4'.out.kp hk5 (fun e => by have := HL3.out.1; rcases e with rfl | e; omega; have := (HL3.out.2 k e.symm).2; omega)
    (fun g eg e => by have h1 := (HLK.out.2 g eg).1; rcases e with rfl | e; have := HL3.out.1; omega; have := (HL3.out.2 g e.symm).2; omega)
  have hb5 : Below w.heap.size w w5 := Kp.below HB4.out hk5 (fun i e => by rcases e with rfl | e; exact hwh; have := (HL3.out.2 i e.symm).1; omega)
  have hs45 := hk5.size
  have H5 := Go.Lib.hid hh5
  have K5 := Go.Lib.hid hkk5
  have HB5 := Go.Lib.hid hb5
  have HR5 := Go.Lib.hid hR5
  clear hh5 hk5 hR5 hkk5 hb5
  go_wp2_with fail
  refine (digest_Write k K4 w3.heap.size xs zs A'' c'' w5 K5.out hwk (HR''.out.below HB5.out) (by omega)).mono ?_
  rintro e w6 ⟨rfl, R6, hh6, hk6, hR6⟩
  have hhh6 : HashAt w6 h R5 h (xs ++ ys) := H5.out.kp hk6 (fun e => by have h1 := HL3.out.1; rcases e with e | e; omega; have := (HLK.out.2 h e.symm).1; omega)
    (fun g eg e => by
      have h1 : g < w3.heap.size ∨ w4.heap.size ≤ g := by
        rcases HR5.out with h5 | ⟨j, h5, h6⟩
        · exact .inl (HL3.out.2 g (by rw [← h5]; exact eg)).2
        · rw [h5] at eg; injection eg with eg; omega
      rcases e with e | e
      · have := HLK.out.1; omega
      · have := (HLK.out.2 g e.symm); omega)
  have hb6 : Below w.heap.size w w6 := Kp.below HB5.out hk6 (fun i e => by have hs := HB3.out.size; rcases e with rfl | e; omega; have := (HLK.out.2 i e.symm).1; omega)
  have H6 := Go.Lib.hid hhh6
  have K6 := Go.Lib.hid hh6
  have HB6 := Go.Lib.hid hb6
  clear hh6 hk6 hR6 hhh6 hb6
  go_wp2_with (at_builtin; refine wpList_append_o _ rfl _ _ 26 rfl 5 i0 (.int .u8 0) 1 1 Try.underlying26 hi hz0 hz1 hz2 rfl (by decide) w6.heap.size _ 0 0 [] rfl (own_empty _ _ _ (Nat.le_refl _)) A xs.length c (bs xs) rfl (by simp) ((HR.out.below HB6.out).alloc _) (bs_one _) (by omega) (by unfold maxLen; omega) (by simp) ?_)
  intro B7 c7 w7 hown7 hk7 hl7
  have hb7 : Below w6.heap.size w6 w7 := Kp.below (bal (Below.refl _ _) _) hk7 (fun i h => by first | omega | (simp at h; omega))
  have HO7 := Go.Lib.hid hown7
  have HB7 := Go.Lib.hid hb7
  clear hown7 hk7 hl7 hb7
  go_wp2_with (at_builtin; refine wpList_append_o _ rfl _ _ 26 rfl 5 i0 (.int .u8 0) 1 1 Try.underlying26 hi hz0 hz1 hz2 rfl (by decide) w6.heap.size B7 xs.length c7 _ rfl HO7.out A' ys.length c' (bs ys) rfl (by simp) ((HR'.out.below HB6.out).below HB7.out) (bs_one _) (by omega) (by unfold maxLen; omega) (by exact HB7.out.size) ?_)
  intro B8 c8 w8 hown8 hk8 hl8
  have hb8 : Below w6.heap.size w6 w8 := Kp.below HB7.out hk8 (fun i h => (HO7.out.block_lt i h.symm).1)
  rw [← bs_append] at hown8
  have HO8 := Go.Lib.hid hown8
  have HB8 := Go.Lib.hid hb8
  clear hown8 hk8 hl8 hb8
  go_wp2_with (at_builtin; refine wpList_append_o _ rfl _ _ 26 rfl 5 i0 (.int .u8 0) 1 1 Try.underlying26 hi hz0 hz1 hz2 rfl (by decide) w8.heap.size _ 0 0 [] rfl (own_empty _ _ _ (Nat.le_refl _)) A xs.length c (bs xs) rfl (by simp) (((HR.out.below HB6.out).below HB8.out).alloc _) (bs_one _) (by omega) (by unfold maxLen; omega) (by simp) ?_)
  intro B9 c9 w9 hown9 hk9 hl9
  have hb9 : Below w8.heap.size w8 w9 := Kp.below (bal (Below.refl _ _) _) hk9 (fun i h => by first | omega | (simp at h; omega))
  have HO9 := Go.Lib.hid hown9
  have HB9 := Go.Lib.hid hb9
  clear hown9 hk9 hl9 hb9
  go_wp2_with (at_builtin; refine wpList_append_o _ rfl _ _ 26 rfl 5 i0 (.int .u8 0) 1 1 Try.underlying26 hi hz0 hz1 hz2 rfl (by decide) w8.heap.size B9 xs.length c9 _ rfl HO9.out A'' zs.length c'' (bs zs) rfl (by simp) (((HR''.out.below HB6.out).below HB8.out).below HB9.out) (bs_one _) (by omega) (by unfold maxLen; omega) (by exact HB9.out.size) ?_)
  intro B10 c10 w10 hown10 hk10 hl10
  have hb10 : Below w8.heap.size w8 w10 := Kp.below HB9.out hk10 (fun i h => (HO9.out.block_lt i h.symm).1)
  rw [← bs_append] at hown10
  have HX := Go.Lib.hid (HO8.out.rd.below hb10)
  have HY := Go.Lib.hid hown10.rd
  have HB610 := Go.Lib.hid (btr HB8.out hb10)
  clear hown10 hk10 hl10 hb10
  go_wp2_with fail
  refine (digest_Sum h R5 h (xs ++ ys) w10 (H6.out.below HB610.out) (by simp; omega)).mono ?_
  rintro e w11 ⟨rfl, hb11⟩
  rw [digV_dA, ← HP.out]
  have HX11 := Go.Lib.hid (HX.out.below hb11)
  have HY11 := Go.Lib.hid (HY.out.below hb11)
  have HB11 := Go.Lib.hid (btr HB610.out hb11)
  clear hb11
  go_wp2_with fail
  refine (ref_Of B8 (xs.length + ys.length) c8 (xs ++ ys) w11 (by simp) HX11.out (by simp; omega)).mono ?_
  rintro e w12 ⟨rfl, hb12⟩
  rw [digV_dA, ← HP.out]
  have HY12 := Go.Lib.hid (HY11.out.below hb12)
  have HB12 := Go.Lib.hid (btr HB11.out hb12)
  clear hb12
  go_wp2_with fail
  refine (digest_Sum k R6 w3.heap.size (xs ++ zs) w12 (K6.out.below HB12.out) (by simp; omega)).mono ?_
  rintro e w13 ⟨rfl, hb13⟩
  rw [digV_dA, ← HQ.out]
  have HY13 := Go.Lib.hid (HY12.out.below hb13)
  have HB13 := Go.Lib.hid (btr HB12.out hb13)
  clear hb13
  go_wp2_with fail
  refine (ref_Of B10 (xs.length + zs.length) c10 (xs ++ zs) w13 (by simp) HY13.out (by simp; omega)).mono ?_
  rintro e w14 ⟨rfl, hb14⟩
  rw [digV_dA, ← HQ.out]
  have HB14 := Go.Lib.hid (btr HB13.out hb14)
  clear hb14
  go_wp2_with fail
  refine (digest_Len h R5 h (xs ++ ys) w14 (H6.out.below HB14.out) (by simp; omega)).mono ?_
  rintro e w15 ⟨rfl, rfl⟩
  rw [List.length_append]
  go_wp2_with fail
  refine (digest_Len k R6 w3.heap.size (xs ++ zs) _ (K6.out.below HB14.out) (by simp; omega)).mono ?_
  rintro e w16 ⟨rfl, rfl⟩
  rw [List.length_append]
  go_wp2_with fail
  go_ret
  exact ⟨by simp, btr HB6.out HB14.out⟩

end Go.Proofs.Ytkjdmjflppcofaa
