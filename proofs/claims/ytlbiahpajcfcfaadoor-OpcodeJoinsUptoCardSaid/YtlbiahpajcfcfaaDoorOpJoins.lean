/- OpcodeJoins: the walk. -/
import Derived.Test.YtlbiahpajcfcfaaDoorOpAgain
import Derived.Test.YtlbiahpajcfcfaaDoorOpJoinP
import Derived.Test.YtlbiahpajcfcfaaDoorOpGuard
namespace Go.Proofs.YtlbiahpajcfcfaaDoor
open Go.ChangeShapes Go.WideShapes Go.ChangeAt Go.RowKit
set_option linter.unusedVariables false
set_option maxRecDepth 100000
attribute [local go_sem ↓] Go.wp_at_zero Go.wp_at_succ

theorem joinsL_cat (a b : List UInt8) : (ByteArray.mk (List.toArray a)) ++ (ByteArray.mk (List.toArray b)) = ⟨(a ++ b).toArray⟩ := by
  apply ByteArray.ext
  rw [ByteArray.data_append]
  simp
theorem joinsL_size (a : List UInt8) : (ByteArray.mk (List.toArray a)).size = a.length := by simp [ByteArray.size]


set_option maxHeartbeats 8000000 in
theorem joins_walk (w : World) (hw : WL w) (s : List UInt8) (hzs : s.length ≤ 1048576) (t : List UInt8) (hzt : t.length ≤ 1048576) : Calls Tryd.prog 9 #[.string ⟨s.toArray⟩, .string ⟨t.toArray⟩] w fun r w' => r = .returned (.bool true) ∧ Below w.heap.size w w' := by
  have HWL := Go.Lib.hid hw
  obtain ⟨i0, hi, hz0, hz1, hz2⟩ := info_parts wd_u8
  obtain ⟨s1, hs1⟩ : ∃ s1, s1 = s ++ [10] := ⟨_, rfl⟩
  obtain ⟨s2, hs2⟩ : ∃ s2, s2 = s1 ++ t := ⟨_, rfl⟩
  obtain ⟨s3, hs3⟩ : ∃ s3, s3 = s2 ++ [32] := ⟨_, rfl⟩
  have hl1 : s1.length ≤ 1048577 := by rw [hs1, List.length_append]; simp; omega
  have hl2 : s2.length ≤ 2097153 := by rw [hs2, List.length_append]; omega
  have hl3 : s3.length ≤ 2097154 := by rw [hs3, List.length_append]; simp; omega
  have hcat1 : (ByteArray.mk (List.toArray s)) ++ (ByteArray.mk #[10]) = ⟨List.toArray s1⟩ := by rw [hs1]; exact joinsL_cat s [10]
  have hcat2 : (ByteArray.mk (List.toArray s1)) ++ (ByteArray.mk (List.toArray t)) = ⟨List.toArray s2⟩ := by rw [hs2]; exact joinsL_cat s1 t
  have hcat3 : (ByteArray.mk (List.toArray s2)) ++ (ByteArray.mk #[32]) = ⟨List.toArray s3⟩ := by rw [hs3]; exact joinsL_cat s2 [32]
  have hsz0 := joinsL_size s
  have hsz1 := joinsL_size t
  have hsz2 := joinsL_size s1
  have hsz3 := joinsL_size s2
  obtain ⟨xa, pa, ea, ha⟩ : ∃ xs pt e, asmT s = (xs, pt, e) := ⟨_, _, _, rfl⟩
  obtain ⟨xb, pb, eb, hb⟩ : ∃ xs pt e, asmT t = (xs, pt, e) := ⟨_, _, _, rfl⟩
  obtain ⟨xc, pc, ec, hc⟩ : ∃ xs pt e, asmT s3 = (xs, pt, e) := ⟨_, _, _, rfl⟩
  have sha := asmT_shape s
  have shb := asmT_shape t
  have hpb := asmT_place t
  have hjoin := fun (h : ea = 0) (h2 : xa.length ≤ 256) => asm_join (s := s) (t := t) (a := xa) (p := pa) (by rw [ha, h]) h2
  have hs3e : s ++ 10 :: (t ++ [32]) = s3 := by rw [hs3, hs2, hs1]; simp
  rw [hs3e, hb, hc] at hjoin
  rw [ha] at sha
  rw [hb] at shb hpb
  simp only at sha shb hpb
  have HA := Go.Lib.hid ha
  have HBT := Go.Lib.hid hb
  have HCT := Go.Lib.hid hc
  clear hs1 hs2 hs3 hw ha hb hc hs3e
  by_cases he : ea = 0
  · subst he
    have hxa := (sha.1 rfl).1
    have hj := hjoin rfl hxa
    have j1 := hj.ok
    have j2 := hj.long
    have j3 := hj.word
    have j4 := hj.other
    simp only at j1 j2 j3 j4
    have shb1 : eb = 0 → xb.length ≤ 256 := fun h => (shb.1 h).1
    have shb2 : eb ≠ 0 → xb.length = 0 := fun h => by rw [shb.2 h]; rfl
    clear sha shb hjoin hj
    by_cases hlong : xa.length + xb.length > 256
    · have heb : eb = 0 := by
        by_cases h : eb = 0
        · exact h
        · have := shb2 h; omega
      have hec : ec = 142 := j2 heb hlong
      have hli : (xa.length : Int) + (xb.length : Int) > 256 := by omega
      have hxb := shb1 heb
      subst hec
      clear j1 j2 j3 j4 shb1 shb2 heb hlong
      go_enter Tryd.func9, Tryd.ntmps9
      go_wp2_with fail
      refine (op_Assemble s (by omega) _ HWL.out).mono ?_
      rintro _ w2 ⟨A2, c2, rfl, hown2, hb2⟩
      rw [HA.out] at hown2 ⊢
      have HR2 := Go.Lib.hid hown2.rd
      have HC2 := Go.Lib.hid hown2.cap
      have HB2 := Go.Lib.hid hb2
      clear hown2 hb2
      go_wp2_with fail
      refine (op_Assemble t (by omega) _ (HWL.out.below HB2.out)).mono ?_
      rintro _ w3 ⟨A3, c3, rfl, hown3, hb3⟩
      rw [HBT.out] at hown3 ⊢
      have HR3 := Go.Lib.hid hown3.rd
      have HC3 := Go.Lib.hid hown3.cap
      have HR23 := Go.Lib.hid (HR2.out.below hb3)
      have HB3 := Go.Lib.hid (btr HB2.out hb3)
      clear hown3 hb3
      go_wp2_with fail
      refine (op_Assemble s3 (by omega) _ (HWL.out.below HB3.out)).mono ?_
      rintro _ w4 ⟨A4, c4, rfl, hown4, hb4⟩
      rw [HCT.out] at hown4 ⊢
      have HR4 := Go.Lib.hid hown4.rd
      have HC4 := Go.Lib.hid hown4.cap
      have HR24 := Go.Lib.hid (HR23.out.below hb4)
      have HR34 := Go.Lib.hid (HR3.out.below hb4)
      have HB4 := Go.Lib.hid (btr HB3.out hb4)
      clear hown4 hb4
      go_wp2_with fail
      refine (law_alive _ (HWL.out.below HB4.out)).mono ?_
      rintro _ w5 ⟨rfl, hb5⟩
      have HR5 := Go.Lib.hid (HR4.out.below hb5)
      have HR25 := Go.Lib.hid (HR24.out.below hb5)
      have HR35 := Go.Lib.hid (HR34.out.below hb5)
      have HB5 := Go.Lib.hid (btr HB4.out hb5)
      clear hb5
      go_wp2_with fail
      refine bodyPost_ret (v := .bool true) (by simp [results, Tryd.results9, go_sem]) rfl ⟨rfl, HB5.out⟩
    · have hli : ¬ ((xa.length : Int) + (xb.length : Int) > 256) := by omega
      have hxb : xb.length ≤ 256 := by omega
      by_cases h140 : eb = 140
      · subst h140
        rcases j3 rfl with h | ⟨h, hp⟩
        · subst h
          clear j1 j2 j3 j4 shb1 shb2 hlong
          go_enter Tryd.func9, Tryd.ntmps9
          go_wp2_with fail
          refine (op_Assemble s (by omega) _ HWL.out).mono ?_
          rintro _ w2 ⟨A2, c2, rfl, hown2, hb2⟩
          rw [HA.out] at hown2 ⊢
          have HR2 := Go.Lib.hid hown2.rd
          have HC2 := Go.Lib.hid hown2.cap
          have HB2 := Go.Lib.hid hb2
          clear hown2 hb2
          go_wp2_with fail
          refine (op_Assemble t (by omega) _ (HWL.out.below HB2.out)).mono ?_
          rintro _ w3 ⟨A3, c3, rfl, hown3, hb3⟩
          rw [HBT.out] at hown3 ⊢
          have HR3 := Go.Lib.hid hown3.rd
          have HC3 := Go.Lib.hid hown3.cap
          have HR23 := Go.Lib.hid (HR2.out.below hb3)
          have HB3 := Go.Lib.hid (btr HB2.out hb3)
          clear hown3 hb3
          go_wp2_with fail
          refine (op_Assemble s3 (by omega) _ (HWL.out.below HB3.out)).mono ?_
          rintro _ w4 ⟨A4, c4, rfl, hown4, hb4⟩
          rw [HCT.out] at hown4 ⊢
          have HR4 := Go.Lib.hid hown4.rd
          have HC4 := Go.Lib.hid hown4.cap
          have HR24 := Go.Lib.hid (HR23.out.below hb4)
          have HR34 := Go.Lib.hid (HR3.out.below hb4)
          have HB4 := Go.Lib.hid (btr HB3.out hb4)
          clear hown4 hb4
          go_wp2_with fail
          refine (law_alive _ (HWL.out.below HB4.out)).mono ?_
          rintro _ w5 ⟨rfl, hb5⟩
          have HR5 := Go.Lib.hid (HR4.out.below hb5)
          have HR25 := Go.Lib.hid (HR24.out.below hb5)
          have HR35 := Go.Lib.hid (HR34.out.below hb5)
          have HB5 := Go.Lib.hid (btr HB4.out hb5)
          clear hb5
          go_wp2_with fail
          refine bodyPost_ret (v := .bool true) (by simp [results, Tryd.results9, go_sem]) rfl ⟨rfl, HB5.out⟩
        · subst h
          have hp2 : (pc : Int) = (s.length : Int) + 1 + (pb : Int) := by omega
          clear j1 j2 j3 j4 shb1 shb2 hlong hp
          go_enter Tryd.func9, Tryd.ntmps9
          go_wp2_with fail
          refine (op_Assemble s (by omega) _ HWL.out).mono ?_
          rintro _ w2 ⟨A2, c2, rfl, hown2, hb2⟩
          rw [HA.out] at hown2 ⊢
          have HR2 := Go.Lib.hid hown2.rd
          have HC2 := Go.Lib.hid hown2.cap
          have HB2 := Go.Lib.hid hb2
          clear hown2 hb2
          go_wp2_with fail
          refine (op_Assemble t (by omega) _ (HWL.out.below HB2.out)).mono ?_
          rintro _ w3 ⟨A3, c3, rfl, hown3, hb3⟩
          rw [HBT.out] at hown3 ⊢
          have HR3 := Go.Lib.hid hown3.rd
          have HC3 := Go.Lib.hid hown3.cap
          have HR23 := Go.Lib.hid (HR2.out.below hb3)
          have HB3 := Go.Lib.hid (btr HB2.out hb3)
          clear hown3 hb3
          go_wp2_with fail
          refine (op_Assemble s3 (by omega) _ (HWL.out.below HB3.out)).mono ?_
          rintro _ w4 ⟨A4, c4, rfl, hown4, hb4⟩
          rw [HCT.out] at hown4 ⊢
          have HR4 := Go.Lib.hid hown4.rd
          have HC4 := Go.Lib.hid hown4.cap
          have HR24 := Go.Lib.hid (HR23.out.below hb4)
          have HR34 := Go.Lib.hid (HR3.out.below hb4)
          have HB4 := Go.Lib.hid (btr HB3.out hb4)
          clear hown4 hb4
          go_wp2_with fail
          refine (law_alive _ (HWL.out.below HB4.out)).mono ?_
          rintro _ w5 ⟨rfl, hb5⟩
          have HR5 := Go.Lib.hid (HR4.out.below hb5)
          have HR25 := Go.Lib.hid (HR24.out.below hb5)
          have HR35 := Go.Lib.hid (HR34.out.below hb5)
          have HB5 := Go.Lib.hid (btr HB4.out hb5)
          clear hb5
          go_wp2_with fail
          refine bodyPost_ret (v := .bool true) (by simp [results, Tryd.results9, go_sem]) rfl ⟨rfl, HB5.out⟩
      · have hb140 : ((eb : Int) == 140) = false := beq_eq_false_iff_ne.2 (by omega)
        by_cases hb0 : eb = 0
        · subst hb0
          have hq := j1 rfl (by omega)
          simp only [Prod.mk.injEq] at hq
          obtain ⟨hxc, hpc, hec⟩ := hq
          subst hpc
          subst hec
          have HXC := Go.Lib.hid hxc
          have hlc : xc.length = xa.length + xb.length := by rw [hxc, List.length_append]
          clear j1 j2 j3 j4 shb1 shb2 hlong hxc h140
          have HLC := Go.Lib.hid hlc
          clear hlc
          go_enter Tryd.func9, Tryd.ntmps9
          go_wp2_with fail
          refine (op_Assemble s (by omega) _ HWL.out).mono ?_
          rintro _ w2 ⟨A2, c2, rfl, hown2, hb2⟩
          rw [HA.out] at hown2 ⊢
          have HR2 := Go.Lib.hid hown2.rd
          have HC2 := Go.Lib.hid hown2.cap
          have HB2 := Go.Lib.hid hb2
          clear hown2 hb2
          go_wp2_with fail
          refine (op_Assemble t (by omega) _ (HWL.out.below HB2.out)).mono ?_
          rintro _ w3 ⟨A3, c3, rfl, hown3, hb3⟩
          rw [HBT.out] at hown3 ⊢
          have HR3 := Go.Lib.hid hown3.rd
          have HC3 := Go.Lib.hid hown3.cap
          have HR23 := Go.Lib.hid (HR2.out.below hb3)
          have HB3 := Go.Lib.hid (btr HB2.out hb3)
          clear hown3 hb3
          go_wp2_with fail
          refine (op_Assemble s3 (by omega) _ (HWL.out.below HB3.out)).mono ?_
          rintro _ w4 ⟨A4, c4, rfl, hown4, hb4⟩
          rw [HCT.out] at hown4 ⊢
          have HR4 := Go.Lib.hid hown4.rd
          have HC4 := Go.Lib.hid hown4.cap
          have HR24 := Go.Lib.hid (HR23.out.below hb4)
          have HR34 := Go.Lib.hid (HR3.out.below hb4)
          have HB4 := Go.Lib.hid (btr HB3.out hb4)
          clear hown4 hb4
          go_wp2_with fail
          refine (law_alive _ (HWL.out.below HB4.out)).mono ?_
          rintro _ w5 ⟨rfl, hb5⟩
          have HR5 := Go.Lib.hid (HR4.out.below hb5)
          have HR25 := Go.Lib.hid (HR24.out.below hb5)
          have HR35 := Go.Lib.hid (HR34.out.below hb5)
          have HB5 := Go.Lib.hid (btr HB4.out hb5)
          clear hb5
          go_wp2_with (at_builtin; go_loud (refine wpList_append_g _ (by rfl) _ _ 32 rfl 5 i0 (.int .u8 0) 1 1 Tryd.underlying32 hi hz0 hz1 hz2 rfl (by decide) w5.heap.size none 0 0 [] rfl (Own.nil _ _ _ _) A2 xa.length c2 (bs xa) rfl (by simp) HR25.out (bs_one _) (by omega) (by unfold maxLen; omega) (Nat.le_refl _) ?_))
          intro A6 c6 w6 hown6 hkp6 hlie6
          have hb6 : Below w5.heap.size w5 w6 := Kp.below (Below.refl _ _) hkp6 (fun i h => by simp at h)
          (try simp only [Nat.zero_add, List.nil_append] at hown6)
          have HO6 := Go.Lib.hid hown6
          have HR36 := Go.Lib.hid (HR35.out.below hb6)
          have HB6 := Go.Lib.hid hb6
          clear hown6 hkp6 hlie6 hb6
          (try rw [Nat.zero_add])
          go_wp2_with (at_builtin; go_loud (refine wpList_append_g _ (by rfl) _ _ 32 rfl 5 i0 (.int .u8 0) 1 1 Tryd.underlying32 hi hz0 hz1 hz2 rfl (by decide) w5.heap.size A6 xa.length c6 (bs xa) rfl HO6.out A3 xb.length c3 (bs xb) rfl (by simp) HR36.out (bs_one _) (by omega) (by unfold maxLen; omega) HB6.out.size ?_))
          intro A7 c7 w7 hown7 hkp7 hlie7
          have hb7 : Below w5.heap.size w5 w7 := Kp.below HB6.out hkp7 (fun i h => (HO6.out.block_lt i h.symm).1)
          have HB7 := Go.Lib.hid (btr HB5.out hb7)
          have HR7 := Go.Lib.hid (show Rd w7 A7 (bs xc) by
            have h := hown7.rd
            rw [← bs_append] at h
            rw [HXC.out]
            exact h)
          have HR57 := Go.Lib.hid (HR5.out.below hb7)
          clear hown7 hkp7 hlie7 hb7
          go_wp2_with fail
          refine (law_same A4 A7 xc.length c4 (xa.length + xb.length) c7 xc xc _ HR57.out HR7.out rfl HLC.out).mono ?_
          rintro _ _ ⟨rfl, rfl⟩
          rw [beq_self_eq_true]
          go_wp2_with fail
          refine bodyPost_ret (v := .bool true) (by simp [results, Tryd.results9, go_sem]) rfl ⟨rfl, HB7.out⟩
        · have hec : ec ≠ 0 := j4 hb0
          have hbn : ((eb : Int) == 0) = false := beq_eq_false_iff_ne.2 (by omega)
          have hcn : ((ec : Int) == 0) = false := beq_eq_false_iff_ne.2 (by omega)
          clear j1 j2 j3 j4 shb1 shb2 hlong h140 hb0
          go_enter Tryd.func9, Tryd.ntmps9
          go_wp2_with fail
          refine (op_Assemble s (by omega) _ HWL.out).mono ?_
          rintro _ w2 ⟨A2, c2, rfl, hown2, hb2⟩
          rw [HA.out] at hown2 ⊢
          have HR2 := Go.Lib.hid hown2.rd
          have HC2 := Go.Lib.hid hown2.cap
          have HB2 := Go.Lib.hid hb2
          clear hown2 hb2
          go_wp2_with fail
          refine (op_Assemble t (by omega) _ (HWL.out.below HB2.out)).mono ?_
          rintro _ w3 ⟨A3, c3, rfl, hown3, hb3⟩
          rw [HBT.out] at hown3 ⊢
          have HR3 := Go.Lib.hid hown3.rd
          have HC3 := Go.Lib.hid hown3.cap
          have HR23 := Go.Lib.hid (HR2.out.below hb3)
          have HB3 := Go.Lib.hid (btr HB2.out hb3)
          clear hown3 hb3
          go_wp2_with fail
          refine (op_Assemble s3 (by omega) _ (HWL.out.below HB3.out)).mono ?_
          rintro _ w4 ⟨A4, c4, rfl, hown4, hb4⟩
          rw [HCT.out] at hown4 ⊢
          have HR4 := Go.Lib.hid hown4.rd
          have HC4 := Go.Lib.hid hown4.cap
          have HR24 := Go.Lib.hid (HR23.out.below hb4)
          have HR34 := Go.Lib.hid (HR3.out.below hb4)
          have HB4 := Go.Lib.hid (btr HB3.out hb4)
          clear hown4 hb4
          go_wp2_with fail
          refine (law_alive _ (HWL.out.below HB4.out)).mono ?_
          rintro _ w5 ⟨rfl, hb5⟩
          have HR5 := Go.Lib.hid (HR4.out.below hb5)
          have HR25 := Go.Lib.hid (HR24.out.below hb5)
          have HR35 := Go.Lib.hid (HR34.out.below hb5)
          have HB5 := Go.Lib.hid (btr HB4.out hb5)
          clear hb5
          go_wp2_with fail
          refine bodyPost_ret (v := .bool true) (by simp [results, Tryd.results9, go_sem, hec]) rfl ⟨rfl, HB5.out⟩
  · have heq : ((ea : Int) == 0) = false := beq_eq_false_iff_ne.2 (by omega)
    clear hjoin sha shb he
    go_enter Tryd.func9, Tryd.ntmps9
    go_wp2_with fail
    refine (op_Assemble s (by omega) _ HWL.out).mono ?_
    rintro _ w2 ⟨A2, c2, rfl, hown2, hb2⟩
    rw [HA.out] at hown2 ⊢
    have HR2 := Go.Lib.hid hown2.rd
    have HC2 := Go.Lib.hid hown2.cap
    have HB2 := Go.Lib.hid hb2
    clear hown2 hb2
    go_wp2_with fail
    refine (op_Assemble t (by omega) _ (HWL.out.below HB2.out)).mono ?_
    rintro _ w3 ⟨A3, c3, rfl, hown3, hb3⟩
    rw [HBT.out] at hown3 ⊢
    have HR3 := Go.Lib.hid hown3.rd
    have HC3 := Go.Lib.hid hown3.cap
    have HR23 := Go.Lib.hid (HR2.out.below hb3)
    have HB3 := Go.Lib.hid (btr HB2.out hb3)
    clear hown3 hb3
    go_wp2_with fail
    refine (op_Assemble s3 (by omega) _ (HWL.out.below HB3.out)).mono ?_
    rintro _ w4 ⟨A4, c4, rfl, hown4, hb4⟩
    rw [HCT.out] at hown4 ⊢
    have HR4 := Go.Lib.hid hown4.rd
    have HC4 := Go.Lib.hid hown4.cap
    have HR24 := Go.Lib.hid (HR23.out.below hb4)
    have HR34 := Go.Lib.hid (HR3.out.below hb4)
    have HB4 := Go.Lib.hid (btr HB3.out hb4)
    clear hown4 hb4
    go_wp2_with fail
    refine (law_alive _ (HWL.out.below HB4.out)).mono ?_
    rintro _ w5 ⟨rfl, hb5⟩
    have HR5 := Go.Lib.hid (HR4.out.below hb5)
    have HR25 := Go.Lib.hid (HR24.out.below hb5)
    have HR35 := Go.Lib.hid (HR34.out.below hb5)
    have HB5 := Go.Lib.hid (btr HB4.out hb5)
    clear hb5
    go_wp2_with fail
    refine (law_alive _ (HWL.out.below HB5.out)).mono ?_
    rintro _ w6 ⟨rfl, hb6⟩
    have HB6 := Go.Lib.hid (btr HB5.out hb6)
    clear hb6
    go_wp2_with fail
    refine bodyPost_ret (v := .bool true) (by simp [results, Tryd.results9, go_sem]) rfl ⟨rfl, HB6.out⟩

end Go.Proofs.YtlbiahpajcfcfaaDoor
