/- DigestClones: the law. -/
import Derived.Test.YtkjdmjflppcofaaLawKit2
import Derived.Test.YtkjdmjflppcofaaBulk
import Derived.Test.YtkjdmjflppcofaaDgClonesW
import Derived.JoinedCond
import Derived.Deep.CondSized
namespace Go.Proofs.Ytkjdmjflppcofaa.digestClones
open Go.ChangeShapes Go.WideShapes Go.ChangeAt Go.RowKit
set_option linter.unusedVariables false

theorem own : ownKnob Try.prog.godebug = none := by kernel_rfl
theorem laid : laidOutB Try.prog = true := by kernel_rfl

set_option maxRecDepth 100000 in
theorem lifted (os : Os) (started : os.Started) (H : Type) (enc : TypeId × Value → H) (I : Stop.Interp) :
    ReturnsInHanded {} Try.checked os 8 .any ((Rows.OpenSpec.upto Rows.digestClonesSpec).pre6 enc Try.prog Try.f8 Rows.digestClonesUptoRow.domain false) (((Rows.OpenSpec.upto Rows.digestClonesSpec).at I).post enc Try.prog Try.f8 false true false false) := by
  refine returnsInHanded_of_cond_sized (C := Try.checked) (s := Rows.OpenSpec.upto Rows.digestClonesSpec) (k := Rows.uptoSmall) rfl own started (by kernel_rfl) Try.func8
    (OpenSpec.witness (enc := enc) (C := Try.checked) (s := Rows.OpenSpec.upto Rows.digestClonesSpec) (k := Rows.uptoSmall) rfl false ⟨#[], #[.slice none 0 0, .slice none 0 0, .slice none 0 0], []⟩ 8 (by kernel_rfl) (by kernel_rfl) (by kernel_rfl)
      (x := ([.nil, .nil, .nil], [], [])) (by kernel_rfl) rfl (by kernel_rfl)) ?_
  intro W base args ds gs before hval0 hW hcnd hk hsz0 _
  have hval : ∀ (j : Nat) t v, Try.f8.params[j]? = some t → args[j]? = some v → Value.okWide Try.prog W .any base t v := hval0
  have hsz : (DataW.weightsEach Try.prog (Try.f8.params.toList ++ Rows.digestClonesSpec.plain.varTypes Try.prog) (ds ++ gs)).all (· ≤ reachBytes) = true := hsz0
  have hbulk := bulks.bound hk
  have hW' := hW
  obtain ⟨p, q, hA0, hV, rfl, hfz, hnd⟩ := hW
  have hA : DataW.TrodAll enc Try.prog W 0 (fun _ => true) true Try.f8.params.toList args.toList ds p := hA0
  rw [Try.params8] at hA hval hsz
  obtain ⟨v0, vs0, d0, ds0, p0, q0, hargs, rfl, rfl, h0, r0⟩ := trodAll_cons hA
  obtain ⟨v1, vs1, d1, ds1, p1, q1, rfl, rfl, rfl, h1, r1⟩ := trodAll_cons r0
  obtain ⟨v2, vs2, d2, ds2, p2, q2, rfl, rfl, rfl, h2, r2⟩ := trodAll_cons r1
  obtain ⟨rfl, rfl, rfl⟩ := trodAll_nil r2
  obtain rfl : args = #[v0, v1, v2] := by cases args; simp_all
  obtain ⟨rfl, rfl⟩ := trodVars_none hV
  obtain ⟨A0, n0, c0, xs0, rfl, hn0, hc0, hr0, hd0⟩ := open_bytes Try.underlying26 Try.underlying5 (by kernel_rfl) (hval 0 26 v0 rfl rfl) h0
  have hz0 : c0 ≤ 140737488351232 := by
    rcases hd0 with ⟨_, h, _⟩ | ⟨el, sp, rfl, h⟩
    · omega
    · have := sized_slice hsz (j := 0) (t := 26) (e := 5) rfl rfl Try.underlying26
      have hb : Try.prog.bytesOf 5 = 1 := by kernel_rfl
      rw [hb] at this
      simp only [reachBytes] at this
      omega
  have hb0 : c0 ≤ 1048576 := by
    rcases hd0 with ⟨_, h, _⟩ | ⟨el, sp, rfl, h⟩
    · omega
    · have h1 := bulks.slice_le el sp
      have h2 := Nat.le_trans (bulks.part_le (d := DataW.slice el sp) (by simp)) hbulk
      omega
  obtain ⟨A1, n1, c1, xs1, rfl, hn1, hc1, hr1, hd1⟩ := open_bytes Try.underlying26 Try.underlying5 (by kernel_rfl) (hval 1 26 v1 rfl rfl) h1
  have hz1 : c1 ≤ 140737488351232 := by
    rcases hd1 with ⟨_, h, _⟩ | ⟨el, sp, rfl, h⟩
    · omega
    · have := sized_slice hsz (j := 1) (t := 26) (e := 5) rfl rfl Try.underlying26
      have hb : Try.prog.bytesOf 5 = 1 := by kernel_rfl
      rw [hb] at this
      simp only [reachBytes] at this
      omega
  have hb1 : c1 ≤ 1048576 := by
    rcases hd1 with ⟨_, h, _⟩ | ⟨el, sp, rfl, h⟩
    · omega
    · have h1 := bulks.slice_le el sp
      have h2 := Nat.le_trans (bulks.part_le (d := DataW.slice el sp) (by simp)) hbulk
      omega
  obtain ⟨A2, n2, c2, xs2, rfl, hn2, hc2, hr2, hd2⟩ := open_bytes Try.underlying26 Try.underlying5 (by kernel_rfl) (hval 2 26 v2 rfl rfl) h2
  have hz2 : c2 ≤ 140737488351232 := by
    rcases hd2 with ⟨_, h, _⟩ | ⟨el, sp, rfl, h⟩
    · omega
    · have := sized_slice hsz (j := 2) (t := 26) (e := 5) rfl rfl Try.underlying26
      have hb : Try.prog.bytesOf 5 = 1 := by kernel_rfl
      rw [hb] at this
      simp only [reachBytes] at this
      omega
  have hb2 : c2 ≤ 1048576 := by
    rcases hd2 with ⟨_, h, _⟩ | ⟨el, sp, rfl, h⟩
    · omega
    · have h1 := bulks.slice_le el sp
      have h2 := Nat.le_trans (bulks.part_le (d := DataW.slice el sp) (by simp)) hbulk
      omega
  refine (clones_walk W A0 n0 c0 xs0 hn0 hc0 hr0 hb0 A1 n1 c1 xs1 hn1 hc1 hr1 hb1 A2 n2 c2 xs2 hn2 hc2 hr2 hb2).mono fun e W' ⟨he, hb⟩ => ?_
  subst he
  exact ⟨_, rfl, post_true laid (by kernel_rfl) rfl Try.underlying4 rfl hW' rfl hb⟩

theorem proved : Rows.DigestClonesUptoSaid :=
  OpenClaim.holds_of_cond 8 Try.f8 rfl rfl rfl rfl rfl rfl rfl ⟨rfl, rfl, rfl, rfl, rfl⟩ rfl rfl rfl rfl rfl (by kernel_rfl) Try.func8 (by kernel_rfl)
    (of_decide_eq_true (by kernel_rfl)) (by unfold Func.isWrapper; first | (rw [if_pos (by decide +kernel)]; kernel_rfl) | (rw [if_neg (by decide +kernel)]; exact ⟨rfl, rfl⟩))
    (fun os started H enc _ I => lifted os started H enc I)
#print axioms proved
end Go.Proofs.Ytkjdmjflppcofaa.digestClones
