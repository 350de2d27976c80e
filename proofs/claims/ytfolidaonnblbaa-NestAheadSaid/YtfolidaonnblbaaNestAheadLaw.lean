/- NestAhead: the law. -/
import Derived.Test.YtfolidaonnblbaaLawKit2
import Derived.Test.YtfolidaonnblbaaNsAhead
namespace Go.Proofs.Ytfolidaonnblbaa.nestAhead
open Go.ChangeShapes Go.WideShapes Go.ChangeAt Go.RowKit
set_option linter.unusedVariables false

theorem own : ownKnob Try.prog.godebug = none := by kernel_rfl
theorem laid : laidOutB Try.prog = true := by kernel_rfl

set_option maxRecDepth 100000 in
theorem lifted (os : Os) (started : os.Started) (H : Type) (enc : TypeId × Value → H) :
    ReturnsInHanded {} Try.checked os 5 .any (Rows.nestAheadSpec.pre6 enc Try.prog Try.f5 Rows.nestAheadRow.domain false) (Rows.nestAheadSpec.post enc Try.prog Try.f5 false true false false) := by
  refine returnsInHanded_of_change_sized (C := Try.checked) own started (by kernel_rfl) Try.func5
    (ChangeSpec.witness6 (enc := enc) (C := Try.checked) false ⟨#[], #[.agg #[.bool false, .slice none 0 0, .slice none 0 0], .agg #[.bool false, .slice none 0 0, .slice none 0 0], .slice none 0 0], []⟩ 8 (by kernel_rfl) (by kernel_rfl) (by kernel_rfl) (by kernel_rfl)) ?_
  intro W base args ds gs before hval0 hW hcnd hsz0 _
  have hval : ∀ (j : Nat) t v, Try.f5.params[j]? = some t → args[j]? = some v → Value.okWide Try.prog W .any base t v := hval0
  have hsz : (DataW.weightsEach Try.prog (Try.f5.params.toList ++ Rows.nestAheadSpec.plain.varTypes Try.prog) (ds ++ gs)).all (· ≤ reachBytes) = true := hsz0
  have hW' := hW
  obtain ⟨p, q, hA0, hV, rfl, hfz, hnd⟩ := hW
  have hA : DataW.TrodAll enc Try.prog W 0 (fun _ => true) true Try.f5.params.toList args.toList ds p := hA0
  rw [Try.params5] at hA hval hsz
  obtain ⟨v0, vs0, d0, ds0, p0, q0, hargs, rfl, rfl, h0, r0⟩ := trodAll_cons hA
  obtain ⟨v1, vs1, d1, ds1, p1, q1, rfl, rfl, rfl, h1, r1⟩ := trodAll_cons r0
  obtain ⟨v2, vs2, d2, ds2, p2, q2, rfl, rfl, rfl, h2, r2⟩ := trodAll_cons r1
  obtain ⟨rfl, rfl, rfl⟩ := trodAll_nil r2
  obtain rfl : args = #[v0, v1, v2] := by cases args; simp_all
  obtain ⟨rfl, rfl⟩ := trodVars_none hV
  obtain ⟨t0, x0, y0, z0, rfl, hr0⟩ := open_item (hval 0 25 v0 rfl rfl) h0 (fun m hm => by have := List.all_eq_true.1 hsz _ (DataW.weights_mem_each (j := 0) rfl rfl m hm); simpa using this)
  obtain ⟨t1, x1, y1, z1, rfl, hr1⟩ := open_item (hval 1 25 v1 rfl rfl) h1 (fun m hm => by have := List.all_eq_true.1 hsz _ (DataW.weights_mem_each (j := 1) rfl rfl m hm); simpa using this)
  obtain ⟨A2, n2, c2, xs2, rfl, hn2, hc2, hr2, hd2⟩ := open_bytes Try.underlying22 Try.underlying5 (by kernel_rfl) (hval 2 22 v2 rfl rfl) h2
  have hz2 : c2 ≤ 140737488351232 := by
    rcases hd2 with ⟨_, h, _⟩ | ⟨el, sp, rfl, h⟩
    · omega
    · have := sized_slice hsz (j := 2) (t := 22) (e := 5) rfl rfl Try.underlying22
      have hb : Try.prog.bytesOf 5 = 1 := by kernel_rfl
      rw [hb] at this
      simp only [reachBytes] at this
      omega
  refine (ahead_walk W t0 _ _ _ hr0 t1 _ _ _ hr1 A2 n2 c2 xs2 hn2 hc2 hr2 hz2).mono fun e W' ⟨he, hb⟩ => ?_
  subst he
  exact ⟨_, rfl, post_true laid (by kernel_rfl) rfl Try.underlying4 rfl hW' rfl hb⟩

theorem over : Rows.nestAheadRow.holds Try.pinned (OpenSpec.ofChange Rows.nestAheadSpec) :=
  OpenClaim.holds_of_wide 5 Try.f5 rfl rfl rfl rfl rfl rfl rfl ⟨rfl, rfl, rfl, rfl, rfl⟩ rfl rfl rfl rfl rfl (by kernel_rfl) Try.func5 (by kernel_rfl)
    (of_decide_eq_true (by kernel_rfl)) (by unfold Func.isWrapper; first | (rw [if_pos (by decide +kernel)]; kernel_rfl) | (rw [if_neg (by decide +kernel)]; exact ⟨rfl, rfl⟩))
    (fun os started H enc _ => lifted os started H enc)

theorem proved : Rows.NestAheadSaid :=
  over
#print axioms proved
end Go.Proofs.Ytfolidaonnblbaa.nestAhead
