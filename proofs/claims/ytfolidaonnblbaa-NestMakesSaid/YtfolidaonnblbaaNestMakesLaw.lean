/- NestMakes: the law. -/
import Derived.Test.YtfolidaonnblbaaLawKit2
import Derived.Test.YtfolidaonnblbaaNsOpen
import Derived.Test.YtfolidaonnblbaaNsMakes
namespace Go.Proofs.Ytfolidaonnblbaa.nestMakes
open Go.ChangeShapes Go.WideShapes Go.ChangeAt Go.RowKit
set_option linter.unusedVariables false

theorem own : ownKnob Try.prog.godebug = none := by kernel_rfl
theorem laid : laidOutB Try.prog = true := by kernel_rfl

set_option maxRecDepth 100000 in
theorem lifted (os : Os) (started : os.Started) (H : Type) (enc : TypeId × Value → H) :
    ReturnsInHanded {} Try.checked os 9 .any (Rows.nestMakesSpec.pre6 enc Try.prog Try.f9 Rows.nestMakesRow.domain false) (Rows.nestMakesSpec.post enc Try.prog Try.f9 false true false false) := by
  refine returnsInHanded_of_change_sized (C := Try.checked) own started (by kernel_rfl) Try.func9
    (ChangeSpec.witness6 (enc := enc) (C := Try.checked) false ⟨#[], #[.slice none 0 0, .slice none 0 0], []⟩ 8 (by kernel_rfl) (by kernel_rfl) (by kernel_rfl) (by kernel_rfl)) ?_
  intro W base args ds gs before hval0 hW hcnd hsz0 _
  have hval : ∀ (j : Nat) t v, Try.f9.params[j]? = some t → args[j]? = some v → Value.okWide Try.prog W .any base t v := hval0
  have hsz : (DataW.weightsEach Try.prog (Try.f9.params.toList ++ Rows.nestMakesSpec.plain.varTypes Try.prog) (ds ++ gs)).all (· ≤ reachBytes) = true := hsz0
  have hW' := hW
  obtain ⟨p, q, hA0, hV, rfl, hfz, hnd⟩ := hW
  have hA : DataW.TrodAll enc Try.prog W 0 (fun _ => true) true Try.f9.params.toList args.toList ds p := hA0
  rw [Try.params9] at hA hval hsz
  obtain ⟨v0, vs0, d0, ds0, p0, q0, hargs, rfl, rfl, h0, r0⟩ := trodAll_cons hA
  obtain ⟨v1, vs1, d1, ds1, p1, q1, rfl, rfl, rfl, h1, r1⟩ := trodAll_cons r0
  obtain ⟨rfl, rfl, rfl⟩ := trodAll_nil r1
  obtain rfl : args = #[v0, v1] := by cases args; simp_all
  obtain ⟨rfl, rfl⟩ := trodVars_none hV
  obtain ⟨A0, n0, c0, xs0, rfl, hn0, hc0, hr0, hd0⟩ := open_bytes Try.underlying22 Try.underlying5 (by kernel_rfl) (hval 0 22 v0 rfl rfl) h0
  have hz0 : c0 ≤ 140737488351232 := by
    rcases hd0 with ⟨_, h, _⟩ | ⟨el, sp, rfl, h⟩
    · omega
    · have := sized_slice hsz (j := 0) (t := 22) (e := 5) rfl rfl Try.underlying22
      have hb : Try.prog.bytesOf 5 = 1 := by kernel_rfl
      rw [hb] at this
      simp only [reachBytes] at this
      omega
  obtain ⟨A1, n1, c1, its1, cl1, rfl, hn1, hc1, hz1, hr1, hl1⟩ := open_items (hval 1 23 v1 rfl rfl) h1 (fun m hm => by have := List.all_eq_true.1 hsz _ (DataW.weights_mem_each (j := 1) rfl rfl m hm); simpa using this)
  refine (makes_walk W A0 n0 c0 xs0 hn0 hc0 hr0 hz0 A1 n1 c1 its1 cl1 hn1 hc1 hz1 hr1 hl1).mono fun e W' ⟨he, hb⟩ => ?_
  subst he
  exact ⟨_, rfl, post_true laid (by kernel_rfl) rfl Try.underlying4 rfl hW' rfl hb⟩

theorem over : Rows.nestMakesRow.holds Try.pinned (OpenSpec.ofChange Rows.nestMakesSpec) :=
  OpenClaim.holds_of_wide 9 Try.f9 rfl rfl rfl rfl rfl rfl rfl ⟨rfl, rfl, rfl, rfl, rfl⟩ rfl rfl rfl rfl rfl (by kernel_rfl) Try.func9 (by kernel_rfl)
    (of_decide_eq_true (by kernel_rfl)) (by unfold Func.isWrapper; first | (rw [if_pos (by decide +kernel)]; kernel_rfl) | (rw [if_neg (by decide +kernel)]; exact ⟨rfl, rfl⟩))
    (fun os started H enc _ => lifted os started H enc)

theorem proved : Rows.NestMakesSaid :=
  over
#print axioms proved
end Go.Proofs.Ytfolidaonnblbaa.nestMakes
