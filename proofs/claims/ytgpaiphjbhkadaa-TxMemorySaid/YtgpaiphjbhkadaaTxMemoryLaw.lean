/- TxMemory: the law. -/
import Derived.Test.YtgpaiphjbhkadaaLawKit2
import Derived.Test.YtgpaiphjbhkadaaTxDecodes
namespace Go.Proofs.Ytgpaiphjbhkadaa.txMemory
open Go.ChangeShapes Go.WideShapes Go.ChangeAt Go.RowKit
set_option linter.unusedVariables false
set_option maxRecDepth 100000

theorem own : ownKnob Try.prog.godebug = none := by kernel_rfl
theorem laid : laidOutB Try.prog = true := by kernel_rfl

set_option maxRecDepth 100000 in
theorem lifted (os : Os) (started : os.Started) (H : Type) (enc : TypeId × Value → H) :
    ReturnsInHanded {} Try.checked os 7 .any (Rows.txMemorySpec.pre6 enc Try.prog Try.f7 Rows.txMemoryRow.domain false) (Rows.txMemorySpec.post enc Try.prog Try.f7 false true false false) := by
  refine returnsInHanded_of_change_sized (C := Try.checked) own started (by kernel_rfl) Try.func7
    (ChangeSpec.witness6 (enc := enc) (C := Try.checked) false ⟨#[], #[.slice none 0 0], []⟩ 8 (by kernel_rfl) (by kernel_rfl) (by kernel_rfl) (by kernel_rfl)) ?_
  intro W base args ds gs before hval0 hW hcnd hsz0 _
  have hval : ∀ (j : Nat) t v, Try.f7.params[j]? = some t → args[j]? = some v → Value.okWide Try.prog W .any base t v := hval0
  have hsz : (DataW.weightsEach Try.prog (Try.f7.params.toList ++ Rows.txMemorySpec.plain.varTypes Try.prog) (ds ++ gs)).all (· ≤ reachBytes) = true := hsz0
  have hW' := hW
  obtain ⟨p, q, hA0, hV, rfl, hfz, hnd⟩ := hW
  have hA : DataW.TrodAll enc Try.prog W 0 (fun _ => true) true Try.f7.params.toList args.toList ds p := hA0
  rw [Try.params7] at hA hval hsz
  obtain ⟨v0, vs0, d0, ds0, p0, q0, hargs, rfl, rfl, h0, r0⟩ := trodAll_cons hA
  obtain ⟨rfl, rfl, rfl⟩ := trodAll_nil r0
  obtain rfl : args = #[v0] := by cases args; simp_all
  obtain ⟨rfl, rfl⟩ := trodVars_none hV
  obtain ⟨A0, n0, c0, xs0, rfl, hn0, hc0, hr0, hd0⟩ := open_bytes Try.underlying24 Try.underlying5 (by kernel_rfl) (hval 0 24 v0 rfl rfl) h0
  have hz0 : c0 ≤ 140737488351232 := by
    rcases hd0 with ⟨_, h, _⟩ | ⟨el, sp, rfl, h⟩
    · omega
    · have := sized_slice hsz (j := 0) (t := 24) (e := 5) rfl rfl Try.underlying24
      have hb : Try.prog.bytesOf 5 = 1 := by kernel_rfl
      rw [hb] at this
      simp only [reachBytes] at this
      omega
  refine (memory_walk W A0 n0 c0 xs0 hn0 hc0 hr0 hz0).mono fun e W' ⟨he, hb⟩ => ?_
  subst he
  exact ⟨_, rfl, post_true laid (by kernel_rfl) rfl Try.underlying4 rfl hW' rfl hb⟩

theorem over : Rows.txMemoryRow.holds Try.pinned (OpenSpec.ofChange Rows.txMemorySpec) :=
  OpenClaim.holds_of_wide 7 Try.f7 rfl rfl rfl rfl rfl rfl rfl ⟨rfl, rfl, rfl, rfl, rfl⟩ rfl rfl rfl rfl rfl (by kernel_rfl) Try.func7 (by kernel_rfl)
    (of_decide_eq_true (by kernel_rfl)) (by unfold Func.isWrapper; first | (rw [if_pos (by decide +kernel)]; kernel_rfl) | (rw [if_neg (by decide +kernel)]; exact ⟨rfl, rfl⟩))
    (fun os started H enc _ => lifted os started H enc)

theorem proved : Rows.TxMemorySaid :=
  over
#print axioms proved
end Go.Proofs.Ytgpaiphjbhkadaa.txMemory
