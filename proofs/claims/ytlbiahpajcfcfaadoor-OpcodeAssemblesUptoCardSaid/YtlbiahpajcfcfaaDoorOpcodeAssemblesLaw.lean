/- OpcodeAssembles: the law in its second form, and its card. -/
import Derived.Test.YtlbiahpajcfcfaaDoorLawKit2
import Derived.Test.YtlbiahpajcfcfaaDoorWdLaid
import Derived.Test.YtlbiahpajcfcfaaDoorBulk
import Derived.Test.YtlbiahpajcfcfaaDoorTie
import Derived.Test.YtlbiahpajcfcfaaDoorCards
import Derived.Test.YtlbiahpajcfcfaaDoorOpAssembles
import Derived.SevenTiedAt
import Derived.Deep.DeepHandedRow
import Derived.JoinedCond
import Derived.MakeChecks
namespace Go.Proofs.YtlbiahpajcfcfaaDoor.opcodeAssembles
open Go Go.ChangeShapes Go.WideShapes Go.ChangeAt Go.RowKit
set_option linter.unusedVariables false
set_option maxRecDepth 100000

theorem own : ownKnob Tryd.prog.godebug = none := by kernel_rfl
theorem laid : laidOutB Tryd.prog = true := by kernel_rfl

theorem reads (os : Os) {H : Type} (enc : TypeId × Value → H) : ∃ places, DataW.whole enc Tryd.prog ((laidWorld os).forCall (fun _ _ => 0) ⟨#[], #[.string ⟨#[]⟩], []⟩).memory Tryd.f5.params.toList Rows.opcodeAssemblesSpec.vars false (#[.string ⟨#[]⟩] : Array Value).toList 8 = some ([.lit (.string [])], [], places) :=
  ⟨[], by kernel_rfl⟩
set_option maxRecDepth 100000 in
theorem lifted (os : Os) (started : os.Started) (H : Type) (enc : TypeId × Value → H) (I : Stop.Interp) :
    ReturnsInHanded {} Tryd.checked os 5 .any ((Rows.OpenSpec.upto Rows.opcodeAssemblesSpec).preRow enc Tryd.prog Tryd.f5 Rows.opcodeAssemblesUptoRow.domain false Rows.opcodeAssemblesUptoRow.laid) (((Rows.OpenSpec.upto Rows.opcodeAssemblesSpec).at I).post enc Tryd.prog Tryd.f5 false true false false) := by
  obtain ⟨places, hx⟩ := reads os enc
  refine returnsInHanded_of_row (C := Tryd.checked) (s := Rows.OpenSpec.upto Rows.opcodeAssemblesSpec) own started (by kernel_rfl) Tryd.func5
    (witness_row_at (enc := enc) (C := Tryd.checked) false (laidWorld os) #[.string ⟨#[]⟩] rfl (by kernel_rfl) (by kernel_rfl) (by kernel_rfl)
      (OpenSpec.preRow_of_cond 8 hx (by kernel_rfl) (fun k hk => by cases hk; kernel_rfl) (by kernel_rfl) (laidWorld_met os _))) ?_
  intro W base args ds gs before hval0 hW _ hcond _ hL _ _
  have hval : ∀ (j : Nat) t v, Tryd.f5.params[j]? = some t → args[j]? = some v → Value.okWide Tryd.prog W .any base t v := hval0
  have hbulk := bulks.bound (hcond _ rfl)
  have hwl : WL W := wl_of_laid (show laidMet Tryd.prog Rows.opcodeAssemblesUptoRow.laid W from hL)
  have hW' := hW
  obtain ⟨p, q, hA0, hV, rfl, hfz, hnd⟩ := hW
  have hA : DataW.TrodAll enc Tryd.prog W 0 (fun _ => true) true Tryd.f5.params.toList args.toList ds p := hA0
  rw [Tryd.params5] at hA hval
  obtain ⟨v0, vs0, d0, ds0, p0, q0, hargs, rfl, rfl, h0, r0⟩ := trodAll_cons hA
  obtain ⟨rfl, rfl, rfl⟩ := trodAll_nil r0
  obtain rfl : args = #[v0] := by cases args; simp_all
  obtain ⟨rfl, rfl⟩ := trodVars_none hV
  obtain ⟨s0, rfl, rfl, rfl, hs0⟩ := Go.ChangeMaps.open_string Tryd.underlying9 (hval 0 9 v0 rfl rfl) h0
  have hz0 : s0.data.toList.length ≤ 1048576 := by
    have h1 := Nat.le_trans (bulks.part_le (d := DataW.lit (H := H) (.string s0.data.toList)) (by simp)) hbulk
    rw [bulks.string_eq] at h1
    omega
  refine (assembles_walk W hwl s0.data.toList hz0).mono fun e W' ⟨he, hb⟩ => ?_
  subst he
  exact ⟨_, rfl, post_true laid (by kernel_rfl) rfl Tryd.underlying4 rfl hW' rfl hb⟩

theorem said : Rows.OpcodeAssemblesUptoSaid :=
  OpenClaim.holds_of_cond 5 Tryd.f5 rfl rfl rfl rfl rfl rfl rfl ⟨rfl, rfl, rfl, rfl, rfl⟩ rfl rfl rfl rfl rfl (by kernel_rfl) Tryd.func5 (by kernel_rfl)
    (of_decide_eq_true (by kernel_rfl)) (by unfold Func.isWrapper; first | (rw [if_pos (by decide +kernel)]; kernel_rfl) | (rw [if_neg (by decide +kernel)]; exact ⟨rfl, rfl⟩))
    (fun os started H enc _ I => by rw [OpenClaim.pre_eq_preRow]; exact lifted os started H enc I)

theorem proved : Rows.OpcodeAssemblesUptoCardSaid :=
  Claim7.holds_tied_plain_at .later [] _ _ _ _ said (fun _ h => by cases h) (by kernel_rfl) (fun _ h => by cases h) opcodeAssemblesUpto_row_tie rfl ⟨rfl, rfl⟩ (by kernel_rfl) rfl
    (fun f fn hf hfn => by
      obtain rfl : f = 5 := Option.some.inj ((show Tryd.prog.funcNamed "pergola/pergolalaw14.OpcodeAssembles" = some 5 by kernel_rfl).symm.trans hf) |>.symm
      obtain rfl : fn = Tryd.f5 := (Option.some.inj (Tryd.func5.symm.trans hfn)).symm
      refine ⟨by kernel_rfl, fun j t ht => ?_⟩
      rw [Tryd.params5] at ht
      have hall : ∀ t ∈ (#[9] : Array TypeId).toList, Tryd.prog.wantsStandIn t = false := by
        intro t ht
        simp only [List.mem_cons, List.not_mem_nil, or_false] at ht
        rcases ht with rfl
        exact (show Tryd.prog.wantsStandIn 9 = false by kernel_rfl)
      exact hall t (by have := Array.mem_of_getElem? ht; simpa using this))
    (by kernel_rfl)
#print axioms proved
end Go.Proofs.YtlbiahpajcfcfaaDoor.opcodeAssembles
