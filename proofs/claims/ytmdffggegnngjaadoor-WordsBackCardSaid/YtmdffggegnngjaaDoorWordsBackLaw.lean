/- WordsBack: the law, and its card. -/
import Derived.Test.YtmdffggegnngjaaDoorLawKit2
import Derived.Test.YtmdffggegnngjaaDoorWdLaid
import Derived.Test.YtmdffggegnngjaaDoorTie
import Derived.Test.YtmdffggegnngjaaDoorCards
import Derived.Test.YtmdffggegnngjaaDoorWdBack
import Derived.SevenTiedAt
namespace Go.Proofs.YtmdffggegnngjaaDoor.wordsBack
open Go Go.ChangeShapes Go.WideShapes Go.ChangeAt Go.RowKit
set_option linter.unusedVariables false

theorem own : ownKnob Tryd.prog.godebug = none := by kernel_rfl
theorem laid : laidOutB Tryd.prog = true := by kernel_rfl

set_option maxRecDepth 100000 in
theorem lifted (os : Os) (started : os.Started) (H : Type) (enc : TypeId × Value → H) :
    ReturnsInHanded {} Tryd.checked os 6 .any (fun w args => (Rows.wordsBackSpec.pre enc Tryd.prog Tryd.f6 Rows.wordsBackRow.domain false w args ∧ laidMet Tryd.prog Rows.wordsBackRow.laid w) ∧ sizedMet enc Tryd.prog Tryd.f6 (OpenSpec.ofChange Rows.wordsBackSpec) false w args) (Rows.wordsBackSpec.post enc Tryd.prog Tryd.f6 false true false false) := by
  refine returnsInHanded_of_change_and (C := Tryd.checked) (X := fun w _ => laidMet Tryd.prog Rows.wordsBackRow.laid w) (fun _ _ _ hh h => h.of_heap hh) own started (by kernel_rfl) Tryd.func6
    (ChangeSpec.witness_at (enc := enc) (C := Tryd.checked) (os := os) (X := fun w _ => laidMet Tryd.prog Rows.wordsBackRow.laid w) false (laidWorld os) #[.int .u64 0, .slice none 0 0, .string ⟨#[]⟩] 8 rfl (by kernel_rfl) (by kernel_rfl) (by kernel_rfl) (by kernel_rfl) (by kernel_rfl) (laidWorld_met os _)) ?_
  intro W base args ds gs before hval0 hW hcnd hsz0 hL _
  have hval : ∀ (j : Nat) t v, Tryd.f6.params[j]? = some t → args[j]? = some v → Value.okWide Tryd.prog W .any base t v := hval0
  have hsz : (DataW.weightsEach Tryd.prog (Tryd.f6.params.toList ++ Rows.wordsBackSpec.plain.varTypes Tryd.prog) (ds ++ gs)).all (· ≤ reachBytes) = true := hsz0
  have hwl : WL W := wl_of_laid hL
  have hW' := hW
  obtain ⟨p, q, hA0, hV, rfl, hfz, hnd⟩ := hW
  have hA : DataW.TrodAll enc Tryd.prog W 0 (fun _ => true) true Tryd.f6.params.toList args.toList ds p := hA0
  rw [Tryd.params6] at hA hval hsz
  obtain ⟨v0, vs0, d0, ds0, p0, q0, hargs, rfl, rfl, h0, r0⟩ := trodAll_cons hA
  obtain ⟨v1, vs1, d1, ds1, p1, q1, rfl, rfl, rfl, h1, r1⟩ := trodAll_cons r0
  obtain ⟨v2, vs2, d2, ds2, p2, q2, rfl, rfl, rfl, h2, r2⟩ := trodAll_cons r1
  obtain ⟨rfl, rfl, rfl⟩ := trodAll_nil r2
  obtain rfl : args = #[v0, v1, v2] := by cases args; simp_all
  obtain ⟨rfl, rfl⟩ := trodVars_none hV
  obtain ⟨z0, rfl, rfl, rfl, hw0⟩ := open_int Tryd.underlying22 (hval 0 22 v0 rfl rfl) h0
  obtain ⟨m0, rfl, hm0⟩ := nat_u64 hw0
  obtain ⟨A1, n1, c1, xs1, rfl, hn1, hc1, hr1, hd1⟩ := open_bytes Tryd.underlying23 Tryd.underlying5 (by kernel_rfl) (hval 1 23 v1 rfl rfl) h1
  have hz1 : c1 ≤ 140737488351232 := by
    rcases hd1 with ⟨_, h, _⟩ | ⟨el, sp, rfl, h⟩
    · omega
    · have := sized_slice hsz (j := 1) (t := 23) (e := 5) rfl rfl Tryd.underlying23
      have hb : Tryd.prog.bytesOf 5 = 1 := by kernel_rfl
      rw [hb] at this
      simp only [reachBytes] at this
      omega
  obtain ⟨s2, rfl, rfl, rfl, hs2⟩ := Go.ChangeMaps.open_string Tryd.underlying9 (hval 2 9 v2 rfl rfl) h2
  have hz2 : s2.size ≤ 140737488351232 := str_small (sized_string hsz (j := 2) (t := 9) rfl rfl)
  refine (wback_walk W hwl m0 hm0 A1 n1 c1 xs1 hn1 hc1 hr1 hz1 s2 hz2).mono fun e W' ⟨he, hb⟩ => ?_
  subst he
  exact ⟨_, rfl, post_true laid (by kernel_rfl) rfl Tryd.underlying4 rfl hW' rfl hb⟩

theorem over : Rows.wordsBackRow.holds Tryd.pinned (OpenSpec.ofChange Rows.wordsBackSpec) :=
  OpenClaim.holds_of_wide 6 Tryd.f6 rfl rfl rfl rfl rfl rfl rfl ⟨rfl, rfl, rfl, rfl, rfl⟩ rfl rfl rfl rfl rfl (by kernel_rfl) Tryd.func6 (by kernel_rfl)
    (of_decide_eq_true (by kernel_rfl)) (by unfold Func.isWrapper; first | (rw [if_pos (by decide +kernel)]; kernel_rfl) | (rw [if_neg (by decide +kernel)]; exact ⟨rfl, rfl⟩))
    (fun os started H enc _ => lifted os started H enc)

theorem proved : Rows.WordsBackCardSaid :=
  Claim7.holds_tied_plain_at .later [] [.data, .data, .data, .sentinel, .sentinel] true _ true
    over (fun _ h => by cases h) (by kernel_rfl) (fun _ h => by cases h) wordsBack_row_tie rfl ⟨rfl, rfl⟩ (by kernel_rfl) rfl
    (fun f fn hf hfn => by
      obtain rfl : f = 6 := Option.some.inj ((show Tryd.prog.funcNamed "pergola/pergolalaw03.WordsBack" = some 6 by kernel_rfl).symm.trans hf) |>.symm
      obtain rfl : fn = Tryd.f6 := (Option.some.inj (Tryd.func6.symm.trans hfn)).symm
      exact ⟨by kernel_rfl, fun j t ht => by
        rw [Tryd.params6] at ht
        have h3 : t = 22 ∨ t = 23 ∨ t = 9 := by
          rcases j with _ | j
          · exact .inl (by simpa using ht.symm)
          rcases j with _ | j
          · exact .inr (.inl (by simpa using ht.symm))
          rcases j with _ | j
          · exact .inr (.inr ((by simpa using ht.symm)))
          · simp at ht
        rcases h3 with rfl | rfl | rfl
        · exact (show Tryd.prog.wantsStandIn 22 = false by kernel_rfl)
        · exact (show Tryd.prog.wantsStandIn 23 = false by kernel_rfl)
        · exact (show Tryd.prog.wantsStandIn 9 = false by kernel_rfl)⟩)
    (by kernel_rfl)
#print axioms proved
end Go.Proofs.YtmdffggegnngjaaDoor.wordsBack
