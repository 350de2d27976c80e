/- DigestTexts: the walk. -/
import Derived.Test.YtkjdmjflppcofaaDgPar
import Derived.Test.YtkjdmjflppcofaaLexKit
namespace Go.Proofs.Ytkjdmjflppcofaa
open Go.ChangeShapes Go.WideShapes Go.ChangeAt Go.RowKit
set_option linter.unusedVariables false
attribute [local go_sem ↓] Go.wp_at_zero Go.wp_at_succ

def R3 (a b c : Nat) (f g : Nat → Int) (W : World) : Prop := rowOf W a = some (dA f) ∧ rowOf W b = some (dA g) ∧ rowOf W c = some (dA g)
theorem R3.below {a b c : Nat} {f g : Nat → Int} {W W' : World} (h : R3 a b c f g W) (hb : Below W.heap.size W W') (ha : a < W.heap.size) (hb' : b < W.heap.size) (hc : c < W.heap.size) : R3 a b c f g W' :=
  ⟨by rw [rowOf_below hb ha]; exact h.1, by rw [rowOf_below hb hb']; exact h.2.1, by rw [rowOf_below hb hc]; exact h.2.2⟩

set_option maxHeartbeats 2000000 in
theorem texts_walk (f : Nat → Int) (hf : ∀ i, 0 ≤ f i ∧ f i ≤ 255) (s : ByteArray) (hm : s.size ≤ 140737488351232) (w : World) :
    Calls Try.prog 5 #[.agg (dA f), .string s] w fun e w' => e = .returned (.bool true) ∧ Below w.heap.size w w' := by
  have HF := Go.Lib.hid hf
  have HM := Go.Lib.hid hm
  clear hf hm
  obtain ⟨st, hst⟩ : ∃ st, st = strOfNums (hexI f 32) := ⟨_, rfl⟩
  have HST := Go.Lib.hid hst
  clear hst
  obtain ⟨g, hg⟩ : ∃ g, g = parG s := ⟨_, rfl⟩
  have HG := Go.Lib.hid hg
  clear hg
  have q1 := eqD_refl g
  go_enter Try.func5, Try.ntmps5
  go_wp2_with fail
  refine (digest_Parse s _ HM.out).mono ?_
  rintro e w1 ⟨rfl, hb1⟩
  rw [← HG.out]
  have hs1 : w.heap.size < w1.heap.size := by have := hb1.size; simp at this; omega
  have r1 : rowOf w1 w.heap.size = some (dA f) := by rw [rowOf_below hb1 (by simp), rowOf_new]
  go_wp2_with fail
  refine (ref_Parse s _ HM.out).mono ?_
  rintro e w2 ⟨rfl, hb2⟩
  rw [← HG.out]
  have hs2 : w1.heap.size < w2.heap.size := by have := hb2.size; simp at this; omega
  have hs3 : w.heap.size < w2.heap.size := by omega
  have r2 : rowOf w2 w.heap.size = some (dA f) := by rw [rowOf_below hb2 (by simp; omega), rowOf_old _ _ _ hs1, r1]
  have r3 : rowOf w2 w1.heap.size = some (dA g) := by rw [rowOf_below hb2 (by simp), rowOf_new]
  have hb02 : Below w.heap.size w (w2.alloc (.cells (dA g) 28)) := bal (btr (bal (btr (bal (Below.refl _ _) _) hb1) _) hb2) _
  have k1 : rowOf (w2.alloc (.cells (dA g) 28)) w.heap.size = some (dA f) := by rw [rowOf_old _ _ _ hs3, r2]
  have k2 : rowOf (w2.alloc (.cells (dA g) 28)) w1.heap.size = some (dA g) := by rw [rowOf_old _ _ _ hs2, r3]
  have k3 : rowOf (w2.alloc (.cells (dA g) 28)) w2.heap.size = some (dA g) := rowOf_new _ _ _
  have K1 := Go.Lib.hid k1
  have K2 := Go.Lib.hid k2
  have K3 := Go.Lib.hid k3
  have HB := Go.Lib.hid hb02
  clear r1 r2 r3 hb1 hb2 k1 k2 k3 hb02
  go_wp2_with fail
  have h0 : R3 w.heap.size w1.heap.size w2.heap.size f g (World.drew (w2.alloc (.cells (dA g) 28))) := ⟨K1.out, K2.out, K3.out⟩
  refine wp_region_held_drew (S := fun _ => True) (by kernel_rfl) trivial (fun hHeld => ?_)
  change wpAnyH _ _ _ _ _ 19 (List.toArray [false, false, false, false, false, false, false, false, false, false, false, false, false, false, false, false, false, false, false]) _ _
  refine wpAnyH_and (N := (fun W => R3 w.heap.size w1.heap.size w2.heap.size f g W)) ?_
  have hHeld := And.intro hHeld (h0)
  (try dsimp only at hHeld)
  refine wpAnyH_ready (rs := [0]) (by kernel_rfl) (by simp) ?_
  refine AllReadyH.cons rfl (fun K hK => ?_) AllReadyH.nil
  go_simp
  refine (law_alive _).mono ?_
  rintro e w3 ⟨rfl, hb3⟩
  have h3 := h0.below hb3 (by simp; omega) (by simp; omega) (by simp)
  have hs3 : w2.heap.size < w3.heap.size := by have := hb3.size; simp at this; omega
  have HB3 := Go.Lib.hid hb3
  clear hb3 hHeld h0
  go_wp2_with fail
  refine hK.out _ _ (⟨trivial, h3⟩) (fun hHeld => ?_)
  clear hK K
  (try simp only [List.getElem_toArray]); (try simp only [List.getElem_cons_succ]); (try simp only [List.getElem_cons_zero]); (try simp only [Act.put]); (try simp only [List.setIfInBounds_toArray]); (try simp only [List.set_cons_succ]); (try simp only [List.set_cons_zero])
  refine wpAnyH_take (i := 1) (v := ?_) rfl (by kernel_rfl) (by kernel_rfl) (by kernel_rfl) (fun _ _ _ h => h) (Or.inl ⟨by rfl, ?_⟩) (by assumption) ?_
  rotate_left
  focus (intro w hSw; (try dsimp only at hSw); (try simp only [List.getElem_toArray]); (try simp only [List.getElem_cons_succ]); (try simp only [List.getElem_cons_zero]); go_simp; (try with_reducible rfl); done)
  (try simp only [List.getElem_toArray]); (try simp only [List.getElem_cons_succ]); (try simp only [List.getElem_cons_zero]); (try simp only [Act.put]); (try simp only [List.setIfInBounds_toArray]); (try simp only [List.set_cons_succ]); (try simp only [List.set_cons_zero])
  refine wpAnyH_take (i := 2) (v := ?_) rfl (by kernel_rfl) (by kernel_rfl) (by kernel_rfl) (fun _ _ _ h => h) (Or.inl ⟨by rfl, ?_⟩) (by assumption) ?_
  rotate_left
  focus (intro w hSw; (try dsimp only at hSw); obtain ⟨_, k1, k2, k3⟩ := hSw; (try simp only [List.getElem_toArray]); (try simp only [List.getElem_cons_succ]); (try simp only [List.getElem_cons_zero]); go_simp; (try with_reducible rfl); done)
  (try simp only [List.getElem_toArray]); (try simp only [List.getElem_cons_succ]); (try simp only [List.getElem_cons_zero]); (try simp only [Act.put]); (try simp only [List.setIfInBounds_toArray]); (try simp only [List.set_cons_succ]); (try simp only [List.set_cons_zero])
  refine wpAnyH_take (i := 4) (v := ?_) rfl (by kernel_rfl) (by kernel_rfl) (by kernel_rfl) (fun _ _ _ h => h) (Or.inl ⟨by rfl, ?_⟩) (by assumption) ?_
  rotate_left
  focus (intro w hSw; (try dsimp only at hSw); obtain ⟨_, k1, k2, k3⟩ := hSw; (try simp only [List.getElem_toArray]); (try simp only [List.getElem_cons_succ]); (try simp only [List.getElem_cons_zero]); go_simp; (try with_reducible rfl); done)
  (try simp only [List.getElem_toArray]); (try simp only [List.getElem_cons_succ]); (try simp only [List.getElem_cons_zero]); (try simp only [Act.put]); (try simp only [List.setIfInBounds_toArray]); (try simp only [List.set_cons_succ]); (try simp only [List.set_cons_zero])
  refine wpAnyH_ready (rs := [3]) (by kernel_rfl) (by simp) ?_
  refine AllReadyH.cons rfl (fun K hK => ?_) AllReadyH.nil
  go_simp
  refine (digest_Print f HF.out _).mono ?_
  rintro e w4 ⟨rfl, hb4⟩
  rw [← HST.out]
  have h4 := h3.below hb4 (by omega) (by omega) (by omega)
  have hs4 : w2.heap.size < w4.heap.size := by have := hb4.size; omega
  have HB4 := Go.Lib.hid hb4
  clear hb4 hHeld h3
  go_wp2_with fail
  refine hK.out _ _ (⟨trivial, h4⟩) (fun hHeld => ?_)
  clear hK K
  (try simp only [List.getElem_toArray]); (try simp only [List.getElem_cons_succ]); (try simp only [List.getElem_cons_zero]); (try simp only [Act.put]); (try simp only [List.setIfInBounds_toArray]); (try simp only [List.set_cons_succ]); (try simp only [List.set_cons_zero])
  refine wpAnyH_ready (rs := [5]) (by kernel_rfl) (by simp) ?_
  refine AllReadyH.cons rfl (fun K hK => ?_) AllReadyH.nil
  go_simp
  refine (ref_Print f HF.out _).mono ?_
  rintro e w5 ⟨rfl, hb5⟩
  rw [← HST.out]
  have h5 := h4.below hb5 (by omega) (by omega) (by omega)
  have HB5 := Go.Lib.hid hb5
  clear hb5 hHeld h4
  go_wp2_with fail
  refine hK.out _ _ (⟨trivial, h5⟩) (fun hHeld => ?_)
  clear hK K
  (try simp only [List.getElem_toArray]); (try simp only [List.getElem_cons_succ]); (try simp only [List.getElem_cons_zero]); (try simp only [Act.put]); (try simp only [List.setIfInBounds_toArray]); (try simp only [List.set_cons_succ]); (try simp only [List.set_cons_zero])
  refine wpAnyH_take (i := 6) (v := ?_) rfl (by kernel_rfl) (by kernel_rfl) (by kernel_rfl) (fun _ _ _ h => h) (Or.inl ⟨by rfl, ?_⟩) (by assumption) ?_
  rotate_left
  focus (intro w hSw; (try dsimp only at hSw); (try simp only [List.getElem_toArray]); (try simp only [List.getElem_cons_succ]); (try simp only [List.getElem_cons_zero]); go_simp; (try with_reducible rfl); done)
  (try simp only [List.getElem_toArray]); (try simp only [List.getElem_cons_succ]); (try simp only [List.getElem_cons_zero]); (try simp only [Act.put]); (try simp only [List.setIfInBounds_toArray]); (try simp only [List.set_cons_succ]); (try simp only [List.set_cons_zero])
  refine wpAnyH_take (i := 7) (v := ?_) rfl (by kernel_rfl) (by kernel_rfl) (by kernel_rfl) (fun _ _ _ h => h) (Or.inl ⟨by rfl, ?_⟩) (by assumption) ?_
  rotate_left
  focus (intro w hSw; (try dsimp only at hSw); (try simp only [List.getElem_toArray]); (try simp only [List.getElem_cons_succ]); (try simp only [List.getElem_cons_zero]); go_simp; (try with_reducible rfl); done)
  (try simp only [List.getElem_toArray]); (try simp only [List.getElem_cons_succ]); (try simp only [List.getElem_cons_zero]); (try simp only [Act.put]); (try simp only [List.setIfInBounds_toArray]); (try simp only [List.set_cons_succ]); (try simp only [List.set_cons_zero])
  refine wpAnyH_take (i := 8) (v := ?_) rfl (by kernel_rfl) (by kernel_rfl) (by kernel_rfl) (fun _ _ _ h => h) (Or.inl ⟨by rfl, ?_⟩) (by assumption) ?_
  rotate_left
  focus (intro w hSw; (try dsimp only at hSw); (try simp only [List.getElem_toArray]); (try simp only [List.getElem_cons_succ]); (try simp only [List.getElem_cons_zero]); go_simp; (try with_reducible rfl); done)
  (try simp only [List.getElem_toArray]); (try simp only [List.getElem_cons_succ]); (try simp only [List.getElem_cons_zero]); (try simp only [Act.put]); (try simp only [List.setIfInBounds_toArray]); (try simp only [List.set_cons_succ]); (try simp only [List.set_cons_zero])
  refine wpAnyH_take (i := 9) (v := ?_) rfl (by kernel_rfl) (by kernel_rfl) (by kernel_rfl) (fun _ _ _ h => h) (Or.inl ⟨by rfl, ?_⟩) (by assumption) ?_
  rotate_left
  focus (intro w hSw; (try dsimp only at hSw); obtain ⟨_, k1, k2, k3⟩ := hSw; (try simp only [List.getElem_toArray]); (try simp only [List.getElem_cons_succ]); (try simp only [List.getElem_cons_zero]); go_simp; (try with_reducible rfl); done)
  (try simp only [List.getElem_toArray]); (try simp only [List.getElem_cons_succ]); (try simp only [List.getElem_cons_zero]); (try simp only [Act.put]); (try simp only [List.setIfInBounds_toArray]); (try simp only [List.set_cons_succ]); (try simp only [List.set_cons_zero])
  refine wpAnyH_take (i := 10) (v := ?_) rfl (by kernel_rfl) (by kernel_rfl) (by kernel_rfl) (fun _ _ _ h => h) (Or.inl ⟨by rfl, ?_⟩) (by assumption) ?_
  rotate_left
  focus (intro w hSw; (try dsimp only at hSw); obtain ⟨_, k1, k2, k3⟩ := hSw; (try simp only [List.getElem_toArray]); (try simp only [List.getElem_cons_succ]); (try simp only [List.getElem_cons_zero]); go_simp; (try with_reducible rfl); done)
  (try simp only [List.getElem_toArray]); (try simp only [List.getElem_cons_succ]); (try simp only [List.getElem_cons_zero]); (try simp only [Act.put]); (try simp only [List.setIfInBounds_toArray]); (try simp only [List.set_cons_succ]); (try simp only [List.set_cons_zero])
  refine wpAnyH_take (i := 11) (v := ?_) rfl (by kernel_rfl) (by kernel_rfl) (by kernel_rfl) (fun _ _ _ h => h) (Or.inl ⟨by rfl, ?_⟩) (by assumption) ?_
  rotate_left
  focus (intro w hSw; (try dsimp only at hSw); (try simp only [List.getElem_toArray]); (try simp only [List.getElem_cons_succ]); (try simp only [List.getElem_cons_zero]); go_simp; (try with_reducible rfl); done)
  (try simp only [List.getElem_toArray]); (try simp only [List.getElem_cons_succ]); (try simp only [List.getElem_cons_zero]); (try simp only [Act.put]); (try simp only [List.setIfInBounds_toArray]); (try simp only [List.set_cons_succ]); (try simp only [List.set_cons_zero])
  refine wpAnyH_take (i := 12) (v := ?_) rfl (by kernel_rfl) (by kernel_rfl) (by kernel_rfl) (fun _ _ _ h => h) (Or.inl ⟨by rfl, ?_⟩) (by assumption) ?_
  rotate_left
  focus (intro w hSw; (try dsimp only at hSw); (try simp only [List.getElem_toArray]); (try simp only [List.getElem_cons_succ]); (try simp only [List.getElem_cons_zero]); go_simp; (try with_reducible rfl); done)
  (try simp only [List.getElem_toArray]); (try simp only [List.getElem_cons_succ]); (try simp only [List.getElem_cons_zero]); (try simp only [Act.put]); (try simp only [List.setIfInBounds_toArray]); (try simp only [List.set_cons_succ]); (try simp only [List.set_cons_zero])
  refine wpAnyH_take (i := 13) (v := ?_) rfl (by kernel_rfl) (by kernel_rfl) (by kernel_rfl) (fun _ _ _ h => h) (Or.inl ⟨by rfl, ?_⟩) (by assumption) ?_
  rotate_left
  focus (intro w hSw; (try dsimp only at hSw); (try simp only [List.getElem_toArray]); (try simp only [List.getElem_cons_succ]); (try simp only [List.getElem_cons_zero]); go_simp; (try with_reducible rfl); done)
  (try simp only [List.getElem_toArray]); (try simp only [List.getElem_cons_succ]); (try simp only [List.getElem_cons_zero]); (try simp only [Act.put]); (try simp only [List.setIfInBounds_toArray]); (try simp only [List.set_cons_succ]); (try simp only [List.set_cons_zero])
  refine wpAnyH_take (i := 14) (v := ?_) rfl (by kernel_rfl) (by kernel_rfl) (by kernel_rfl) (fun _ _ _ h => h) (Or.inl ⟨by rfl, ?_⟩) (by assumption) ?_
  rotate_left
  focus (intro w hSw; (try dsimp only at hSw); (try simp only [List.getElem_toArray]); (try simp only [List.getElem_cons_succ]); (try simp only [List.getElem_cons_zero]); go_simp; (try with_reducible rfl); done)
  (try simp only [List.getElem_toArray]); (try simp only [List.getElem_cons_succ]); (try simp only [List.getElem_cons_zero]); (try simp only [Act.put]); (try simp only [List.setIfInBounds_toArray]); (try simp only [List.set_cons_succ]); (try simp only [List.set_cons_zero])
  refine wpAnyH_take (i := 15) (v := ?_) rfl (by kernel_rfl) (by kernel_rfl) (by kernel_rfl) (fun _ _ _ h => h) (Or.inl ⟨by rfl, ?_⟩) (by assumption) ?_
  rotate_left
  focus (intro w hSw; (try dsimp only at hSw); (try simp only [List.getElem_toArray]); (try simp only [List.getElem_cons_succ]); (try simp only [List.getElem_cons_zero]); go_simp; (try with_reducible rfl); done)
  (try simp only [List.getElem_toArray]); (try simp only [List.getElem_cons_succ]); (try simp only [List.getElem_cons_zero]); (try simp only [Act.put]); (try simp only [List.setIfInBounds_toArray]); (try simp only [List.set_cons_succ]); (try simp only [List.set_cons_zero])
  refine wpAnyH_take (i := 16) (v := ?_) rfl (by kernel_rfl) (by kernel_rfl) (by kernel_rfl) (fun _ _ _ h => h) (Or.inl ⟨by rfl, ?_⟩) (by assumption) ?_
  rotate_left
  focus (intro w hSw; (try dsimp only at hSw); (try simp only [List.getElem_toArray]); (try simp only [List.getElem_cons_succ]); (try simp only [List.getElem_cons_zero]); go_simp; (try with_reducible rfl); done)
  (try simp only [List.getElem_toArray]); (try simp only [List.getElem_cons_succ]); (try simp only [List.getElem_cons_zero]); (try simp only [Act.put]); (try simp only [List.setIfInBounds_toArray]); (try simp only [List.set_cons_succ]); (try simp only [List.set_cons_zero])
  refine wpAnyH_take (i := 17) (v := ?_) rfl (by kernel_rfl) (by kernel_rfl) (by kernel_rfl) (fun _ _ _ h => h) (Or.inl ⟨by rfl, ?_⟩) (by assumption) ?_
  rotate_left
  focus (intro w hSw; (try dsimp only at hSw); (try simp only [List.getElem_toArray]); (try simp only [List.getElem_cons_succ]); (try simp only [List.getElem_cons_zero]); go_simp; (try with_reducible rfl); done)
  (try simp only [List.getElem_toArray]); (try simp only [List.getElem_cons_succ]); (try simp only [List.getElem_cons_zero]); (try simp only [Act.put]); (try simp only [List.setIfInBounds_toArray]); (try simp only [List.set_cons_succ]); (try simp only [List.set_cons_zero])
  refine wpAnyH_take (i := 18) (v := ?_) rfl (by kernel_rfl) (by kernel_rfl) (by kernel_rfl) (fun _ _ _ h => h) (Or.inl ⟨by rfl, ?_⟩) (by assumption) ?_
  rotate_left
  focus (intro w hSw; (try dsimp only at hSw); (try simp only [List.getElem_toArray]); (try simp only [List.getElem_cons_succ]); (try simp only [List.getElem_cons_zero]); go_simp; (try with_reducible rfl); done)
  (try simp only [List.getElem_toArray]); (try simp only [List.getElem_cons_succ]); (try simp only [List.getElem_cons_zero]); (try simp only [Act.put]); (try simp only [List.setIfInBounds_toArray]); (try simp only [List.set_cons_succ]); (try simp only [List.set_cons_zero])
  refine wpAnyH_done (by kernel_rfl) ?_ _
  go_wp2
  go_ret
  exact ⟨rfl, btr (btr (btr (bdr HB.out) HB3.out) HB4.out) HB5.out⟩

end Go.Proofs.Ytkjdmjflppcofaa
