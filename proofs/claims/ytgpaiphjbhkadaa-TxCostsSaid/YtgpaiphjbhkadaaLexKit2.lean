/- A region that draws its order, gone through in the order of the text; ONE operation, number b, may end what is held (a store into a cell that was read). -/
import Derived.Test.YtgpaiphjbhkadaaLexKit
namespace Go.Proofs.Ytgpaiphjbhkadaa
open Go
set_option linter.unusedVariables false
set_option maxRecDepth 100000
section
variable {P : Program} {ops : Array Oper} {Q : Exit → Act → World → Prop} {md : Region.Mode} {S : World → Prop} {b : Nat}

/-- Whatever order is picked from here on, and S holds behind every operation but number b. -/
def wpAnyE (P : Program) (md : Region.Mode) (ops : Array Oper) (Q : Exit → Act → World → Prop) (b : Nat) (S : World → Prop) : Nat → Array Bool → Act → World → Prop
  | 0, listed, a, w => Region.ready md ops listed = [] ∧ Q .normal a w
  | fuel + 1, listed, a, w =>
    (Region.ready md ops listed = [] → Q .normal a w) ∧
    ∀ i ∈ Region.ready md ops listed, wpOp P ops Q i (fun a' w' => (i ≠ b → S w') ∧ wpAnyE P md ops Q b S fuel (listed.setIfInBounds i true) a' w') a w

theorem wpAny_of_E : ∀ (fuel : Nat) (listed : Array Bool) (a : Act) (w : World), wpAnyE P md ops Q b S fuel listed a w → wpAny P md ops Q fuel listed a w
  | 0, _, _, _, h => h
  | fuel + 1, _, _, _, h => ⟨h.1, fun i hi => wpOp_mono (fun a' w' h' => wpAny_of_E fuel _ a' w' h'.2) (h.2 i hi)⟩

/-- The operations D, b among them, wait for number i or for one another, and none of them has come up. -/
def Waits (md : Region.Mode) (ops : Array Oper) (listed : Array Bool) (b i : Nat) (D : List Nat) : Prop :=
  b ∈ D ∧ ∀ d ∈ D, d ≠ i ∧ listed.getD d true = false ∧ ∀ o, ops[d]? = some o → ∃ e ∈ o.after, Region.binds md e = true ∧ (e.on = i ∨ e.on ∈ D)
def waits (md : Region.Mode) (ops : Array Oper) (listed : Array Bool) (b i : Nat) (D : List Nat) : Bool :=
  D.contains b && D.all fun d => !(d == i) && !(listed.getD d true) && ((ops[d]?).map (fun o => o.after.toList.any fun e => Region.binds md e && (e.on == i || D.contains e.on))).getD true
theorem waits_spec {listed : Array Bool} {i : Nat} {D : List Nat} (h : waits md ops listed b i D = true) : Waits md ops listed b i D := by
  unfold waits at h
  rw [Bool.and_eq_true, List.all_eq_true] at h
  refine ⟨by simpa using h.1, fun d hd => ?_⟩
  have h2 := h.2 d hd
  simp only [Bool.and_eq_true, Bool.not_eq_true', beq_eq_false_iff_ne] at h2
  refine ⟨h2.1.1, h2.1.2, fun o ho => ?_⟩
  have h3 := h2.2
  rw [ho] at h3
  simp only [Option.map_some, Option.getD_some, List.any_eq_true, Bool.and_eq_true, Bool.or_eq_true, beq_iff_eq] at h3
  obtain ⟨e, he, hb, hon⟩ := h3
  exact ⟨e, Array.mem_toList_iff.1 he, hb, hon.imp id (by simp)⟩

theorem getD_false_of_true {l : Array Bool} {k : Nat} (h : l.getD k true = false) : ¬ l.getD k false = true := by
  intro h1
  rcases Nat.lt_or_ge k l.size with h' | h'
  · simp [h'] at h h1; rw [h] at h1; cases h1
  · simp [Array.getElem?_eq_none h'] at h1

theorem wpAnyE_first {i : Nat} {oi : Oper} {v : Value} {D : List Nat} (hi : ops[i]? = some oi) (hsel : ∀ (j : Nat) (o : Oper) cs b, ops[j]? = some o → o.op ≠ .select cs b)
    (hQ : ∀ c a w, Q (.panic c) (a.put oi.dst v) w → Q (.panic c) a w) :
    ∀ (fuel : Nat) (listed : Array Bool) (a : Act) (w : World),
      (∀ j oj, ops[j]? = some oj → j ≠ i → listed.getD j true = false → (∀ e ∈ oj.after, Region.binds md e = true → e.on ≠ i) → oi.apart ops oj = true) →
      i ∈ Region.ready md ops listed → Waits md ops listed b i D → YieldsIf P ops S oi v a → S w →
      wpAnyE P md ops Q b S fuel (listed.setIfInBounds i true) (a.put oi.dst v) w → wpAnyE P md ops Q b S (fuel + 1) listed a w := by
  intro fuel
  induction fuel with
  | zero =>
    intro listed a w _ hr hD hy hS H
    refine ⟨fun h => (by rw [h] at hr; cases hr), fun j hj => ?_⟩
    by_cases hji : j = i
    · subst hji; exact hy.wpOp hi hS ⟨fun _ => hS, H⟩
    · have := ready_mono hj hji
      rw [H.1] at this
      cases this
  | succ fuel ih =>
    intro listed a w hfree hr hD hy hS H
    refine ⟨fun h => (by rw [h] at hr; cases hr), fun j hj => ?_⟩
    by_cases hji : j = i
    · subst hji; exact hy.wpOp hi hS ⟨fun _ => hS, H⟩
    · have h1 := H.2 j (ready_mono hj hji)
      obtain ⟨hjun, oj, hoj, hall⟩ := mem_ready.1 hj
      have hiun := (mem_ready.1 hr).1
      have hnot : ∀ e ∈ oj.after, Region.binds md e = true → e.on ≠ i := fun e he hb heq => getD_false_of_true hiun (heq ▸ hall e he hb)
      have hjD : j ∉ D := fun hm => by
        obtain ⟨_, _, h3⟩ := hD.2 j hm
        obtain ⟨e, he, hb, hon⟩ := h3 oj hoj
        rcases hon with hon | hon
        · exact hnot e he hb hon
        · exact getD_false_of_true (hD.2 _ hon).2.1 (hall e he hb)
      have hjb : j ≠ b := fun h => hjD (h ▸ hD.1)
      have h2 := wpOp_putIf hoj (hfree j oj hoj hji hjun hnot) (fun cs b => hsel i oi cs b hi) (fun cs b => hsel j oj cs b hoj) hQ hy h1
      have hfree' : ∀ k ok, ops[k]? = some ok → k ≠ i → (listed.setIfInBounds j true).getD k true = false →
          (∀ e ∈ ok.after, Region.binds md e = true → e.on ≠ i) → oi.apart ops ok = true := fun k ok hk hki hun hno => by
        refine hfree k ok hk hki ?_ hno
        by_cases hjk : j = k
        · subst hjk; exact hjun
        · rw [getD_set_ne true hjk] at hun; exact hun
      have hD' : Waits md ops (listed.setIfInBounds j true) b i D := ⟨hD.1, fun d hd => ⟨(hD.2 d hd).1, by
        rw [getD_set_ne true (fun h => hjD (by rw [h]; exact hd))]; exact (hD.2 d hd).2.1, (hD.2 d hd).2.2⟩⟩
      refine wpOp_mono (fun a' w' h3 => ⟨h3.2.1, ih (listed.setIfInBounds j true) a' w' hfree' (ready_mono hr (Ne.symm hji)) hD' h3.1 (h3.2.1 hjb) ?_⟩) h2
      rw [Array.setIfInBounds_comm _ _ hji]
      exact h3.2.2

theorem wpAnyE_take {i : Nat} {oi : Oper} {v : Value} {fuel : Nat} {listed : Array Bool} {a : Act} {w : World} (D : List Nat) (hi : ops[i]? = some oi)
    (hs : Region.noSelect ops = true) (hf : Region.free md ops listed i = true) (hr : (Region.ready md ops listed).contains i = true) (hD : waits md ops listed b i D = true)
    (hQ : ∀ c a w, Q (.panic c) (a.put oi.dst v) w → Q (.panic c) a w) (hy : YieldsIf P ops S oi v a) (hS : S w)
    (h : wpAnyE P md ops Q b S fuel (listed.setIfInBounds i true) (a.put oi.dst v) w) : wpAnyE P md ops Q b S (fuel + 1) listed a w :=
  wpAnyE_first hi (Region.noSelect_spec hs) hQ fuel listed a w (Region.free_spec hi hf) (by simpa using hr) (waits_spec hD) hy hS h

theorem wpAnyE_one {i : Nat} {o : Oper} {fuel : Nat} {listed : Array Bool} {a : Act} {w : World} (hr : Region.ready md ops listed = [i]) (hb : (i == b) = false) (ho : ops[i]? = some o)
    (h : ∀ K' : Act → World → Prop, Shut (∀ a w, S w → (S w → wpAnyE P md ops Q b S fuel (listed.setIfInBounds i true) a w) → K' a w) → if Region.wanted o (yielded ops a.tmps) = true then Oper.wp P o a w K' Q else K' (a.put o.dst undef) w) :
    wpAnyE P md ops Q b S (fuel + 1) listed a w :=
  ⟨fun h0 => (by rw [h0] at hr; cases hr), fun j hj => by
    rw [hr] at hj
    obtain rfl : j = i := by simpa using hj
    exact wpOp_step ho (fun K' hK => h K' (fun a w hS hW => hK a w ⟨fun _ => hS, hW hS⟩))⟩
theorem wpAnyE_last {i : Nat} {o : Oper} {fuel : Nat} {listed : Array Bool} {a : Act} {w : World} (hr : Region.ready md ops listed = [i]) (hb : i = b) (ho : ops[i]? = some o)
    (h : ∀ K' : Act → World → Prop, Shut (∀ a w, wpAnyE P md ops Q b S fuel (listed.setIfInBounds i true) a w → K' a w) → if Region.wanted o (yielded ops a.tmps) = true then Oper.wp P o a w K' Q else K' (a.put o.dst undef) w) :
    wpAnyE P md ops Q b S (fuel + 1) listed a w :=
  ⟨fun h0 => (by rw [h0] at hr; cases hr), fun j hj => by
    rw [hr] at hj
    obtain rfl : j = i := by simpa using hj
    exact wpOp_step ho (fun K' hK => h K' (fun a w hW => hK a w ⟨fun h => absurd hb h, hW⟩))⟩
theorem wpAnyE_done {listed : Array Bool} {a : Act} {w : World} (hr : Region.ready md ops listed = []) (h : Q .normal a w) :
    ∀ fuel, wpAnyE P md ops Q b S fuel listed a w
  | 0 => ⟨hr, h⟩
  | _ + 1 => ⟨fun _ => h, by rw [hr]; simp⟩
theorem wpAnyE_mono {S' : World → Prop} (h : ∀ w, S' w → S w) :
    ∀ {fuel : Nat} {listed : Array Bool} {a : Act} {w : World}, wpAnyE P md ops Q b S' fuel listed a w → wpAnyE P md ops Q b S fuel listed a w
  | 0, _, _, _, hh => hh
  | fuel + 1, _, _, _, hh => ⟨hh.1, fun i hi => wpOp_mono (fun _ _ h' => ⟨fun hne => h _ (h'.1 hne), wpAnyE_mono h h'.2⟩) (hh.2 i hi)⟩
theorem wpAnyE_and {N : World → Prop} {fuel : Nat} {listed : Array Bool} {a : Act} {w : World}
    (h : wpAnyE P md ops Q b (fun W => S W ∧ N W) fuel listed a w) : wpAnyE P md ops Q b S fuel listed a w := wpAnyE_mono (fun _ h => h.1) h
theorem wp_region_E {id : Nat} {a : Act} {w : World} (b : Nat) (S : World → Prop) (hm : P.follows .mixedOrders = true) (hS : S w.drew)
    (h : S w.drew → wpAnyE P .any ops Q b S ops.size (Array.replicate ops.size false) a w.drew) : (Code.region id ops true).wp P Q a w :=
  wp_region_any hm (wpAny_of_E _ _ _ _ (h hS))
end
end Go.Proofs.Ytgpaiphjbhkadaa
