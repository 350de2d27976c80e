/- Items that came in, opened. -/
import Derived.Test.YtfolidaonnblbaaNsBackP
import Derived.Test.YtfolidaonnblbaaLawKit2
namespace Go.Proofs.Ytfolidaonnblbaa
open Go.ChangeShapes Go.WideShapes Go.RowKit
set_option linter.unusedVariables false

section
variable {H : Type} {enc : TypeId × Value → H}

theorem weights_mem_all {P : Program} {e : TypeId} : ∀ {ds : List (DataW H)} {d : DataW H}, d ∈ ds → ∀ m ∈ d.weights P e, m ∈ DataW.weightsAll P e ds
  | d0 :: ds, d, hd, m, hm => by
    rw [DataW.weightsAll, List.mem_append]
    rcases List.mem_cons.1 hd with rfl | hd
    · exact .inl hm
    · exact .inr (weights_mem_all hd m hm)

/-- Bytes, in a row of cells. -/
theorem open_bytes_cs {P : Program} {t e : TypeId} {cs : List Value} {x : DataW H × List MemPlace} {w : World} {fuel : Nat} (ht : P.underlying t = some (.slice e)) (he : P.underlying e = some (.int .u8)) (hc : P.cellsOf e = 1) (hb : P.bytesOf e = 1)
    (hf : DataW.trod enc P w 0 (fun _ => true) true fuel t cs = some x) (hw : ∀ m ∈ x.1.weights P t, m ≤ reachBytes) :
    ∃ (A : Option Addr) (n c : Nat) (xs : List UInt8), cs = [.slice A n c] ∧ xs.length = n ∧ n ≤ c ∧ c ≤ 140737488351232 ∧ Rd w A (bs xs) := by
  rcases open_ints ht he hc hf with ⟨hcs, hx⟩ | ⟨a, len', cap', zs, hcs, _, hl, hm, hz, hx, hcell, hwz⟩
  · exact ⟨none, 0, 0, [], hcs, rfl, Nat.le_refl _, by omega, Rd.nil _ _⟩
  · subst hx
    simp only [if_true] at hz
    have hcap : cap' ≤ 140737488351232 := by
      have := hw (((lits (H := H) .u8 (zs.take len')).length + (lits (H := H) .u8 (zs.drop len')).length) * P.bytesOf e) (by simp [DataW.weights, ht])
      rw [hb] at this
      simp only [lits, List.length_map, List.length_take, List.length_drop, reachBytes] at this
      omega
    refine ⟨some a, len', cap', (zs.take len').map fun z => UInt8.ofNat z.toNat, hcs, by simp; omega, hl, hcap, ?_⟩
    intro hne
    have hpos : 0 < len' := by
      rcases Nat.eq_zero_or_pos len' with h0 | h0
      · subst h0; simp [bs] at hne
      · exact h0
    obtain ⟨b, off, rfl, hc2⟩ := ints_at hcell (by omega)
    have hlt : b < w.heap.size := by
      have h0 := hc2 0 (by omega)
      rcases Nat.lt_or_ge b w.heap.size with h | h
      · exact h
      · simp [World.cell?, Array.getElem?_eq_none h] at h0
    refine ⟨b, off, rfl, hlt, fun j u hu => ?_⟩
    have hj : j < len' := by
      have := (List.getElem?_eq_some_iff.1 hu).1
      simp [bs] at this
      omega
    rw [hc2 j (by omega)]
    have hwv := wf_u8 (hwz (zs.getD j 0) (by
      have : j < zs.length := by omega
      simp [List.getD, this]))
    have hju : j < zs.length := by omega
    simp only [bs, List.getElem?_map, List.getElem?_take, hj, if_true, List.getElem?_eq_getElem hju, Option.map_some, Option.some.injEq] at hu
    subst hu
    simp only [List.getD, List.getElem?_eq_getElem hju, Option.getD_some, bv] at hwv ⊢
    rw [UInt8.toNat_ofNat', Nat.mod_eq_of_lt (by omega), Int.toNat_of_nonneg hwv.1]

theorem cellsOf_item : Try.prog.cellsOf 25 = 3 := by kernel_rfl
theorem cellsOf_bool : Try.prog.cellsOf 4 = 1 := by kernel_rfl
theorem cellsOf_bytes : Try.prog.cellsOf 22 = 1 := by kernel_rfl
theorem cellsOf_items : Try.prog.cellsOf 23 = 1 := by kernel_rfl
theorem cellsOf_u8 : Try.prog.cellsOf 5 = 1 := by kernel_rfl
theorem bytesOf_u8 : Try.prog.bytesOf 5 = 1 := by kernel_rfl
theorem bytesOf_item : Try.prog.bytesOf 25 = 56 := by kernel_rfl

theorem cells3_of {w : World} {a : Addr} {cs : List Value} (h : w.cells? 0 a 3 = some cs) : cs.length = 3 ∧ ∀ j, j < 3 → w.cell? (a.add j) = cs[j]? := by
  have h1 := World.cells?_some h
  exact ⟨h1.2.1, h1.2.2⟩

theorem open_items_cs (w : World) (n : Nat) (ih : ∀ (cs : List Value) (x : DataW H × List MemPlace), DataW.trod enc Try.prog w 0 (fun _ => true) true n 25 cs = some x → (∀ m ∈ x.1.weights Try.prog 25, m ≤ reachBytes) →
      ∃ t v0 v1 v2, cs = [v0, v1, v2] ∧ RdT w (fun _ => True) t v0 v1 v2) (cs : List Value) (x : DataW H × List MemPlace) (hx : DataW.trod enc Try.prog w 0 (fun _ => true) true (n + 1) 23 cs = some x) (hw : ∀ m ∈ x.1.weights Try.prog 23, m ≤ reachBytes) :
    ∃ (B : Option Addr) (m d : Nat) (its : List Tree) (cl : List Value), cs = [.slice B m d] ∧ its.length = m ∧ m ≤ d ∧ d * 56 ≤ 140737488351232 ∧ Rd w B cl ∧ RdL w (fun _ => True) its cl := by
  rcases DataW.trod_slice Try.underlying23 hx with ⟨rfl, rfl⟩ | ⟨a, len, cap, elems, rest, n', hn, rfl, rfl, hb, hl, hm, hlen, hel, hsp, hns⟩
  · exact ⟨none, 0, 0, [], [], rfl, rfl, by omega, by omega, Rd.nil _ _, by simp only [RdL]⟩
  · injection hn with hn
    subst hn
    have hcap : cap * 56 ≤ 140737488351232 := by
      have h1 := (hsp rfl).1
      have := hw ((((elems.map (·.1)).length + (rest.map (·.1)).length)) * Try.prog.bytesOf 25) (by simp [DataW.weights, Try.underlying23])
      rw [bytesOf_item] at this
      simp only [List.length_map, reachBytes] at this
      have e : elems.length + rest.length = cap := by omega
      rw [e] at this
      exact this
    rw [cellsOf_item] at hel
    have build : ∀ k, k ≤ len → ∃ (ts : List Tree) (cl : List Value), ts.length = k ∧ RdL w (fun _ => True) ts cl ∧ ∀ j u, cl[j]? = some u → w.cell? (a.add j) = some u := by
      intro k
      induction k with
      | zero => intro _; exact ⟨[], [], rfl, by simp only [RdL], fun j u h => by simp at h⟩
      | succ k ihk =>
        intro hk
        obtain ⟨ts, cl, h1, h2, h3⟩ := ihk (by omega)
        have h4 := hel k (by omega)
        have hke : k < elems.length := by omega
        rw [List.getElem?_eq_getElem hke, Option.bind_eq_some_iff] at h4
        obtain ⟨ck, hck, htk⟩ := h4
        obtain ⟨t, v0, v1, v2, rfl, hr⟩ := ih ck _ htk (fun m hm2 => hw m (by
          simp only [DataW.weights, Try.underlying23, List.mem_cons, List.mem_append]
          exact .inr (.inl (weights_mem_all (List.mem_map.2 ⟨_, List.getElem_mem hke, rfl⟩) m hm2))))
        obtain ⟨_, h5⟩ := cells3_of hck
        refine ⟨ts ++ [t], cl ++ [v0, v1, v2], by simp [h1], h2.snoc hr, fun j u hj => ?_⟩
        have hcl := h2.len
        rw [h1] at hcl
        by_cases hjl : j < cl.length
        · rw [List.getElem?_append_left hjl] at hj
          exact h3 j u hj
        · rw [List.getElem?_append_right (by omega)] at hj
          have hj3 : j - cl.length < 3 := by
            have := (List.getElem?_eq_some_iff.1 hj).1
            simpa using this
          have h6 := h5 (j - cl.length) hj3
          rw [hj, Addr.add_add] at h6
          rw [show k * 3 + (j - cl.length) = j from by omega] at h6
          exact h6
    obtain ⟨ts, cl, h1, h2, h3⟩ := build len (Nat.le_refl _)
    refine ⟨some a, len, cap, ts, cl, rfl, h1, hl, hcap, fun hne => ?_, h2⟩
    obtain ⟨b, off, spot⟩ := a
    have hpos : 0 < cl.length := List.length_pos_iff.2 hne
    have h0 := h3 0 _ (List.getElem?_eq_getElem hpos)
    have hspot : spot = none := by simpa [Addr.add] using World.cell?_spot h0
    subst hspot
    have hlt : b < w.heap.size := by
      rcases Nat.lt_or_ge b w.heap.size with h | h
      · exact h
      · simp [World.cell?, Addr.add, Array.getElem?_eq_none h] at h0
    exact ⟨b, off, rfl, hlt, fun j u hu => by rw [← Addr.add_lit]; exact h3 j u hu⟩

theorem open_item_cs (w : World) : ∀ (n : Nat) (cs : List Value) (x : DataW H × List MemPlace), DataW.trod enc Try.prog w 0 (fun _ => true) true n 25 cs = some x → (∀ m ∈ x.1.weights Try.prog 25, m ≤ reachBytes) →
      ∃ t v0 v1 v2, cs = [v0, v1, v2] ∧ RdT w (fun _ => True) t v0 v1 v2
  | 0, cs, x, h, hw => by simp [DataW.trod] at h
  | 1, cs, x, h, hw => by
    obtain ⟨xs, n', hn, rfl, hl, hxl, hfs⟩ := DataW.trod_struct Try.underlying25 h
    have hn0 : n' = 0 := by omega
    subst hn0
    have h0 := hfs 0 _ rfl
    have hx0 : 0 < xs.length := by rw [hxl]; decide
    rw [List.getElem?_eq_getElem hx0] at h0
    simp [DataW.trod] at h0
  | n + 2, cs, x, h, hw => by
    obtain ⟨xs, n', hn, rfl, hl, hxl, hfs⟩ := DataW.trod_struct Try.underlying25 h
    have hn1 : n' = n + 1 := by omega
    subst hn1
    rw [cellsOf_item] at hl
    match cs, hl, xs, hxl with
    | [c0, c1, c2], _, [x0, x1, x2], _ =>
      have h0 : DataW.trod enc Try.prog w 0 (fun _ => true) true (n + 1) 4 [c0] = some x0 := by have := hfs 0 _ rfl; simpa [cellsOf_bool] using this
      have h1 : DataW.trod enc Try.prog w 0 (fun _ => true) true (n + 1) 22 [c1] = some x1 := by have := hfs 1 _ rfl; simpa [cellsOf_bytes] using this
      have h2 : DataW.trod enc Try.prog w 0 (fun _ => true) true (n + 1) 23 [c2] = some x2 := by have := hfs 2 _ rfl; simpa [cellsOf_items] using this
      have hwe : ∀ (j : Nat) (d : DataW H) (t : TypeId), [x0.1, x1.1, x2.1][j]? = some d → ([4, 22, 23] : List TypeId)[j]? = some t → ∀ m ∈ d.weights Try.prog t, m ≤ reachBytes := by
        intro j d t hd ht m hm
        refine hw m ?_
        simp only [DataW.weights, Try.underlying25]
        exact DataW.weights_mem_each (j := j) (by simpa using ht) (by simpa using hd) m hm
      obtain ⟨b, e0, _⟩ := DataW.trod_bool Try.underlying4 h0
      obtain ⟨A, na, ca, bb, e1, ha1, ha2, ha3, ha4⟩ := open_bytes_cs Try.underlying22 Try.underlying5 cellsOf_u8 bytesOf_u8 h1 (hwe 1 x1.1 _ rfl rfl)
      obtain ⟨B, nb, db, its, cl, e2, hb1, hb2, hb3, hb4, hb5⟩ := open_items_cs w n (fun cs x h hw => open_item_cs w n cs x h hw) [c2] x2 h2 (hwe 2 x2.1 _ rfl rfl)
      injection e0 with e0
      injection e1 with e1
      injection e2 with e2
      subst e0 e1 e2
      refine ⟨.mk b bb its, _, _, _, rfl, ?_⟩
      simp only [RdT]
      exact ⟨trivial, ⟨A, na, ca, rfl, ha1.symm, ha2, by omega, by omega, RdP.of_rd ha4 (fun _ _ _ => trivial)⟩, B, nb, db, cl, rfl, hb1.symm, hb2, by omega, RdP.of_rd hb4 (fun _ _ _ => trivial), hb5⟩

/-- An item that came in. -/
theorem open_item {r : Reach} {b0 : Nat} {v : Value} {d : DataW H} {ps : List MemPlace} {w : World} (hval : Value.okWide Try.prog w r b0 25 v) (hd : DataW.Trod enc Try.prog w 0 (fun _ => true) true 25 v d ps)
    (hw : ∀ m ∈ d.weights Try.prog 25, m ≤ reachBytes) : ∃ t v0 v1 v2, v = .agg #[v0, v1, v2] ∧ RdT w (fun _ => True) t v0 v1 v2 := by
  obtain ⟨cs, rfl, hsz⟩ := okWide_struct Try.underlying25 hval
  obtain ⟨fuel, hf⟩ := hd
  obtain ⟨t, v0, v1, v2, e, h⟩ := open_item_cs w fuel _ _ hf hw
  simp only [Value.cells] at e
  refine ⟨t, v0, v1, v2, ?_, h⟩
  congr 1
  apply Array.toList_inj.1
  simpa using e

/-- Items that came in. -/
theorem open_items {r : Reach} {b0 : Nat} {v : Value} {d : DataW H} {ps : List MemPlace} {w : World} (hval : Value.okWide Try.prog w r b0 23 v) (hd : DataW.Trod enc Try.prog w 0 (fun _ => true) true 23 v d ps)
    (hw : ∀ m ∈ d.weights Try.prog 23, m ≤ reachBytes) : ∃ (B : Option Addr) (m d : Nat) (its : List Tree) (cl : List Value), v = .slice B m d ∧ its.length = m ∧ m ≤ d ∧ d * 56 ≤ 140737488351232 ∧ Rd w B cl ∧ RdL w (fun _ => True) its cl := by
  obtain ⟨a0, len, cap, rfl⟩ := okWide_slice Try.underlying23 hval
  obtain ⟨fuel, hf⟩ := hd
  cases fuel with
  | zero => simp [DataW.trod] at hf
  | succ n =>
    obtain ⟨B, m, d, its, cl, e, h⟩ := open_items_cs w n (fun cs x h hw => open_item_cs w n cs x h hw) _ _ hf hw
    simp only [Value.cells, List.cons.injEq, and_true] at e
    exact ⟨B, m, d, its, cl, by simpa using e, h⟩

end
end Go.Proofs.Ytfolidaonnblbaa
