/- A list of lists of bytes that came in, opened. -/
import Derived.Test.YtkjdmjflppcofaaDgOpen
namespace Go.Proofs.Ytkjdmjflppcofaa
open Go.ChangeShapes Go.WideShapes Go.RowKit
set_option linter.unusedVariables false

section
variable {H : Type} {enc : TypeId × Value → H}

theorem cellsOf_bytes : Try.prog.cellsOf 26 = 1 := by kernel_rfl
theorem cellsOf_u8 : Try.prog.cellsOf 5 = 1 := by kernel_rfl

theorem open_bytess_cs (w : World) (n : Nat) (cs : List Value) (x : DataW H × List MemPlace) (hx : DataW.trod enc Try.prog w 0 (fun _ => true) true n 37 cs = some x) (hk : Rows.uptoBulk x.1 ≤ 1048576) :
    ∃ (B : Option Addr) (m d : Nat) (yss : List (List UInt8)) (cl : List Value), cs = [.slice B m d] ∧ yss.length = m ∧ m ≤ d ∧ d ≤ 1048576 ∧ Rd w B cl ∧ RdB w yss cl ∧ (catB yss).length ≤ 1048576 := by
  rcases DataW.trod_slice Try.underlying37 hx with ⟨rfl, rfl⟩ | ⟨a, len, cap, elems, rest, n', hn, rfl, rfl, hb, hl, hm, hlen, hel, hsp, hns⟩
  · exact ⟨none, 0, 0, [], [], rfl, rfl, by omega, by omega, Rd.nil _ _, by simp only [RdB], by simp [catB]⟩
  · subst hn
    have hk' : Rows.uptoBulk (DataW.slice (elems.map (·.1)) (rest.map (·.1))) ≤ 1048576 := hk
    have hcap : cap ≤ 1048576 := by
      have h1 := (hsp rfl).1
      have h2 := bulks.slice_le (elems.map (·.1)) (rest.map (·.1))
      simp only [List.length_map] at h2
      omega
    have hbl : Rows.uptoBulkAll (elems.map (·.1)) ≤ 1048576 := by
      have := bulks.slice_elems (elems.map (·.1)) (rest.map (·.1))
      omega
    rw [cellsOf_bytes] at hel
    have build : ∀ k, k ≤ len → ∃ (yss : List (List UInt8)) (cl : List Value), yss.length = k ∧ RdB w yss cl ∧ (catB yss).length ≤ Rows.uptoBulkAll ((elems.map (·.1)).take k) ∧ ∀ j u, cl[j]? = some u → w.cell? (a.add j) = some u := by
      intro k
      induction k with
      | zero => intro _; exact ⟨[], [], rfl, by simp only [RdB], by simp [catB], fun j u h => by simp at h⟩
      | succ k ihk =>
        intro hk
        obtain ⟨ts, cl, h1, h2, hsum, h3⟩ := ihk (by omega)
        have h4 := hel k (by omega)
        have hke : k < elems.length := by omega
        rw [List.getElem?_eq_getElem hke, Option.bind_eq_some_iff] at h4
        obtain ⟨ck, hck, htk⟩ := h4
        obtain ⟨A, c, ys, rfl, g1, g2, g3⟩ := open_bytes_up Try.underlying26 Try.underlying5 cellsOf_u8 htk
        have hpart : Rows.uptoBulk elems[k].1 ≤ Rows.uptoBulkAll (elems.map (·.1)) := bulks.part_le (List.mem_map.2 ⟨_, List.getElem_mem hke, rfl⟩)
        have h5 := (World.cells?_some hck).2.2
        refine ⟨ts ++ [ys], cl ++ [.slice A ys.length c], by simp [h1], h2.snoc g1 (by omega) g3, ?_, fun j u hj => ?_⟩
        · rw [catB_snoc, List.length_append, List.take_add_one, bulks.append]
          have : ((elems.map (·.1))[k]?).toList = [elems[k].1] := by simp [hke]
          rw [this]
          simp only [Rows.uptoBulkAll]
          omega
        · have hcl := h2.len
          rw [h1] at hcl
          by_cases hjl : j < cl.length
          · rw [List.getElem?_append_left hjl] at hj
            exact h3 j u hj
          · rw [List.getElem?_append_right (by omega)] at hj
            have hj1 : j - cl.length < 1 := by
              have := (List.getElem?_eq_some_iff.1 hj).1
              simpa using this
            have h6 := h5 (j - cl.length) hj1
            rw [hj, Addr.add_add] at h6
            rw [show k * 1 + (j - cl.length) = j from by omega] at h6
            exact h6
    obtain ⟨ts, cl, h1, h2, hsum, h3⟩ := build len (Nat.le_refl _)
    have hle : Rows.uptoBulkAll ((elems.map (·.1)).take len) ≤ Rows.uptoBulkAll (elems.map (·.1)) := by
      have e := bulks.append ((elems.map (·.1)).take len) ((elems.map (·.1)).drop len)
      rw [List.take_append_drop] at e
      omega
    refine ⟨some a, len, cap, ts, cl, rfl, h1, hl, hcap, fun hne => ?_, h2, by omega⟩
    obtain ⟨b, off, spot⟩ := a
    have hpos : 0 < cl.length := List.length_pos_iff.2 hne
    have h0 := h3 0 _ (List.getElem?_eq_getElem hpos)
    have hspot : spot = none := by simpa [Addr.add] using World.cell?_spot h0
    subst hspot
    have hlt : b < w.heap.size := by
      rcases Nat.lt_or_ge b w.heap.size with h | h
      · exact h
      · simp [World.cell?, Addr.add, Array.getElem?_eq_none h] at h0
    exact ⟨b, off, rfl, hlt, fun j u hu => by rw [← Addr.add_lit]; exact h3 j u hu⟩

theorem open_bytess {r : Reach} {b0 : Nat} {v : Value} {d : DataW H} {ps : List MemPlace} {w : World} (hval : Value.okWide Try.prog w r b0 37 v) (hd : DataW.Trod enc Try.prog w 0 (fun _ => true) true 37 v d ps) (hk : Rows.uptoBulk d ≤ 1048576) :
    ∃ (B : Option Addr) (m d : Nat) (yss : List (List UInt8)) (cl : List Value), v = .slice B m d ∧ yss.length = m ∧ m ≤ d ∧ d ≤ 1048576 ∧ Rd w B cl ∧ RdB w yss cl ∧ (catB yss).length ≤ 1048576 := by
  obtain ⟨a0, len, cap, rfl⟩ := okWide_slice Try.underlying37 hval
  obtain ⟨fuel, hf⟩ := hd
  obtain ⟨B, m, d, yss, cl, e, h⟩ := open_bytess_cs w fuel _ _ hf hk
  simp only [Value.cells, List.cons.injEq, and_true] at e
  exact ⟨B, m, d, yss, cl, by simpa using e, h⟩

end
end Go.Proofs.Ytkjdmjflppcofaa
