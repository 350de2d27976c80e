/- More words for memory: cutting a slice, as one equation. -/
import Derived.Test.YtfolidaonnblbaaRows
import Derived.Test.YtfolidaonnblbaaMem
import Derived.WalkSpells
namespace Go.Proofs.Ytfolidaonnblbaa
open Go Go.RowKit
set_option linter.unusedVariables false

/-- 's[l:]' of a slice of one-cell elements: the address under a name. -/
theorem slice_from {P : Program} (t : TypeId) (ht : P.underlying t = some (.slice (P.elem t))) (hs : ∀ w, (sizeOf (P.elem t)).run P w = .ok 1 w) (A : Option Addr) (n c l : Nat) (L : Int) (hL : L = (l : Int)) (hl : l ≤ n) :
    ∃ A2, Hid (A2 = if c = l then A else A.map (·.add l)) ∧ ∀ w, (Instr.slice t (.slice A n c) (some (.int .i64 L)) none none).run P w = .ok (.slice A2 (n - l) (c - l)) w := by
  subst hL
  refine ⟨_, Go.Lib.hid rfl, fun w => ?_⟩
  rw [run_slice_l w t A n c ht .i64 l (by omega) (by omega), hs]
  simp [Result.andThen, sliced]

/-! ### append(b, make([]T, K)...) at a constant K, elements of one cell -/
section
variable {P : Program} (w : World)

theorem zeroCells_one (z : Value) (hz : z.cells = #[z]) (K : Nat) : (Builtin.zeroCells z.cells K).toList = List.replicate K z := by
  apply List.ext_getElem
  · simp [Builtin.zeroCells, hz]
  · intro i h1 h2
    simp [Builtin.zeroCells, hz, Nat.mod_one]

theorem run_append_zeros_o (t ti ty e : TypeId) (i : TypeInfo) (z : Value) (ht : P.underlying t = some (.slice e)) (hti : P.underlying ti = some (.int .i64)) (hi : P.info? e = some i) (hz : i.zero = some z)
    (hsize : i.size = 1) (hby : i.bytes = 1) (hzc : z.cells = #[z]) (hz1 : z.oneCell' = true)
    (base : Nat) (A : Option Addr) (n c : Nat) (cs : List Value) (hown : Own w base e 1 A n c cs) (K : Nat) (hK0 : 0 < K) (hK : K ≤ 1000000)
    (hbytes : n + K ≤ 140737488355328) (hbase : base ≤ w.heap.size) :
    ∃ A' c' w', (Builtin.append_ #[t, ti] ty #[.slice A n c, .int .i64 K]).run P w = .ok (.slice A' (n + K) c') w' ∧ Own w' base e 1 A' (n + K) c' (cs ++ List.replicate K z) ∧
      Kp (fun k => some k = A.map (·.block)) w w' ∧ Lie A' A w.heap.size := by
  have hwr : IntKind.i64.wrap (K : Int) = K := by rw [IntKind.wrap_i64]; omega
  have hlen : (cs ++ List.replicate K z).length = (n + K) * 1 := by rw [List.length_append, hown.1]; simp
  have hzl : (Builtin.zeroCells z.cells K).size = K := by simp [Builtin.zeroCells, hzc]
  have hzt := zeroCells_one z hzc K
  have h63 : n + K ≤ maxLen := by unfold maxLen; omega
  have c1 : ¬ ((K : Int) < 0) := by omega
  have c2 : ¬ (281474976710656 < (K : Int)) := by omega
  have c3 : ¬ (K = 0) := by omega
  have grown : ∀ old, old < n + K → Own (w.drew.alloc (.cells (cs.toArray ++ Builtin.zeroCells z.cells K ++ Builtin.zeroCells z.cells (grownCap w (n + K) old e - (n + K))) e)) base e 1 (some ⟨w.heap.size, 0, none⟩) (n + K) (grownCap w (n + K) old e) (cs ++ List.replicate K z) := by
    intro old ho
    have hge := grownCap_ge w (n + K) old e
    have hcm : grownCap w (n + K) old e ≤ maxLen := grownCap_le_maxLen w (n + K) old e h63
    have hs : (cs.toArray ++ Builtin.zeroCells z.cells K ++ Builtin.zeroCells z.cells (grownCap w (n + K) old e - (n + K))).size = grownCap w (n + K) old e * 1 := by
      have h1 := hown.1
      have h2 : z.cells.size = 1 := by rw [hzc]; rfl
      simp only [Array.size_append, List.size_toArray, size_zeroCells, h2]
      omega
    have := own_made w.drew base e 1 _ (n + K) (grownCap w (n + K) old e) hbase hcm hge hs
    have htk : (cs.toArray ++ Builtin.zeroCells z.cells K ++ Builtin.zeroCells z.cells (grownCap w (n + K) old e - (n + K))).toList.take ((n + K) * 1) = cs ++ List.replicate K z := by
      simp only [Array.toList_append]
      rw [hzt, ← hlen]
      exact List.take_left
    rw [htk] at this
    exact this
  have grownK : ∀ S old, Kp S w (w.drew.alloc (.cells (cs.toArray ++ Builtin.zeroCells z.cells K ++ Builtin.zeroCells z.cells (grownCap w (n + K) old e - (n + K))) e)) := fun S old => (Kp.drew S w).trans (Kp.alloc S w.drew _)
  rcases hown.2.2.2 with ⟨rfl, rfl, rfl⟩ | ⟨g, off, cur, rfl, hbg, hg, hcur, htake⟩
  · have hx : cs = [] := List.eq_nil_of_length_eq_zero (by simpa using hown.1)
    subst hx
    have hgr := grown 0 (by omega)
    have hgk := grownK (fun k => some k = none) 0
    simp only [Nat.zero_add, List.nil_append, Array.empty_append] at hgr hgk ⊢
    have c4 : ¬ (281474976710656 < Builtin.nextslicecap K 0) := by rw [nextslicecap_zero hK0]; omega
    have c5 : ¬ (9223372036854775807 < (K : Int)) := by omega
    refine ⟨_, _, _, ?_, hgr, by simpa using hgk, .inr ⟨_, rfl, Nat.le_refl _⟩⟩
    simp [Builtin.append_, run_underlying ht, run_underlying hti, sizeOf, typeInfo, zeroValue, asInt, asIntOf, hi, hz, hsize, hby, hwr, c1, c2, c3, c4, c5, Question.forced, run_firstCells_none, newRow, grownCap]
  · by_cases hroom : n + K ≤ c
    · have hst := run_storeCells_at P g (off + n) e (List.replicate K z) 0 cur w hg (by simp; omega) (by intro v hv; rw [List.eq_of_mem_replicate hv]; exact hz1)
      simp only [Nat.add_zero] at hst
      refine ⟨some ⟨g, off, none⟩, c, w.setRow g (cur.toList.take (off + n) ++ List.replicate K z ++ cur.toList.drop (off + n + (List.replicate K z).length)).toArray, ?_, ⟨hlen, hroom, hown.2.2.1, .inr ⟨g, off, _, rfl, hbg, setRow_heap w g cur _ e _ hg, ?_, ?_⟩⟩,
        ⟨rfl, rfl, rfl, by simp, fun k _ hk => setRow_other w g k _ fun e => hk (by simp [e])⟩, .inl rfl⟩
      · simp [Builtin.append_, run_underlying ht, run_underlying hti, sizeOf, typeInfo, zeroValue, asInt, asIntOf, hi, hz, hsize, hby, hwr, c1, c2, c3, hroom, Addr.add_lit, hzt, hst]
      · simp only [List.size_toArray, List.length_append, List.length_take, List.length_drop, Array.length_toList, List.length_replicate]
        omega
      · have h1 : (cur.toList.take (off + n)).length = off + n := by rw [List.length_take, Array.length_toList]; omega
        rw [List.append_assoc, List.drop_append_of_le_length (by omega), List.drop_take, show off + n - off = n * 1 from by omega, htake, ← List.append_assoc, ← hlen]
        exact List.take_left
    · have holds : ∀ j u, cs[j]? = some u → w.cell? ((⟨g, off, none⟩ : Addr).add j) = some u := fun j u hu => by rw [Addr.add_lit]; exact hown.cells rfl j u hu
      have hfo := run_firstCells_some (P := P) w.drew 1 n ⟨g, off, none⟩ n c cs hown.1 (by simpa using holds)
      have c4 : ¬ (281474976710656 < Builtin.nextslicecap (n + K) c) := by have := growslice_fits (need := n + K) (old := c) (bytes := 1) (by omega) (by omega); omega
      have c5 : ¬ (9223372036854775807 < (n : Int) + (K : Int)) := by omega
      refine ⟨_, _, _, ?_, grown c (by omega), grownK _ c, .inr ⟨_, rfl, Nat.le_refl _⟩⟩
      simp [Builtin.append_, run_underlying ht, run_underlying hti, sizeOf, typeInfo, zeroValue, asInt, asIntOf, hi, hz, hsize, hby, hwr, c1, c2, c3, c4, c5, hroom, Question.forced, hfo, newRow, grownCap]

theorem wpList_append_zeros_o {ops : Array Oper} {rest : List Oper} {o : Oper} {a : Act} {Q : Exit → Act → World → Prop} (hgd : o.guard = none) (s x : Operand) (t ti : TypeId)
    (ho : o.op = .call { callee := .builtin .append, args := #[s, x], argTypes := #[t, ti] })
    (e : TypeId) (i : TypeInfo) (z : Value) (ht : P.underlying t = some (.slice e)) (hti : P.underlying ti = some (.int .i64)) (hi : P.info? e = some i) (hz : i.zero = some z)
    (hsize : i.size = 1) (hby : i.bytes = 1) (hzc : z.cells = #[z]) (hz1 : z.oneCell' = true)
    (base : Nat) (A : Option Addr) (n c : Nat) (cs : List Value) (hs : a.eval s = .slice A n c) (hown : Own w base e 1 A n c cs)
    (K : Nat) (hx : a.eval x = .int .i64 K) (hK0 : 0 < K) (hK : K ≤ 1000000)
    (hbytes : n + K ≤ 140737488355328) (hbase : base ≤ w.heap.size)
    (h : ∀ A' c' w', Own w' base e 1 A' (n + K) c' (cs ++ List.replicate K z) → Kp (fun k => some k = A.map (·.block)) w w' → Lie A' A w.heap.size → wpList P ops Q rest (a.put o.dst (.slice A' (n + K) c')) w') : wpList P ops Q (o :: rest) a w :=
  wpList_plain hgd fun _ hK' => by
    obtain ⟨A', c', w', hrun, h2, h3, h4⟩ := run_append_zeros_o (P := P) w t ti o.type e i z ht hti hi hz hsize hby hzc hz1 base A n c cs hown K hK0 hK hbytes hbase
    unfold Oper.wp execOp
    simp only [ho, resolve, invoke, builtin, Sem.run_bind, Sem.run_pure, Result.andThen_ok, List.map_toArray, List.map_cons, List.map_nil, hs, hx, hrun]
    exact hK' _ _ (h A' c' w' h2 h3 h4)
end

end Go.Proofs.Ytfolidaonnblbaa
