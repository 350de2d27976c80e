/- A transaction that came in, opened. -/
import Derived.Test.YtgpaiphjbhkadaaTxDec
import Derived.Test.YtgpaiphjbhkadaaLawKit2
namespace Go.Proofs.Ytgpaiphjbhkadaa
open Go.ChangeShapes Go.WideShapes Go.RowKit
set_option linter.unusedVariables false
set_option maxRecDepth 100000

section
variable {H : Type} {enc : TypeId × Value → H}

/-- Bytes, in a row of cells. -/
theorem open_bytes_cs {P : Program} {t e : TypeId} {cs : List Value} {x : DataW H × List MemPlace} {w : World} {fuel : Nat} (ht : P.underlying t = some (.slice e)) (he : P.underlying e = some (.int .u8)) (hc : P.cellsOf e = 1) (hb : P.bytesOf e = 1)
    (hf : DataW.trod enc P w 0 (fun _ => true) true fuel t cs = some x) (hw : ∀ m ∈ x.1.weights P t, m ≤ reachBytes) :
    ∃ (A : Option Addr) (n c : Nat) (xs : List UInt8), cs = [.slice A n c] ∧ xs.length = n ∧ n ≤ c ∧ c ≤ 140737488351232 ∧ Rd w A (bs xs) := by
  rcases open_ints ht he hc hf with ⟨hcs, hx⟩ | ⟨a, len', cap', zs, hcs, _, hl, hm, hz, hx, hcell, hwz⟩
  · exact ⟨none, 0, 0, [], hcs, rfl, Nat.le_refl _, by omega, Rd.nil _ _⟩
  · subst hx
    simp only [if_true] at hz
    have hcap : cap' ≤ 140737488351232 := by
      have := hw (((lits (H := H) .u8 (zs.take len')).length + (lits (H := H) .u8 (zs.drop len')).length) * P.bytesOf e) (by simp [DataW.weights, ht])
      rw [hb] at this
      simp only [lits, List.length_map, List.length_take, List.length_drop, reachBytes] at this
      omega
    refine ⟨some a, len', cap', (zs.take len').map fun z => UInt8.ofNat z.toNat, hcs, by simp; omega, hl, hcap, ?_⟩
    intro hne
    have hpos : 0 < len' := by
      rcases Nat.eq_zero_or_pos len' with h0 | h0
      · subst h0; simp [bs] at hne
      · exact h0
    obtain ⟨b, off, rfl, hc2⟩ := ints_at hcell (by omega)
    have hlt : b < w.heap.size := by
      have h0 := hc2 0 (by omega)
      rcases Nat.lt_or_ge b w.heap.size with h | h
      · exact h
      · simp [World.cell?, Array.getElem?_eq_none h] at h0
    refine ⟨b, off, rfl, hlt, fun j u hu => ?_⟩
    have hj : j < len' := by
      have := (List.getElem?_eq_some_iff.1 hu).1
      simp [bs] at this
      omega
    rw [hc2 j (by omega)]
    have hwv := wf_u8 (hwz (zs.getD j 0) (by
      have : j < zs.length := by omega
      simp [List.getD, this]))
    have hju : j < zs.length := by omega
    simp only [bs, List.getElem?_map, List.getElem?_take, hj, if_true, List.getElem?_eq_getElem hju, Option.map_some, Option.some.injEq] at hu
    subst hu
    simp only [List.getD, List.getElem?_eq_getElem hju, Option.getD_some, bv] at hwv ⊢
    rw [UInt8.toNat_ofNat', Nat.mod_eq_of_lt (by omega), Int.toNat_of_nonneg hwv.1]

/-- Words, in a row of cells. -/
theorem open_u64s_cs {P : Program} {t e : TypeId} {cs : List Value} {x : DataW H × List MemPlace} {w : World} {fuel : Nat} (ht : P.underlying t = some (.slice e)) (he : P.underlying e = some (.int .u64)) (hc : P.cellsOf e = 1)
    (hf : DataW.trod enc P w 0 (fun _ => true) true fuel t cs = some x) :
    ∃ (A : Option Addr) (n c : Nat) (ns : List Nat), cs = [.slice A n c] ∧ ns.length = n ∧ n ≤ c ∧ c ≤ 9223372036854775807 ∧ (∀ v ∈ ns, v < 18446744073709551616) ∧ Rd w A (u64s ns) := by
  rcases open_ints ht he hc hf with ⟨hcs, hx⟩ | ⟨a, len', cap', zs, hcs, _, hl, hm, hz, hx, hcell, hwz⟩
  · exact ⟨none, 0, 0, [], hcs, rfl, Nat.le_refl _, by omega, by simp, Rd.nil _ _⟩
  · subst hx
    simp only [if_true] at hz
    refine ⟨some a, len', cap', (zs.take len').map fun z => z.toNat, hcs, by simp; omega, hl, by unfold maxLen at hm; omega, ?_, ?_⟩
    · intro v hv
      obtain ⟨z, hz1, rfl⟩ := List.mem_map.1 hv
      have := bounds_u64 (hwz z (List.mem_of_mem_take hz1))
      omega
    intro hne
    have hpos : 0 < len' := by
      rcases Nat.eq_zero_or_pos len' with h0 | h0
      · subst h0; simp [u64s] at hne
      · exact h0
    obtain ⟨b, off, rfl, hc2⟩ := ints_at hcell (by omega)
    have hlt : b < w.heap.size := by
      have h0 := hc2 0 (by omega)
      rcases Nat.lt_or_ge b w.heap.size with h | h
      · exact h
      · simp [World.cell?, Array.getElem?_eq_none h] at h0
    refine ⟨b, off, rfl, hlt, fun j u hu => ?_⟩
    have hj : j < len' := by
      have := (List.getElem?_eq_some_iff.1 hu).1
      simp at this
      omega
    rw [hc2 j (by omega)]
    have hwv := bounds_u64 (hwz (zs.getD j 0) (by
      have : j < zs.length := by omega
      simp [List.getD, this]))
    have hju : j < zs.length := by omega
    simp only [u64s, List.getElem?_map, List.getElem?_take, hj, if_true, List.getElem?_eq_getElem hju, Option.map_some, Option.some.injEq] at hu
    subst hu
    simp only [List.getD, List.getElem?_eq_getElem hju, Option.getD_some, u64v] at hwv ⊢
    rw [Int.toNat_of_nonneg hwv.1]

theorem cellsOf_tx : Try.prog.cellsOf 26 = 9 := by kernel_rfl
theorem cellsOf_bool : Try.prog.cellsOf 4 = 1 := by kernel_rfl
theorem cellsOf_bytes : Try.prog.cellsOf 24 = 1 := by kernel_rfl
theorem cellsOf_u64s : Try.prog.cellsOf 23 = 1 := by kernel_rfl
theorem cellsOf_u8 : Try.prog.cellsOf 5 = 1 := by kernel_rfl
theorem cellsOf_u64 : Try.prog.cellsOf 22 = 1 := by kernel_rfl
theorem bytesOf_u8 : Try.prog.bytesOf 5 = 1 := by kernel_rfl

/-- What a transaction that came in is. -/
structure TxIn (w : World) (t : TxD) (A : Option Addr) (d : Nat) (B : Option Addr) (c : Nat) : Prop where
  ok : OkTx t
  hd : t.inp.length ≤ d
  hdm : d ≤ 9223372036854775807
  hc : t.code.length ≤ c
  hcm : c ≤ 140737488351232
  hA : Rd w A (u64s t.inp)
  hB : Rd w B (bs t.code)
theorem TxIn.below {w w' : World} {t : TxD} {A : Option Addr} {d : Nat} {B : Option Addr} {c : Nat} (h : TxIn w t A d B c) (hb : Below w.heap.size w w') : TxIn w' t A d B c :=
  { h with hA := h.hA.below hb, hB := h.hB.below hb }

theorem open_tx_cs (w : World) (n : Nat) (cs : List Value) (x : DataW H × List MemPlace) (h : DataW.trod enc Try.prog w 0 (fun _ => true) true n 26 cs = some x) (hw : ∀ m ∈ x.1.weights Try.prog 26, m ≤ reachBytes) :
    ∃ t A d B c, cs = (#[.int .u64 ((TxD.a0 t : Nat) : Int), .int .u64 (t.a1 : Int), .int .u64 (t.a2 : Int), .int .u64 (t.a3 : Int), .int .u64 (t.a4 : Int), .int .u64 (t.a5 : Int), .slice A t.inp.length d, .bool t.mak, .slice B t.code.length c] : Array Value).toList ∧ TxIn w t A d B c := by
  obtain ⟨xs, n', hn, rfl, hl, hxl, hfs⟩ := DataW.trod_struct Try.underlying26 h
  rw [cellsOf_tx] at hl
  match cs, hl, xs, hxl with
  | [c0, c1, c2, c3, c4, c5, c6, c7, c8], _, [x0, x1, x2, x3, x4, x5, x6, x7, x8], _ =>
    have h0 : DataW.trod enc Try.prog w 0 (fun _ => true) true n' 22 [c0] = some x0 := by have := hfs 0 _ rfl; simpa [cellsOf_u64] using this
    have h1 : DataW.trod enc Try.prog w 0 (fun _ => true) true n' 22 [c1] = some x1 := by have := hfs 1 _ rfl; simpa [cellsOf_u64] using this
    have h2 : DataW.trod enc Try.prog w 0 (fun _ => true) true n' 22 [c2] = some x2 := by have := hfs 2 _ rfl; simpa [cellsOf_u64] using this
    have h3 : DataW.trod enc Try.prog w 0 (fun _ => true) true n' 22 [c3] = some x3 := by have := hfs 3 _ rfl; simpa [cellsOf_u64] using this
    have h4 : DataW.trod enc Try.prog w 0 (fun _ => true) true n' 22 [c4] = some x4 := by have := hfs 4 _ rfl; simpa [cellsOf_u64] using this
    have h5 : DataW.trod enc Try.prog w 0 (fun _ => true) true n' 22 [c5] = some x5 := by have := hfs 5 _ rfl; simpa [cellsOf_u64] using this
    have h6 : DataW.trod enc Try.prog w 0 (fun _ => true) true n' 23 [c6] = some x6 := by have := hfs 6 _ rfl; simpa [cellsOf_u64s] using this
    have h7 : DataW.trod enc Try.prog w 0 (fun _ => true) true n' 4 [c7] = some x7 := by have := hfs 7 _ rfl; simpa [cellsOf_bool] using this
    have h8 : DataW.trod enc Try.prog w 0 (fun _ => true) true n' 24 [c8] = some x8 := by have := hfs 8 _ rfl; simpa [cellsOf_bytes] using this
    have hwe : ∀ m ∈ x8.1.weights Try.prog 24, m ≤ reachBytes := by
      intro m hm
      refine hw m ?_
      simp only [DataW.weights, Try.underlying26]
      exact DataW.weights_mem_each (j := 8) rfl rfl m hm
    obtain ⟨z0, e0, _, b0⟩ := DataW.trod_int Try.underlying22 h0
    obtain ⟨z1, e1, _, b1⟩ := DataW.trod_int Try.underlying22 h1
    obtain ⟨z2, e2, _, b2⟩ := DataW.trod_int Try.underlying22 h2
    obtain ⟨z3, e3, _, b3⟩ := DataW.trod_int Try.underlying22 h3
    obtain ⟨z4, e4, _, b4⟩ := DataW.trod_int Try.underlying22 h4
    obtain ⟨z5, e5, _, b5⟩ := DataW.trod_int Try.underlying22 h5
    obtain ⟨A, na, ca, ns, e6, ha1, ha2, ha3, ha4, ha5⟩ := open_u64s_cs Try.underlying23 Try.underlying22 cellsOf_u64 h6
    obtain ⟨mk, e7, _⟩ := DataW.trod_bool Try.underlying4 h7
    obtain ⟨B, nb, cb, bb, e8, hb1, hb2, hb3, hb4⟩ := open_bytes_cs Try.underlying24 Try.underlying5 cellsOf_u8 bytesOf_u8 h8 hwe
    have q0 := bounds_u64 b0
    have q1 := bounds_u64 b1
    have q2 := bounds_u64 b2
    have q3 := bounds_u64 b3
    have q4 := bounds_u64 b4
    have q5 := bounds_u64 b5
    injection e0 with e0; injection e1 with e1; injection e2 with e2; injection e3 with e3; injection e4 with e4
    injection e5 with e5; injection e6 with e6; injection e7 with e7; injection e8 with e8
    subst e0 e1 e2 e3 e4 e5 e6 e7 e8 ha1 hb1
    refine ⟨⟨z0.toNat, z1.toNat, z2.toNat, z3.toNat, z4.toNat, z5.toNat, ns, mk, bb⟩, A, ca, B, cb, ?_, ⟨⟨by simp only; omega, by simp only; omega, by simp only; omega, by simp only; omega, by simp only; omega, by simp only; omega, ha4⟩, ha2, ha3, hb2, hb3, ha5, hb4⟩⟩
    simp only [Int.toNat_of_nonneg q0.1, Int.toNat_of_nonneg q1.1, Int.toNat_of_nonneg q2.1, Int.toNat_of_nonneg q3.1, Int.toNat_of_nonneg q4.1, Int.toNat_of_nonneg q5.1]

/-- A transaction that came in. -/
theorem open_tx {r : Reach} {b0 : Nat} {v : Value} {d : DataW H} {ps : List MemPlace} {w : World} (hval : Value.okWide Try.prog w r b0 26 v) (hd : DataW.Trod enc Try.prog w 0 (fun _ => true) true 26 v d ps)
    (hw : ∀ m ∈ d.weights Try.prog 26, m ≤ reachBytes) : ∃ t A d B c, v = .agg #[.int .u64 ((TxD.a0 t : Nat) : Int), .int .u64 (t.a1 : Int), .int .u64 (t.a2 : Int), .int .u64 (t.a3 : Int), .int .u64 (t.a4 : Int), .int .u64 (t.a5 : Int), .slice A t.inp.length d, .bool t.mak, .slice B t.code.length c] ∧ TxIn w t A d B c := by
  obtain ⟨cs, rfl, hsz⟩ := okWide_struct Try.underlying26 hval
  obtain ⟨fuel, hf⟩ := hd
  obtain ⟨t, A, d, B, c, e, h⟩ := open_tx_cs w fuel _ _ hf hw
  simp only [Value.cells] at e
  refine ⟨t, A, d, B, c, ?_, h⟩
  congr 1
  apply Array.toList_inj.1
  exact e

end
end Go.Proofs.Ytgpaiphjbhkadaa
