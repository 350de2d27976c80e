/- Frames of laws: what is read only reads again; opening of bytes and of arrays of bytes. -/
import Derived.Test.YtfolidaonnblbaaRows
import Derived.Test.YtfolidaonnblbaaMem
import Derived.WalkKit
import Derived.ProofKit
import Derived.OpenShut
import Derived.SizedLaws
namespace Go.Proofs.Ytfolidaonnblbaa
open Go.ChangeShapes Go.WideShapes Go.ChangeAt Go.RowKit
set_option linter.unusedVariables false

section
variable {H : Type} {enc : TypeId × Value → H} {P : Program}

theorem trodAll_below (hl : laidOutB P = true) {W W' : World} (hb : Below W.heap.size W W') : ∀ {ts : List TypeId} {vs : List Value} {ds : List (DataW H)} {ps : List MemPlace},
    (∀ t ∈ ts, P.readableRec t = true ∧ t < P.types.size) → DataW.TrodAll enc P W 0 (fun _ => true) true ts vs ds ps → (∀ x ∈ ps, x.block < W.heap.size) →
    DataW.TrodAll enc P W' 0 (fun b => decide (b < W.heap.size)) true ts vs ds ps
  | [], [], [], _, _, h, _ => h
  | t :: ts, _ :: _, _ :: _, _, hr, ⟨p, q, h1, h2, e⟩, hlt => by
    subst e
    exact ⟨p, q, Below.trod hl (hr t (by simp)).1 (hr t (by simp)).2 h1 hb (fun x hx => hlt x (by simp [hx])),
      trodAll_below hl hb (fun u hu => hr u (by simp [hu])) h2 (fun x hx => hlt x (by simp [hx])), rfl⟩

/-- A law that answers true and turns nothing that was there. -/
theorem post_true {f : Func} {s : ChangeSpec} {apart : Bool} {W W' : World} {args : Array Value} {ds gs : List (DataW H)} {before : List MemPlace} {tb : TypeId}
    (hl : laidOutB P = true) (hr : (f.params.toList.all fun t => P.readableRec t && decide (t < P.types.size)) = true) (hres : f.resultTypes = #[tb]) (hbool : P.underlying tb = some .bool)
    (hvars : s.vars = []) (hW : DataW.Whole enc P f.params.toList s.vars apart W args.toList ds gs before)
    (hfn : s.fn H (ds ++ gs) = { results := [.lit (.bool true)], args := ds }) (hb : Below W.heap.size W W') :
    s.post enc P f apart true false false W args (.bool true) W' := by
  have hlt := hW.lt
  have hW2 := hW
  obtain ⟨p, q, hA, hV, rfl, hfz, hnd⟩ := hW2
  rw [hvars] at hV
  obtain ⟨rfl, rfl⟩ := trodVars_none hV
  refine ⟨_, _, _, [], p, [], hW, ?_, ?_, ?_, hb.frame _, fun h => by cases h⟩
  · rw [hfn, hres]
    exact trodAll_cons_mk (shut_bool hbool _) trodAll_mk0
  · rw [hfn]
    exact trodAll_below hl hb (fun t ht => by simpa using List.all_eq_true.1 hr t ht) hA (fun x hx => hlt x (by simp [hx]))
  · rw [hfn, hvars]
    exact hV

theorem wf_u8 {n : Int} (h : (Lit.int .u8 n).wf = true) : 0 ≤ n ∧ n ≤ 255 := bounds_u8 h

/-- A slice of bytes, opened. -/
theorem open_bytes {r : Reach} {b0 : Nat} {t e : TypeId} {v : Value} {d : DataW H} {ps : List MemPlace} {w : World} (ht : P.underlying t = some (.slice e)) (he : P.underlying e = some (.int .u8)) (hc : P.cellsOf e = 1)
    (hval : Value.okWide P w r b0 t v) (hd : DataW.Trod enc P w 0 (fun _ => true) true t v d ps) :
    ∃ (A : Option Addr) (n c : Nat) (xs : List UInt8), v = .slice A n c ∧ xs.length = n ∧ n ≤ c ∧ Rd w A (bs xs) ∧ ((n = 0 ∧ c = 0 ∧ d = .nil) ∨ ∃ el sp, d = .slice el sp ∧ el.length + sp.length = c) := by
  obtain ⟨a0, len, cap, rfl⟩ := okWide_slice ht hval
  obtain ⟨fuel, hf⟩ := hd
  rcases open_ints ht he hc hf with ⟨hcs, hx⟩ | ⟨a, len', cap', zs, hcs, _, hl, hm, hz, hx, hcell, hwz⟩
  · simp [Value.cells] at hcs
    obtain ⟨rfl, rfl, rfl⟩ := hcs
    simp only [Prod.mk.injEq] at hx
    exact ⟨none, 0, 0, [], rfl, rfl, Nat.le_refl _, Rd.nil _ _, Or.inl ⟨rfl, rfl, hx.1⟩⟩
  · simp [Value.cells] at hcs
    obtain ⟨rfl, rfl, rfl⟩ := hcs
    simp only [Prod.mk.injEq] at hx
    simp only [if_true] at hz
    refine ⟨some a, len, cap, (zs.take len).map fun z => UInt8.ofNat z.toNat, rfl, by simp; omega, hl, ?_, Or.inr ⟨_, _, hx.1, by simp [lits]; omega⟩⟩
    intro hne
    have hpos : 0 < len := by
      rcases Nat.eq_zero_or_pos len with h0 | h0
      · subst h0; simp [bs] at hne
      · exact h0
    obtain ⟨b, off, rfl, hc2⟩ := ints_at hcell (by omega)
    have hlt : b < w.heap.size := by
      have h0 := hc2 0 (by omega)
      rcases Nat.lt_or_ge b w.heap.size with h | h
      · exact h
      · simp [World.cell?, Array.getElem?_eq_none h] at h0
    refine ⟨b, off, rfl, hlt, fun j u hu => ?_⟩
    have hj : j < len := by
      have := (List.getElem?_eq_some_iff.1 hu).1
      simp [bs] at this
      omega
    rw [hc2 j (by omega)]
    have hw := wf_u8 (hwz (zs.getD j 0) (by
      have : j < zs.length := by omega
      simp [List.getD, this]))
    have hju : j < zs.length := by omega
    simp only [bs, List.getElem?_map, List.getElem?_take, hj, if_true, List.getElem?_eq_getElem hju, Option.map_some, Option.some.injEq] at hu
    subst hu
    simp only [List.getD, List.getElem?_eq_getElem hju, Option.getD_some, bv] at hw ⊢
    rw [UInt8.toNat_ofNat', Nat.mod_eq_of_lt (by omega), Int.toNat_of_nonneg hw.1]

/-- An array of bytes, opened. -/
theorem open_barr {r : Reach} {b0 N : Nat} {t e : TypeId} {v : Value} {d : DataW H} {ps : List MemPlace} {w : World} (ht : P.underlying t = some (.array N e)) (he : P.underlying e = some (.int .u8)) (hc : P.cellsOf e = 1) (hcN : P.cellsOf t = N)
    (hval : Value.okWide P w r b0 t v) (hd : DataW.Trod enc P w 0 (fun _ => true) true t v d ps) :
    ∃ f : Nat → Int, v = .agg ((List.range N).map fun i => Value.int .u8 (f i)).toArray ∧ ∀ i, 0 ≤ f i ∧ f i ≤ 255 := by
  simp only [Value.okWide, ht] at hval
  obtain ⟨cs, rfl, hsz, hrow⟩ := hval
  obtain ⟨fuel, hf⟩ := hd
  obtain ⟨xs, m, _, _, hlen, hxl, hel⟩ := DataW.trod_array ht hf
  simp only [Value.cells] at hlen hel
  rw [hcN] at hsz
  have each : ∀ i, (h : i < N) → ∃ n : Int, cs[i]? = some (.int .u8 n) ∧ 0 ≤ n ∧ n ≤ 255 := by
    intro i h
    have h1 := hel i h
    rw [hc] at h1
    have hxi : i < xs.length := by omega
    rw [List.getElem?_eq_getElem hxi] at h1
    obtain ⟨n, hn, _, hw⟩ := DataW.trod_int he h1
    refine ⟨n, ?_, wf_u8 hw⟩
    have hi : i < cs.toList.length := by simp; omega
    have := congrArg (fun l => l[0]?) hn
    simpa [List.getElem?_take, List.getElem?_drop] using this
  refine ⟨fun i => match cs[i]? with | some (.int .u8 n) => if 0 ≤ n ∧ n ≤ 255 then n else 0 | _ => 0, ?_, ?_⟩
  · congr 1
    apply Array.ext_getElem?
    intro i
    by_cases h : i < N
    · obtain ⟨n, hn, h0, h1⟩ := each i h
      simp [h, hn, h0, h1]
    · simp [h]
      omega
  · intro i
    dsimp only
    split
    · split <;> omega
    · omega

end
end Go.Proofs.Ytfolidaonnblbaa
