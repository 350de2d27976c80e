/- spoil: what may be spoiled (an item whose bytes lie in blocks of P, not frozen), and its contract. -/
import Derived.Test.YtfolidaonnblbaaNsLaws1
import Derived.BigQuiet
import Derived.Deep.QuietTactic
namespace Go.Proofs.Ytfolidaonnblbaa
open Go.ChangeShapes Go.WideShapes Go.RowKit
set_option linter.unusedVariables false

theorem box_keep {w w' : World} {g : Nat} {o : Obj} (h : w.heap[g]? = some o) (hb : Below w.heap.size w w') : w'.heap[g]? = some o := (hb.block g (Array.getElem?_eq_some_iff.1 h).1).trans h
theorem cell_lt {w : World} {g o : Nat} {v : Value} (h : w.cell? ⟨g, o, none⟩ = some v) : g < w.heap.size := by
  rcases Nat.lt_or_ge g w.heap.size with h' | h'
  · exact h'
  · simp [World.cell?, Array.getElem?_eq_none h'] at h

mutual
def ShT (w : World) (P : Nat → Prop) : Tree → Value → Value → Value → Prop
  | .mk l b its, v0, v1, v2 =>
    v0 = .bool l ∧ (∃ A n c, v1 = .slice A n c ∧ n = b.length ∧ n ≤ c ∧ c ≤ 9223372036854775807 ∧ n ≤ 140737488355328 ∧ (0 < n → ∃ g off, A = some ⟨g, off, none⟩ ∧ g < w.heap.size ∧ P g ∧ (∀ j, w.frozen? ⟨g, j, none⟩ = false) ∧ ∀ j, j < n → ∃ z : Int, w.cell? ⟨g, off + j, none⟩ = some (.int .u8 z))) ∧
    ∃ B m d cs, v2 = .slice B m d ∧ m = its.length ∧ m ≤ d ∧ d ≤ 9223372036854775807 ∧ Rd w B cs ∧ ShL w P its cs
def ShL (w : World) (P : Nat → Prop) : List Tree → List Value → Prop
  | [], cs => cs = []
  | t :: ts, cs => ∃ v0 v1 v2 rest, cs = v0 :: v1 :: v2 :: rest ∧ ShT w P t v0 v1 v2 ∧ ShL w P ts rest
end

theorem ShT.parts {w : World} {P : Nat → Prop} {l : Bool} {b : List UInt8} {its : List Tree} {v0 v1 v2 : Value} (h : ShT w P (.mk l b its) v0 v1 v2) :
    ∃ A c B d cs, v0 = .bool l ∧ v1 = .slice A b.length c ∧ v2 = .slice B its.length d ∧ b.length ≤ c ∧ c ≤ 9223372036854775807 ∧ b.length ≤ 140737488355328 ∧ its.length ≤ d ∧ d ≤ 9223372036854775807 ∧
      (0 < b.length → ∃ g off, A = some ⟨g, off, none⟩ ∧ g < w.heap.size ∧ P g ∧ (∀ j, w.frozen? ⟨g, j, none⟩ = false) ∧ ∀ j, j < b.length → ∃ z : Int, w.cell? ⟨g, off + j, none⟩ = some (.int .u8 z)) ∧
      Rd w B cs ∧ ShL w P its cs := by
  simp only [ShT] at h
  obtain ⟨h0, ⟨A, n, c, e1, rfl, e3, e4, e9, h1⟩, B, m, d, cs, e5, rfl, e7, e8, h2, h3⟩ := h
  exact ⟨A, c, B, d, cs, h0, e1, e5, e3, e4, e9, e7, e8, h1, h2, h3⟩
theorem ShT.shape {w : World} {P : Nat → Prop} {t : Tree} {v0 v1 v2 : Value} (h : ShT w P t v0 v1 v2) : ∃ A n c B m d, v0 = .bool t.l ∧ v1 = .slice A n c ∧ v2 = .slice B m d := by
  cases t with
  | mk l b its =>
    obtain ⟨A, c, B, d, cs, h0, h1, h2, _⟩ := h.parts
    exact ⟨A, _, c, B, _, d, h0, h1, h2⟩
theorem ShL.no8 {w : World} {P : Nat → Prop} : ∀ {ts : List Tree} {cs : List Value} (_ : ShL w P ts cs), ∀ u ∈ cs, ∀ z : Int, u ≠ .int .u8 z
  | [], cs, h => by simp only [ShL] at h; simp [h]
  | t :: ts, cs, h => by
    simp only [ShL] at h
    obtain ⟨v0, v1, v2, rest, rfl, h1, h2⟩ := h
    obtain ⟨A, n, c, B, m, d, rfl, rfl, rfl⟩ := h1.shape
    intro u hu z
    simp only [List.mem_cons] at hu
    rcases hu with rfl | rfl | rfl | hu
    · simp
    · simp
    · simp
    · exact ShL.no8 h2 u hu z
theorem ShL.at_ {w : World} {P : Nat → Prop} : ∀ {ts : List Tree} {cs : List Value} (_ : ShL w P ts cs) (i : Nat) (hi : i < ts.length), ∃ v0 v1 v2, cs[3 * i]? = some v0 ∧ cs[3 * i + 1]? = some v1 ∧ cs[3 * i + 2]? = some v2 ∧ ShT w P ts[i] v0 v1 v2
  | [], cs, h, i, hi => by simp at hi
  | t :: ts, cs, h, 0, hi => by
    simp only [ShL] at h
    obtain ⟨v0, v1, v2, rest, rfl, h1, h2⟩ := h
    exact ⟨v0, v1, v2, rfl, rfl, rfl, h1⟩
  | t :: ts, cs, h, i + 1, hi => by
    simp only [ShL] at h
    obtain ⟨v0, v1, v2, rest, rfl, h1, h2⟩ := h
    obtain ⟨u0, u1, u2, e0, e1, e2, h3⟩ := ShL.at_ h2 i (by simpa using hi)
    refine ⟨u0, u1, u2, ?_, ?_, ?_, h3⟩
    · rw [show 3 * (i + 1) = 3 * i + 3 from by omega]; simpa using e0
    · rw [show 3 * (i + 1) + 1 = 3 * i + 1 + 3 from by omega]; simpa using e1
    · rw [show 3 * (i + 1) + 2 = 3 * i + 2 + 3 from by omega]; simpa using e2

/-- Bytes may have changed; all else reads as before. -/
structure Spo (w w' : World) : Prop where
  far : ∀ g o v, w.cell? ⟨g, o, none⟩ = some v → (∀ z : Int, v ≠ .int .u8 z) → w'.cell? ⟨g, o, none⟩ = some v
  byte : ∀ g o (z : Int), w.cell? ⟨g, o, none⟩ = some (.int .u8 z) → ∃ z' : Int, w'.cell? ⟨g, o, none⟩ = some (.int .u8 z')
  ice : ∀ g o, g < w.heap.size → w'.frozen? ⟨g, o, none⟩ = w.frozen? ⟨g, o, none⟩
  size : w.heap.size ≤ w'.heap.size
theorem Spo.refl (w : World) : Spo w w := ⟨fun _ _ _ h _ => h, fun _ _ z h => ⟨z, h⟩, fun _ _ _ => rfl, Nat.le_refl _⟩
theorem Spo.trans {a b c : World} (h : Spo a b) (k : Spo b c) : Spo a c :=
  ⟨fun g o v e hv => k.far g o v (h.far g o v e hv) hv, fun g o z e => by obtain ⟨z1, e1⟩ := h.byte g o z e; exact k.byte g o z1 e1,
    fun g o hg => (k.ice g o (Nat.lt_of_lt_of_le hg h.size)).trans (h.ice g o hg), Nat.le_trans h.size k.size⟩
theorem Spo.of_below {w w' : World} (h : Below w.heap.size w w') : Spo w w' :=
  ⟨fun g o v e _ => (h.cell (p := ⟨g, o, none⟩) (cell_lt e)).trans e, fun g o z e => ⟨z, (h.cell (p := ⟨g, o, none⟩) (cell_lt e)).trans e⟩, fun g o hg => frozen_of_block (h.block g hg) o, h.size⟩
theorem Spo.set {w : World} {g i : Nat} {z0 : Int} (h : w.cell? ⟨g, i, none⟩ = some (.int .u8 z0)) (z : Int) : Spo w (w.setCell ⟨g, i, none⟩ (.int .u8 z)) := by
  refine ⟨fun g' o v e hv => ?_, fun g' o y e => ?_, fun g' o hg => by simp, by simp [World.setCell]⟩
  · by_cases hp : (⟨g, i, none⟩ : Addr) = ⟨g', o, none⟩
    · rw [← hp, h] at e
      injection e with e
      exact absurd e.symm (hv z0)
    · rw [World.cell?_setCell_other (h := hp)]; exact e
  · by_cases hp : (⟨g, i, none⟩ : Addr) = ⟨g', o, none⟩
    · rw [← hp]
      exact ⟨z, World.cell?_setCell_same _ _ _ h⟩
    · rw [World.cell?_setCell_other (h := hp)]; exact ⟨y, e⟩

theorem Rd.spo {w w' : World} {A : Option Addr} {cs : List Value} (h : Rd w A cs) (hs : Spo w w') (hn : ∀ u ∈ cs, ∀ z : Int, u ≠ .int .u8 z) : Rd w' A cs := fun hne => by
  obtain ⟨g, off, rfl, hg, hc⟩ := h hne
  exact ⟨g, off, rfl, Nat.lt_of_lt_of_le hg hs.size, fun j u hu => hs.far _ _ _ (hc j u hu) (hn u (List.mem_of_getElem? hu))⟩
mutual
theorem ShT.spo {w w' : World} {P : Nat → Prop} (hs : Spo w w') : ∀ {t : Tree} {v0 v1 v2 : Value}, ShT w P t v0 v1 v2 → ShT w' P t v0 v1 v2
  | .mk l b its, v0, v1, v2, h => by
    simp only [ShT] at h ⊢
    obtain ⟨h0, ⟨A, n, c, e1, e2, e3, e4, e9, h1⟩, B, m, d, cs, e5, e6, e7, e8, h2, h3⟩ := h
    refine ⟨h0, ⟨A, n, c, e1, e2, e3, e4, e9, fun hn => ?_⟩, B, m, d, cs, e5, e6, e7, e8, h2.spo hs (ShL.no8 h3), ShL.spo hs h3⟩
    obtain ⟨g, off, ea, hg, hp, hf, hc⟩ := h1 hn
    exact ⟨g, off, ea, Nat.lt_of_lt_of_le hg hs.size, hp, fun j => (hs.ice g j hg).trans (hf j), fun j hj => by obtain ⟨z, hz⟩ := hc j hj; exact hs.byte _ _ z hz⟩
theorem ShL.spo {w w' : World} {P : Nat → Prop} (hs : Spo w w') : ∀ {ts : List Tree} {cs : List Value}, ShL w P ts cs → ShL w' P ts cs
  | [], cs, h => by simpa only [ShL] using h
  | t :: ts, cs, h => by
    simp only [ShL] at h ⊢
    obtain ⟨v0, v1, v2, rest, e, h1, h2⟩ := h
    exact ⟨v0, v1, v2, rest, e, ShT.spo hs h1, ShL.spo hs h2⟩
end
mutual
/-- What was read into new memory may be spoiled. -/
theorem RdT.sh {w : World} {P : Nat → Prop} (h0 : ¬ P 0) : ∀ {t : Tree} {v0 v1 v2 : Value}, RdT w P t v0 v1 v2 → ShT w P t v0 v1 v2
  | .mk l b its, v0, v1, v2, h => by
    simp only [RdT] at h
    simp only [ShT]
    obtain ⟨h0', ⟨A, n, c, e1, e2, e3, e4, e9, h1⟩, B, m, d, cs, e5, e6, e7, e8, h2, h3⟩ := h
    refine ⟨h0', ⟨A, n, c, e1, e2, e3, e4, e9, fun hn => ?_⟩, B, m, d, cs, e5, e6, e7, e8, h2.rd, RdL.sh h0 h3⟩
    obtain ⟨g, off, ea, hg, hp, hc⟩ := h1 (by intro e; have := congrArg List.length e; simp at this; rw [this] at e2; simp at e2; omega)
    exact ⟨g, off, ea, hg, hp.1, hp.2 h0, fun j hj => ⟨_, hc j _ (bs_at b j (by omega))⟩⟩
theorem RdL.sh {w : World} {P : Nat → Prop} (h0 : ¬ P 0) : ∀ {ts : List Tree} {cs : List Value}, RdL w P ts cs → ShL w P ts cs
  | [], cs, h => by simpa only [RdL, ShL] using h
  | t :: ts, cs, h => by
    simp only [RdL] at h
    simp only [ShL]
    obtain ⟨v0, v1, v2, rest, e, h1, h2⟩ := h
    exact ⟨v0, v1, v2, rest, e, RdT.sh h0 h1, RdL.sh h0 h2⟩
end

def SpoilSt (t : Tree) : Prop := ∀ (P : Nat → Prop) (v0 v1 v2 : Value) (w : World), ShT w P t v0 v1 v2 →
    Calls Try.prog 21 #[.agg #[v0, v1, v2]] w fun r w' => r = .returned (.tuple #[]) ∧ Kp P w w' ∧ Spo w w'

set_option maxHeartbeats 2000000 in
set_option maxRecDepth 100000 in
theorem spoil_step (l : Bool) (b : List UInt8) (its : List Tree) (ih : ∀ i (h : i < its.length), SpoilSt its[i]) : SpoilSt (.mk l b its) := by
  intro P v0 v1 v2 w ht
  have IH := Go.Lib.hid ih
  obtain ⟨A, c, B, d, cs, rfl, rfl, rfl, hbc, hcm, hb47, hid', hd, hA, hB, hL⟩ := ht.parts
  have HA := Go.Lib.hid hA
  have HB := Go.Lib.hid hB
  have HL := Go.Lib.hid hL
  clear ht ih hA hB hL
  go_enter Try.func21, Try.ntmps21
  go_wp2_with fail
  go_loopg [8, 2] b.length (fun g i s2 wr => ∃ j : Nat, i = .int .i64 j ∧ j ≤ b.length ∧ g = b.length - j ∧ Hid (Kp P w wr) ∧ Hid (Spo w wr) ∧ Hid (wr.heap[w.heap.size]? = some (.cells #[.bool l, .slice A b.length c, .slice B its.length d] 25 (0, 0))))
  case atStart => exact ⟨0, rfl, Nat.zero_le _, rfl, Go.Lib.hid (Kp.alloc _ _ _), Go.Lib.hid (Spo.of_below (bal (Below.refl _ _) _)), Go.Lib.hid (Go.heap_alloc_new _ _)⟩
  case round =>
    obtain ⟨j, rfl, hj, rfl, HK, HS, HX⟩ := hrel
    obtain ⟨x0, x1, x2, xf⟩ := cells3 HX.out
    have hs : w.heap.size < wr.heap.size := (Array.getElem?_eq_some_iff.1 HX.out).1
    by_cases hlt : j < b.length
    · obtain ⟨g, off, rfl, hg, hP, hf, hc⟩ := HA.out (by omega)
      obtain ⟨z0, hz0⟩ := hc j hlt
      obtain ⟨z, hcz⟩ := HS.out.byte _ _ _ hz0
      have hfz : ∀ i, wr.frozen? ⟨g, i, none⟩ = false := fun i => (HS.out.ice g i hg).trans (hf i)
      have HP := Go.Lib.hid hP
      have HC := Go.Lib.hid hcz
      have HNE : Hid (w.heap.size ≠ g) := Go.Lib.hid (by omega)
      clear hc hz0 hf hP
      go_wp2_with fail
      go_roundg (b.length - (j + 1))
      case measure => omega
      case rel =>
        exact ⟨j + 1, by go_num, by omega, rfl, Go.Lib.hid (HK.out.trans (Kp.setCell (p := ⟨g, off + j, none⟩) wr HP.out _)), Go.Lib.hid (HS.out.trans (Spo.set HC.out _)), Go.Lib.hid ((Below.heap_setCell wr ⟨g, off + j, none⟩ _ _ HNE.out).trans HX.out)⟩
    · obtain rfl : j = b.length := by omega
      clear hlt
      obtain ⟨w2, rfl⟩ : ∃ w' : World, w' = wr := ⟨_, rfl⟩
      go_wp2_with fail
      go_loopg [22] its.length (fun g i wr => ∃ j : Nat, i = .int .i64 j ∧ j ≤ its.length ∧ g = its.length - j ∧ Hid (Kp P w wr) ∧ Hid (Spo w wr))
      case atStart => exact ⟨0, rfl, Nat.zero_le _, rfl, HK, HS⟩
      case round =>
        obtain ⟨j, rfl, hj, rfl, HK2, HS2⟩ := hrel
        by_cases hlt : j < its.length
        · obtain ⟨p0, p1, p2, f0, f1, f2, hp⟩ := HL.out.at_ j hlt
          obtain ⟨g, off, rfl, hg, hc⟩ := (HB.out.spo HS2.out (ShL.no8 HL.out)) (by intro h; rw [h] at f0; cases f0)
          obtain ⟨a1, a2, a3, a4, a5, a6, rfl, rfl, rfl⟩ := hp.shape
          have c0 : wr.cell? ⟨g, off + j * 3, none⟩ = some (.bool its[j].l) := by rw [show j * 3 = 3 * j from by omega]; exact hc _ _ f0
          have c1 : wr.cell? ⟨g, off + j * 3 + 1, none⟩ = some (.slice a1 a2 a3) := by rw [show off + j * 3 + 1 = off + (3 * j + 1) from by omega]; exact hc _ _ f1
          have c2 : wr.cell? ⟨g, off + j * 3 + 2, none⟩ = some (.slice a4 a5 a6) := by rw [show off + j * 3 + 2 = off + (3 * j + 2) from by omega]; exact hc _ _ f2
          have HP := Go.Lib.hid (hp.spo HS2.out)
          clear hc hp f0 f1 f2
          go_wp2_with fail
          refine (IH.out j hlt P _ _ _ _ (HP.out.spo (Spo.of_below (bal (Below.refl _ _) _)))).mono ?_
          rintro r w5 ⟨rfl, hk5, hs5⟩
          have HK5 := Go.Lib.hid hk5
          have HS5 := Go.Lib.hid hs5
          clear hk5 hs5
          go_wp2_with fail
          go_roundg (its.length - (j + 1))
          case measure => omega
          case rel => exact ⟨j + 1, by go_num, by omega, rfl, Go.Lib.hid ((HK2.out.trans (Kp.alloc _ _ _)).trans HK5.out), Go.Lib.hid ((HS2.out.trans (Spo.of_below (bal (Below.refl _ _) _))).trans HS5.out)⟩
        · go_wp2_with fail
          go_end0
          exact ⟨rfl, HK2.out, HS2.out⟩

theorem spoil_lt : ∀ (k : Nat) (t : Tree), SizeOf.sizeOf t < k → SpoilSt t
  | 0, t, h => by omega
  | k + 1, .mk l b its, h => spoil_step l b its fun i hi => spoil_lt k its[i] (by have := its_size (l := l) (b := b) hi; omega)
theorem law_spoil (t : Tree) : SpoilSt t := spoil_lt _ t (Nat.lt_succ_self _)

end Go.Proofs.Ytfolidaonnblbaa
