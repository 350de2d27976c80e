/- Items in memory. -/
import Derived.Test.YtfolidaonnblbaaNsPure
import Derived.Test.YtfolidaonnblbaaMem2
namespace Go.Proofs.Ytfolidaonnblbaa
open Go Go.RowKit
set_option linter.unusedVariables false

/-- A slice that reads as a list of cells, its block in P. Where P does not hold of block 0 (so it speaks of blocks from some block on), the block is not frozen. -/
def RdP (w : World) (P : Nat → Prop) (A : Option Addr) (cs : List Value) : Prop :=
  cs ≠ [] → ∃ g off, A = some ⟨g, off, none⟩ ∧ g < w.heap.size ∧ (P g ∧ (¬ P 0 → ∀ j, w.frozen? ⟨g, j, none⟩ = false)) ∧ ∀ j u, cs[j]? = some u → w.cell? ⟨g, off + j, none⟩ = some u
theorem RdP.nil (w : World) (P : Nat → Prop) (A : Option Addr) : RdP w P A [] := fun h => absurd rfl h
theorem RdP.rd {w : World} {P : Nat → Prop} {A : Option Addr} {cs : List Value} (h : RdP w P A cs) : Rd w A cs := fun hne => by
  obtain ⟨g, off, e, hg, _, hc⟩ := h hne
  exact ⟨g, off, e, hg, hc⟩
theorem RdP.of_rdU {w : World} {P : Nat → Prop} {A : Option Addr} {cs : List Value} (h : Rd w A cs) (hp : ∀ g, A.map (·.block) = some g → g < w.heap.size → P g) (hu : ∀ g, A.map (·.block) = some g → ∀ j, w.frozen? ⟨g, j, none⟩ = false) : RdP w P A cs := fun hne => by
  obtain ⟨g, off, rfl, hg, hc⟩ := h hne
  exact ⟨g, off, rfl, hg, ⟨hp g rfl hg, fun _ => hu g rfl⟩, hc⟩
theorem RdP.of_rd {w : World} {P : Nat → Prop} {A : Option Addr} {cs : List Value} (h : Rd w A cs) (hp : ∀ g, A.map (·.block) = some g → g < w.heap.size → P g) (h0 : P 0 := by exact trivial) : RdP w P A cs := fun hne => by
  obtain ⟨g, off, rfl, hg, hc⟩ := h hne
  exact ⟨g, off, rfl, hg, ⟨hp g rfl hg, fun h => absurd h0 h⟩, hc⟩
theorem frozen_of_block {w w' : World} {g : Nat} (h : w'.heap[g]? = w.heap[g]?) (j : Nat) : w'.frozen? ⟨g, j, none⟩ = w.frozen? ⟨g, j, none⟩ := by
  simp only [World.frozen?, h]
theorem frozen_new (w : World) (cs : Array Value) (t : TypeId) (j : Nat) : (w.alloc (.cells cs t)).frozen? ⟨w.heap.size, j, none⟩ = false := by
  have h : (w.alloc (.cells cs t)).heap[w.heap.size]? = some (.cells cs t (0, 0)) := Go.heap_alloc_new w _
  simp only [World.frozen?, h]
  simp
theorem RdP.keep {w w' : World} {P : Nat → Prop} {A : Option Addr} {cs : List Value} (h : RdP w P A cs) (hsz : w.heap.size ≤ w'.heap.size) (hk : ∀ g, P g → g < w.heap.size → w'.heap[g]? = w.heap[g]?) : RdP w' P A cs := fun hne => by
  obtain ⟨g, off, rfl, hg, hp, hc⟩ := h hne
  exact ⟨g, off, rfl, by omega, ⟨hp.1, fun h j => (frozen_of_block (hk g hp.1 hg) j).trans (hp.2 h j)⟩, fun j u hu => (World.cell?_of_block (w := w) (a := ⟨g, off + j, none⟩) (hk g hp.1 hg)).trans (hc j u hu)⟩
theorem RdP.mono {w : World} {P Q : Nat → Prop} {A : Option Addr} {cs : List Value} (hpq : ∀ g, g < w.heap.size → P g → Q g) (h : RdP w P A cs) : RdP w Q A cs := fun hne => by
  obtain ⟨g, off, rfl, hg, hp, hc⟩ := h hne
  exact ⟨g, off, rfl, hg, ⟨hpq g hg hp.1, fun h => hp.2 fun h' => h (hpq 0 (by omega) h')⟩, hc⟩
theorem Own.rdp {w : World} {base : Nat} {E : TypeId} {size : Nat} {A : Option Addr} {n c : Nat} {cs : List Value} (h : Own w base E size A n c cs) (P : Nat → Prop) (hp : ∀ g, A.map (·.block) = some g → base ≤ g → g < w.heap.size → P g) : RdP w P A cs :=
  RdP.of_rdU h.rd (fun g e hg => hp g e (h.block_lt g e).1 hg) fun g e j => by
    rcases h.2.2.2 with ⟨rfl, _⟩ | ⟨g', off, cur, rfl, _, hh, _⟩
    · simp at e
    · simp at e
      subst e
      simp [World.frozen?, hh]

mutual
/-- Three cells, an item's, read as t; all of it lies in blocks of P. -/
def RdT (w : World) (P : Nat → Prop) : Tree → Value → Value → Value → Prop
  | .mk l b its, v0, v1, v2 =>
    v0 = .bool l ∧ (∃ A n c, v1 = .slice A n c ∧ n = b.length ∧ n ≤ c ∧ c ≤ 9223372036854775807 ∧ n ≤ 175921860444160 ∧ RdP w P A (bs b)) ∧
    ∃ B m d cs, v2 = .slice B m d ∧ m = its.length ∧ m ≤ d ∧ d ≤ 9223372036854775807 ∧ RdP w P B cs ∧ RdL w P its cs
/-- Items in a row. -/
def RdL (w : World) (P : Nat → Prop) : List Tree → List Value → Prop
  | [], cs => cs = []
  | t :: ts, cs => ∃ v0 v1 v2 rest, cs = v0 :: v1 :: v2 :: rest ∧ RdT w P t v0 v1 v2 ∧ RdL w P ts rest
end

section
variable {w w' : World} {P Q : Nat → Prop}

mutual
theorem RdT.keep (hsz : w.heap.size ≤ w'.heap.size) (hk : ∀ g, P g → g < w.heap.size → w'.heap[g]? = w.heap[g]?) : ∀ {t : Tree} {v0 v1 v2 : Value}, RdT w P t v0 v1 v2 → RdT w' P t v0 v1 v2
  | .mk l b its, v0, v1, v2, h => by
    simp only [RdT] at h ⊢
    obtain ⟨h0, ⟨A, n, c, e1, e2, e3, e4, e9, h1⟩, B, m, d, cs, e5, e6, e7, e8, h2, h3⟩ := h
    exact ⟨h0, ⟨A, n, c, e1, e2, e3, e4, e9, h1.keep hsz hk⟩, B, m, d, cs, e5, e6, e7, e8, h2.keep hsz hk, RdL.keep hsz hk h3⟩
theorem RdL.keep (hsz : w.heap.size ≤ w'.heap.size) (hk : ∀ g, P g → g < w.heap.size → w'.heap[g]? = w.heap[g]?) : ∀ {ts : List Tree} {cs : List Value}, RdL w P ts cs → RdL w' P ts cs
  | [], cs, h => by simpa only [RdL] using h
  | t :: ts, cs, h => by
    simp only [RdL] at h ⊢
    obtain ⟨v0, v1, v2, rest, e, h1, h2⟩ := h
    exact ⟨v0, v1, v2, rest, e, RdT.keep hsz hk h1, RdL.keep hsz hk h2⟩
end
theorem RdT.below {t : Tree} {v0 v1 v2 : Value} (h : RdT w P t v0 v1 v2) (hb : Below w.heap.size w w') : RdT w' P t v0 v1 v2 := h.keep hb.size fun g _ hg => hb.block g hg
theorem RdL.below {ts : List Tree} {cs : List Value} (h : RdL w P ts cs) (hb : Below w.heap.size w w') : RdL w' P ts cs := h.keep hb.size fun g _ hg => hb.block g hg
theorem RdT.kp {S : Nat → Prop} {t : Tree} {v0 v1 v2 : Value} (h : RdT w P t v0 v1 v2) (hb : Kp S w w') (hs : ∀ g, P g → ¬ S g) : RdT w' P t v0 v1 v2 :=
  h.keep hb.size fun g hp hg => hb.block g hg (hs g hp)
theorem RdL.kp {S : Nat → Prop} {ts : List Tree} {cs : List Value} (h : RdL w P ts cs) (hb : Kp S w w') (hs : ∀ g, P g → ¬ S g) : RdL w' P ts cs :=
  h.keep hb.size fun g hp hg => hb.block g hg (hs g hp)

mutual
theorem RdT.mono (hpq : ∀ g, g < w.heap.size → P g → Q g) : ∀ {t : Tree} {v0 v1 v2 : Value}, RdT w P t v0 v1 v2 → RdT w Q t v0 v1 v2
  | .mk l b its, v0, v1, v2, h => by
    simp only [RdT] at h ⊢
    obtain ⟨h0, ⟨A, n, c, e1, e2, e3, e4, e9, h1⟩, B, m, d, cs, e5, e6, e7, e8, h2, h3⟩ := h
    exact ⟨h0, ⟨A, n, c, e1, e2, e3, e4, e9, h1.mono hpq⟩, B, m, d, cs, e5, e6, e7, e8, h2.mono hpq, RdL.mono hpq h3⟩
theorem RdL.mono (hpq : ∀ g, g < w.heap.size → P g → Q g) : ∀ {ts : List Tree} {cs : List Value}, RdL w P ts cs → RdL w Q ts cs
  | [], cs, h => by simpa only [RdL] using h
  | t :: ts, cs, h => by
    simp only [RdL] at h ⊢
    obtain ⟨v0, v1, v2, rest, e, h1, h2⟩ := h
    exact ⟨v0, v1, v2, rest, e, RdT.mono hpq h1, RdL.mono hpq h2⟩
end

theorem RdL.len : ∀ {ts : List Tree} {cs : List Value}, RdL w P ts cs → cs.length = ts.length * 3
  | [], cs, h => by simp only [RdL] at h; simp [h]
  | t :: ts, cs, h => by
    simp only [RdL] at h
    obtain ⟨v0, v1, v2, rest, rfl, _, h2⟩ := h
    have := RdL.len h2
    simp only [List.length_cons]
    omega
theorem RdL.snoc : ∀ {ts : List Tree} {cs : List Value} {t : Tree} {v0 v1 v2 : Value}, RdL w P ts cs → RdT w P t v0 v1 v2 → RdL w P (ts ++ [t]) (cs ++ [v0, v1, v2])
  | [], cs, t, v0, v1, v2, h, ht => by
    simp only [RdL] at h
    subst h
    simp only [List.nil_append, RdL]
    exact ⟨v0, v1, v2, [], rfl, ht, rfl⟩
  | u :: ts, cs, t, v0, v1, v2, h, ht => by
    simp only [RdL, List.cons_append] at h ⊢
    obtain ⟨a, b, c, rest, rfl, h1, h2⟩ := h
    exact ⟨a, b, c, rest ++ [v0, v1, v2], rfl, h1, RdL.snoc h2 ht⟩
theorem RdL.at_ : ∀ {ts : List Tree} {cs : List Value} (_ : RdL w P ts cs) (i : Nat) (hi : i < ts.length), ∃ v0 v1 v2, cs[3 * i]? = some v0 ∧ cs[3 * i + 1]? = some v1 ∧ cs[3 * i + 2]? = some v2 ∧ RdT w P ts[i] v0 v1 v2
  | [], cs, h, i, hi => by simp at hi
  | t :: ts, cs, h, 0, hi => by
    simp only [RdL] at h
    obtain ⟨v0, v1, v2, rest, rfl, h1, h2⟩ := h
    exact ⟨v0, v1, v2, rfl, rfl, rfl, h1⟩
  | t :: ts, cs, h, i + 1, hi => by
    simp only [RdL] at h
    obtain ⟨v0, v1, v2, rest, rfl, h1, h2⟩ := h
    obtain ⟨u0, u1, u2, e0, e1, e2, h3⟩ := RdL.at_ h2 i (by simpa using hi)
    refine ⟨u0, u1, u2, ?_, ?_, ?_, h3⟩
    · rw [show 3 * (i + 1) = 3 * i + 3 from by omega]; simpa using e0
    · rw [show 3 * (i + 1) + 1 = 3 * i + 1 + 3 from by omega]; simpa using e1
    · rw [show 3 * (i + 1) + 2 = 3 * i + 2 + 3 from by omega]; simpa using e2
/-- The shape of an item's cells. -/
theorem RdT.shape {t : Tree} {v0 v1 v2 : Value} (h : RdT w P t v0 v1 v2) : ∃ A n c B m d, v0 = .bool t.l ∧ v1 = .slice A n c ∧ v2 = .slice B m d := by
  cases t with
  | mk l b its =>
    simp only [RdT] at h
    obtain ⟨h0, ⟨A, n, c, e1, _⟩, B, m, d, cs, e5, _⟩ := h
    exact ⟨A, n, c, B, m, d, h0, e1, e5⟩
theorem RdL.one : ∀ {ts : List Tree} {cs : List Value}, RdL w P ts cs → ∀ u ∈ cs, u.oneCell' = true
  | [], cs, h => by simp only [RdL] at h; simp [h]
  | t :: ts, cs, h => by
    simp only [RdL] at h
    obtain ⟨v0, v1, v2, rest, rfl, h1, h2⟩ := h
    obtain ⟨A, n, c, B, m, d, rfl, rfl, rfl⟩ := h1.shape
    intro u hu
    simp only [List.mem_cons] at hu
    rcases hu with rfl | rfl | rfl | hu
    · rfl
    · rfl
    · rfl
    · exact RdL.one h2 u hu
theorem RdT.zero (w : World) (P : Nat → Prop) : RdT w P Tree.zero (.bool false) (.slice none 0 0) (.slice none 0 0) := by
  simp only [Tree.zero, RdT]
  exact ⟨trivial, ⟨none, 0, 0, rfl, rfl, by omega, by omega, by omega, RdP.nil _ _ _⟩, none, 0, 0, [], rfl, rfl, by omega, by omega, RdP.nil _ _ _, by simp only [RdL]⟩
/-- A text's. -/
theorem RdT.text {A : Option Addr} {n c : Nat} {b : List UInt8} (hn : n = b.length) (hc : n ≤ c) (hm : c ≤ 9223372036854775807) (h47 : n ≤ 175921860444160) (hr : RdP w P A (bs b)) : RdT w P (.mk false b []) (.bool false) (.slice A n c) (.slice none 0 0) := by
  simp only [RdT]
  exact ⟨trivial, ⟨A, n, c, rfl, hn, hc, hm, h47, hr⟩, none, 0, 0, [], rfl, rfl, by omega, by omega, RdP.nil _ _ _, by simp only [RdL]⟩
/-- A list's. -/
theorem RdT.list {B : Option Addr} {m d : Nat} {its : List Tree} {cs : List Value} (hn : m = its.length) (hc : m ≤ d) (hm : d ≤ 9223372036854775807) (hr : RdP w P B cs) (h : RdL w P its cs) : RdT w P (.mk true [] its) (.bool true) (.slice none 0 0) (.slice B m d) := by
  simp only [RdT]
  exact ⟨trivial, ⟨none, 0, 0, rfl, rfl, by omega, by omega, by omega, RdP.nil _ _ _⟩, B, m, d, cs, rfl, hn, hc, hm, hr, h⟩
/-- What an item's cells are good for. -/
theorem RdT.parts {l : Bool} {b : List UInt8} {its : List Tree} {v0 v1 v2 : Value} (h : RdT w P (.mk l b its) v0 v1 v2) :
    ∃ A c B d cs, v0 = .bool l ∧ v1 = .slice A b.length c ∧ v2 = .slice B its.length d ∧ b.length ≤ c ∧ b.length ≤ 175921860444160 ∧ its.length ≤ d ∧ d ≤ 9223372036854775807 ∧ RdP w P A (bs b) ∧ RdP w P B cs ∧ RdL w P its cs := by
  simp only [RdT] at h
  obtain ⟨h0, ⟨A, n, c, e1, rfl, e3, e4, e9, h1⟩, B, m, d, cs, e5, rfl, e7, e8, h2, h3⟩ := h
  exact ⟨A, c, B, d, cs, h0, e1, e5, e3, e9, e7, e8, h1, h2, h3⟩
end
end Go.Proofs.Ytfolidaonnblbaa
