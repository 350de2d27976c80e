/- Words for memory that all walks use: what lies below a call's first block is kept; a slice that reads as a list; a slice that the call owns; append onto it. No program in sight. -/
import Derived.Deep.DeepAppendWide
import Derived.WalkKit
import Derived.Lib.Hide
import Derived.Deep.Draws
import Derived.WalkSmall
import Derived.Maps.AppendAt
import Derived.Deep.AppendLies
namespace Go.Proofs.Ytfolidaonnblbaa
open Go Go.RowKit
set_option linter.unusedVariables false

@[simp, go_sem] theorem setCell_drewN (w : World) (n : Nat) (a : Addr) (v : Value) : (w.drewN n).setCell a v = (w.setCell a v).drewN n := rfl
@[simp, go_sem] theorem alloc_drewN (w : World) (n : Nat) (o : Obj) : (w.drewN n).alloc o = (w.alloc o).drewN n := rfl

theorem bal {a w : World} (h : Below a.heap.size a w) (o : Obj) : Below a.heap.size a (w.alloc o) := h.alloc h.size o
theorem bdr {a w : World} (h : Below a.heap.size a w) : Below a.heap.size a w.drew := h.drew
theorem bdn {a w : World} (h : Below a.heap.size a w) (n : Nat) : Below a.heap.size a (w.drewN n) := below_drewN h n
theorem bst {a w : World} (h : Below a.heap.size a w) {p : Addr} (hp : a.heap.size ≤ p.block) (u : Value) : Below a.heap.size a (w.setCell p u) := h.setCell hp u
theorem btr {a b c : World} (h : Below a.heap.size a b) (k : Below b.heap.size b c) : Below a.heap.size a c := h.trans (k.mono h.size)

theorem cells_below {w w' : World} {g off N : Nat} {V : Nat → Value} (hg : g < w.heap.size) (hb : Below w.heap.size w w') (h : ∀ i, i < N → w.cell? ⟨g, off + i, none⟩ = some (V i)) (k M : Nat) (hk : k + M ≤ N) :
    ∀ i, i < M → w'.cell? ⟨g, off + k + i, none⟩ = some (V (k + i)) := by
  intro i hi
  rw [hb.cell (p := ⟨g, off + k + i, none⟩) hg, Nat.add_assoc]
  exact h (k + i) (by omega)

/-! ### Kept but for some blocks -/
/-- w' is w but for the blocks of S and new ones. -/
structure Kp (S : Nat → Prop) (w w' : World) : Prop where
  os : w'.os = w.os
  tape : w'.tape = w.tape
  output : w'.output = w.output
  size : w.heap.size ≤ w'.heap.size
  block : ∀ k, k < w.heap.size → ¬ S k → w'.heap[k]? = w.heap[k]?

theorem Kp.refl (S : Nat → Prop) (w : World) : Kp S w w := ⟨rfl, rfl, rfl, Nat.le_refl _, fun _ _ _ => rfl⟩
theorem Kp.trans {S : Nat → Prop} {a b c : World} (h : Kp S a b) (k : Kp S b c) : Kp S a c :=
  ⟨k.os.trans h.os, k.tape.trans h.tape, k.output.trans h.output, Nat.le_trans h.size k.size, fun i hi hs => (k.block i (Nat.lt_of_lt_of_le hi h.size) hs).trans (h.block i hi hs)⟩
theorem Kp.mono {S T : Nat → Prop} {w w' : World} (h : Kp S w w') (hs : ∀ k, k < w.heap.size → S k → T k) : Kp T w w' :=
  ⟨h.os, h.tape, h.output, h.size, fun k hk ht => h.block k hk fun s => ht (hs k hk s)⟩
/-- Two steps; what the second may write is new, or the first may write it too. -/
theorem Kp.then {S T : Nat → Prop} {a b c : World} (h : Kp S a b) (k : Kp T b c) (ht : ∀ i, i < a.heap.size → T i → S i) : Kp S a c :=
  ⟨k.os.trans h.os, k.tape.trans h.tape, k.output.trans h.output, Nat.le_trans h.size k.size, fun i hi hs => (k.block i (Nat.lt_of_lt_of_le hi h.size) fun t => hs (ht i hi t)).trans (h.block i hi hs)⟩
theorem Kp.of_below {w w' : World} (h : Below w.heap.size w w') (S : Nat → Prop) : Kp S w w' := ⟨h.os, h.tape, h.output, h.size, fun k hk _ => h.block k hk⟩
theorem Kp.of_grown {w w' : World} {row : Option Nat} (h : w.grownBy w' row) : Kp (fun k => some k = row) w w' := ⟨h.os, h.tape, h.output, h.size, fun k hk hs => h.block k hk hs⟩
theorem Kp.below {S : Nat → Prop} {a b w' : World} (h : Below a.heap.size a b) (k : Kp S b w') (hs : ∀ i, S i → a.heap.size ≤ i) : Below a.heap.size a w' :=
  ⟨k.os.trans h.os, k.tape.trans h.tape, k.output.trans h.output, Nat.le_trans h.size k.size, fun i hi => (k.block i (Nat.lt_of_lt_of_le hi h.size) fun s => by have := hs i s; omega).trans (h.block i hi)⟩
theorem Kp.cell {S : Nat → Prop} {w w' : World} (h : Kp S w w') {p : Addr} (hp : p.block < w.heap.size) (hs : ¬ S p.block) : w'.cell? p = w.cell? p := World.cell?_of_block (h.block p.block hp hs)
theorem Kp.alloc (S : Nat → Prop) (w : World) (o : Obj) : Kp S w (w.alloc o) := ⟨rfl, rfl, rfl, by simp, fun k hk _ => Below.heap_alloc w o k hk⟩
theorem Kp.drew (S : Nat → Prop) (w : World) : Kp S w w.drew := ⟨rfl, rfl, rfl, Nat.le_refl _, fun _ _ _ => rfl⟩
theorem Kp.drewN (S : Nat → Prop) (w : World) (n : Nat) : Kp S w (w.drewN n) := ⟨rfl, rfl, rfl, Nat.le_refl _, fun _ _ _ => rfl⟩
theorem Kp.setCell {S : Nat → Prop} (w : World) {p : Addr} (hp : S p.block) (u : Value) : Kp S w (w.setCell p u) :=
  ⟨rfl, rfl, rfl, by simp [World.setCell], fun k hk hs => Below.heap_setCell w p u k fun e => hs (e ▸ hp)⟩

/-! ### A slice that reads as a list of cells -/
/-- The cells that a slice's address shows: nil lets in the empty list alone. -/
def Rd (w : World) (A : Option Addr) (cs : List Value) : Prop :=
  cs ≠ [] → ∃ g off, A = some ⟨g, off, none⟩ ∧ g < w.heap.size ∧ ∀ j u, cs[j]? = some u → w.cell? ⟨g, off + j, none⟩ = some u

theorem Rd.nil (w : World) (A : Option Addr) : Rd w A [] := fun h => absurd rfl h
theorem Rd.keep {w w' : World} {A : Option Addr} {cs : List Value} (h : Rd w A cs) (hsz : w.heap.size ≤ w'.heap.size) (hk : ∀ g, A.map (·.block) = some g → g < w.heap.size → w'.heap[g]? = w.heap[g]?) : Rd w' A cs := fun hne => by
  obtain ⟨g, off, rfl, hg, hc⟩ := h hne
  exact ⟨g, off, rfl, by omega, fun j u hu => (World.cell?_of_block (w := w) (a := ⟨g, off + j, none⟩) (hk g rfl hg)).trans (hc j u hu)⟩
theorem Rd.below {w w' : World} {A : Option Addr} {cs : List Value} (h : Rd w A cs) (hb : Below w.heap.size w w') : Rd w' A cs := h.keep hb.size fun g _ hg => hb.block g hg
theorem Rd.kp {S : Nat → Prop} {w w' : World} {A : Option Addr} {cs : List Value} (h : Rd w A cs) (hb : Kp S w w') (hs : ∀ g, A.map (·.block) = some g → ¬ S g) : Rd w' A cs := h.keep hb.size fun g e hg => hb.block g hg (hs g e)
theorem Rd.drew {w : World} {A : Option Addr} {cs : List Value} (h : Rd w A cs) : Rd w.drew A cs := h
theorem Rd.drewN {w : World} {A : Option Addr} {cs : List Value} (h : Rd w A cs) (n : Nat) : Rd (w.drewN n) A cs := h
theorem Rd.alloc {w : World} {A : Option Addr} {cs : List Value} (h : Rd w A cs) (o : Obj) : Rd (w.alloc o) A cs := h.below (bal (Below.refl _ _) o)
theorem Rd.take {w : World} {A : Option Addr} {cs : List Value} (h : Rd w A cs) (k : Nat) : Rd w A (cs.take k) := fun hne => by
  obtain ⟨g, off, e, hg, hc⟩ := h (by rintro rfl; simp at hne)
  refine ⟨g, off, e, hg, fun j u hu => hc j u ?_⟩
  rw [List.getElem?_take] at hu
  split at hu
  · exact hu
  · cases hu
/-- What 's[k:]' shows; the address is spelled as the model has it. -/
theorem Rd.cut {w : World} {A : Option Addr} {cs : List Value} (h : Rd w A cs) (k c : Nat) (hk : cs.length ≤ c) :
    Rd w (if c = k then A else A.map (·.add k)) (cs.drop k) := fun hne => by
  have hlt : k < cs.length := by
    rcases Nat.lt_or_ge k cs.length with h | h
    · exact h
    · exact absurd (List.drop_eq_nil_of_le h) hne
  obtain ⟨g, off, rfl, hg, hc⟩ := h (by rintro rfl; simp at hlt)
  rw [if_neg (by omega)]
  refine ⟨g, off + k, by simp [Addr.add_lit], hg, fun j u hu => ?_⟩
  rw [Nat.add_assoc]
  exact hc (k + j) u (by rw [← hu, List.getElem?_drop])
/-- At an address that is written out. -/
theorem Rd.at_ {w : World} {A : Option Addr} {cs : List Value} (h : Rd w A cs) (hl : 0 < cs.length) : ∃ g off, A = some ⟨g, off, none⟩ ∧ g < w.heap.size ∧ ∀ j u, cs[j]? = some u → w.cell? ⟨g, off + j, none⟩ = some u :=
  h (by rintro rfl; simp at hl)

/-! ### Bytes -/
def bv (u : UInt8) : Value := .int .u8 (u.toNat : Int)
def bs (xs : List UInt8) : List Value := xs.map bv
@[simp] theorem bs_length (xs : List UInt8) : (bs xs).length = xs.length := by simp [bs]
theorem bs_append (xs ys : List UInt8) : bs (xs ++ ys) = bs xs ++ bs ys := by simp [bs]
theorem bs_drop (xs : List UInt8) (k : Nat) : bs (xs.drop k) = (bs xs).drop k := by simp [bs, List.map_drop]
theorem bs_take (xs : List UInt8) (k : Nat) : bs (xs.take k) = (bs xs).take k := by simp [bs, List.map_take]
theorem bs_one (xs : List UInt8) : ∀ u ∈ bs xs, u.oneCell' = true := by
  intro u hu
  obtain ⟨x, _, rfl⟩ := List.mem_map.1 hu
  rfl
/-- The byte at a place, as the walk writes it. -/
def byteF (xs : List UInt8) (i : Nat) : Int := ((xs.getD i 0).toNat : Int)
theorem byteF_bd (xs : List UInt8) (i : Nat) : 0 ≤ byteF xs i ∧ byteF xs i ≤ 255 := by
  unfold byteF
  have := (xs.getD i 0).toNat_lt
  omega
theorem bs_at (xs : List UInt8) (i : Nat) (hi : i < xs.length) : (bs xs)[i]? = some (.int .u8 (byteF xs i)) := by
  simp [bs, bv, byteF, List.getD, hi]
theorem byteF_append_left (xs ys : List UInt8) (i : Nat) (hi : i < xs.length) : byteF (xs ++ ys) i = byteF xs i := by
  simp [byteF, List.getD, List.getElem?_append_left hi]
theorem byteF_append_right (xs ys : List UInt8) (i : Nat) : byteF (xs ++ ys) (xs.length + i) = byteF ys i := by
  simp [byteF, List.getD, List.getElem?_append_right]
theorem byteF_drop (xs : List UInt8) (k i : Nat) : byteF (xs.drop k) i = byteF xs (k + i) := by
  simp [byteF, List.getD, List.getElem?_drop]

/-! ### A slice that the call owns -/
/-- The slice '.slice A n c' with elements of type E (of 'size' cells) owns the cells cs: it is nil, or its block, from 'base' on, is one of E's, none of it frozen. -/
def Own (w : World) (base : Nat) (E : TypeId) (size : Nat) (A : Option Addr) (n c : Nat) (cs : List Value) : Prop :=
  cs.length = n * size ∧ n ≤ c ∧ c ≤ maxLen ∧
    ((A = none ∧ n = 0 ∧ c = 0) ∨ ∃ g off cur, A = some ⟨g, off, none⟩ ∧ base ≤ g ∧ w.heap[g]? = some (.cells cur E (0, 0)) ∧ off + c * size ≤ cur.size ∧ (cur.toList.drop off).take (n * size) = cs)

section
variable {w w' : World} {base : Nat} {E : TypeId} {size : Nat} {A : Option Addr} {n c : Nat} {cs : List Value}

theorem Own.nil (w : World) (base : Nat) (E : TypeId) (size : Nat) : Own w base E size none 0 0 [] := ⟨by simp, by omega, by simp [maxLen], .inl ⟨rfl, rfl, rfl⟩⟩
theorem Own.len (h : Own w base E size A n c cs) : cs.length = n * size := h.1
theorem Own.cap (h : Own w base E size A n c cs) : n ≤ c ∧ c ≤ 9223372036854775807 := ⟨h.2.1, by have := h.2.2.1; unfold maxLen at this; omega⟩
theorem Own.block_lt (h : Own w base E size A n c cs) : ∀ g, A.map (·.block) = some g → base ≤ g ∧ g < w.heap.size := by
  intro g hg
  rcases h.2.2.2 with ⟨rfl, _⟩ | ⟨g', off, cur, rfl, hb, hh, _⟩
  · simp at hg
  · simp at hg
    subst hg
    exact ⟨hb, (Array.getElem?_eq_some_iff.1 hh).1⟩
theorem Own.keep (h : Own w base E size A n c cs) (hk : ∀ g, A.map (·.block) = some g → w'.heap[g]? = w.heap[g]?) : Own w' base E size A n c cs := by
  refine ⟨h.1, h.2.1, h.2.2.1, ?_⟩
  rcases h.2.2.2 with hn | ⟨g, off, cur, rfl, hb, hh, r⟩
  · exact .inl hn
  · exact .inr ⟨g, off, cur, rfl, hb, by rw [hk g rfl]; exact hh, r⟩
theorem Own.kp {S : Nat → Prop} (h : Own w base E size A n c cs) (hb : Kp S w w') (hs : ∀ g, A.map (·.block) = some g → ¬ S g) : Own w' base E size A n c cs :=
  h.keep fun g e => hb.block g (h.block_lt g e).2 (hs g e)
theorem Own.below (h : Own w base E size A n c cs) (hb : Below w.heap.size w w') : Own w' base E size A n c cs := h.keep fun g e => hb.block g (h.block_lt g e).2
theorem Own.drew (h : Own w base E size A n c cs) : Own w.drew base E size A n c cs := h
theorem Own.drewN (h : Own w base E size A n c cs) (k : Nat) : Own (w.drewN k) base E size A n c cs := h
theorem Own.alloc (h : Own w base E size A n c cs) (o : Obj) : Own (w.alloc o) base E size A n c cs := h.below (bal (Below.refl _ _) o)
theorem Own.more {b : Nat} (h : Own w base E size A n c cs) (hb : ∀ g, A.map (·.block) = some g → b ≤ g) : Own w b E size A n c cs := by
  refine ⟨h.1, h.2.1, h.2.2.1, ?_⟩
  rcases h.2.2.2 with hn | ⟨g, off, cur, rfl, _, r⟩
  · exact .inl hn
  · exact .inr ⟨g, off, cur, rfl, hb g rfl, r⟩
theorem Own.setFar (h : Own w base E size A n c cs) {p : Addr} (hp : ∀ g, A.map (·.block) = some g → g ≠ p.block) (u : Value) : Own (w.setCell p u) base E size A n c cs :=
  h.keep fun g e => Below.heap_setCell w p u g (hp g e)
theorem Own.cells (h : Own w base E size A n c cs) {g off : Nat} (hA : A = some ⟨g, off, none⟩) : ∀ j u, cs[j]? = some u → w.cell? ⟨g, off + j, none⟩ = some u := by
  intro j u hu
  rcases h.2.2.2 with ⟨rfl, _⟩ | ⟨g', off', cur, e, _, hh, _, htake⟩
  · cases hA
  · rw [hA] at e
    injection e with e
    injection e with e1 e2
    subst e1 e2
    rw [cell_of_row w g _ cur E (0, 0) hh]
    rw [← htake, List.getElem?_take] at hu
    split at hu
    · simpa [List.getElem?_drop] using hu
    · cases hu
theorem Own.rd (h : Own w base E size A n c cs) : Rd w A cs := fun hne => by
  rcases h.2.2.2 with ⟨_, hn, _⟩ | ⟨g, off, cur, rfl, hb, hh, _⟩
  · exact absurd (List.eq_nil_of_length_eq_zero (by rw [h.1, hn]; simp)) hne
  · exact ⟨g, off, rfl, (Array.getElem?_eq_some_iff.1 hh).1, h.cells rfl⟩
theorem Own.shape (h : Own w base E size A n c cs) (hl : 0 < n) : ∃ g off, A = some ⟨g, off, none⟩ ∧ base ≤ g ∧ g < w.heap.size ∧ (∀ j u, cs[j]? = some u → w.cell? ⟨g, off + j, none⟩ = some u) ∧ (∀ j, w.frozen? ⟨g, j, none⟩ = false) := by
  rcases h.2.2.2 with ⟨_, hn, _⟩ | ⟨g, off, cur, rfl, hb, hh, _⟩
  · omega
  · refine ⟨g, off, rfl, hb, (Array.getElem?_eq_some_iff.1 hh).1, h.cells rfl, fun j => ?_⟩
    simp [World.frozen?, hh]
/-- 's[k:]'. -/
theorem Own.cut (h : Own w base E 1 A n c cs) (k : Nat) (hk : k ≤ n) : Own w base E 1 (if c = k then A else A.map (·.add k)) (n - k) (c - k) (cs.drop k) := by
  obtain ⟨h1, h2, h3, h4⟩ := h
  refine ⟨by rw [List.length_drop, h1]; omega, by omega, by omega, ?_⟩
  rcases h4 with ⟨rfl, rfl, rfl⟩ | ⟨g, off, cur, rfl, hb, hh, hs, ht⟩
  · left; simp
  · right
    by_cases e : c = k
    · rw [if_pos e]
      refine ⟨g, off, cur, rfl, hb, hh, by omega, ?_⟩
      have : n = k := by omega
      subst this
      simp [h1]
    · rw [if_neg e]
      refine ⟨g, off + k, cur, by simp [Addr.add_lit], hb, hh, by omega, ?_⟩
      rw [← ht, List.drop_take, List.drop_drop]
      congr 1
      omega
/-- 's[:k]'. -/
theorem Own.upto (h : Own w base E size A n c cs) (k : Nat) (hk : k ≤ n) : Own w base E size A k c (cs.take (k * size)) := by
  obtain ⟨h1, h2, h3, h4⟩ := h
  have hle : k * size ≤ n * size := Nat.mul_le_mul_right _ hk
  refine ⟨by rw [List.length_take, h1]; omega, by omega, by omega, ?_⟩
  rcases h4 with ⟨rfl, rfl, rfl⟩ | ⟨g, off, cur, rfl, hb, hh, hs, ht⟩
  · left; exact ⟨rfl, by omega, rfl⟩
  · right
    refine ⟨g, off, cur, rfl, hb, hh, hs, ?_⟩
    rw [← ht, List.take_take]
    congr 1
    omega
/-- A store at a place. -/
theorem Own.store (h : Own w base E size A n c cs) {g off : Nat} (hA : A = some ⟨g, off, none⟩) (j : Nat) (hj : j < cs.length) (u : Value) : Own (w.setCell ⟨g, off + j, none⟩ u) base E size A n c (cs.set j u) := by
  obtain ⟨h1, h2, h3, h4⟩ := h
  refine ⟨by rw [List.length_set, h1], h2, h3, ?_⟩
  rcases h4 with ⟨rfl, _⟩ | ⟨g', off', cur, e, hb, hh, hs, ht⟩
  · cases hA
  · rw [hA] at e
    injection e with e
    injection e with e1 e2
    subst e1 e2
    refine .inr ⟨g, off, cur.setIfInBounds (off + j) u, hA, hb, ?_, by simpa using hs, ?_⟩
    · simp [World.setCell, Array.getElem?_modify, hh]
    · rw [Array.toList_setIfInBounds, ← ht]
      apply List.ext_getElem?
      intro i
      rw [List.getElem?_set, List.getElem?_take, List.getElem?_take, List.getElem?_drop, List.getElem?_drop, List.getElem?_set]
      have hjn : j < n * size := by rw [← h1]; exact hj
      have hcl : n * size ≤ c * size := Nat.mul_le_mul_right _ h2
      by_cases e : j = i
      · subst e
        have h5 : off + j < cur.size := by omega
        simp [hjn, h5]
        omega
      · simp [e]
end

theorem own_made (w : World) (base : Nat) (E : TypeId) (size : Nat) (cur : Array Value) (n c : Nat) (hb : base ≤ w.heap.size) (hc : c ≤ maxLen) (hn : n ≤ c) (hs : cur.size = c * size) :
    Own (w.alloc (.cells cur E)) base E size (some ⟨w.heap.size, 0, none⟩) n c (cur.toList.take (n * size)) := by
  have hle : n * size ≤ c * size := Nat.mul_le_mul_right _ hn
  exact ⟨by rw [List.length_take, Array.length_toList, hs]; omega, hn, hc, .inr ⟨_, 0, cur, rfl, hb, heap_alloc_new w _, by omega, by simp⟩⟩

/-! ### append onto it -/
/-- Where the new slice lies: where the old one lay, or in a block from N on. -/
def Lie (A' A : Option Addr) (N : Nat) : Prop := A'.map (·.block) = A.map (·.block) ∨ ∃ j, A'.map (·.block) = some j ∧ N ≤ j
theorem Lie.refl (A : Option Addr) (N : Nat) : Lie A A N := .inl rfl
theorem Lie.mono {A' A : Option Addr} {N M : Nat} (h : Lie A' A N) (hm : M ≤ N) : Lie A' A M := h.imp id fun ⟨j, e, hj⟩ => ⟨j, e, Nat.le_trans hm hj⟩
theorem Lie.trans {A B C : Option Addr} {N : Nat} (h : Lie C B N) (k : Lie B A N) : Lie C A N := by
  rcases h with h | h
  · rcases k with k | ⟨j, e, hj⟩
    · exact .inl (h.trans k)
    · exact .inr ⟨j, h.trans e, hj⟩
  · exact .inr h
section
variable {P : Program} (w : World)

theorem rd_adds {w : World} {a : Addr} {cs : List Value} {m size : Nat} (h : Rd w (some a) cs) (hl : cs.length = m * size) : ∀ j u, cs[j]? = some u → w.cell? (a.add j) = some u := by
  intro j u hu
  obtain ⟨g, off, e, _, hc⟩ := h (by rintro rfl; simp at hu)
  injection e with e
  subst e
  rw [Addr.add_lit]
  exact hc j u hu

/-- append of nothing. -/
theorem run_append_zero (t ty e : TypeId) (i : TypeInfo) (ht : P.underlying t = some (.slice e)) (hi : P.info? e = some i)
    (base : Nat) (size : Nat) (hsize : i.size = size) (A : Option Addr) (n c : Nat) (cs : List Value) (hown : Own w base e size A n c cs) (B : Option Addr) (c2 : Nat) :
    (Builtin.append_ #[t, t] ty #[.slice A n c, .slice B 0 c2]).run P w = .ok (.slice A n c) w := by
  have hn : n ≤ c := hown.2.1
  rcases A with _ | a <;> rcases B with _ | b <;> simp [Builtin.append_, run_underlying ht, sizeOf, typeInfo, hi, Builtin.lenOf, Builtin.firstCells, hn, storeCells, loadCells, loadCellsFrom]

/-- THE LAW: onto a slice that the call owns, from whatever source. The new one lies where the old one lay, or in a new block. -/
theorem run_append_o (t ty e : TypeId) (i : TypeInfo) (z : Value) (size bytes : Nat) (ht : P.underlying t = some (.slice e)) (hi : P.info? e = some i) (hz : i.zero = some z)
    (hsize : i.size = size) (hby : i.bytes = bytes) (hzs : z.cells.size = size) (hsz : 0 < size)
    (base : Nat) (A : Option Addr) (n c : Nat) (cs : List Value) (hown : Own w base e size A n c cs)
    (B : Option Addr) (m c2 : Nat) (news : List Value) (hl : news.length = m * size) (hr : Rd w B news) (h1 : ∀ u ∈ news, u.oneCell' = true)
    (hbytes : ((n + m) + (n + m) / 4 + 192) * bytes ≤ 281474976710656) (h63 : n + m ≤ maxLen) (hbase : base ≤ w.heap.size) :
    ∃ A' c' w', (Builtin.append_ #[t, t] ty #[.slice A n c, .slice B m c2]).run P w = .ok (.slice A' (n + m) c') w' ∧ Own w' base e size A' (n + m) c' (cs ++ news) ∧
      Kp (fun k => some k = A.map (·.block)) w w' ∧ Lie A' A w.heap.size := by
  rcases Nat.eq_zero_or_pos m with rfl | hm
  · have hn : news = [] := List.eq_nil_of_length_eq_zero (by simpa using hl)
    subst hn
    exact ⟨A, c, w, run_append_zero w t ty e i ht hi base size hsize A n c cs hown B c2, by simpa using hown, Kp.refl _ _, .inl rfl⟩
  subst hsize
  subst hby
  have hlen : (cs ++ news).length = (n + m) * i.size := by rw [List.length_append, hown.1, hl, Nat.add_mul]
  have hnl : 0 < news.length := by rw [hl]; exact Nat.mul_pos hm hsz
  obtain ⟨g2, off2, rfl, hg2, hc2⟩ := hr.at_ hnl
  have hadd : ∀ j u, news[j]? = some u → w.cell? ((⟨g2, off2, none⟩ : Addr).add j) = some u := fun j u hu => by rw [Addr.add_lit]; exact hc2 j u hu
  have hsmall : n + m ≤ 9223372036854775807 := by unfold maxLen at h63; omega
  have grown : ∀ old, old < n + m → Own (w.drew.alloc (.cells (cs.toArray ++ news.toArray ++ Builtin.zeroCells z.cells (grownCap w (n + m) old e - (n + m))) e)) base e i.size (some ⟨w.heap.size, 0, none⟩) (n + m) (grownCap w (n + m) old e) (cs ++ news) := by
    intro old ho
    have hge := grownCap_ge w (n + m) old e
    have hcm : grownCap w (n + m) old e ≤ maxLen := grownCap_le_maxLen w (n + m) old e h63
    have hs : (cs.toArray ++ news.toArray ++ Builtin.zeroCells z.cells (grownCap w (n + m) old e - (n + m))).size = grownCap w (n + m) old e * i.size := by
      simp only [Array.size_append, List.size_toArray, size_zeroCells, hzs, hown.1, hl, ← Nat.add_mul]
      congr 1
      omega
    have := own_made w.drew base e i.size _ (n + m) (grownCap w (n + m) old e) hbase hcm hge hs
    have htk : (cs.toArray ++ news.toArray ++ Builtin.zeroCells z.cells (grownCap w (n + m) old e - (n + m))).toList.take ((n + m) * i.size) = cs ++ news := by
      simp only [Array.toList_append, List.append_assoc]
      rw [← List.append_assoc, ← hlen]
      exact List.take_left
    rw [htk] at this
    exact this
  have grownK : ∀ S old, Kp S w (w.drew.alloc (.cells (cs.toArray ++ news.toArray ++ Builtin.zeroCells z.cells (grownCap w (n + m) old e - (n + m))) e)) := fun S old => (Kp.drew S w).trans (Kp.alloc S w.drew _)
  rcases hown.2.2.2 with ⟨rfl, rfl, rfl⟩ | ⟨g, off, cur, rfl, hbg, hg, hcur, htake⟩
  · have hx : cs = [] := List.eq_nil_of_length_eq_zero (by simpa using hown.1)
    subst hx
    have hr2 := run_append_nil (P := P) w t ty e i z ht hi hz ⟨g2, off2, none⟩ m c2 news hl hadd hm (by omega) (Nat.le_trans (Nat.mul_le_mul_right _ (by omega)) hbytes)
    have hgr := grown 0 (by omega)
    have hgk := grownK (fun k => some k = none) 0
    simp only [Nat.zero_add, List.nil_append, Array.empty_append] at hgr hgk ⊢
    exact ⟨_, _, _, hr2, hgr, by simpa using hgk, .inr ⟨_, rfl, Nat.le_refl _⟩⟩
  · by_cases hroom : n + m ≤ c
    · have hcs : (n + m) * i.size ≤ c * i.size := Nat.mul_le_mul_right _ hroom
      have hnm : n * i.size + m * i.size = (n + m) * i.size := (Nat.add_mul n m i.size).symm
      have hf := run_firstCells_some (P := P) w i.size m ⟨g2, off2, none⟩ m c2 news hl hadd
      have hst := run_storeCells_at P g (off + n * i.size) e news 0 cur w hg (by omega) h1
      simp only [Nat.add_zero] at hst
      refine ⟨some ⟨g, off, none⟩, c, w.setRow g (cur.toList.take (off + n * i.size) ++ news ++ cur.toList.drop (off + n * i.size + news.length)).toArray, ?_, ⟨hlen, hroom, hown.2.2.1, .inr ⟨g, off, _, rfl, hbg, setRow_heap w g cur _ e _ hg, ?_, ?_⟩⟩,
        ⟨rfl, rfl, rfl, by simp, fun k _ hk => setRow_other w g k _ fun e => hk (by simp [e])⟩, .inl rfl⟩
      · simp [Builtin.append_, run_underlying ht, sizeOf, typeInfo, hi, Builtin.lenOf, hroom, hf, Addr.add_lit, hst]
      · simp only [List.size_toArray, List.length_append, List.length_take, List.length_drop, Array.length_toList]
        omega
      · rw [List.append_assoc, List.drop_append_of_le_length (by rw [List.length_take, Array.length_toList]; omega), List.drop_take, show off + n * i.size - off = n * i.size from by omega, htake, ← List.append_assoc, ← hlen]
        exact List.take_left
    · have holds : ∀ j u, cs[j]? = some u → w.cell? ((⟨g, off, none⟩ : Addr).add j) = some u := fun j u hu => by rw [Addr.add_lit]; exact hown.cells rfl j u hu
      have hr2 := run_append_grow (P := P) w t ty e i z ht hi hz ⟨g, off, none⟩ n c cs hown.1 holds ⟨g2, off2, none⟩ m c2 news hl hadd (by omega) (by omega) (growslice_fits_wide (by omega) hbytes)
      exact ⟨_, _, _, hr2, grown c (by omega), grownK _ c, .inr ⟨_, rfl, Nat.le_refl _⟩⟩

/-- At the operation. -/
theorem wp_append_o {o : Oper} {a : Act} {K : Act → World → Prop} {Q : Exit → Act → World → Prop} (s x : Operand) (t : TypeId)
    (ho : o.op = .call { callee := .builtin .append, args := #[s, x], argTypes := #[t, t] })
    (e : TypeId) (i : TypeInfo) (z : Value) (size bytes : Nat) (ht : P.underlying t = some (.slice e)) (hi : P.info? e = some i) (hz : i.zero = some z)
    (hsize : i.size = size) (hby : i.bytes = bytes) (hzs : z.cells.size = size) (hsz : 0 < size)
    (base : Nat) (A : Option Addr) (n c : Nat) (cs : List Value) (hs : a.eval s = .slice A n c) (hown : Own w base e size A n c cs)
    (B : Option Addr) (m c2 : Nat) (news : List Value) (hx : a.eval x = .slice B m c2) (hl : news.length = m * size) (hr : Rd w B news) (h1 : ∀ u ∈ news, u.oneCell' = true)
    (hbytes : ((n + m) + (n + m) / 4 + 192) * bytes ≤ 281474976710656) (h63 : n + m ≤ maxLen) (hbase : base ≤ w.heap.size)
    (h : ∀ A' c' w', Own w' base e size A' (n + m) c' (cs ++ news) → Kp (fun k => some k = A.map (·.block)) w w' → Lie A' A w.heap.size → K (a.put o.dst (.slice A' (n + m) c')) w') : o.wp P a w K Q := by
  obtain ⟨A', c', w', hrun, h2, h3, h4⟩ := run_append_o (P := P) w t o.type e i z size bytes ht hi hz hsize hby hzs hsz base A n c cs hown B m c2 news hl hr h1 hbytes h63 hbase
  unfold Oper.wp execOp
  simp only [ho, resolve, invoke, builtin, Sem.run_bind, Sem.run_pure, Result.andThen_ok, List.map_toArray, List.map_cons, List.map_nil, hs, hx, hrun]
  exact h A' c' w' h2 h3 h4

theorem wpList_append_o {ops : Array Oper} {rest : List Oper} {o : Oper} {a : Act} {Q : Exit → Act → World → Prop} (hgd : o.guard = none) (s x : Operand) (t : TypeId)
    (ho : o.op = .call { callee := .builtin .append, args := #[s, x], argTypes := #[t, t] })
    (e : TypeId) (i : TypeInfo) (z : Value) (size bytes : Nat) (ht : P.underlying t = some (.slice e)) (hi : P.info? e = some i) (hz : i.zero = some z)
    (hsize : i.size = size) (hby : i.bytes = bytes) (hzs : z.cells.size = size) (hsz : 0 < size)
    (base : Nat) (A : Option Addr) (n c : Nat) (cs : List Value) (hs : a.eval s = .slice A n c) (hown : Own w base e size A n c cs)
    (B : Option Addr) (m c2 : Nat) (news : List Value) (hx : a.eval x = .slice B m c2) (hl : news.length = m * size) (hr : Rd w B news) (h1 : ∀ u ∈ news, u.oneCell' = true)
    (hbytes : ((n + m) + (n + m) / 4 + 192) * bytes ≤ 281474976710656) (h63 : n + m ≤ maxLen) (hbase : base ≤ w.heap.size)
    (h : ∀ A' c' w', Own w' base e size A' (n + m) c' (cs ++ news) → Kp (fun k => some k = A.map (·.block)) w w' → Lie A' A w.heap.size → wpList P ops Q rest (a.put o.dst (.slice A' (n + m) c')) w') : wpList P ops Q (o :: rest) a w :=
  wpList_plain hgd fun _ hK => wp_append_o w s x t ho e i z size bytes ht hi hz hsize hby hzs hsz base A n c cs hs hown B m c2 news hx hl hr h1 hbytes h63 hbase fun A' c' w' h2 h3 h4 => hK _ _ (h A' c' w' h2 h3 h4)

theorem step_append_o {ops : Array Oper} {o : Oper} {a : Act} {K : Act → World → Prop} {Q : Exit → Act → World → Prop} {F : Prop} (hgd : o.guard = none) (s x : Operand) (t : TypeId)
    (ho : o.op = .call { callee := .builtin .append, args := #[s, x], argTypes := #[t, t] })
    (e : TypeId) (i : TypeInfo) (z : Value) (size bytes : Nat) (ht : P.underlying t = some (.slice e)) (hi : P.info? e = some i) (hz : i.zero = some z)
    (hsize : i.size = size) (hby : i.bytes = bytes) (hzs : z.cells.size = size) (hsz : 0 < size)
    (base : Nat) (A : Option Addr) (n c : Nat) (cs : List Value) (hs : a.eval s = .slice A n c) (hown : Own w base e size A n c cs)
    (B : Option Addr) (m c2 : Nat) (news : List Value) (hx : a.eval x = .slice B m c2) (hl : news.length = m * size) (hr : Rd w B news) (h1 : ∀ u ∈ news, u.oneCell' = true)
    (hbytes : ((n + m) + (n + m) / 4 + 192) * bytes ≤ 281474976710656) (h63 : n + m ≤ maxLen) (hbase : base ≤ w.heap.size)
    (h : ∀ A' c' w', Own w' base e size A' (n + m) c' (cs ++ news) → Kp (fun k => some k = A.map (·.block)) w w' → Lie A' A w.heap.size → K (a.put o.dst (.slice A' (n + m) c')) w') :
    if Region.wanted o (yielded ops a.tmps) = true then Oper.wp P o a w K Q else F := by
  have hw : Region.wanted o (yielded ops a.tmps) = true := by simp [Region.wanted, hgd]
  rw [if_pos hw]
  exact wp_append_o w s x t ho e i z size bytes ht hi hz hsize hby hzs hsz base A n c cs hs hown B m c2 news hx hl hr h1 hbytes h63 hbase h
end
end Go.Proofs.Ytfolidaonnblbaa
