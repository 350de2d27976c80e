/- tx.Decode. -/
import Derived.Test.YtgpaiphjbhkadaaTxRead
import Derived.Test.YtgpaiphjbhkadaaLexKit
namespace Go.Proofs.Ytgpaiphjbhkadaa
open Go.ChangeShapes Go.WideShapes Go.ChangeAt Go.RowKit
set_option linter.unusedVariables false
set_option maxRecDepth 100000
attribute [local go_sem ↓] Go.wp_at_zero Go.wp_at_succ

/-! ### A transaction in memory -/
structure TxRd (w : World) (P : Nat → Prop) (t : TxD) (A : Option Addr) (d : Nat) (B : Option Addr) (c : Nat) : Prop where
  ok : OkTx t
  hd : t.inp.length ≤ d
  hdm : d ≤ 9223372036854775807
  hc : t.code.length ≤ c
  hcm : c ≤ 9223372036854775807
  h47 : t.code.length ≤ 140737488355328
  hA : RdP w P A (u64s t.inp)
  hB : RdP w P B (bs t.code)
theorem TxRd.keep {w w' : World} {P : Nat → Prop} {t : TxD} {A : Option Addr} {d : Nat} {B : Option Addr} {c : Nat} (h : TxRd w P t A d B c) (hsz : w.heap.size ≤ w'.heap.size) (hk : ∀ g, P g → g < w.heap.size → w'.heap[g]? = w.heap[g]?) : TxRd w' P t A d B c :=
  { h with hA := h.hA.keep hsz hk, hB := h.hB.keep hsz hk }
theorem TxRd.below {w w' : World} {P : Nat → Prop} {t : TxD} {A : Option Addr} {d : Nat} {B : Option Addr} {c : Nat} (h : TxRd w P t A d B c) (hb : Below w.heap.size w w') : TxRd w' P t A d B c :=
  h.keep hb.size fun g _ hg => hb.block g hg
theorem TxRd.kp {w w' : World} {P S : Nat → Prop} {t : TxD} {A : Option Addr} {d : Nat} {B : Option Addr} {c : Nat} (h : TxRd w P t A d B c) (hb : Kp S w w') (hs : ∀ g, P g → ¬ S g) : TxRd w' P t A d B c :=
  h.keep hb.size fun g hp hg => hb.block g hg (hs g hp)
theorem TxRd.mono {w : World} {P Q : Nat → Prop} {t : TxD} {A : Option Addr} {d : Nat} {B : Option Addr} {c : Nat} (h : TxRd w P t A d B c) (hpq : ∀ g, g < w.heap.size → P g → Q g) : TxRd w Q t A d B c :=
  { h with hA := h.hA.mono hpq, hB := h.hB.mono hpq }
theorem TxRd.zero (w : World) (P : Nat → Prop) : TxRd w P .zero none 0 none 0 :=
  ⟨OkTx.zero, by simp [TxD.zero], by omega, by simp [TxD.zero], by omega, by simp [TxD.zero], RdP.nil _ _ _, RdP.nil _ _ _⟩

theorem kp_sets (g : Nat) : ∀ (l : List (Nat × Value)) (w : World), Kp (fun k => k = g) w (l.foldl (fun w p => w.setCell ⟨g, p.1, none⟩ p.2) w)
  | [], w => Kp.refl _ _
  | p :: l, w => (Kp.setCell (S := fun k => k = g) (p := ⟨g, p.1, none⟩) w rfl p.2).trans (kp_sets g l _)
theorem kp_set9 (w : World) (g : Nat) (t : TxD) (A : Option Addr) (d : Nat) (B : Option Addr) (c : Nat) : Kp (fun k => k = g) w (World.setCell (World.setCell (World.setCell (World.setCell (World.setCell (World.setCell (World.setCell (World.setCell (World.setCell w ⟨g, 0, none⟩ (.int .u64 (t.a0 : Int))) ⟨g, 1, none⟩ (.int .u64 (t.a1 : Int))) ⟨g, 2, none⟩ (.int .u64 (t.a2 : Int))) ⟨g, 3, none⟩ (.int .u64 (t.a3 : Int))) ⟨g, 4, none⟩ (.int .u64 (t.a4 : Int))) ⟨g, 5, none⟩ (.int .u64 (t.a5 : Int))) ⟨g, 6, none⟩ (.slice A t.inp.length d)) ⟨g, 7, none⟩ (.bool t.mak)) ⟨g, 8, none⟩ (.slice B t.code.length c)) :=
  kp_sets g [(0, .int .u64 (t.a0 : Int)), (1, .int .u64 (t.a1 : Int)), (2, .int .u64 (t.a2 : Int)), (3, .int .u64 (t.a3 : Int)), (4, .int .u64 (t.a4 : Int)), (5, .int .u64 (t.a5 : Int)), (6, .slice A t.inp.length d), (7, .bool t.mak), (8, .slice B t.code.length c)] w
theorem kp_set0 (w : World) (g : Nat) : Kp (fun k => k = g) w (World.setCell (World.setCell (World.setCell (World.setCell (World.setCell (World.setCell (World.setCell (World.setCell (World.setCell w ⟨g, 0, none⟩ (.int .u64 0)) ⟨g, 1, none⟩ (.int .u64 0)) ⟨g, 2, none⟩ (.int .u64 0)) ⟨g, 3, none⟩ (.int .u64 0)) ⟨g, 4, none⟩ (.int .u64 0)) ⟨g, 5, none⟩ (.int .u64 0)) ⟨g, 6, none⟩ (.slice none 0 0)) ⟨g, 7, none⟩ (.bool false)) ⟨g, 8, none⟩ (.slice none 0 0)) :=
  kp_sets g [(0, .int .u64 0), (1, .int .u64 0), (2, .int .u64 0), (3, .int .u64 0), (4, .int .u64 0), (5, .int .u64 0), (6, .slice none 0 0), (7, .bool false), (8, .slice none 0 0)] w

/-- What Decode answers. -/
def txO (o : Option TxD) : TxD := o.getD .zero
def txE (o : Option TxD) : Int := if o.isSome then 0 else 160
def TxDecP (o : Option TxD) (w : World) (r : Ending) (w' : World) : Prop :=
  ∃ A d B c, r = .returned (.tuple #[.agg #[.int .u64 ((txO o).a0 : Int), .int .u64 ((txO o).a1 : Int), .int .u64 ((txO o).a2 : Int), .int .u64 ((txO o).a3 : Int), .int .u64 ((txO o).a4 : Int), .int .u64 ((txO o).a5 : Int), .slice A (txO o).inp.length d, .bool (txO o).mak, .slice B (txO o).code.length c], .int .i64 (txE o)]) ∧ TxRd w' (fun g => w.heap.size ≤ g) (txO o) A d B c ∧ Below w.heap.size w w'
theorem TxDecP.none {w w' : World} (hb : Below w.heap.size w w') : TxDecP none w (.returned (.tuple #[.agg #[.int .u64 0, .int .u64 0, .int .u64 0, .int .u64 0, .int .u64 0, .int .u64 0, .slice none 0 0, .bool false, .slice none 0 0], .int .i64 160])) w' :=
  ⟨_, _, _, _, rfl, TxRd.zero _ _, hb⟩
theorem TxDecP.some {w w' : World} {t : TxD} {A : Option Addr} {d : Nat} {B : Option Addr} {c : Nat} (h : TxRd w' (fun g => w.heap.size ≤ g) t A d B c) (hb : Below w.heap.size w w') : TxDecP (some t) w (.returned (.tuple #[.agg #[.int .u64 (t.a0 : Int), .int .u64 (t.a1 : Int), .int .u64 (t.a2 : Int), .int .u64 (t.a3 : Int), .int .u64 (t.a4 : Int), .int .u64 (t.a5 : Int), .slice A t.inp.length d, .bool t.mak, .slice B t.code.length c], .int .i64 0])) w' :=
  ⟨A, d, B, c, rfl, h, hb⟩

/-! ### The plain side -/
theorem flag_iff (x : Tree) : (flagT x).isSome = (flagB x).2 := by
  unfold flagT flagB
  by_cases h : x.l = true
  · rw [if_pos h, if_pos h]; rfl
  · rw [if_neg h, if_neg h]
    by_cases h0 : x.b = []
    · rw [if_pos h0, if_pos h0]; rfl
    · rw [if_neg h0, if_neg h0]
      by_cases h1 : x.b = [1]
      · rw [if_pos h1]; simp [h1]
      · rw [if_neg h1]; simp [h1]
theorem flag_val {x : Tree} (h : (flagB x).2 = true) : (flagB x).1 = decide (0 < x.b.length) := by
  unfold flagB at h ⊢
  by_cases hl : x.l = true
  · rw [if_pos hl] at h; cases h
  · rw [if_neg hl] at h ⊢
    by_cases h0 : x.b = []
    · rw [if_pos h0]; simp [h0]
    · rw [if_neg h0]
      have : 0 < x.b.length := List.length_pos_iff.2 h0
      simp [this]
theorem dec_err {xs : List UInt8} {e : Int} (h : pDecode xs = .error e) : decTx xs = none := by
  unfold decTx
  rw [h]
theorem dec_bad {xs : List UInt8} {x : Tree} (h : pDecode xs = .ok x) (hg : goodT x = false) : decTx xs = none := by
  unfold decTx
  rw [h]
  simp [hg]
theorem dec_good {xs : List UInt8} {x : Tree} (h : pDecode xs = .ok x) (hg : goodT x = true) : decTx xs = some (rawT x) := by
  unfold decTx
  rw [h]
  simp [hg]
theorem good_l {x : Tree} (h : x.l = false) : goodT x = false := by
  unfold goodT
  split
  · rw [h]; rfl
  · rfl
theorem good_not9 {x : Tree} (h : x.its.length ≠ 9) : goodT x = false := by
  cases hg : goodT x with
  | false => rfl
  | true => exact absurd (good_len hg) h
theorem good_nine (b : List UInt8) (i0 i1 i2 i3 i4 i5 i6 i7 i8 : Tree) : goodT (.mk true b [i0, i1, i2, i3, i4, i5, i6, i7, i8]) =
    ((readT [i0, i1, i2, i3, i4, i5]).isSome && ((readT i6.its).isSome && ((flagB i7).2 && (i6.l && (!i8.l && rightT (rawT (.mk true b [i0, i1, i2, i3, i4, i5, i6, i7, i8]))))))) := by
  rw [← flag_iff]
  rfl

mutual
theorem look_many : ∀ (d wt : Nat) (t : Tree) (n : Nat), lookT d wt t = .ok n → n ≤ 16777215 ∧ wt ≤ n ∧ (d ≠ 0 → wt + 1 ≤ n)
  | d, wt, .mk l b its, n, h => by
    rw [lookT] at h
    split at h
    · cases h
    · split at h
      · cases h
      · split at h
        · cases h
        · rename_i h3
          obtain ⟨h4, h5⟩ := lookL_many (d + 1) (wtOf l d wt b) its n (by omega) (by omega) h
          have h6 : wt ≤ wtOf l d wt b ∧ (d ≠ 0 → wt + 1 ≤ wtOf l d wt b) := by
            unfold wtOf
            split
            · split <;> omega
            · omega
          exact ⟨h4, by omega, fun hd => by have := h6.2 hd; omega⟩
theorem lookL_many : ∀ (d wt : Nat) (ts : List Tree) (n : Nat), d ≠ 0 → wt ≤ 16777215 → lookL d wt ts = .ok n → n ≤ 16777215 ∧ wt + ts.length ≤ n
  | d, wt, [], n, _, hw, h => by
    rw [lookL] at h
    injection h with h
    subst h
    exact ⟨hw, Nat.le_refl _⟩
  | d, wt, t :: ts, n, hd, hw, h => by
    rw [lookL] at h
    split at h
    · cases h
    · rename_i k hk
      obtain ⟨h1, h2, h3⟩ := look_many d wt t k hk
      obtain ⟨h4, h5⟩ := lookL_many d k ts n hd h1 h
      have := h3 hd
      exact ⟨h4, by simp only [List.length_cons]; omega⟩
end
theorem WellT.many {x : Tree} (h : WellT x) : x.its.length ≤ 16777215 := by
  obtain ⟨d, wt, n, h⟩ := h
  obtain ⟨l, b, its⟩ := x
  rw [lookT] at h
  split at h
  · cases h
  · split at h
    · cases h
    · split at h
      · cases h
      · obtain ⟨h1, h2⟩ := lookL_many _ _ _ _ (by omega) (by omega) h
        simp only [Tree.its]
        omega

theorem RdL.split {w : World} {P : Nat → Prop} : ∀ {ts us : List Tree} {cs : List Value}, RdL w P (ts ++ us) cs → ∃ c1 c2, cs = c1 ++ c2 ∧ RdL w P ts c1 ∧ RdL w P us c2
  | [], us, cs, h => ⟨[], cs, rfl, RdL.nil _ _, h⟩
  | t :: ts, us, cs, h => by
    simp only [List.cons_append, RdL] at h
    obtain ⟨v0, v1, v2, rest, rfl, h1, h2⟩ := h
    obtain ⟨c1, c2, rfl, h3, h4⟩ := h2.split
    refine ⟨v0 :: v1 :: v2 :: c1, c2, rfl, ?_, h4⟩
    simp only [RdL]
    exact ⟨v0, v1, v2, c1, rfl, h1, h3⟩
theorem RdP.left {w : World} {P : Nat → Prop} {A : Option Addr} {c1 c2 : List Value} (h : RdP w P A (c1 ++ c2)) : RdP w P A c1 := fun hne => by
  obtain ⟨g, off, rfl, hg, hp, hc⟩ := h (by intro h; simp at h; exact hne h.1)
  refine ⟨g, off, rfl, hg, hp, fun j u hu => hc j u ?_⟩
  rw [List.getElem?_append_left (List.getElem?_eq_some_iff.1 hu).1]
  exact hu

end Go.Proofs.Ytgpaiphjbhkadaa
