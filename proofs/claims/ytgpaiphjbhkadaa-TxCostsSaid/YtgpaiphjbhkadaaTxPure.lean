/- Transactions as items: the plain side. No program in sight. -/
import Derived.Test.YtgpaiphjbhkadaaNsBackP
import Derived.Test.YtgpaiphjbhkadaaWdPure
namespace Go.Proofs.Ytgpaiphjbhkadaa
open Go Go.RowKit
set_option linter.unusedVariables false
set_option maxRecDepth 100000

/-! ### What is written is read -/
theorem encode_ok {t : Tree} {b : List UInt8} (h : pEncode t = .ok b) : ∃ n, lookT 0 0 t = .ok n ∧ (bodyT t).length ≤ 16777215 ∧ b = encT t ∧ b.length ≤ 83886080 := by
  unfold pEncode at h
  split at h
  · cases h
  · rename_i n hl
    split at h
    · cases h
    · rename_i hb
      cases h
      exact ⟨n, hl, by omega, rfl, look_small hl⟩
theorem encode_first {t : Tree} {b : List UInt8} (h : pEncode t = .ok b) (more : List UInt8) : pFirst (b ++ more) = .ok (t, b.length) := by
  obtain ⟨n, h1, h2, rfl, _⟩ := encode_ok h
  exact encT_parse t 0 0 n more (by omega) h1 h2
theorem encode_decode {t : Tree} {b : List UInt8} (h : pEncode t = .ok b) : pDecode b = .ok t := by
  have h1 := encode_first h []
  rw [List.append_nil] at h1
  unfold pDecode
  rw [h1]
  simp

/-! ### Transactions -/
structure TxD where
  a0 : Nat
  a1 : Nat
  a2 : Nat
  a3 : Nat
  a4 : Nat
  a5 : Nat
  inp : List Nat
  mak : Bool
  code : List UInt8
def TxD.zero : TxD := ⟨0, 0, 0, 0, 0, 0, [], false, []⟩
def rightB (tt m : Nat) (mk : Bool) (k : Nat) : Bool := if mk then decide (tt = 0) && (decide (m = 0) && decide (k ≤ 256)) else decide (m ≤ 8) && decide (k = 0)
def rightT (t : TxD) : Bool := rightB t.a4 t.inp.length t.mak t.code.length
/-- Its numbers are words. -/
structure OkTx (t : TxD) : Prop where
  h0 : t.a0 < 18446744073709551616
  h1 : t.a1 < 18446744073709551616
  h2 : t.a2 < 18446744073709551616
  h3 : t.a3 < 18446744073709551616
  h4 : t.a4 < 18446744073709551616
  h5 : t.a5 < 18446744073709551616
  hi : ∀ n ∈ t.inp, n < 18446744073709551616
theorem OkTx.zero : OkTx .zero := ⟨by decide, by decide, by decide, by decide, by decide, by decide, by simp [TxD.zero]⟩

def wordT (n : Nat) : Tree := .mk false (wbytes n) []
def boolT (b : Bool) : Tree := .mk false (if b then [1] else []) []
def treeT (t : TxD) : Tree := .mk true [] [wordT t.a0, wordT t.a1, wordT t.a2, wordT t.a3, wordT t.a4, wordT t.a5, .mk true [] (t.inp.map wordT), boolT t.mak, .mk false t.code []]

theorem rightB_len {tt m : Nat} {mk : Bool} {k : Nat} (h : rightB tt m mk k = true) : m ≤ 8 ∧ k ≤ 256 := by
  unfold rightB at h
  cases mk <;> simp at h <;> omega

theorem look_text {d wt : Nat} {b : List UInt8} (h : wt + max b.length 1 ≤ 16777215) : lookT d wt (.mk false b []) = .ok (wt + max b.length 1) := by
  have e : wtOf false d wt b = wt + max b.length 1 := rfl
  rw [lookT, if_neg (by simp), if_neg (by simp), if_neg (by rw [e]; omega), e]
  rfl
theorem look_word {d wt n : Nat} (h : wt + 8 ≤ 16777215) : ∃ k, lookT d wt (wordT n) = .ok k ∧ wt ≤ k ∧ k ≤ wt + 8 := by
  have := wbytes_len n
  exact ⟨_, look_text (by omega), by omega, by omega⟩
theorem lookL_step {d wt k : Nat} {t : Tree} {ts : List Tree} (h : lookT d wt t = .ok k) : lookL d wt (t :: ts) = lookL d k ts := by
  rw [lookL, h]
theorem lookL_words {d : Nat} : ∀ (ns : List Nat) (wt : Nat), wt + 8 * ns.length ≤ 16777215 → ∃ k, lookL d wt (ns.map wordT) = .ok k ∧ wt ≤ k ∧ k ≤ wt + 8 * ns.length
  | [], wt, _ => ⟨wt, rfl, Nat.le_refl _, by simp⟩
  | n :: ns, wt, h => by
    simp only [List.length_cons] at h
    obtain ⟨k, h1, h2, h3⟩ := look_word (d := d) (wt := wt) (n := n) (by omega)
    obtain ⟨k2, h4, h5, h6⟩ := lookL_words ns k (by omega)
    exact ⟨k2, by rw [List.map_cons, lookL_step h1, h4], by omega, by simp only [List.length_cons]; omega⟩

theorem tree_look {t : TxD} (hm : t.inp.length ≤ 8) (hk : t.code.length ≤ 256) : ∃ n, lookT 0 0 (treeT t) = .ok n ∧ n ≤ 400 := by
  obtain ⟨k0, e0, _, u0⟩ := look_word (d := 1) (wt := 0) (n := t.a0) (by omega)
  obtain ⟨k1, e1, _, u1⟩ := look_word (d := 1) (wt := k0) (n := t.a1) (by omega)
  obtain ⟨k2, e2, _, u2⟩ := look_word (d := 1) (wt := k1) (n := t.a2) (by omega)
  obtain ⟨k3, e3, _, u3⟩ := look_word (d := 1) (wt := k2) (n := t.a3) (by omega)
  obtain ⟨k4, e4, _, u4⟩ := look_word (d := 1) (wt := k3) (n := t.a4) (by omega)
  obtain ⟨k5, e5, _, u5⟩ := look_word (d := 1) (wt := k4) (n := t.a5) (by omega)
  obtain ⟨k6, e6, _, u6⟩ := lookL_words (d := 2) t.inp (k5 + 1) (by omega)
  have e6' : lookT 1 k5 (.mk true [] (t.inp.map wordT)) = .ok k6 := by
    have e : wtOf true 1 k5 [] = k5 + 1 := rfl
    rw [lookT, if_neg (by simp), if_neg (by simp), if_neg (by rw [e]; omega), e]
    exact e6
  have hb : (if t.mak then [1] else ([] : List UInt8)).length ≤ 1 := by cases t.mak <;> simp
  have e7 : lookT 1 k6 (boolT t.mak) = .ok (k6 + max (if t.mak then [1] else ([] : List UInt8)).length 1) := look_text (by omega)
  have e8 : lookT 1 (k6 + max (if t.mak then [1] else ([] : List UInt8)).length 1) (.mk false t.code []) = .ok (k6 + max (if t.mak then [1] else ([] : List UInt8)).length 1 + max t.code.length 1) := look_text (by omega)
  refine ⟨k6 + max (if t.mak then [1] else ([] : List UInt8)).length 1 + max t.code.length 1, ?_, by omega⟩
  have e : wtOf true 0 0 [] = 0 := rfl
  rw [treeT, lookT, if_neg (by simp), if_neg (by simp), if_neg (by rw [e]; omega), e, lookL_step e0, lookL_step e1, lookL_step e2, lookL_step e3, lookL_step e4, lookL_step e5, lookL_step e6', lookL_step e7, lookL_step e8]
  rfl
theorem tree_small {t : TxD} (hm : t.inp.length ≤ 8) (hk : t.code.length ≤ 256) : (bodyT (treeT t)).length ≤ 16777215 ∧ (encT (treeT t)).length ≤ 4000 := by
  obtain ⟨n, h1, h2⟩ := tree_look hm hk
  have h3 := (look_len 0 0 _ n h1).2
  have h4 := look_body h1
  simp at h3
  omega
theorem tree_enc {t : TxD} (hm : t.inp.length ≤ 8) (hk : t.code.length ≤ 256) : pEncode (treeT t) = .ok (encT (treeT t)) := by
  obtain ⟨n, h1, h2⟩ := tree_look hm hk
  unfold pEncode
  rw [h1]
  simp only
  rw [if_neg (by have := (tree_small hm hk).1; omega)]

/-! ### Reading -/
/-- Items as words. -/
def readT : List Tree → Option (List Nat)
  | [] => some []
  | x :: xs => if x.l || !isWord x.b then none else match readT xs with | none => none | some l => some (wval x.b :: l)
def flagT (x : Tree) : Option Bool := if x.l then none else if x.b = [] then some false else if x.b = [1] then some true else none
/-- What an item's bytes say, as the reference takes them: no word: nothing. -/
def rawN (x : Tree) : Nat := if isWord x.b then wval x.b else 0
def rawT (x : Tree) : TxD :=
  match x.its with
  | [i0, i1, i2, i3, i4, i5, i6, i7, i8] => ⟨rawN i0, rawN i1, rawN i2, rawN i3, rawN i4, rawN i5, i6.its.map rawN, decide (0 < i7.b.length), i8.b⟩
  | _ => .zero
/-- Is it a transaction's? -/
def goodT (x : Tree) : Bool :=
  match x.its with
  | [i0, i1, i2, i3, i4, i5, i6, i7, i8] => x.l && ((readT [i0, i1, i2, i3, i4, i5]).isSome && ((readT i6.its).isSome && ((flagT i7).isSome && (i6.l && (!i8.l && rightT (rawT x))))))
  | _ => false
def decTx (b : List UInt8) : Option TxD :=
  match pDecode b with
  | .ok x => if goodT x then some (rawT x) else none
  | .error _ => none

theorem readT_some : ∀ (xs : List Tree), (readT xs).isSome = true → readT xs = some (xs.map rawN) ∧ ∀ x ∈ xs, x.l = false ∧ isWord x.b = true
  | [], _ => ⟨rfl, by simp⟩
  | x :: xs, h => by
    rw [readT] at h ⊢
    by_cases hx : (x.l || !isWord x.b) = true
    · rw [if_pos hx] at h
      cases h
    · rw [if_neg hx] at h ⊢
      have hl : x.l = false := by cases hh : x.l <;> simp_all
      have hw : isWord x.b = true := by cases hh : isWord x.b <;> simp_all
      cases hr : readT xs with
      | none => rw [hr] at h; cases h
      | some l =>
        obtain ⟨h1, h2⟩ := readT_some xs (by rw [hr]; rfl)
        rw [hr] at h1
        injection h1 with h1
        refine ⟨by rw [h1, List.map_cons, rawN, if_pos hw], fun y hy => ?_⟩
        rcases List.mem_cons.1 hy with rfl | hy
        · exact ⟨hl, hw⟩
        · exact h2 y hy
theorem readT_words : ∀ (ns : List Nat), (∀ n ∈ ns, n < 18446744073709551616) → readT (ns.map wordT) = some ns
  | [], _ => rfl
  | n :: ns, h => by
    rw [List.map_cons, readT]
    have hw : isWord (wbytes n) = true := wbytes_isWord n
    rw [if_neg (by simp [wordT, Tree.l, Tree.b, hw]), readT_words ns fun m hm => h m (by simp [hm])]
    simp only [wordT, Tree.b]
    rw [wval_wbytes n (h n (by simp))]
theorem rawN_word {n : Nat} (h : n < 18446744073709551616) : rawN (wordT n) = n := by
  unfold rawN
  rw [if_pos (show isWord (wordT n).b = true from wbytes_isWord n)]
  exact wval_wbytes n h
theorem rawN_words {ns : List Nat} (h : ∀ n ∈ ns, n < 18446744073709551616) : (ns.map wordT).map rawN = ns := by
  rw [List.map_map]
  conv => rhs; rw [← List.map_id ns]
  exact List.map_congr_left fun n hn => rawN_word (h n hn)

/-- Of a transaction's item it is read as it was. -/
theorem raw_tree {t : TxD} (h : OkTx t) : rawT (treeT t) = t := by
  simp only [rawT, treeT, Tree.its, Tree.b, boolT, rawN_word h.h0, rawN_word h.h1, rawN_word h.h2, rawN_word h.h3, rawN_word h.h4, rawN_word h.h5, rawN_words h.hi]
  cases t with
  | mk a0 a1 a2 a3 a4 a5 inp mak code => cases mak <;> simp
theorem good_tree {t : TxD} (h : OkTx t) (hr : rightT t = true) : goodT (treeT t) = true := by
  have e := raw_tree h
  unfold goodT
  rw [e]
  simp only [treeT, Tree.its, Tree.l]
  rw [show [wordT t.a0, wordT t.a1, wordT t.a2, wordT t.a3, wordT t.a4, wordT t.a5] = [t.a0, t.a1, t.a2, t.a3, t.a4, t.a5].map wordT from rfl, readT_words _ (by simp; exact ⟨h.h0, h.h1, h.h2, h.h3, h.h4, h.h5⟩), readT_words _ h.hi, hr]
  cases hm : t.mak <;> simp [flagT, boolT, Tree.l, Tree.b]

/-- An item that was read. -/
def FormT (x : Tree) : Prop := ∃ b, pDecode b = .ok x
theorem rawN_lt (x : Tree) : rawN x < 18446744073709551616 := by
  unfold rawN
  split
  · rename_i h
    exact wval_lt8 ((isWord_iff _).1 h).1
  · decide
theorem raw_ok (x : Tree) : OkTx (rawT x) := by
  unfold rawT
  split
  · exact ⟨rawN_lt _, rawN_lt _, rawN_lt _, rawN_lt _, rawN_lt _, rawN_lt _, by
      intro n hn
      obtain ⟨y, _, rfl⟩ := List.mem_map.1 hn
      exact rawN_lt y⟩
  · exact OkTx.zero

end Go.Proofs.Ytgpaiphjbhkadaa
