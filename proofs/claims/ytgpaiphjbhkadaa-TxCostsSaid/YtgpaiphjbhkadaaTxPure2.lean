/- Transactions as items: what is read is what was written. No program in sight. -/
import Derived.Test.YtgpaiphjbhkadaaTxPure
import Derived.Test.YtgpaiphjbhkadaaNsRSize2
namespace Go.Proofs.Ytgpaiphjbhkadaa
open Go Go.RowKit
set_option linter.unusedVariables false
set_option maxRecDepth 100000

theorem text_of {x : Tree} (hw : WellT x) (hl : x.l = false) : x = .mk false x.b [] := by
  cases x with
  | mk l b its =>
    simp only [Tree.l] at hl
    subst hl
    rw [hw.form.2 rfl]
    rfl
theorem list_of {x : Tree} (hw : WellT x) (hl : x.l = true) : x = .mk true [] x.its := by
  cases x with
  | mk l b its =>
    simp only [Tree.l] at hl
    subst hl
    rw [hw.form.1 rfl]
    rfl
theorem word_of {x : Tree} (hw : WellT x) (hl : x.l = false) (hi : isWord x.b = true) : wordT (rawN x) = x := by
  have e : rawN x = wval x.b := if_pos hi
  rw [e, wordT, wbytes_wval hi]
  exact (text_of hw hl).symm
theorem words_of : ∀ {xs : List Tree}, (∀ x ∈ xs, WellT x) → (∀ x ∈ xs, x.l = false ∧ isWord x.b = true) → (xs.map rawN).map wordT = xs
  | [], _, _ => rfl
  | x :: xs, hw, h => by
    rw [List.map_cons, List.map_cons, word_of (hw x (by simp)) (h x (by simp)).1 (h x (by simp)).2, words_of (fun y hy => hw y (by simp [hy])) fun y hy => h y (by simp [hy])]
theorem flag_of {x : Tree} (hw : WellT x) (h : (flagT x).isSome = true) : boolT (decide (0 < x.b.length)) = x := by
  obtain ⟨l, b, its⟩ := x
  unfold flagT at h
  cases l with
  | true => simp [Tree.l] at h
  | false =>
    have hi := hw.form.2 rfl
    subst hi
    by_cases h0 : b = []
    · subst h0
      rfl
    · by_cases h1 : b = [1]
      · subst h1
        rfl
      · simp [Tree.l, Tree.b, h0, h1] at h

theorem good_len {x : Tree} (h : goodT x = true) : x.its.length = 9 := by
  unfold goodT at h
  split at h
  · rename_i he
    rw [he]
    rfl
  · cases h
theorem good_right {x : Tree} (h : goodT x = true) : rightT (rawT x) = true := by
  unfold goodT at h
  split at h
  · simp only [Bool.and_eq_true] at h
    exact h.2.2.2.2.2.2
  · cases h
theorem nine {α : Type} (l : List α) (h : l.length = 9) : ∃ i0 i1 i2 i3 i4 i5 i6 i7 i8, l = [i0, i1, i2, i3, i4, i5, i6, i7, i8] := by
  match l, h with
  | [a, b, c, d, e, f, g, i, j], _ => exact ⟨_, _, _, _, _, _, _, _, _, rfl⟩
theorem good_tree_of {x : Tree} (hw : WellT x) (h : goodT x = true) : treeT (rawT x) = x := by
  obtain ⟨i0, i1, i2, i3, i4, i5, i6, i7, i8, he⟩ := nine _ (good_len h)
  obtain ⟨l, b, its⟩ := x
  simp only [Tree.its] at he
  subst he
  have h' : (l && ((readT [i0, i1, i2, i3, i4, i5]).isSome && ((readT i6.its).isSome && ((flagT i7).isSome && (i6.l && (!i8.l && rightT (rawT (Tree.mk l b [i0, i1, i2, i3, i4, i5, i6, i7, i8])))))))) = true := h
  simp only [Bool.and_eq_true, Bool.not_eq_true'] at h'
  obtain ⟨hl, h1, h2, h3, h4, h5, h6⟩ := h'
  have hits := hw.items
  subst hl
  have hb := hw.form.1 rfl
  subst hb
  obtain ⟨_, r1⟩ := readT_some _ h1
  obtain ⟨_, r2⟩ := readT_some _ h2
  have w : ∀ x ∈ [i0, i1, i2, i3, i4, i5], wordT (rawN x) = x := fun x hx => word_of (hits x (by
    simp only [List.mem_cons, List.not_mem_nil, or_false] at hx ⊢
    rcases hx with h | h | h | h | h | h <;> simp [h])) (r1 x hx).1 (r1 x hx).2
  have w6 := hits i6 (by simp)
  have e6 : Tree.mk true [] ((i6.its.map rawN).map wordT) = i6 := by
    obtain ⟨l6, b6, its6⟩ := i6
    simp only [Tree.l] at h4
    subst h4
    rw [w6.form.1 rfl]
    simp only [Tree.its] at r2 ⊢
    rw [words_of w6.items r2]
  have e7 := flag_of (hits i7 (by simp)) h3
  have e8 : Tree.mk false i8.b [] = i8 := (text_of (hits i8 (by simp)) h5).symm
  have e : treeT (rawT (Tree.mk true [] [i0, i1, i2, i3, i4, i5, i6, i7, i8])) = .mk true [] [wordT (rawN i0), wordT (rawN i1), wordT (rawN i2), wordT (rawN i3), wordT (rawN i4), wordT (rawN i5), .mk true [] ((i6.its.map rawN).map wordT), boolT (decide (0 < i7.b.length)), .mk false i8.b []] := rfl
  rw [e, w i0 (by simp), w i1 (by simp), w i2 (by simp), w i3 (by simp), w i4 (by simp), w i5 (by simp), e6, e7, e8]

theorem dec_well {b : List UInt8} {x : Tree} (h : pDecode b = .ok x) : WellT x ∧ b = encT x := by
  obtain ⟨n, h1, _, h2, _⟩ := encode_ok (decode_encode b x h)
  exact ⟨⟨0, 0, n, h1⟩, h2⟩

theorem decTx_iff (b : List UInt8) (t : TxD) : decTx b = some t ↔ OkTx t ∧ rightT t = true ∧ encT (treeT t) = b := by
  constructor
  · intro h
    unfold decTx at h
    split at h
    · rename_i x hx
      split at h
      · rename_i hg
        injection h with h
        subst h
        obtain ⟨hw, he⟩ := dec_well hx
        exact ⟨raw_ok x, good_right hg, by rw [good_tree_of hw hg, ← he]⟩
      · cases h
    · cases h
  · rintro ⟨ho, hr, he⟩
    obtain ⟨hm, hk⟩ := rightB_len hr
    have h1 := tree_enc hm hk
    rw [he] at h1
    unfold decTx
    rw [encode_decode h1]
    simp only
    rw [if_pos (good_tree ho hr), raw_tree ho]
/-- As the reference reads. -/
def refTx (b : List UInt8) : Option TxD :=
  match pDecode b with
  | .ok x => if x.its.length = 9 ∧ rightT (rawT x) = true ∧ encT (treeT (rawT x)) = b then some (rawT x) else none
  | .error _ => none
theorem refTx_eq (b : List UInt8) : refTx b = decTx b := by
  apply Option.ext
  intro t
  constructor
  · intro h
    unfold refTx at h
    split at h
    · rename_i x hx
      split at h
      · rename_i hg
        injection h with h
        subst h
        exact (decTx_iff _ _).2 ⟨raw_ok x, hg.2.1, hg.2.2⟩
      · cases h
    · cases h
  · intro h
    have hi := (decTx_iff _ _).1 h
    unfold decTx at h
    unfold refTx
    split at h
    · rename_i x hx
      split at h
      · rename_i hg
        injection h with h
        subst h
        rw [hx]
        simp only
        rw [if_pos ⟨good_len hg, hi.2.1, hi.2.2⟩]
      · cases h
    · cases h

end Go.Proofs.Ytgpaiphjbhkadaa
