/- ref.size: the sizes by the document. -/
import Derived.Test.YtgpaiphjbhkadaaNsRSize
namespace Go.Proofs.Ytgpaiphjbhkadaa
open Go.ChangeShapes Go.WideShapes Go.RowKit
set_option linter.unusedVariables false
set_option maxRecDepth 100000

mutual
def sizeT : Tree → Nat
  | .mk l b its => if plainT (.mk l b its) then 1 else
    if 16777215 < (if l then 0 else b.length) + sizeL its then (if l then 0 else b.length) + sizeL its
    else (if l then 0 else b.length) + sizeL its + (headN 0 ((if l then 0 else b.length) + sizeL its)).length
def sizeL : List Tree → Nat
  | [] => 0
  | t :: ts => sizeT t + sizeL ts
end
def WellT (t : Tree) : Prop := ∃ d wt n, lookT d wt t = .ok n
theorem look_items : ∀ (ts : List Tree) (d wt n : Nat), lookL d wt ts = .ok n → ∀ t ∈ ts, WellT t
  | [], d, wt, n, h, t, ht => by simp at ht
  | u :: ts, d, wt, n, h, t, ht => by
    rw [lookL] at h
    split at h
    · cases h
    · rename_i m hm
      rcases List.mem_cons.1 ht with rfl | ht
      · exact ⟨_, _, _, hm⟩
      · exact look_items ts _ _ _ h t ht
theorem WellT.items {l : Bool} {b : List UInt8} {its : List Tree} (h : WellT (.mk l b its)) : ∀ t ∈ its, WellT t := by
  obtain ⟨d, wt, n, h⟩ := h
  rw [lookT] at h
  split at h
  · cases h
  · split at h
    · cases h
    · split at h
      · cases h
      · exact look_items its _ _ _ h
theorem WellT.form {l : Bool} {b : List UInt8} {its : List Tree} (h : WellT (.mk l b its)) : (l = true → b = []) ∧ (l = false → its = []) := by
  obtain ⟨d, wt, n, h⟩ := h
  exact look_form h
theorem WellT.small {t : Tree} (h : WellT t) : (encT t).length ≤ 83886080 := by
  obtain ⟨d, wt, n, h⟩ := h
  exact look_small h
theorem WellT.body {t : Tree} (h : WellT t) : (bodyT t).length ≤ (encT t).length := by
  obtain ⟨d, wt, n, h⟩ := h
  exact look_body h

mutual
theorem sizeT_enc : ∀ t : Tree, WellT t → sizeT t = (encT t).length ∨ (16777215 < sizeT t ∧ sizeT t ≤ (encT t).length)
  | .mk l b its, h => by
    have h1 := sizeL_enc its h.items
    have hf := h.form
    have hb : (if l then 0 else b.length) = b.length := by
      cases l with
      | true => rw [hf.1 rfl]; rfl
      | false => rfl
    have he := encT_length (.mk l b its)
    rw [bodyT, List.length_append] at he
    rw [sizeT, hb]
    cases hp : plainT (.mk l b its) with
    | true =>
      rw [hp, if_pos rfl] at he
      rw [if_pos rfl, he]
      exact .inl rfl
    | false =>
      rw [hp, if_neg (by decide)] at he
      rw [if_neg (by decide), headN_length]
      rcases h1 with h1 | ⟨h1, h2⟩
      · rw [h1]
        by_cases hbig : 16777215 < b.length + (encL its).length
        · rw [if_pos hbig]
          right
          refine ⟨hbig, ?_⟩
          rw [he]
          split <;> omega
        · rw [if_neg hbig]
          left
          rw [he]
          split <;> omega
      · rw [if_pos (by omega)]
        right
        refine ⟨by omega, ?_⟩
        rw [he]
        split <;> omega
theorem sizeL_enc : ∀ ts : List Tree, (∀ t ∈ ts, WellT t) → sizeL ts = (encL ts).length ∨ (16777215 < sizeL ts ∧ sizeL ts ≤ (encL ts).length)
  | [], h => .inl rfl
  | t :: ts, h => by
    have h1 := sizeT_enc t (h t (by simp))
    have h2 := sizeL_enc ts (fun u hu => h u (by simp [hu]))
    rw [sizeL, encL, List.length_append]
    omega
end
theorem sizeL_take_succ (its : List Tree) (j : Nat) (h : j < its.length) : sizeL (its.take (j + 1)) = sizeL (its.take j) + sizeT its[j] := by
  induction its generalizing j with
  | nil => simp at h
  | cons t ts ih =>
    cases j with
    | zero => simp [sizeL]
    | succ j =>
      have := ih j (by simpa using h)
      simp only [List.take_succ_cons, sizeL, List.getElem_cons_succ]
      omega
theorem sizeL_take_le : ∀ (its : List Tree) (j : Nat), sizeL (its.take j) ≤ sizeL its
  | [], j => by simp
  | t :: ts, 0 => by simp [sizeL]
  | t :: ts, j + 1 => by
    have := sizeL_take_le ts j
    simp only [List.take_succ_cons, sizeL]
    omega
theorem sizeT_le_sizeL (its : List Tree) (j : Nat) (h : j < its.length) : sizeL (its.take j) + sizeT its[j] ≤ sizeL its := by
  have h1 := sizeL_take_le its (j + 1)
  rw [sizeL_take_succ its j h] at h1
  exact h1

end Go.Proofs.Ytgpaiphjbhkadaa
