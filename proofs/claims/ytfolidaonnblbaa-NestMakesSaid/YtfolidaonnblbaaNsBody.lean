/- NestBody: the law and the walk. -/
import Derived.Test.YtfolidaonnblbaaNsAhead
namespace Go.Proofs.Ytfolidaonnblbaa
open Go.ChangeShapes Go.WideShapes Go.RowKit
set_option linter.unusedVariables false

/-! ### An item that may be written stands in a list: it is too deep, or all is well -/
mutual
theorem look_again : ∀ (t : Tree) (d wt n : Nat), lookT d wt t = .ok n → ∀ d' wt' : Nat, wt' + (encT t).length ≤ 16777215 → lookT d' wt' t = .error 21 ∨ ∃ n', lookT d' wt' t = .ok n' ∧ n' ≤ wt' + (encT t).length
  | .mk l b its, d, wt, n, h, d', wt', hw => by
    have hf := look_form h
    have hlen : wtOf l d' wt' b + (encL its).length ≤ wt' + (encT (.mk l b its)).length := by
      rw [encT_length]
      cases hp : plainT (.mk l b its) with
      | true =>
        rw [if_pos rfl]
        simp only [plainT, Bool.and_eq_true, beq_iff_eq, Bool.not_eq_true'] at hp
        have hi := hf.2 hp.1.1
        subst hi
        rw [hp.1.1, wtOf, hp.1.2]
        simp [encL]
      | false =>
        have h1 : (bodyT (.mk l b its)).length + 1 ≤ (if false = true then 1 else if (bodyT (.mk l b its)).length ≤ 55 then (bodyT (.mk l b its)).length + 1 else (bodyT (.mk l b its)).length + 1 + numN (bodyT (.mk l b its)).length) := by
          rw [if_neg (by decide)]
          split <;> omega
        refine Nat.le_trans ?_ (Nat.add_le_add_left h1 wt')
        rw [bodyT, List.length_append]
        cases l with
        | true =>
          have := hf.1 rfl
          subst this
          simp only [wtOf, if_true, List.length_nil]
          split <;> omega
        | false =>
          have := hf.2 rfl
          subst this
          simp only [wtOf, Bool.false_eq_true, if_false, encL, List.length_nil]
          omega
    rw [lookT] at h
    rw [lookT]
    split at h
    · cases h
    · split at h
      · cases h
      · rename_i hform
        split at h
        · cases h
        · by_cases h8 : l = true ∧ d' = 8
          · rw [if_pos h8]; exact .inl rfl
          · rw [if_neg h8, if_neg hform, if_neg (by omega)]
            rcases lookL_again its _ _ _ h (d' + 1) (wtOf l d' wt' b) (by omega) with h5 | ⟨n', h5, h6⟩
            · exact .inl h5
            · exact .inr ⟨n', h5, by omega⟩
theorem lookL_again : ∀ (ts : List Tree) (d wt n : Nat), lookL d wt ts = .ok n → ∀ d' wt' : Nat, wt' + (encL ts).length ≤ 16777215 → lookL d' wt' ts = .error 21 ∨ ∃ n', lookL d' wt' ts = .ok n' ∧ n' ≤ wt' + (encL ts).length
  | [], d, wt, n, h, d', wt', hw => .inr ⟨wt', by rw [lookL], by omega⟩
  | t :: ts, d, wt, n, h, d', wt', hw => by
    rw [lookL] at h
    simp only [encL, List.length_append] at hw ⊢
    split at h
    · cases h
    · rename_i m hm
      rw [lookL]
      rcases look_again t _ _ _ hm d' wt' (by omega) with h5 | ⟨n', h5, h6⟩
      · rw [h5]; exact .inl rfl
      · rw [h5]
        rcases lookL_again ts _ _ _ h d' n' (by omega) with h7 | ⟨n2, h7, h8⟩
        · exact .inl h7
        · exact .inr ⟨n2, h7, by omega⟩
end

theorem look_all : ∀ (ts : List Tree), (∀ t ∈ ts, ∃ b, pEncode t = .ok b) → ∀ d' wt' : Nat, wt' + (encL ts).length ≤ 16777215 → lookL d' wt' ts = .error 21 ∨ ∃ n', lookL d' wt' ts = .ok n'
  | [], h, d', wt', hw => .inr ⟨wt', by rw [lookL]⟩
  | t :: ts, h, d', wt', hw => by
    simp only [encL, List.length_append] at hw
    obtain ⟨b, hb⟩ := h t (by simp)
    obtain ⟨n, hn, _⟩ := encode_ok hb
    rw [lookL]
    rcases look_again t _ _ _ hn d' wt' (by omega) with h5 | ⟨n', h5, h6⟩
    · rw [h5]; exact .inl rfl
    · rw [h5]
      exact look_all ts (fun u hu => h u (by simp [hu])) d' n' (by omega)

/-- The list of items that may be written, not too many. -/
theorem body_law {its : List Tree} (h : ∀ t ∈ its, ∃ b, pEncode t = .ok b) (hq : (encL its).length ≤ 65536) :
    pEncode (.mk true [] its) = .error 21 ∨ ∃ hd : List UInt8, pEncode (.mk true [] its) = .ok (hd ++ encL its) ∧ 1 ≤ hd.length ∧ hd.length ≤ 4 ∧ 192 ≤ (hd.headD 0).toNat := by
  have hl : lookT 0 0 (.mk true [] its) = lookL 1 0 its := by
    rw [lookT, if_neg (by simp), if_neg (by simp), if_neg (by simp [wtOf])]
    simp [wtOf]
  have hb : bodyT (.mk true [] its) = encL its := by simp [bodyT]
  rcases look_all its h 1 0 (by omega) with h5 | ⟨n, h5⟩
  · left
    rw [pEncode, hl, h5]
  · right
    refine ⟨headB true (encL its).length, ?_, ?_⟩
    · rw [pEncode, hl, h5]
      simp only
      rw [if_neg (by rw [hb]; omega), encT, if_neg (by simp [plainT])]
      simp
    · generalize (encL its).length = q at *
      have h4 : numN q ≤ 3 := by
        unfold numN
        split
        · omega
        · split
          · omega
          · split
            · omega
            · split <;> omega
      refine ⟨by rw [headB_length]; split <;> omega, by rw [headB_length]; split <;> omega, ?_⟩
      unfold headB
      by_cases h55 : q ≤ 55
      · rw [if_pos h55]
        simp only [List.headD_cons, if_true, UInt8.toNat_ofNat']
        omega
      · rw [if_neg h55]
        simp only [List.headD_cons, if_true, UInt8.toNat_ofNat']
        omega

end Go.Proofs.Ytfolidaonnblbaa
