/- What is written is read as it was; a shorter piece is none: the plain laws. -/
import Derived.Test.YtfolidaonnblbaaNsOnlyP
namespace Go.Proofs.Ytfolidaonnblbaa
open Go Go.RowKit
set_option linter.unusedVariables false

theorem beL_beBytes : ∀ (k q : Nat), q < 256 ^ k → beL 0 (beBytes k q) = q
  | 0, q, h => by simp at h; subst h; rfl
  | k + 1, q, h => by
    rw [beBytes, beL_append, beL_beBytes k (q / 256) (by rw [Nat.div_lt_iff_lt_mul (by decide), ← Nat.pow_succ]; exact h), UInt8.toNat_ofNat']
    omega

/-- A head, taken apart. -/
theorem head_read (l : Bool) (q : Nat) (hq : q ≤ 16777215) : ∃ (c : UInt8) (nn : Nat) (ks : List UInt8), headB l q = c :: ks ∧ c.toNat = (if l then 192 else 128) + nn ∧ nn ≤ 58 ∧ ks.length = nn - 55 ∧
    (∀ tl, pSize nn (ks ++ tl) = .ok (q, ks.length)) ∧ (∀ j, j < ks.length → pSize nn (ks.take j) = .error 22) := by
  unfold headB
  by_cases h55 : q ≤ 55
  · rw [if_pos h55]
    refine ⟨_, q, [], rfl, ?_, by omega, by simp; omega, fun tl => ?_, fun j hj => by simp at hj⟩
    · rw [UInt8.toNat_ofNat']
      split <;> omega
    · rw [pSize, if_pos h55]
      rfl
  · rw [if_neg h55]
    obtain ⟨k, hk⟩ : ∃ k, k = numN q := ⟨_, rfl⟩
    have hk3 : 1 ≤ k ∧ k ≤ 3 ∧ q < 256 ^ k ∧ 256 ^ (k - 1) ≤ q := by
      rw [hk]
      unfold numN
      rw [if_neg (by omega)]
      by_cases h1 : q < 256
      · rw [if_pos h1]; simp; omega
      · rw [if_neg h1]
        by_cases h2 : q < 65536
        · rw [if_pos h2]; simp; omega
        · rw [if_neg h2, if_pos (by omega)]; simp; omega
    obtain ⟨k1, k3, klt, kge⟩ := hk3
    rw [← hk]
    have hbl := beBytes_length k q
    have hbv := beL_beBytes k q klt
    have hh : (beBytes k q).headD 0 ≠ 0 := by
      intro h
      cases hb : beBytes k q with
      | nil => rw [hb] at hbl; simp at hbl; omega
      | cons y ys =>
        rw [hb] at h hbl hbv
        simp only [List.headD_cons] at h
        subst h
        rw [beL] at hbv
        have h5 := beL_bd ys 0 0 (by decide)
        simp only [List.length_cons] at hbl
        have h6 : ys.length = k - 1 := by omega
        rw [Nat.zero_add, h6] at h5
        simp only [Nat.zero_mul, UInt8.toNat_zero, Nat.zero_add] at hbv
        rw [hbv] at h5
        omega
    refine ⟨_, 55 + k, beBytes k q, rfl, ?_, by omega, by omega, fun tl => ?_, fun j hj => ?_⟩
    · rw [UInt8.toNat_ofNat']
      split <;> omega
    · have e1 : (beBytes k q ++ tl).take (55 + k - 55) = beBytes k q := by
        rw [show 55 + k - 55 = (beBytes k q).length from by omega]
        exact List.take_left
      have e2 : (beBytes k q ++ tl).headD 0 = (beBytes k q).headD 0 := by
        cases hb : beBytes k q with
        | nil => rw [hb] at hbl; simp at hbl; omega
        | cons y ys => rfl
      rw [pSize, if_neg (by omega), if_neg (by omega), if_neg (by rw [List.length_append]; omega), e1, e2, hbv, if_neg (by
        rintro (h | h)
        · exact hh h
        · omega), hbl, show 55 + k - 55 = k from by omega]
    · rw [pSize, if_neg (by omega), if_neg (by omega), if_pos (by rw [List.length_take]; omega)]

theorem encT_pos (t : Tree) : 1 ≤ (encT t).length := by
  rw [encT_length]
  split
  · omega
  · split <;> omega

mutual
theorem encT_parse : ∀ (t : Tree) (deep wt n : Nat) (more : List UInt8), deep ≤ 8 → lookT deep wt t = .ok n → (bodyT t).length ≤ 16777215 → pItem (8 - deep) (encT t ++ more) = .ok (t, (encT t).length)
  | .mk l b its, deep, wt, n, more, hd, h, hb => by
    have hfm := look_form h
    have hrec : ∀ d, 8 - deep = d + 1 → ∀ f, (encL its).length ≤ f → pLoop (pItem d) f (encL its) = .ok its := by
      intro d hdd f hf
      have h2 := h
      rw [lookT] at h2
      split at h2
      · cases h2
      · split at h2
        · cases h2
        · split at h2
          · cases h2
          · have := encL_parse its (deep + 1) _ n f (by omega) h2 (by simp only [bodyT, List.length_append] at hb; omega) hf
            rw [show 8 - (deep + 1) = d from by omega] at this
            exact this
    have hpi : ∀ (lst : Option (List UInt8 → Except Int (List Tree))), (l = true → ∃ f, lst = some f ∧ f (encL its) = .ok its) → pHead lst (encT (.mk l b its) ++ more) = .ok (.mk l b its, (encT (.mk l b its)).length) := by
      intro lst hlst
      cases hp : plainT (.mk l b its) with
      | true =>
        have he : encT (.mk l b its) = b := by rw [encT, if_pos hp]
        simp only [plainT, Bool.and_eq_true, beq_iff_eq, Bool.not_eq_true', decide_eq_true_eq] at hp
        obtain ⟨⟨rfl, h1⟩, h2⟩ := hp
        have hi := hfm.2 rfl
        subst hi
        match b, h1 with
        | [x], _ =>
          rw [he]
          simp only [List.headD_cons] at h2
          simp [pHead, h2]
      | false =>
        have he : encT (.mk l b its) = headB l (b ++ encL its).length ++ (b ++ encL its) := by rw [encT, if_neg (by rw [hp]; decide)]
        have hq : (b ++ encL its).length ≤ 16777215 := hb
        obtain ⟨c, nn, ks, hh, hc, hn58, hks, hsz, _⟩ := head_read l _ hq
        rw [he, hh]
        simp only [List.cons_append, List.append_assoc]
        generalize hQ : (b ++ encL its).length = q at *
        have hc1 : ¬ c.toNat < 128 := by rw [hc]; split <;> omega
        have hlen : (c :: (ks ++ (b ++ encL its))).length = 1 + ks.length + q := by simp only [List.length_cons, List.length_append] at hQ ⊢; omega
        rw [hlen]
        have hsz1 := hsz (b ++ (encL its ++ more))
        have hdr : (ks ++ (b ++ (encL its ++ more))).drop ks.length = b ++ (encL its ++ more) := List.drop_left
        have hfit : ¬ (ks ++ (b ++ (encL its ++ more))).length - ks.length < q := by simp only [List.length_append] at hQ ⊢; omega
        have htk : (b ++ (encL its ++ more)).take q = b ++ encL its := by
          rw [← List.append_assoc, ← hQ]
          exact List.take_left
        cases l with
        | false =>
          have hi := hfm.2 rfl
          subst hi
          have hc2 : ¬ 192 ≤ c.toNat := by rw [hc]; simp only [Bool.false_eq_true, if_false]; omega
          rw [pHead_text lst c _ hc1 hc2, show c.toNat - 128 = nn from by rw [hc]; simp, pText, hsz1]
          simp only
          rw [if_neg hfit, hdr, htk, if_neg, encL, List.append_nil]
          rintro ⟨h1, h2⟩
          simp only [encL, List.append_nil] at hQ
          have hb1 : b.length = 1 := by omega
          match b, hb1 with
          | [x], _ =>
            simp only [List.cons_append, List.headD_cons] at h2
            simp [plainT, h2] at hp
        | true =>
          have hb0 := hfm.1 rfl
          subst hb0
          have hc2 : 192 ≤ c.toNat := by rw [hc]; simp only [if_true]; omega
          obtain ⟨f, rfl, hf⟩ := hlst rfl
          rw [pHead_list (some f) c _ hc1 hc2, show c.toNat - 192 = nn from by rw [hc]; simp]
          simp only
          rw [pList, hsz1]
          simp only
          rw [if_neg hfit, hdr, htk, List.nil_append, hf]
    cases hdd : 8 - deep with
    | zero =>
      refine hpi none (fun hl => ?_)
      subst hl
      rw [lookT, if_pos ⟨rfl, by omega⟩] at h
      cases h
    | succ d => exact hpi _ (fun _ => ⟨_, rfl, hrec d hdd _ (Nat.le_refl _)⟩)
theorem encL_parse : ∀ (ts : List Tree) (deep wt n f : Nat), deep ≤ 8 → lookL deep wt ts = .ok n → (encL ts).length ≤ 16777215 → (encL ts).length ≤ f → pLoop (pItem (8 - deep)) f (encL ts) = .ok ts
  | [], deep, wt, n, f, hd, h, hb, hf => by
    rw [encL]
    cases f <;> simp [pLoop]
  | t :: ts, deep, wt, n, f, hd, h, hb, hf => by
    rw [lookL] at h
    split at h
    · cases h
    · rename_i m hm
      simp only [encL, List.length_append] at hb hf
      have hpos := encT_pos t
      have hbt := look_body hm
      cases f with
      | zero => omega
      | succ f =>
        have h1 := encT_parse t deep wt m (encL ts) hd hm (by omega)
        have h2 := encL_parse ts deep m n f hd h (by omega) (by omega)
        have hne : ¬ encL (t :: ts) = [] := by
          intro h
          have := congrArg List.length h
          simp only [encL, List.length_append, List.length_nil] at this
          omega
        rw [pLoop, if_neg hne, encL, h1]
        simp only
        rw [List.drop_left, h2]
end

end Go.Proofs.Ytfolidaonnblbaa
