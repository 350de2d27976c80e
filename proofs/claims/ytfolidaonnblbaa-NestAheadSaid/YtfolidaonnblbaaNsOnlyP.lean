/- What is read is written as the same bytes: the plain law. -/
import Derived.Test.YtfolidaonnblbaaNsEnc
namespace Go.Proofs.Ytfolidaonnblbaa
open Go Go.RowKit
set_option linter.unusedVariables false

theorem be_inv : ∀ (k : Nat) (ys : List UInt8), ys.length = k → beBytes k (beL 0 ys) = ys
  | 0, ys, h => by rw [List.length_eq_zero_iff.1 h]; rfl
  | k + 1, ys, h => by
    rcases List.eq_nil_or_concat ys with rfl | ⟨zs, c, rfl⟩
    · simp at h
    · rw [List.concat_eq_append] at *
      have hz : zs.length = k := by simpa using h
      have hc := c.toNat_lt
      rw [beL_append, beBytes, show (beL 0 zs * 256 + c.toNat) / 256 = beL 0 zs from by omega, be_inv k zs hz]
      congr 2
      apply UInt8.toNat_inj.1
      rw [UInt8.toNat_ofNat']
      omega
theorem beL_lo : ∀ (xs : List UInt8) (a : Nat), a * 256 ^ xs.length ≤ beL a xs
  | [], a => by simp [beL]
  | x :: xs, a => by
    have h := beL_lo xs (a * 256 + x.toNat)
    rw [beL]
    refine Nat.le_trans ?_ h
    rw [List.length_cons, Nat.pow_succ, Nat.mul_comm (256 ^ xs.length) 256, ← Nat.mul_assoc]
    exact Nat.mul_le_mul_right _ (by omega)
theorem numN_be (ys : List UInt8) (h1 : 1 ≤ ys.length) (h3 : ys.length ≤ 3) (hh : ys.headD 0 ≠ 0) : numN (beL 0 ys) = ys.length := by
  have hb := beL_bd ys 0 0 (by decide)
  cases ys with
  | nil => simp at h1
  | cons y zs =>
    have hy : 1 ≤ y.toNat := by
      rcases Nat.eq_zero_or_pos y.toNat with h | h
      · exact absurd (UInt8.toNat_inj.1 (by simpa using h)) hh
      · exact h
    have hl := beL_lo zs (0 * 256 + y.toNat)
    rw [Nat.zero_mul, Nat.zero_add] at hl
    have hl2 : 256 ^ zs.length ≤ beL 0 (y :: zs) := by
      rw [beL, Nat.zero_mul, Nat.zero_add]
      refine Nat.le_trans ?_ hl
      exact Nat.le_mul_of_pos_left _ hy
    rw [Nat.zero_add] at hb
    simp only [List.length_cons] at hb h3 ⊢
    generalize beL 0 (y :: zs) = v at *
    rcases (by omega : zs.length = 0 ∨ zs.length = 1 ∨ zs.length = 2) with h | h | h <;> rw [h] at hb hl2 ⊢ <;> simp at hb hl2 <;> unfold numN
    · rw [if_neg (by omega), if_pos (by omega)]
    · rw [if_neg (by omega), if_neg (by omega), if_pos (by omega)]
    · rw [if_neg (by omega), if_neg (by omega), if_neg (by omega), if_pos (by omega)]

/-- A head that was read is written so. -/
theorem head_back (l : Bool) (c : UInt8) (n : Nat) (r : List UInt8) (m k : Nat) (hc : c.toNat = (if l then 192 else 128) + n) (h : pSize n r = .ok (m, k)) : headB l m = c :: r.take k := by
  have h1 := pSize_ok h
  unfold headB
  rcases h1.2.2 with ⟨h2, rfl, rfl⟩ | ⟨h2, h3, hk, hm, h5, h6⟩
  · rw [if_pos h2, List.take_zero]
    congr 1
    apply UInt8.toNat_inj.1
    rw [UInt8.toNat_ofNat', hc]
    split <;> omega
  · have hl : (r.take k).length = k := by rw [List.length_take]; omega
    have hn : numN m = k := by
      rw [hm, numN_be (r.take k) (by omega) (by omega) (by
        cases r with
        | nil => exact absurd rfl h6
        | cons y ys =>
          cases k with
          | zero => omega
          | succ k => exact h6), hl]
    rw [if_neg (by omega), hn, hm, be_inv k _ hl]
    congr 1
    apply UInt8.toNat_inj.1
    rw [UInt8.toNat_ofNat', hc]
    split <;> omega

theorem pText_enc {n : Nat} {r : List UInt8} {t : Tree} {m : Nat} (c : UInt8) (hc : c.toNat = 128 + n) (h : pText n r = .ok (t, m)) :
    encT t = (c :: r).take m ∧ ∃ b, t = .mk false b [] ∧ b.length ≤ 16777215 ∧ max b.length 1 ≤ m := by
  unfold pText at h
  split at h
  · cases h
  · rename_i q k hs
    split at h
    · cases h
    · rename_i h2
      split at h
      · cases h
      · rename_i h3
        cases h
        have hk := pSize_ok hs
        have hle := pSize_le hs
        have hlen : ((r.drop k).take q).length = q := by rw [List.length_take, List.length_drop]; omega
        have hp : plainT (.mk false ((r.drop k).take q) []) = false := by
          simp only [plainT, Bool.not_false, Bool.true_and, hlen]
          by_cases h1 : q = 1
          · subst h1
            have : ¬ (r.drop k).headD 0 < 128 := fun h => h3 ⟨rfl, h⟩
            have e : ((r.drop k).take 1).headD 0 = (r.drop k).headD 0 := by cases r.drop k <;> rfl
            rw [e, decide_eq_false this]
            rfl
          · simp [h1]
        refine ⟨?_, _, rfl, by omega, by omega⟩
        rw [encT, if_neg (by rw [hp]; decide), encL, List.append_nil, hlen, head_back false c n r q k hc hs]
        rw [show 1 + k + q = (k + q) + 1 from by omega, List.take_succ_cons, List.cons_append]
        congr 1
        rw [List.take_add]

theorem pList_enc {f : List UInt8 → Except Int (List Tree)} {n : Nat} {r : List UInt8} {t : Tree} {m : Nat} (c : UInt8) (hc : c.toNat = 192 + n) (h : pList f n r = .ok (t, m))
    (hf : ∀ b l, f b = .ok l → encL l = b) : encT t = (c :: r).take m ∧ ∃ l q b, t = .mk true [] l ∧ f b = .ok l ∧ b.length = q ∧ q ≤ 16777215 ∧ 1 + q ≤ m := by
  unfold pList at h
  split at h
  · cases h
  · rename_i q k hs
    split at h
    · cases h
    · rename_i h2
      split at h
      · cases h
      · rename_i l hl
        cases h
        have hk := pSize_ok hs
        have hle := pSize_le hs
        have hlen : ((r.drop k).take q).length = q := by rw [List.length_take, List.length_drop]; omega
        have he := hf _ _ hl
        refine ⟨?_, l, q, _, rfl, hl, hlen, by omega, by omega⟩
        have hp : plainT (.mk true [] l) = false := rfl
        rw [encT, if_neg (by rw [hp]; decide), List.nil_append, he, hlen, head_back true c n r q k hc hs]
        rw [show 1 + k + q = (k + q) + 1 from by omega, List.take_succ_cons, List.cons_append]
        congr 1
        rw [List.take_add]

/-- Of a loop over items. -/
theorem pLoop_enc {p : List UInt8 → Except Int (Tree × Nat)} (hp : ∀ b t m, p b = .ok (t, m) → encT t = b.take m ∧ m ≤ b.length ∧ 1 ≤ m) : ∀ (f : Nat) (b : List UInt8) (l : List Tree), b.length ≤ f → pLoop p f b = .ok l → encL l = b
  | 0, b, l, hf, h => by
    have : b = [] := List.length_eq_zero_iff.1 (by omega)
    subst this
    simp only [pLoop] at h
    cases h
    rfl
  | f + 1, b, l, hf, h => by
    unfold pLoop at h
    split at h
    · rename_i hb
      cases h
      exact hb.symm
    · split at h
      · cases h
      · rename_i t n ht
        split at h
        · cases h
        · rename_i l' hl'
          cases h
          have h1 := hp _ _ _ ht
          rw [encL, h1.1, pLoop_enc hp f _ _ (by rw [List.length_drop]; omega) hl']
          exact List.take_append_drop n b

theorem pItem_enc : ∀ (d : Nat) (b : List UInt8) (t : Tree) (m : Nat), pItem d b = .ok (t, m) → encT t = b.take m
  | d, b, t, m, h => by
    have key : ∀ lst : Option (List UInt8 → Except Int (List Tree)), (∀ f, lst = some f → ∀ b l, f b = .ok l → encL l = b) → pHead lst b = .ok (t, m) → encT t = b.take m := by
      intro lst hf hh
      unfold pHead at hh
      split at hh
      · cases hh
      · rename_i c r
        split at hh
        · rename_i hc
          cases hh
          have hp : plainT (.mk false [c] []) = true := by simp [plainT, hc]
          rw [encT, if_pos hp]
          rfl
        · rename_i hc
          rw [UInt8.lt_iff_toNat_lt] at hc
          split at hh
          · rename_i hc2
            rw [UInt8.le_iff_toNat_le] at hc2
            split at hh
            · cases hh
            · exact (pList_enc c (by have : (192 : UInt8).toNat = 192 := rfl; omega) hh (hf _ rfl)).1
          · exact (pText_enc c (by have : (128 : UInt8).toNat = 128 := rfl; omega) hh).1
    cases d with
    | zero => exact key none (fun f hf => by cases hf) h
    | succ d =>
      refine key _ (fun f hf b l hl => ?_) h
      cases hf
      exact pLoop_enc (fun b t m h => ⟨pItem_enc d b t m h, (pItem_ok h).2, (pItem_ok h).1⟩) _ _ _ (Nat.le_refl _) hl

/-! ### The weights of what was read -/
mutual
/-- An item's weight, in a list. -/
def wgt : Tree → Nat
  | .mk l b its => (if l then 1 else max b.length 1) + wgtL its
def wgtL : List Tree → Nat
  | [] => 0
  | t :: ts => wgt t + wgtL ts
end
/-- Well formed, and so many lists more may stand in one another. -/
def fitL (fit : Tree → Prop) : List Tree → Prop
  | [] => True
  | t :: ts => fit t ∧ fitL fit ts
def fit : Nat → Tree → Prop
  | 0, .mk l b its => l = false ∧ its = []
  | d + 1, .mk l b its => (l = true → b = []) ∧ (l = false → its = []) ∧ fitL (fit d) its

theorem fit_look : ∀ (d : Nat) (t : Tree) (wt : Nat), d ≤ 7 → fit d t → wt + wgt t ≤ 16777215 → lookT (8 - d) wt t = .ok (wt + wgt t)
  | d, .mk l b its, wt, hd, hf, hw => by
    have h1 : ¬ ((l = true ∧ b ≠ []) ∨ (l = false ∧ its ≠ [])) := by
      cases d with
      | zero =>
        obtain ⟨rfl, rfl⟩ := hf
        simp
      | succ d =>
        obtain ⟨h1, h2, _⟩ := hf
        rintro (⟨a, b⟩ | ⟨a, b⟩)
        · exact b (h1 a)
        · exact b (h2 a)
    have h0 : ¬ (l = true ∧ 8 - d = 8) := by
      rintro ⟨rfl, h⟩
      have : d = 0 := by omega
      subst this
      obtain ⟨h, _⟩ := hf
      cases h
    have hwo : wtOf l (8 - d) wt b = wt + (if l then 1 else max b.length 1) := by
      unfold wtOf
      cases l <;> simp
      omega
    rw [wgt] at hw ⊢
    rw [lookT, if_neg h0, if_neg h1, hwo, if_neg (by omega)]
    have loop : ∀ (ts : List Tree) (wt : Nat) (d : Nat) (e : Nat), (∀ t ∈ ts, ∀ wt, wt + wgt t ≤ 16777215 → lookT e wt t = .ok (wt + wgt t)) → wt + wgtL ts ≤ 16777215 → lookL e wt ts = .ok (wt + wgtL ts) := by
      intro ts
      induction ts with
      | nil => intro wt d e _ _; rfl
      | cons t ts ih =>
        intro wt d e h hw
        rw [wgtL] at hw ⊢
        rw [lookL, h t (by simp) wt (by omega)]
        simp only
        rw [ih (wt + wgt t) d e (fun u hu => h u (by simp [hu])) (by omega), Nat.add_assoc]
    rw [loop its _ 0 _ ?_ (by omega), Nat.add_assoc]
    intro t ht wt hw
    cases d with
    | zero =>
      obtain ⟨_, rfl⟩ := hf
      simp at ht
    | succ d =>
      have hft : ∀ ts : List Tree, fitL (fit d) ts → ∀ u ∈ ts, fit d u := by
        intro ts
        induction ts with
        | nil => intro _ u hu; simp at hu
        | cons a ts' ih =>
          intro h u hu
          rcases List.mem_cons.1 hu with rfl | hu
          · exact h.1
          · exact ih h.2 u hu
      have := fit_look d t wt (by omega) (hft its hf.2.2 t ht) hw
      rw [show 8 - (d + 1) + 1 = 8 - d from by omega]
      exact this

theorem pLoop_fit {p : List UInt8 → Except Int (Tree × Nat)} {q : Tree → Prop} (hp : ∀ b t m, p b = .ok (t, m) → q t ∧ wgt t ≤ m ∧ m ≤ b.length ∧ 1 ≤ m) : ∀ (f : Nat) (b : List UInt8) (l : List Tree), b.length ≤ f → pLoop p f b = .ok l → fitL q l ∧ wgtL l ≤ b.length
  | 0, b, l, hf, h => by
    simp only [pLoop] at h
    cases h
    simp [fitL, wgtL]
  | f + 1, b, l, hf, h => by
    unfold pLoop at h
    split at h
    · cases h
      simp [fitL, wgtL]
    · split at h
      · cases h
      · rename_i t n ht
        split at h
        · cases h
        · rename_i l' hl'
          cases h
          have h1 := hp _ _ _ ht
          have h2 := pLoop_fit hp f _ _ (by rw [List.length_drop]; omega) hl'
          rw [List.length_drop] at h2
          refine ⟨⟨h1.1, h2.1⟩, ?_⟩
          rw [wgtL]
          omega

theorem pItem_fit : ∀ (d : Nat) (b : List UInt8) (t : Tree) (m : Nat), pItem d b = .ok (t, m) → fit d t ∧ wgt t ≤ m ∧ (t.l = true → wgtL t.its ≤ 16777215) ∧ (t.l = false → t.its = [] ∧ t.b.length ≤ 16777215) ∧ (bodyT t).length ≤ 16777215
  | d, b, t, m, h => by
    have key : ∀ lst : Option (List UInt8 → Except Int (List Tree)), (∀ f, lst = some f → 0 < d ∧ ∀ b l, f b = .ok l → encL l = b ∧ fitL (fit (d - 1)) l ∧ wgtL l ≤ b.length) → pHead lst b = .ok (t, m) →
        fit d t ∧ wgt t ≤ m ∧ (t.l = true → wgtL t.its ≤ 16777215) ∧ (t.l = false → t.its = [] ∧ t.b.length ≤ 16777215) ∧ (bodyT t).length ≤ 16777215 := by
      intro lst hf hh
      unfold pHead at hh
      split at hh
      · cases hh
      · rename_i c r
        split at hh
        · rename_i hc
          cases hh
          refine ⟨?_, by simp [wgt, wgtL], fun h => by simp [Tree.l] at h, fun _ => by simp [Tree.its, Tree.b], by simp [bodyT, encL]⟩
          cases d with
          | zero => exact ⟨rfl, rfl⟩
          | succ d => exact ⟨(fun h => by cases h), fun _ => rfl, trivial⟩
        · rename_i hc
          rw [UInt8.lt_iff_toNat_lt] at hc
          split at hh
          · rename_i hc2
            rw [UInt8.le_iff_toNat_le] at hc2
            split at hh
            · cases hh
            · rename_i f
              obtain ⟨hd, hf2⟩ := hf _ rfl
              obtain ⟨_, l, q, bb, rfl, hl, hbl, hq, hm⟩ := pList_enc c (by have : (192 : UInt8).toNat = 192 := rfl; omega) hh (fun b l h => (hf2 b l h).1)
              have h3 := hf2 _ _ hl
              refine ⟨?_, ?_, fun _ => ?_, fun h => by simp [Tree.l] at h, ?_⟩
              · cases d with
                | zero => omega
                | succ d => exact ⟨fun _ => rfl, (fun h => by cases h), h3.2.1⟩
              · rw [wgt]; simp only [if_true]; omega
              · simp only [Tree.its]; omega
              · simp only [bodyT, List.nil_append, h3.1]; omega
          · obtain ⟨_, bb, rfl, hb, hm⟩ := pText_enc c (by have : (128 : UInt8).toNat = 128 := rfl; omega) hh
            refine ⟨?_, ?_, fun h => by simp [Tree.l] at h, fun _ => ⟨rfl, hb⟩, ?_⟩
            · cases d with
              | zero => exact ⟨rfl, rfl⟩
              | succ d => exact ⟨(fun h => by cases h), fun _ => rfl, trivial⟩
            · rw [wgt, wgtL]; simp only [Bool.false_eq_true, if_false]; omega
            · simp only [bodyT, encL, List.append_nil]; omega
    cases d with
    | zero => exact key none (fun f hf => by cases hf) h
    | succ d =>
      refine key _ (fun f hf => ⟨by omega, fun b l hl => ?_⟩) h
      cases hf
      have h1 := pLoop_enc (fun b t m h => ⟨pItem_enc d b t m h, (pItem_ok h).2, (pItem_ok h).1⟩) _ _ _ (Nat.le_refl _) hl
      have h2 := pLoop_fit (q := fit d) (fun b t m h => ⟨(pItem_fit d b t m h).1, (pItem_fit d b t m h).2.1, (pItem_ok h).2, (pItem_ok h).1⟩) _ _ _ (Nat.le_refl _) hl
      exact ⟨h1, h2⟩

/-- What is read is written as the same bytes. -/
theorem decode_encode (b : List UInt8) (t : Tree) (h : pDecode b = .ok t) : pEncode t = .ok b := by
  unfold pDecode at h
  split at h
  · cases h
  · rename_i t' n hf
    split at h
    · cases h
    · rename_i hn
      cases h
      have hf' : pItem 8 b = .ok (t, n) := hf
      have h1 := pItem_enc 8 b t n hf'
      have h2 := (pItem_ok hf').2
      have h3 := pItem_fit 8 b t n hf'
      have hb : encT t = b := by rw [h1, List.take_of_length_le (by omega)]
      obtain ⟨l, bb, its⟩ := t
      obtain ⟨⟨g1, g2, g3⟩, _, g4, g5, g6⟩ := h3
      have hlk : ∃ q, lookT 0 0 (.mk l bb its) = .ok q := by
        rw [lookT, if_neg (by omega), if_neg (by
          rintro (⟨a, b⟩ | ⟨a, b⟩)
          · exact b (g1 a)
          · exact b (g2 a))]
        cases l with
        | false =>
          obtain ⟨e1, e2⟩ := g5 rfl
          simp only [Tree.its] at e1
          simp only [Tree.b] at e2
          subst e1
          simp only [wtOf, Bool.false_eq_true, if_false, Nat.zero_add]
          rw [if_neg (by omega)]
          exact ⟨_, rfl⟩
        | true =>
          have e1 := g4 rfl
          simp only [Tree.its] at e1
          simp only [wtOf, if_true]
          rw [if_neg (by omega)]
          have hall : ∀ (ts : List Tree) (wt : Nat), fitL (fit 7) ts → wt + wgtL ts ≤ 16777215 → lookL 1 wt ts = .ok (wt + wgtL ts) := by
            intro ts
            induction ts with
            | nil => intro wt _ _; rfl
            | cons t ts ih =>
              intro wt hf hw
              rw [wgtL] at hw ⊢
              rw [lookL, fit_look 7 t wt (by omega) hf.1 (by omega)]
              simp only
              rw [ih _ hf.2 (by omega), Nat.add_assoc]
          exact ⟨_, hall its 0 g3 (by omega)⟩
      obtain ⟨q, hq⟩ := hlk
      rw [pEncode, hq]
      simp only
      rw [if_neg (by omega), hb]

end Go.Proofs.Ytfolidaonnblbaa
