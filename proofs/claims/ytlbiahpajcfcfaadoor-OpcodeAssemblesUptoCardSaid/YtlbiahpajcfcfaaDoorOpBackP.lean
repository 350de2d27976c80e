/- What is written of a code is read as that code. No program in sight. -/
import Derived.Test.YtlbiahpajcfcfaaDoorOpPrintP
import Derived.Test.YtlbiahpajcfcfaaDoorOpSplitP
namespace Go.Proofs.YtlbiahpajcfcfaaDoor
open Go Go.RowKit
set_option linter.unusedVariables false
set_option maxRecDepth 100000

def GoodW (w : List UInt8) : Prop := w ≠ [] ∧ ∀ c ∈ w, isBl c = false
theorem scan_word1 {w : List UInt8} (h : GoodW w) (pos : Nat) (cs : List UInt8) : scanW pos none (w ++ cs) = scanW (pos + w.length) (some (pos, w)) cs := by
  obtain ⟨b, bs, rfl⟩ : ∃ b bs, w = b :: bs := List.exists_cons_of_ne_nil h.1
  exact scanW_run_none b bs pos cs h.2
theorem scan_join : ∀ (ws : List (List UInt8)) (pos : Nat), (∀ w ∈ ws, GoodW w) → (scanW pos none (joinB ws)).map Prod.fst = ws
  | [], pos, _ => by simp [joinB, scanW]
  | [w], pos, h => by
    have h1 := scan_word1 (h w (by simp)) pos []
    rw [List.append_nil] at h1
    show (scanW pos none w).map Prod.fst = _
    rw [h1]
    simp [scanW]
  | w :: x :: ws, pos, h => by
    have h1 := scan_word1 (h w (by simp)) pos (32 :: joinB (x :: ws))
    show (scanW pos none (w ++ 32 :: joinB (x :: ws))).map Prod.fst = _
    rw [h1]
    have hb : isBl 32 = true := by decide
    simp only [scanW, hb, if_true, List.map_cons]
    rw [scan_join (x :: ws) _ (fun w hw => h w (List.mem_cons_of_mem _ hw))]

theorem digits_good (u : Nat) : GoodW (Lib.decDigits u) := by
  rw [Lib.decDigits_eq]
  constructor
  · have : Lib.nDigits u ≠ 0 := by have := Lib.nDigits_pos u; omega
    intro h
    have := congrArg List.length h
    simp at this
    omega
  · intro c hc
    simp only [List.mem_map] at hc
    obtain ⟨t, _, rfl⟩ := hc
    rw [Bool.eq_false_iff]
    intro h
    have h2 := (isBl_iff _).1 h
    unfold Lib.dg at h2
    rw [UInt8.toNat_ofNat'] at h2
    omega
theorem push_digits_good (u : Nat) : GoodW (pushW ++ Lib.decDigits u) := by
  refine ⟨by simp [pushW], fun c hc => ?_⟩
  rcases List.mem_append.1 hc with hc | hc
  · exact (by decide : ∀ c ∈ pushW, isBl c = false) c hc
  · exact (digits_good u).2 c hc
theorem byte_good : GoodW byteW := ⟨by decide, by decide⟩
theorem ofI_good {op : Nat} {i : InfoD} (h : ofI op = some i) : GoodW i.word := by
  unfold ofI at h
  split at h
  · injection h with h
    subst h
    exact ⟨(by decide : pushW ≠ []), (by decide : ∀ c ∈ pushW, isBl c = false)⟩
  · have h1 : ∀ r ∈ tbl, r.2.word ≠ [] := by decide
    have h2 : ∀ r ∈ tbl, ∀ c ∈ r.2.word, isBl c = false := by decide
    rw [Option.map_eq_some_iff] at h
    obtain ⟨r, hr, rfl⟩ := h
    exact ⟨h1 r (List.mem_of_find?_eq_some hr), h2 r (List.mem_of_find?_eq_some hr)⟩
theorem tellP_good {x : UInt8} {ys : List UInt8} : ∀ s ∈ tellP ((x :: ys).take (pieceN (x :: ys))), GoodW s := by
  intro s hs
  cases h : pieceI (x :: ys) with
  | none =>
    rw [tell_none h] at hs
    simp only [List.mem_cons, List.not_mem_nil, or_false] at hs
    rcases hs with rfl | rfl
    · exact byte_good
    · exact digits_good _
  | some i =>
    have hp := pieceI_behind h
    have hw := ofI_good hp.1
    by_cases h0 : i.behind = 0
    · rw [tell_bare h h0] at hs
      simp only [List.mem_cons, List.not_mem_nil, or_false] at hs
      subst hs
      exact hw
    · rw [tell_own h h0] at hs
      simp only [tellI, List.mem_cons, List.not_mem_nil, or_false] at hs
      rcases hs with rfl | rfl
      · split
        · rename_i hc
          rw [hc.1]
          exact push_digits_good _
        · exact hw
      · exact digits_good _
theorem tells_good : ∀ (n : Nat) (xs : List UInt8), xs.length ≤ n → ∀ s ∈ tells xs, GoodW s
  | _, [], _ => by simp [tells, pieces_nil]
  | 0, x :: ys, h => by simp at h
  | n + 1, x :: ys, h => by
    have hp := pieceN_pos (x :: ys)
    have hl : ((x :: ys).drop (pieceN (x :: ys))).length ≤ n := by
      rw [List.length_drop]
      simp only [List.length_cons] at h ⊢
      omega
    rw [tells_cons]
    intro s hs
    rcases List.mem_append.1 hs with hs | hs
    · exact tellP_good s hs
    · exact tells_good n _ hl s hs

/-! ### Each piece is read as it was -/
theorem simpleG_push {w : List UInt8} (h : w.take 4 = pushW) : simpleG w = none := by
  unfold simpleG
  have e : tbl.find? (fun r => r.2.word == w && r.2.behind == 0) = none := by
    rw [List.find?_eq_none]
    intro r hr hc
    have h1 : r.2.word = w ∧ r.2.behind = 0 := by simpa using hc
    have h2 : ∀ r ∈ tbl, r.2.word.take 4 ≠ pushW := by decide
    exact h2 r hr (by rw [h1.1]; exact h)
  rw [e]
  rfl
theorem simple_tbl : ∀ r ∈ tbl, r.2.behind = 0 → simpleG r.2.word = some r.1 := by decide +kernel
theorem own_tbl : ∀ r ∈ tbl, r.2.behind ≠ 0 → (r.1 = 49 ∧ r.2.word = dupW ∧ r.2.behind = 1) ∨ (r.1 = 50 ∧ r.2.word = swapW ∧ r.2.behind = 1) := by decide
theorem simple_byte : simpleG byteW = none := by decide +kernel
theorem simple_dup : simpleG dupW = none := by decide +kernel
theorem simple_swap : simpleG swapW = none := by decide +kernel
theorem wide_not {w : List UInt8} (h : w.take 4 ≠ pushW) : wideG w = none := by unfold wideG; rw [if_neg h]
theorem wide_push : wideG pushW = some 0 := by unfold wideG; rw [if_pos (by decide), if_pos (by decide)]
theorem wide_pushk {k : Nat} (h1 : 1 ≤ k) (h8 : k ≤ 8) : wideG (pushW ++ Lib.decDigits k) = some k := by
  have hg := (digits_good k).1
  have hl : (Lib.decDigits k).length ≠ 0 := fun h => hg (List.eq_nil_of_length_eq_zero h)
  unfold wideG
  rw [if_pos (by simp [pushW]), if_neg (by rw [List.length_append]; simp [pushW]; omega)]
  have e : (pushW ++ Lib.decDigits k).drop 4 = Lib.decDigits k := by simp [pushW]
  rw [e, parW_digits (by omega), Option.bind_some, if_neg (by omega)]
theorem push_own {own : List UInt8} {k k0 : Nat} (hk : own.length = k) (h1 : 1 ≤ k) (h8 : k ≤ 8) (h0 : (if k0 = 0 then leastN (wval own) else k0) = k) (hl : leastN (wval own) ≤ k) : pushG (wval own) k0 = some (UInt8.ofNat (32 + k - 1) :: own) := by
  have e : pushG (wval own) k0 = if k < leastN (wval own) then none else some (UInt8.ofNat (32 + k - 1) :: (be 8 (wval own)).drop (8 - k)) := by rw [← h0]; rfl
  rw [e, if_neg (by omega)]
  congr 2
  have hb := be_add k (8 - k) (wval own)
  rw [show 8 - k + k = 8 by omega, be_wval k own hk] at hb
  rw [hb]
  exact List.drop_left' (be_length _ _)
theorem wbytes_wval_len' {b : List UInt8} (h : b.length ≤ 8) : (wbytes (wval b)).length ≤ b.length := by
  have e : wbytes (wval b) = strip b := by
    rw [← wval_strip b]
    exact wbytes_wval ((isWord_iff _).2 ⟨Nat.le_trans (strip_len b) h, strip_head b⟩)
  rw [e]
  exact strip_len b

/-- One piece's words, at the front of a list of words. -/
theorem tell_asm {x : UInt8} {ys : List UInt8} {s : Nat} {R : List (List UInt8)} {l : List (List UInt8 × Nat)} {code : List UInt8} (hl : l.map Prod.fst = tellP ((x :: ys).take (pieceN (x :: ys))) ++ R) (hc : code.length + pieceN (x :: ys) ≤ 256) :
    ∃ l', l'.map Prod.fst = R ∧ asmL s l code = asmL s l' (code ++ (x :: ys).take (pieceN (x :: ys))) := by
  have two : ∀ (w v b : List UInt8), (x :: ys).take (pieceN (x :: ys)) = b → l.map Prod.fst = [w, v] ++ R → simpleG w = none → takesN w = true → (parW v).bind (numG w) = some b → ∃ l', l'.map Prod.fst = R ∧ asmL s l code = asmL s l' (code ++ (x :: ys).take (pieceN (x :: ys))) := by
    intro w v b hb hl h1 h2 h3
    have hbl : b.length = pieceN (x :: ys) := by rw [← hb, List.length_take]; have := pieceN_le x ys; simp only [List.length_cons]; omega
    cases l with
    | nil => simp at hl
    | cons a l =>
      cases l with
      | nil => simp at hl
      | cons a2 l =>
        obtain ⟨w', p⟩ := a
        obtain ⟨v', q⟩ := a2
        simp only [List.map_cons, List.cons_append, List.nil_append, List.cons.injEq] at hl
        obtain ⟨rfl, rfl, hl⟩ := hl
        refine ⟨l, hl, ?_⟩
        rw [asm_num h1 h2 h3, if_neg (by omega), hb]
  cases h : pieceI (x :: ys) with
  | none =>
    have e1 : pieceN (x :: ys) = 1 := by simp [pieceN, h]
    rw [tell_none h] at hl
    refine two byteW (Lib.decDigits x.toNat) [x] (by rw [e1]; rfl) hl simple_byte (by decide +kernel) ?_
    have hx := x.toNat_lt
    rw [parW_digits (by omega), Option.bind_some]
    unfold numG
    rw [wide_not (by decide)]
    simp only
    rw [if_neg (by omega), if_neg (by decide), if_neg (by decide)]
    simp
  | some i =>
    obtain ⟨hp1, hp2, hp3⟩ := pieceI_behind h
    have e1 : pieceN (x :: ys) = i.behind + 1 := by simp [pieceN, h]
    by_cases h0 : i.behind = 0
    · rw [tell_bare h h0] at hl
      have hs : simpleG i.word = some x.toNat := by
        unfold ofI at hp1
        split at hp1
        · injection hp1 with hp1; subst hp1; simp at h0
        · rw [Option.map_eq_some_iff] at hp1
          obtain ⟨r, hr, rfl⟩ := hp1
          have hr1 := List.mem_of_find?_eq_some hr
          have hr2 := List.find?_some hr
          have hr3 : r.1 = x.toNat := by simpa using hr2
          rw [← hr3]
          exact simple_tbl r hr1 h0
      cases l with
      | nil => simp at hl
      | cons a l =>
        obtain ⟨w', p⟩ := a
        simp only [List.map_cons, List.cons_append, List.nil_append, List.cons.injEq] at hl
        obtain ⟨rfl, hl⟩ := hl
        refine ⟨l, hl, ?_⟩
        rw [asm_simple hs, if_neg (by omega), e1, h0]
        simp
    · rw [tell_own h h0] at hl
      have hown : (ys.take i.behind).length = i.behind := by rw [List.length_take]; omega
      have htk : (x :: ys).take (pieceN (x :: ys)) = x :: ys.take i.behind := by rw [e1, List.take_succ_cons]
      obtain ⟨own, ho⟩ : ∃ own, own = ys.take i.behind := ⟨_, rfl⟩
      rw [← ho] at hown htk hl
      have hv : wval own < 18446744073709551616 := wval_lt8 (by omega)
      have hle : leastN (wval own) ≤ i.behind := by
        have := wbytes_wval_len' (b := own) (by omega)
        unfold leastN
        omega
      have hcase : (32 ≤ x.toNat ∧ x.toNat < 40 ∧ i.word = pushW ∧ i.behind = x.toNat - 32 + 1) ∨ (x.toNat = 49 ∧ i.word = dupW ∧ i.behind = 1) ∨ (x.toNat = 50 ∧ i.word = swapW ∧ i.behind = 1) := by
        unfold ofI at hp1
        split at hp1
        · rename_i hr
          injection hp1 with hp1
          subst hp1
          exact .inl ⟨hr.1, hr.2, rfl, rfl⟩
        · rw [Option.map_eq_some_iff] at hp1
          obtain ⟨r, hr, rfl⟩ := hp1
          have hr1 := List.mem_of_find?_eq_some hr
          have hr2 := List.find?_some hr
          have hr3 : r.1 = x.toNat := by simpa using hr2
          rw [← hr3]
          exact .inr (own_tbl r hr1 h0)
      rcases hcase with ⟨hx1, hx2, hw, hb⟩ | ⟨hx, hw, hb⟩ | ⟨hx, hw, hb⟩
      · have hx : UInt8.ofNat (32 + i.behind - 1) = x := by
          rw [show 32 + i.behind - 1 = x.toNat by omega]
          simp
        by_cases hlt : leastN (wval own) < i.behind
        · have et : tellI i own = [pushW ++ Lib.decDigits i.behind, Lib.decDigits (wval own)] := by unfold tellI; rw [if_pos ⟨hw, hlt⟩, hw]
          rw [et] at hl
          have hwk := wide_pushk (k := i.behind) (by omega) hp3
          refine two _ _ (x :: own) htk hl (simpleG_push (by simp [pushW])) (by unfold takesN; rw [hwk]; rfl) ?_
          rw [parW_digits hv, Option.bind_some]
          unfold numG
          rw [hwk]
          simp only
          rw [push_own hown (by omega) hp3 (by rw [if_neg h0]) hle, hx]
        · have et : tellI i own = [pushW, Lib.decDigits (wval own)] := by unfold tellI; rw [if_neg (fun h => hlt h.2), hw]
          rw [et] at hl
          refine two _ _ (x :: own) htk hl (simpleG_push (by decide)) (by unfold takesN; rw [wide_push]; rfl) ?_
          rw [parW_digits hv, Option.bind_some]
          unfold numG
          rw [wide_push]
          simp only
          rw [push_own hown (by omega) hp3 (by rw [if_pos rfl]; omega) hle, hx]
      · have hown1 : own.length = 1 := by omega
        obtain ⟨b, rfl⟩ : ∃ b, own = [b] := List.length_eq_one_iff.1 hown1
        have hvb : wval [b] = b.toNat := by simp [wval]
        have hb256 := b.toNat_lt
        have et : tellI i [b] = [dupW, Lib.decDigits (wval [b])] := by unfold tellI; rw [if_neg (fun h => absurd (hw.symm.trans h.1) (by decide)), hw]
        rw [et] at hl
        refine two _ _ _ htk hl simple_dup (by decide +kernel) ?_
        rw [parW_digits hv, Option.bind_some, hvb]
        unfold numG
        rw [wide_not (by decide)]
        simp only
        rw [if_neg (by omega), if_pos trivial]
        have : x = 49 := by apply UInt8.toNat_inj.1; rw [hx]; rfl
        rw [this]
        simp
      · have hown1 : own.length = 1 := by omega
        obtain ⟨b, rfl⟩ : ∃ b, own = [b] := List.length_eq_one_iff.1 hown1
        have hvb : wval [b] = b.toNat := by simp [wval]
        have hb256 := b.toNat_lt
        have et : tellI i [b] = [swapW, Lib.decDigits (wval [b])] := by unfold tellI; rw [if_neg (fun h => absurd (hw.symm.trans h.1) (by decide)), hw]
        rw [et] at hl
        refine two _ _ _ htk hl simple_swap (by decide +kernel) ?_
        rw [parW_digits hv, Option.bind_some, hvb]
        unfold numG
        rw [wide_not (by decide)]
        simp only
        rw [if_neg (by omega), if_neg (by decide), if_pos trivial]
        have : x = 50 := by apply UInt8.toNat_inj.1; rw [hx]; rfl
        rw [this]
        simp
theorem tells_asm : ∀ (n : Nat) (xs : List UInt8), xs.length ≤ n → ∀ (s : Nat) (l : List (List UInt8 × Nat)) (code : List UInt8), l.map Prod.fst = tells xs → code.length + xs.length ≤ 256 → asmL s l code = (code ++ xs, 0, 0)
  | _, [], _, s, l, code, hl, _ => by
    have : l = [] := by simpa [tells, pieces_nil] using hl
    subst this
    simp [asmL]
  | 0, x :: ys, h, _, _, _, _, _ => by simp at h
  | n + 1, x :: ys, h, s, l, code, hl, hc => by
    have hp := pieceN_pos (x :: ys)
    have hpl := pieceN_le x ys
    have hln : ((x :: ys).drop (pieceN (x :: ys))).length ≤ n := by
      rw [List.length_drop]
      simp only [List.length_cons] at h ⊢
      omega
    rw [tells_cons] at hl
    simp only [List.length_cons] at hc
    obtain ⟨l', hl', he⟩ := tell_asm (s := s) (code := code) hl (by omega)
    rw [he, tells_asm n _ hln s l' _ hl' (by rw [List.length_append, List.length_take, List.length_drop]; simp only [List.length_cons]; omega), List.append_assoc, List.take_append_drop]
/-- What is written of a code is read as that code. -/
theorem asm_print {xs : List UInt8} (h : xs.length ≤ 256) : asmT (printL xs) = (xs, 0, 0) := by
  unfold asmT
  have hw : (wordsL (printL xs)).map Prod.fst = tells xs := scan_join (tells xs) 0 (tells_good xs.length xs (Nat.le_refl _))
  have := tells_asm xs.length xs (Nat.le_refl _) (printL xs).length (wordsL (printL xs)) [] hw (by simpa using h)
  simpa using this

end Go.Proofs.YtlbiahpajcfcfaaDoor
