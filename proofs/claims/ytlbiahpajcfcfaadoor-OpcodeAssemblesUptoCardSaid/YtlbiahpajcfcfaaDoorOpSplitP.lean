/- The words of a text, as a range over its runes finds them. No program in sight. -/
import Derived.Test.YtlbiahpajcfcfaaDoorOpPure2
import Derived.Laws.RangeAny
namespace Go.Proofs.YtlbiahpajcfcfaaDoor
open Go Go.RowKit
set_option linter.unusedVariables false
set_option maxRecDepth 100000

theorem decode_span (s : ByteArray) (pos : Nat) (h : pos < s.size) (ha : 128 ≤ (s[pos]'h).toNat) : ∀ k, 1 ≤ k → k < (Utf8.decode s pos).2 → pos + k < s.size ∧ 128 ≤ (s.get! (pos + k)).toNat := by
  have hn : ¬ (s[pos]'h).toNat < 128 := by omega
  simp only [Utf8.decode, get_at s pos h, hn, if_false]
  repeat' split
  all_goals intro k h1 h2
  all_goals simp only [Bool.and_eq_true, decide_eq_true_eq, beq_iff_eq] at *
  all_goals first
    | omega
    | (have hk : k = 1 ∨ k = 2 ∨ k = 3 := by omega
       rcases hk with rfl | rfl | rfl <;> first | omega | (constructor <;> omega))
theorem get_list (s : ByteArray) (k : Nat) (h : k < s.size) : s.data.toList[k]? = some (s.get! k) := by
  have h2 : k < s.data.size := h
  rw [ByteArray.get!, getElem!_pos s.data k h2, Array.getElem?_toList]
  exact Array.getElem?_eq_getElem h2
theorem isBl_iff (c : UInt8) : isBl c = true ↔ c.toNat = 32 ∨ c.toNat = 10 := by
  unfold isBl
  rw [Bool.or_eq_true, beq_iff_eq, beq_iff_eq, ← UInt8.toNat_inj, ← UInt8.toNat_inj]
  rfl
/-- A rune of a text: a blank is one byte, any other has no blank among its bytes. -/
theorem decode_bl (s : ByteArray) (pos : Nat) (h : pos < s.size) :
    1 ≤ (Utf8.decode s pos).2 ∧ pos + (Utf8.decode s pos).2 ≤ s.size ∧
    ((Utf8.decode s pos).1 = 32 ∨ (Utf8.decode s pos).1 = 10 → (Utf8.decode s pos).2 = 1 ∧ ∃ c, s.data.toList[pos]? = some c ∧ isBl c = true) ∧
    (¬ ((Utf8.decode s pos).1 = 32 ∨ (Utf8.decode s pos).1 = 10) → ∀ k, k < (Utf8.decode s pos).2 → ∃ c, s.data.toList[pos + k]? = some c ∧ isBl c = false) := by
  by_cases ha : (s[pos]'h).toNat < 128
  · have hd := decode_ascii s pos h ha
    have hg : s.get! pos = s[pos]'h := get_at s pos h
    have hl := get_list s pos h
    rw [hg] at hl
    rw [hd]
    refine ⟨Nat.le_refl _, by simp only; omega, fun hb => ⟨rfl, _, hl, (isBl_iff _).2 hb⟩, fun hb k hk => ?_⟩
    have : k = 0 := by simp only at hk; omega
    subst this
    exact ⟨_, hl, by rw [Bool.eq_false_iff]; intro hc; exact hb ((isBl_iff _).1 hc)⟩
  · have hh := decode_high s pos h (by omega)
    have hs := decode_span s pos h (by omega)
    refine ⟨hh.2, ?_, fun hb => by omega, fun _ k hk => ?_⟩
    · by_cases h1 : (Utf8.decode s pos).2 = 1
      · omega
      · have := (hs ((Utf8.decode s pos).2 - 1) (by omega) (by omega)).1
        omega
    · by_cases hk0 : k = 0
      · subst hk0
        refine ⟨_, get_list s pos h, ?_⟩
        rw [Bool.eq_false_iff]
        intro hc
        have := (isBl_iff _).1 hc
        have hg : s.get! pos = s[pos]'h := get_at s pos h
        rw [hg] at this
        omega
      · obtain ⟨h1, h2⟩ := hs k (by omega) hk
        refine ⟨_, get_list s (pos + k) h1, ?_⟩
        rw [Bool.eq_false_iff]
        intro hc
        have := (isBl_iff _).1 hc
        omega

theorem scanW_run_some : ∀ (bs : List UInt8) (pos f : Nat) (w cs : List UInt8), (∀ c ∈ bs, isBl c = false) → scanW pos (some (f, w)) (bs ++ cs) = scanW (pos + bs.length) (some (f, w ++ bs)) cs
  | [], pos, f, w, cs, _ => by simp
  | b :: bs, pos, f, w, cs, h => by
    have hb : isBl b = false := h b (by simp)
    rw [List.cons_append, scanW, hb, if_neg (by simp), scanW_run_some bs (pos + 1) f (w ++ [b]) cs (fun c hc => h c (by simp [hc]))]
    rw [show pos + 1 + bs.length = pos + (b :: bs).length by simp only [List.length_cons]; omega, List.append_assoc]
    rfl
theorem scanW_run_none (b : UInt8) (bs : List UInt8) (pos : Nat) (cs : List UInt8) (h : ∀ c ∈ b :: bs, isBl c = false) : scanW pos none (b :: bs ++ cs) = scanW (pos + (b :: bs).length) (some (pos, b :: bs)) cs := by
  have hb : isBl b = false := h b (by simp)
  rw [List.cons_append, scanW, hb, if_neg (by simp), scanW_run_some bs (pos + 1) pos [b] cs (fun c hc => h c (by simp [hc]))]
  rw [show pos + 1 + bs.length = pos + (b :: bs).length by simp only [List.length_cons]; omega]
  rfl
theorem scanW_tail : ∀ (l : List UInt8) (pos : Nat) (o : Option (Nat × List UInt8)), scanW pos o (l ++ [32]) = scanW pos o l
  | [], pos, none => by simp [scanW, isBl]
  | [], pos, some (f, w) => by simp [scanW, isBl]
  | c :: cs, pos, none => by
    rw [List.cons_append]
    simp only [scanW]
    split <;> exact scanW_tail cs _ _
  | c :: cs, pos, some (f, w) => by
    rw [List.cons_append]
    simp only [scanW]
    split
    · rw [scanW_tail cs _ _]
    · exact scanW_tail cs _ _

/-- The state of the scan at a place: where the word began that it is in. -/
def stO (L : List UInt8) (pos : Nat) (o : Option Nat) : Option (Nat × List UInt8) := o.map fun f => (f, (L.drop f).take (pos - f))
theorem scan_blank {L : List UInt8} {pos : Nat} {c : UInt8} (hc : L[pos]? = some c) (hb : isBl c = true) :
    (scanW pos none (L.drop pos) = scanW (pos + 1) none (L.drop (pos + 1))) ∧ ∀ f w, scanW pos (some (f, w)) (L.drop pos) = (w, f) :: scanW (pos + 1) none (L.drop (pos + 1)) := by
  have hlt : pos < L.length := (List.getElem?_eq_some_iff.1 hc).1
  have hd : L.drop pos = c :: L.drop (pos + 1) := by
    rw [List.drop_eq_getElem_cons hlt, (List.getElem?_eq_some_iff.1 hc).2]
  rw [hd]
  constructor
  · simp only [scanW]; rw [if_pos hb]
  · intro f w; simp only [scanW]; rw [if_pos hb]
theorem scan_word {L : List UInt8} {pos wd : Nat} (h1 : 1 ≤ wd) (hL : pos + wd ≤ L.length) (hb : ∀ k, k < wd → ∃ c, L[pos + k]? = some c ∧ isBl c = false) :
    (scanW pos none (L.drop pos) = scanW (pos + wd) (stO L (pos + wd) (some pos)) (L.drop (pos + wd))) ∧ ∀ f, f ≤ pos → scanW pos (stO L pos (some f)) (L.drop pos) = scanW (pos + wd) (stO L (pos + wd) (some f)) (L.drop (pos + wd)) := by
  obtain ⟨B, hB⟩ : ∃ B, B = (L.drop pos).take wd := ⟨_, rfl⟩
  have hBl : B.length = wd := by rw [hB]; simp; omega
  have hd : L.drop pos = B ++ L.drop (pos + wd) := by
    rw [hB]
    conv => lhs; rw [← List.take_append_drop wd (L.drop pos)]
    rw [List.drop_drop]
  have hall : ∀ c ∈ B, isBl c = false := by
    intro c hc
    obtain ⟨k, hk, rfl⟩ := List.getElem_of_mem hc
    obtain ⟨c', hc', hb'⟩ := hb k (by omega)
    have : B[k]? = some c' := by
      rw [hB, List.getElem?_take, if_pos (by omega), List.getElem?_drop]
      exact hc'
    rw [List.getElem?_eq_getElem hk] at this
    injection this with this
    rw [this]; exact hb'
  constructor
  · have hst : stO L (pos + wd) (some pos) = some (pos, B) := by
      simp only [stO, Option.map_some, Nat.add_sub_cancel_left, ← hB]
    rw [hst, hd]
    obtain ⟨b, bs, hBB⟩ : ∃ b bs, B = b :: bs := List.exists_cons_of_length_pos (by omega)
    have hall2 : ∀ c ∈ b :: bs, isBl c = false := by rw [← hBB]; exact hall
    have e := scanW_run_none b bs pos (L.drop (pos + wd)) hall2
    rw [← hBB, hBl] at e
    exact e
  · intro f hf
    have hst : stO L (pos + wd) (some f) = some (f, (L.drop f).take (pos - f) ++ B) := by
      simp only [stO, Option.map_some]
      congr 2
      rw [show pos + wd - f = (pos - f) + wd by omega, List.take_add, List.drop_drop, show f + (pos - f) = pos by omega, ← hB]
    rw [hst]
    conv => lhs; rw [hd]
    simp only [stO, Option.map_some]
    rw [scanW_run_some B pos f _ _ hall, hBl]

end Go.Proofs.YtlbiahpajcfcfaaDoor
