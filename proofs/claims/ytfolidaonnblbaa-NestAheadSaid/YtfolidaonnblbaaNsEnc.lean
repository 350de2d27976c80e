/- The program's Encode and Right. -/
import Derived.Test.YtfolidaonnblbaaNsWrite
import Derived.RegionTactic
namespace Go.Proofs.Ytfolidaonnblbaa
open Go.ChangeShapes Go.WideShapes Go.RowKit
set_option linter.unusedVariables false

theorem text_len (b : List UInt8) (t : Tree) (ht : t = .mk false b []) : (encT t).length ≤ 5 * max b.length 1 := by
  subst ht
  rw [encT_length]
  have h4 := numN_le (bodyT (.mk false b [])).length
  have hb : (bodyT (.mk false b [])).length = b.length := by simp [bodyT, encL]
  rw [hb] at h4 ⊢
  split
  · omega
  · split <;> omega
mutual
theorem look_len : ∀ (deep wt : Nat) (t : Tree) (n : Nat), lookT deep wt t = .ok n → wt ≤ n ∧ (encT t).length ≤ 5 * (n - wt) + (if deep = 0 then 5 else 0)
  | deep, wt, .mk l b its, n, h => by
    rw [lookT] at h
    split at h
    · cases h
    · split at h
      · cases h
      · rename_i h2
        split at h
        · cases h
        · have h3 := lookL_len (deep + 1) _ its n (by omega) h
          have h4 := numN_le (bodyT (.mk l b its)).length
          cases l with
          | false =>
            have hi : its = [] := by
              by_cases hh : its = []
              · exact hh
              · exact absurd (.inr ⟨rfl, hh⟩) h2
            subst hi
            have h5 := text_len b (.mk false b []) rfl
            simp only [wtOf, Bool.false_eq_true, if_false] at h3
            omega
          | true =>
            have hb : b = [] := by
              by_cases hh : b = []
              · exact hh
              · exact absurd (.inl ⟨rfl, hh⟩) h2
            subst hb
            have h6 : (bodyT (.mk true [] its)).length = (encL its).length := by simp [bodyT]
            have h5 := encT_length (.mk true [] its)
            rw [h6] at h5 h4
            have hp : plainT (.mk true [] its) = false := rfl
            rw [hp, if_neg (by decide)] at h5
            simp only [wtOf, if_true] at h3
            by_cases hd : deep = 0
            · simp only [hd, if_true] at h3 ⊢
              split at h5 <;> omega
            · simp only [hd, if_false] at h3 ⊢
              split at h5 <;> omega
theorem lookL_len : ∀ (deep wt : Nat) (ts : List Tree) (n : Nat), deep ≠ 0 → lookL deep wt ts = .ok n → wt ≤ n ∧ (encL ts).length ≤ 5 * (n - wt)
  | deep, wt, [], n, hd, h => by simp [lookL] at h; simp [encL]; omega
  | deep, wt, t :: ts, n, hd, h => by
    rw [lookL] at h
    split at h
    · cases h
    · rename_i m h2
      have h3 := look_len deep wt t m h2
      have h4 := lookL_len deep m ts n hd h
      rw [if_neg hd] at h3
      simp only [encL, List.length_append]
      omega
end
theorem look_small {deep wt : Nat} {t : Tree} {n : Nat} (h : lookT deep wt t = .ok n) : (encT t).length ≤ 83886080 := by
  have h1 := look_len _ _ _ _ h
  have h2 := lookT_le _ _ _ _ h
  have h3 : (if deep = 0 then 5 else 0) ≤ 5 := by split <;> omega
  omega
theorem look_form {deep wt : Nat} {l : Bool} {b : List UInt8} {its : List Tree} {n : Nat} (h : lookT deep wt (.mk l b its) = .ok n) : (l = true → b = []) ∧ (l = false → its = []) := by
  rw [lookT] at h
  split at h
  · cases h
  · split at h
    · cases h
    · rename_i h2
      refine ⟨fun hl => ?_, fun hl => ?_⟩
      · by_cases hh : b = []
        · exact hh
        · exact absurd (.inl ⟨hl, hh⟩) h2
      · by_cases hh : its = []
        · exact hh
        · exact absurd (.inr ⟨hl, hh⟩) h2
theorem look_body {deep wt : Nat} {t : Tree} {n : Nat} (h : lookT deep wt t = .ok n) : (bodyT t).length ≤ (encT t).length := by
  rw [encT_length]
  split
  · rename_i hp
    cases t with
    | mk l b its =>
      simp only [plainT, Bool.and_eq_true, beq_iff_eq, Bool.not_eq_true'] at hp
      have h2 := (look_form h).2 hp.1.1
      subst h2
      simp [bodyT, encL, hp.1.2]
  · split <;> omega

/-- What Encode answers, of the program and of the reference. -/
def EncP (t : Tree) (w : World) (r : Ending) (w' : World) : Prop :=
  match pEncode t with
  | .ok out => ∃ A n c, r = .returned (.tuple #[.slice A n c, .int .i64 0]) ∧ Own w' w.heap.size 5 1 A n c (bs out) ∧ Below w.heap.size w w'
  | .error e => r = .returned (.tuple #[.slice none 0 0, .int .i64 e]) ∧ Below w.heap.size w w'

set_option maxHeartbeats 1000000 in
set_option maxRecDepth 100000 in
theorem nest_Encode (t : Tree) (P : Nat → Prop) (v0 v1 v2 : Value) (w : World) (ht : RdT w P t v0 v1 v2) :
    Calls Try.prog 19 #[.agg #[v0, v1, v2]] w (EncP t w) := by
  obtain ⟨a1, a2, a3, a4, a5, a6, rfl, rfl, rfl⟩ := ht.shape
  have ht0 : RdT w (fun g => g < w.heap.size) t (.bool t.l) (.slice a1 a2 a3) (.slice a4 a5 a6) := ht.mono fun g h _ => h
  have HT := Go.Lib.hid ht0
  clear ht ht0
  obtain ⟨w1, hw1⟩ : ∃ w1, w1 = (w.alloc (.cells #[.bool t.l, .slice a1 a2 a3, .slice a4 a5 a6] 25)).alloc (.cells #[.int .i64 0, .int .i64 0] 50) := ⟨_, rfl⟩
  have hb1 : Below w.heap.size w w1 := by rw [hw1]; exact bal (bal (Below.refl _ _) _) _
  have hl1 : Lkr w1 (w.heap.size + 1) (0 : Nat) 0 := by
    rw [hw1]
    have := Go.heap_alloc_new (w.alloc (.cells #[.bool t.l, .slice a1 a2 a3, .slice a4 a5 a6] 25)) (.cells #[.int .i64 0, .int .i64 0] 50)
    simpa [Lkr] using this
  have hx1 : w1.heap[w.heap.size]? = some (.cells #[.bool t.l, .slice a1 a2 a3, .slice a4 a5 a6] 25 (0, 0)) := by
    rw [hw1]
    exact (Below.heap_alloc _ _ w.heap.size (by simp)).trans (Go.heap_alloc_new w _)
  have HW1 := Go.Lib.hid hw1
  have HB1 := Go.Lib.hid hb1
  have HL1 := Go.Lib.hid hl1
  have HX1 := Go.Lib.hid hx1
  clear hw1 hb1 hl1 hx1
  go_enter Try.func19, Try.ntmps19
  go_wp2_with fail
  refine (nest_look t (fun g => g < w.heap.size) _ _ _ (w.heap.size + 1) 0 0 _ _ (HT.out.below (bal (bal (Below.refl _ _) _) _)) (by rw [← HW1.out]; exact HL1.out) (by omega) (by omega) rfl (fun g hg => by omega)).mono ?_
  rintro r w2 ⟨rfl, hk2, wt2, e2, hl2, hm2⟩
  rw [← HW1.out] at hk2
  have hb2 : Below w.heap.size w w2 := Kp.below HB1.out hk2 (fun i h => by omega)
  have hx2 := (hk2.block w.heap.size (Array.getElem?_eq_some_iff.1 HX1.out).1 (by omega)).trans HX1.out
  obtain ⟨l0, l1, lf⟩ := cells2 hl2
  obtain ⟨x0, x1, x2, xf⟩ := cells3 hx2
  have HB2 := Go.Lib.hid hb2
  have HX2 := Go.Lib.hid hx2
  have HL2 := Go.Lib.hid hl2
  clear hk2 hb2 hx2 hl2
  cases hq : lookT 0 0 t with
  | error e =>
    rw [hq] at hm2
    simp only at hm2
    subst hm2
    have he := lookT_err _ _ _ _ hq
    have he1 : (e2 != 0) = true := by rw [bne_iff_ne]; omega
    have hpe : pEncode t = .error e2 := by rw [pEncode, hq]
    have HPE := Go.Lib.hid hpe
    clear hq hpe
    go_wp2_with fail
    go_region
    all_goals
      go_wp2_with fail
      go_ret2
      unfold EncP
      rw [HPE.out]
      exact ⟨rfl, bdr HB2.out⟩
  | ok nn =>
    rw [hq] at hm2
    obtain ⟨rfl, rfl⟩ := hm2
    have hsm := look_small hq
    have hbo := look_body hq
    have HQ := Go.Lib.hid hq
    clear hq
    obtain ⟨q, hqq⟩ : ∃ q, q = (bodyT t).length := ⟨_, rfl⟩
    have HQQ := Go.Lib.hid hqq
    rw [← hqq] at hbo
    clear hqq
    go_wp2_with fail
    refine (nest_body t _ _ _ _ _ (HT.out.below HB2.out) (by rw [← HQQ.out]; omega)).mono ?_
    rintro r w3 ⟨rfl, hb3⟩
    rw [← HQQ.out]
    have hx3 := (hb3.block w.heap.size (Array.getElem?_eq_some_iff.1 HX2.out).1).trans HX2.out
    clear x0 x1 x2 xf l0 l1 lf
    obtain ⟨x0, x1, x2, xf⟩ := cells3 hx3
    have HB3 := Go.Lib.hid (HB2.out.trans (hb3.mono HB2.out.size))
    clear hb3 hx3
    by_cases hbig : 16777215 < q
    · have hpe : pEncode t = .error 20 := by rw [pEncode, HQ.out]; simp only; rw [if_pos (by rw [← HQQ.out]; exact hbig)]
      have HPE := Go.Lib.hid hpe
      have hbb : decide (16777215 < (q : Int)) = true := by simp; omega
      clear hpe
      go_wp2_with fail
      go_ret2
      unfold EncP
      rw [HPE.out]
      exact ⟨rfl, HB3.out⟩
    · have hpe : pEncode t = .ok (encT t) := by rw [pEncode, HQ.out]; simp only; rw [if_neg (by rw [← HQQ.out]; exact hbig)]
      have HPE := Go.Lib.hid hpe
      have hbb : decide (16777215 < (q : Int)) = false := by simp; omega
      clear hpe
      go_wp2_with fail
      refine (nest_write t _ w.heap.size none 0 0 [] _ _ _ _ (HT.out.below HB3.out) (fun g hg => hg) HB3.out.size (Own.nil _ _ _ _) (by omega)).mono ?_
      rintro r w4 ⟨A4, n4, c4, rfl, hown4, hk4, hl4⟩
      have HO4 := Go.Lib.hid hown4
      have HK4 := Go.Lib.hid hk4
      clear hown4 hk4 hl4
      go_wp2_with fail
      go_ret2
      unfold EncP
      rw [HPE.out]
      exact ⟨A4, n4, c4, rfl, by simpa using HO4.out, Kp.below HB3.out HK4.out (fun i h => by simp at h)⟩

def okE (t : Tree) : Bool := match pEncode t with | .ok _ => true | .error _ => false

set_option maxHeartbeats 1000000 in
set_option maxRecDepth 100000 in
theorem nest_Right (t : Tree) (P : Nat → Prop) (v0 v1 v2 : Value) (w : World) (ht : RdT w P t v0 v1 v2) :
    Calls Try.prog 25 #[.agg #[v0, v1, v2]] w fun r w' => r = .returned (.bool (okE t)) ∧ Below w.heap.size w w' := by
  obtain ⟨a1, a2, a3, a4, a5, a6, rfl, rfl, rfl⟩ := ht.shape
  have ht0 : RdT w (fun g => g < w.heap.size) t (.bool t.l) (.slice a1 a2 a3) (.slice a4 a5 a6) := ht.mono fun g h _ => h
  have HT := Go.Lib.hid ht0
  clear ht ht0
  obtain ⟨R, hR⟩ : ∃ R, R = okE t := ⟨_, rfl⟩
  rw [← hR]
  have HRR := Go.Lib.hid hR
  clear hR
  obtain ⟨w1, hw1⟩ : ∃ w1, w1 = (w.alloc (.cells #[.bool t.l, .slice a1 a2 a3, .slice a4 a5 a6] 25)).alloc (.cells #[.int .i64 0, .int .i64 0] 50) := ⟨_, rfl⟩
  have hb1 : Below w.heap.size w w1 := by rw [hw1]; exact bal (bal (Below.refl _ _) _) _
  have hl1 : Lkr w1 (w.heap.size + 1) (0 : Nat) 0 := by
    rw [hw1]
    have := Go.heap_alloc_new (w.alloc (.cells #[.bool t.l, .slice a1 a2 a3, .slice a4 a5 a6] 25)) (.cells #[.int .i64 0, .int .i64 0] 50)
    simpa [Lkr] using this
  have hx1 : w1.heap[w.heap.size]? = some (.cells #[.bool t.l, .slice a1 a2 a3, .slice a4 a5 a6] 25 (0, 0)) := by
    rw [hw1]
    exact (Below.heap_alloc _ _ w.heap.size (by simp)).trans (Go.heap_alloc_new w _)
  have HW1 := Go.Lib.hid hw1
  have HB1 := Go.Lib.hid hb1
  have HL1 := Go.Lib.hid hl1
  have HX1 := Go.Lib.hid hx1
  clear hw1 hb1 hl1 hx1
  go_enter Try.func25, Try.ntmps25
  go_wp2_with fail
  refine (nest_look t (fun g => g < w.heap.size) _ _ _ (w.heap.size + 1) 0 0 _ _ (HT.out.below (bal (bal (Below.refl _ _) _) _)) (by rw [← HW1.out]; exact HL1.out) (by omega) (by omega) rfl (fun g hg => by omega)).mono ?_
  rintro r w2 ⟨rfl, hk2, wt2, e2, hl2, hm2⟩
  rw [← HW1.out] at hk2
  have hb2 : Below w.heap.size w w2 := Kp.below HB1.out hk2 (fun i h => by omega)
  have hx2 := (hk2.block w.heap.size (Array.getElem?_eq_some_iff.1 HX1.out).1 (by omega)).trans HX1.out
  obtain ⟨l0, l1, lf⟩ := cells2 hl2
  obtain ⟨x0, x1, x2, xf⟩ := cells3 hx2
  have HB2 := Go.Lib.hid hb2
  clear hk2 hb2 hx2 hl2
  cases hq : lookT 0 0 t with
  | error e =>
    rw [hq] at hm2
    simp only at hm2
    subst hm2
    have he := lookT_err _ _ _ _ hq
    have he1 : (e2 == 0) = false := by rw [beq_eq_false_iff_ne]; omega
    have hpe : R = false := by rw [HRR.out, okE, pEncode, hq]
    subst hpe
    clear hq
    go_wp2_with fail
    go_ret
    exact ⟨rfl, HB2.out⟩
  | ok nn =>
    rw [hq] at hm2
    obtain ⟨rfl, rfl⟩ := hm2
    have hsm := look_small hq
    have hbo := look_body hq
    have HQ := Go.Lib.hid hq
    clear hq
    obtain ⟨q, hqq⟩ : ∃ q, q = (bodyT t).length := ⟨_, rfl⟩
    have HQQ := Go.Lib.hid hqq
    rw [← hqq] at hbo
    clear hqq
    have hRq : R = decide (q ≤ 16777215) := by
      rw [HRR.out, okE, pEncode, HQ.out]
      simp only
      by_cases hbig : 16777215 < q
      · rw [if_pos (by rw [← HQQ.out]; exact hbig)]; simp; omega
      · rw [if_neg (by rw [← HQQ.out]; exact hbig)]; simp; omega
    have HRQ := Go.Lib.hid hRq
    clear hRq
    go_wp2_with fail
    refine (nest_body t _ _ _ _ _ (HT.out.below HB2.out) (by rw [← HQQ.out]; omega)).mono ?_
    rintro r w3 ⟨rfl, hb3⟩
    rw [← HQQ.out]
    have HB3 := Go.Lib.hid (HB2.out.trans (hb3.mono HB2.out.size))
    clear hb3
    by_cases hle : q ≤ 16777215
    · have hbb : decide ((q : Int) ≤ 16777215) = true := by simp; omega
      go_wp2_with fail
      go_ret
      exact ⟨by rw [HRQ.out]; simp [hle], HB3.out⟩
    · have hbb : decide ((q : Int) ≤ 16777215) = false := by simp; omega
      go_wp2_with fail
      go_ret
      exact ⟨by rw [HRQ.out]; simp [hle], HB3.out⟩

end Go.Proofs.Ytfolidaonnblbaa
