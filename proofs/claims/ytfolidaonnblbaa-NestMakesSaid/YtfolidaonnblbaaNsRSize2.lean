/- ref.size: the sizes by the document. -/
import Derived.Test.YtfolidaonnblbaaNsRSize
namespace Go.Proofs.Ytfolidaonnblbaa
open Go.ChangeShapes Go.WideShapes Go.RowKit
set_option linter.unusedVariables false

mutual
def sizeT : Tree → Nat
  | .mk l b its => if plainT (.mk l b its) then 1 else
    if 16777215 < (if l then 0 else b.length) + sizeL its then (if l then 0 else b.length) + sizeL its
    else (if l then 0 else b.length) + sizeL its + (headN 0 ((if l then 0 else b.length) + sizeL its)).length
def sizeL : List Tree → Nat
  | [] => 0
  | t :: ts => sizeT t + sizeL ts
end
def WellT (t : Tree) : Prop := ∃ d wt n, lookT d wt t = .ok n
theorem look_items : ∀ (ts : List Tree) (d wt n : Nat), lookL d wt ts = .ok n → ∀ t ∈ ts, WellT t
  | [], d, wt, n, h, t, ht => by simp at ht
  | u :: ts, d, wt, n, h, t, ht => by
    rw [lookL] at h
    split at h
    · cases h
    · rename_i m hm
      rcases List.mem_cons.1 ht with rfl | ht
      · exact ⟨_, _, _, hm⟩
      · exact look_items ts _ _ _ h t ht
theorem WellT.items {l : Bool} {b : List UInt8} {its : List Tree} (h : WellT (.mk l b its)) : ∀ t ∈ its, WellT t := by
  obtain ⟨d, wt, n, h⟩ := h
  rw [lookT] at h
  split at h
  · cases h
  · split at h
    · cases h
    · split at h
      · cases h
      · exact look_items its _ _ _ h
theorem WellT.form {l : Bool} {b : List UInt8} {its : List Tree} (h : WellT (.mk l b its)) : (l = true → b = []) ∧ (l = false → its = []) := by
  obtain ⟨d, wt, n, h⟩ := h
  exact look_form h
theorem WellT.small {t : Tree} (h : WellT t) : (encT t).length ≤ 83886080 := by
  obtain ⟨d, wt, n, h⟩ := h
  exact look_small h
theorem WellT.body {t : Tree} (h : WellT t) : (bodyT t).length ≤ (encT t).length := by
  obtain ⟨d, wt, n, h⟩ := h
  exact look_body h

mutual
theorem sizeT_enc : ∀ t : Tree, WellT t → sizeT t = (encT t).length ∨ (16777215 < sizeT t ∧ sizeT t ≤ (encT t).length)
  | .mk l b its, h => by
    have h1 := sizeL_enc its h.items
    have hf := h.form
    have hb : (if l then 0 else b.length) = b.length := by
      cases l with
      | true => rw [hf.1 rfl]; rfl
      | false => rfl
    have he := encT_length (.mk l b its)
    rw [bodyT, List.length_append] at he
    rw [sizeT, hb]
    cases hp : plainT (.mk l b its) with
    | true =>
      rw [hp, if_pos rfl] at he
      rw [if_pos rfl, he]
      exact .inl rfl
    | false =>
      rw [hp, if_neg (by decide)] at he
      rw [if_neg (by decide), headN_length]
      rcases h1 with h1 | ⟨h1, h2⟩
      · rw [h1]
        by_cases hbig : 16777215 < b.length + (encL its).length
        · rw [if_pos hbig]
          right
          refine ⟨hbig, ?_⟩
          rw [he]
          split <;> omega
        · rw [if_neg hbig]
          left
          rw [he]
          split <;> omega
      · rw [if_pos (by omega)]
        right
        refine ⟨by omega, ?_⟩
        rw [he]
        split <;> omega
theorem sizeL_enc : ∀ ts : List Tree, (∀ t ∈ ts, WellT t) → sizeL ts = (encL ts).length ∨ (16777215 < sizeL ts ∧ sizeL ts ≤ (encL ts).length)
  | [], h => .inl rfl
  | t :: ts, h => by
    have h1 := sizeT_enc t (h t (by simp))
    have h2 := sizeL_enc ts (fun u hu => h u (by simp [hu]))
    rw [sizeL, encL, List.length_append]
    omega
end
theorem sizeL_take_succ (its : List Tree) (j : Nat) (h : j < its.length) : sizeL (its.take (j + 1)) = sizeL (its.take j) + sizeT its[j] := by
  induction its generalizing j with
  | nil => simp at h
  | cons t ts ih =>
    cases j with
    | zero => simp [sizeL]
    | succ j =>
      have := ih j (by simpa using h)
      simp only [List.take_succ_cons, sizeL, List.getElem_cons_succ]
      omega
theorem sizeL_take_le : ∀ (its : List Tree) (j : Nat), sizeL (its.take j) ≤ sizeL its
  | [], j => by simp
  | t :: ts, 0 => by simp [sizeL]
  | t :: ts, j + 1 => by
    have := sizeL_take_le ts j
    simp only [List.take_succ_cons, sizeL]
    omega
theorem sizeT_le_sizeL (its : List Tree) (j : Nat) (h : j < its.length) : sizeL (its.take j) + sizeT its[j] ≤ sizeL its := by
  have h1 := sizeL_take_le its (j + 1)
  rw [sizeL_take_succ its j h] at h1
  exact h1

def SizeSt (t : Tree) : Prop := ∀ (P : Nat → Prop) (v0 v1 v2 : Value) (w : World), RdT w P t v0 v1 v2 → WellT t →
    Calls Try.prog 34 #[.agg #[v0, v1, v2]] w fun r w' => r = .returned (.int .i64 (sizeT t : Nat)) ∧ Below w.heap.size w w'

set_option maxHeartbeats 1000000 in
set_option maxRecDepth 100000 in
theorem size_step (l : Bool) (b : List UInt8) (its : List Tree) (ih : ∀ i (h : i < its.length), SizeSt its[i]) : SizeSt (.mk l b its) := by
  intro P v0 v1 v2 w ht hwl
  have IH := Go.Lib.hid ih
  obtain ⟨A, c, B, d, cs, rfl, rfl, rfl, hbc, hb47, hid', hd, hA, hB, hL⟩ := ht.parts
  obtain ⟨R, hR⟩ : ∃ R, R = sizeT (.mk l b its) := ⟨_, rfl⟩
  rw [← hR]
  have hRR := hR
  rw [sizeT] at hRR
  have HB := Go.Lib.hid hB
  have HL := Go.Lib.hid hL
  have hform := hwl.form
  have HWI := Go.Lib.hid hwl.items
  have hsl : sizeL its ≤ 83886080 := by
    have h1 := sizeL_enc its hwl.items
    have h2 := hwl.body
    have h3 := hwl.small
    rw [bodyT, List.length_append] at h2
    omega
  have hbl : b.length ≤ 83886080 := by
    have h2 := hwl.body
    have h3 := hwl.small
    rw [bodyT, List.length_append] at h2
    omega
  have HSL := Go.Lib.hid hsl
  obtain ⟨w1, hw1⟩ : ∃ w1, w1 = w.alloc (.cells #[.bool l, .slice A b.length c, .slice B its.length d] 25) := ⟨_, rfl⟩
  have hx1 : w1.heap[w.heap.size]? = some (.cells #[.bool l, .slice A b.length c, .slice B its.length d] 25 (0, 0)) := by rw [hw1]; exact Go.heap_alloc_new w _
  have hb1 : Below w.heap.size w w1 := by rw [hw1]; exact bal (Below.refl _ _) _
  have HW1 := Go.Lib.hid hw1
  have HX1 := Go.Lib.hid hx1
  have HB1 := Go.Lib.hid hb1
  clear ht ih hwl hR hB hL hw1 hx1 hb1
  cases hpl : plainT (.mk l b its) with
  | true =>
    rw [hpl, if_pos rfl] at hRR
    subst hRR
    simp only [plainT, Bool.and_eq_true, beq_iff_eq, Bool.not_eq_true', decide_eq_true_eq] at hpl
    obtain ⟨⟨rfl, h1⟩, h2⟩ := hpl
    match b, h1 with
    | [x], _ =>
      have hx := x.toNat_lt
      simp only [List.headD_cons] at h2
      have hlt : x.toNat < 128 := by simpa [UInt8.lt_iff_toNat_lt] using h2
      obtain ⟨g, off, rfl, hg, _, hc⟩ := hA (by simp [bs])
      have hc0 := hc 0 (.int .u8 (x.toNat : Int)) (by simp [bs, bv])
      rw [Nat.add_zero] at hc0
      have hb : decide ((x.toNat : Int) < 128) = true := by simp; omega
      clear hA hc h2 hform
      go_enter Try.func34, Try.ntmps34
      go_wp2_with fail
      go_ret
      exact ⟨rfl, bal (Below.refl _ _) _⟩
  | false =>
    rw [hpl, if_neg (by decide)] at hRR
    have hcases : (l = true) ∨ (l = false ∧ its.length < 1 ∧ b.length ≠ 1) ∨ (l = false ∧ its.length < 1 ∧ ∃ x g off, b = [x] ∧ A = some ⟨g, off, none⟩ ∧ g < w.heap.size ∧ w.cell? ⟨g, off, none⟩ = some (.int .u8 (x.toNat : Int)) ∧ 128 ≤ x.toNat) := by
      cases l with
      | true => exact .inl rfl
      | false =>
        have hi0 : its.length < 1 := by rw [hform.2 rfl]; decide
        by_cases h1 : b.length = 1
        · right; right
          match b, h1 with
          | [x], _ =>
            obtain ⟨g, off, rfl, hg, _, hc⟩ := hA (by simp [bs])
            have hc0 := hc 0 (.int .u8 (x.toNat : Int)) (by simp [bs, bv])
            rw [Nat.add_zero] at hc0
            refine ⟨rfl, hi0, x, g, off, rfl, rfl, hg, hc0, ?_⟩
            simp [plainT, UInt8.le_iff_toNat_le] at hpl
            exact hpl
        · exact .inr (.inl ⟨rfl, hi0, h1⟩)
    clear hpl hA hform
    rcases hcases with rfl | ⟨rfl, hi0, hb1⟩ | ⟨rfl, hi0, x, g0, off0, rfl, rfl, hg0, hc0, hx128⟩
    · simp only [if_true] at hRR
      have HRR := Go.Lib.hid hRR
      clear hRR
      go_enter Try.func34, Try.ntmps34
      go_wp2_with fail
      go_loopg [3, 4] its.length (fun g s3 i wr => ∃ (j : Nat), i = .int .i64 j ∧ s3 = .int .i64 ((0 + sizeL (its.take j) : Nat) : Int) ∧ j ≤ its.length ∧ g = its.length - j ∧ Hid (Below w1.heap.size w1 wr))
      case atStart => exact ⟨0, rfl, by simp [sizeL], Nat.zero_le _, rfl, Go.Lib.hid (by rw [HW1.out]; exact Below.refl _ _)⟩
      case round =>
        obtain ⟨j, rfl, rfl, hj, rfl, HBj⟩ := hrel
        obtain ⟨x0, x1, x2, xf⟩ := cells3 (box_keep HX1.out HBj.out)
        have hs1 : w.heap.size < w1.heap.size := (Array.getElem?_eq_some_iff.1 HX1.out).1
        have hs2 : w.heap.size < wr.heap.size := by have h1 := HBj.out.size; omega
        have hsj := sizeL_take_le its j
        by_cases hlt : j < its.length
        · obtain ⟨g, off, p0, p1, p2, rfl, hp, c0, c1, c2⟩ := item_cells HB.out HL.out (btr HB1.out HBj.out) j hlt
          obtain ⟨a1, a2, a3, a4, a5, a6, rfl, rfl, rfl⟩ := hp.shape
          have HP := Go.Lib.hid hp
          have hle := sizeT_le_sizeL its j hlt
          have hts := Go.Lib.hid (sizeL_take_succ its j hlt)
          clear hp
          go_wp2_with fail
          refine (IH.out j hlt P _ _ _ _ HP.out (HWI.out _ (List.getElem_mem hlt))).mono ?_
          rintro r w5 ⟨rfl, hb5⟩
          have HB5 := Go.Lib.hid hb5
          clear hb5
          go_wp2_with fail
          go_roundg (its.length - (j + 1))
          case measure => omega
          case rel =>
            exact ⟨j + 1, by go_num, by rw [hts.out]; go_num, by omega, rfl, Go.Lib.hid (btr HBj.out HB5.out)⟩
        · obtain rfl : j = its.length := by omega
          have hB2 : Below w.heap.size w wr := btr HB1.out HBj.out
          rw [List.take_length] at hsj ⊢
          generalize hS : sizeL its = S at *
          have HS := Go.Lib.hid hS
          have HB2 := Go.Lib.hid hB2
          clear hlt hS hB2
          obtain ⟨q, hq⟩ : ∃ q : Nat, q = 0 + S := ⟨_, rfl⟩
          rw [← hq]
          have HQ := Go.Lib.hid hq
          have hqs : q ≤ 167772160 := by have := HSL.out; omega
          clear hq
          have hRq : R = if 16777215 < q then q else q + (headN 0 q).length := by rw [HQ.out]; exact HRR.out
          have HRQ := Go.Lib.hid hRq
          clear hRq
          by_cases hbig : 16777215 < q
          · go_wp2_with fail
            go_ret
            exact ⟨by rw [HRQ.out, if_pos hbig]; rfl, HB2.out⟩
          · go_wp2_with fail
            refine (ref_head 0 q _ _ _ rfl rfl (by omega) (by omega)).mono ?_
            rintro r w5 ⟨A5, c5, rfl, hown, hb5⟩
            have hhl := headN_length 0 q
            have hn4 := numN_le q
            generalize (headN 0 q).length = hh at *
            have hh5 : hh ≤ 5 := by rw [hhl]; split <;> omega
            have HB5 := Go.Lib.hid hb5
            clear hhl hown hb5
            go_wp2_with fail
            go_ret
            exact ⟨by rw [HRQ.out, if_neg hbig]; simp, btr HB2.out HB5.out⟩
    · simp only [Bool.false_eq_true, if_false] at hRR
      have HRR := Go.Lib.hid hRR
      clear hRR
      go_enter Try.func34, Try.ntmps34
      go_wp2_with fail
      go_loopg [3, 4] its.length (fun g s3 i wr => ∃ (j : Nat), i = .int .i64 j ∧ s3 = .int .i64 ((b.length + sizeL (its.take j) : Nat) : Int) ∧ j ≤ its.length ∧ g = its.length - j ∧ Hid (Below w1.heap.size w1 wr))
      case atStart => exact ⟨0, rfl, by simp [sizeL], Nat.zero_le _, rfl, Go.Lib.hid (by rw [HW1.out]; exact Below.refl _ _)⟩
      case round =>
        obtain ⟨j, rfl, rfl, hj, rfl, HBj⟩ := hrel
        obtain ⟨x0, x1, x2, xf⟩ := cells3 (box_keep HX1.out HBj.out)
        have hs1 : w.heap.size < w1.heap.size := (Array.getElem?_eq_some_iff.1 HX1.out).1
        have hs2 : w.heap.size < wr.heap.size := by have h1 := HBj.out.size; omega
        have hsj := sizeL_take_le its j
        by_cases hlt : j < its.length
        · omega
        · obtain rfl : j = its.length := by omega
          have hB2 : Below w.heap.size w wr := btr HB1.out HBj.out
          rw [List.take_length] at hsj ⊢
          generalize hS : sizeL its = S at *
          have HS := Go.Lib.hid hS
          have HB2 := Go.Lib.hid hB2
          clear hlt hS hB2
          obtain ⟨q, hq⟩ : ∃ q : Nat, q = b.length + S := ⟨_, rfl⟩
          rw [← hq]
          have HQ := Go.Lib.hid hq
          have hqs : q ≤ 167772160 := by have := HSL.out; omega
          clear hq
          have hRq : R = if 16777215 < q then q else q + (headN 0 q).length := by rw [HQ.out]; exact HRR.out
          have HRQ := Go.Lib.hid hRq
          clear hRq
          by_cases hbig : 16777215 < q
          · go_wp2_with fail
            go_ret
            exact ⟨by rw [HRQ.out, if_pos hbig]; rfl, HB2.out⟩
          · go_wp2_with fail
            refine (ref_head 0 q _ _ _ rfl rfl (by omega) (by omega)).mono ?_
            rintro r w5 ⟨A5, c5, rfl, hown, hb5⟩
            have hhl := headN_length 0 q
            have hn4 := numN_le q
            generalize (headN 0 q).length = hh at *
            have hh5 : hh ≤ 5 := by rw [hhl]; split <;> omega
            have HB5 := Go.Lib.hid hb5
            clear hhl hown hb5
            go_wp2_with fail
            go_ret
            exact ⟨by rw [HRQ.out, if_neg hbig]; simp, btr HB2.out HB5.out⟩
    · simp only [Bool.false_eq_true, if_false] at hRR
      have hbx : decide ((x.toNat : Int) < 128) = false := by simp; omega
      have HRR := Go.Lib.hid hRR
      clear hRR
      go_enter Try.func34, Try.ntmps34
      go_wp2_with fail
      go_loopg [3, 4] its.length (fun g s3 i wr => ∃ (j : Nat), i = .int .i64 j ∧ s3 = .int .i64 (([x].length + sizeL (its.take j) : Nat) : Int) ∧ j ≤ its.length ∧ g = its.length - j ∧ Hid (Below w1.heap.size w1 wr))
      case atStart => exact ⟨0, rfl, by simp [sizeL], Nat.zero_le _, rfl, Go.Lib.hid (by rw [HW1.out]; exact Below.refl _ _)⟩
      case round =>
        obtain ⟨j, rfl, rfl, hj, rfl, HBj⟩ := hrel
        obtain ⟨x0, x1, x2, xf⟩ := cells3 (box_keep HX1.out HBj.out)
        have hs1 : w.heap.size < w1.heap.size := (Array.getElem?_eq_some_iff.1 HX1.out).1
        have hs2 : w.heap.size < wr.heap.size := by have h1 := HBj.out.size; omega
        have hsj := sizeL_take_le its j
        by_cases hlt : j < its.length
        · omega
        · obtain rfl : j = its.length := by omega
          have hB2 : Below w.heap.size w wr := btr HB1.out HBj.out
          rw [List.take_length] at hsj ⊢
          generalize hS : sizeL its = S at *
          have HS := Go.Lib.hid hS
          have HB2 := Go.Lib.hid hB2
          clear hlt hS hB2
          obtain ⟨q, hq⟩ : ∃ q : Nat, q = [x].length + S := ⟨_, rfl⟩
          rw [← hq]
          have HQ := Go.Lib.hid hq
          have hqs : q ≤ 167772160 := by have := HSL.out; omega
          clear hq
          have hRq : R = if 16777215 < q then q else q + (headN 0 q).length := by rw [HQ.out]; exact HRR.out
          have HRQ := Go.Lib.hid hRq
          clear hRq
          by_cases hbig : 16777215 < q
          · go_wp2_with fail
            go_ret
            exact ⟨by rw [HRQ.out, if_pos hbig]; rfl, HB2.out⟩
          · go_wp2_with fail
            refine (ref_head 0 q _ _ _ rfl rfl (by omega) (by omega)).mono ?_
            rintro r w5 ⟨A5, c5, rfl, hown, hb5⟩
            have hhl := headN_length 0 q
            have hn4 := numN_le q
            generalize (headN 0 q).length = hh at *
            have hh5 : hh ≤ 5 := by rw [hhl]; split <;> omega
            have HB5 := Go.Lib.hid hb5
            clear hhl hown hb5
            go_wp2_with fail
            go_ret
            exact ⟨by rw [HRQ.out, if_neg hbig]; simp, btr HB2.out HB5.out⟩

theorem size_lt : ∀ (k : Nat) (t : Tree), SizeOf.sizeOf t < k → SizeSt t
  | 0, t, h => by omega
  | k + 1, .mk l b its, h => size_step l b its fun i hi => size_lt k its[i] (by have := its_size (l := l) (b := b) hi; omega)
theorem ref_size (t : Tree) : SizeSt t := size_lt _ t (Nat.lt_succ_self _)

end Go.Proofs.Ytfolidaonnblbaa
