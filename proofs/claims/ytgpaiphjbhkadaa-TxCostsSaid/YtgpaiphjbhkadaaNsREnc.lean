/- ref.Bytes, ref.body: the writing by the document. -/
import Derived.Test.YtgpaiphjbhkadaaNsRSize2
namespace Go.Proofs.Ytgpaiphjbhkadaa
open Go.ChangeShapes Go.WideShapes Go.RowKit
set_option linter.unusedVariables false
set_option maxRecDepth 100000

def OutP (out : List UInt8) (w : World) (r : Ending) (w' : World) : Prop :=
  ∃ A n c, r = .returned (.slice A n c) ∧ Own w' w.heap.size 5 1 A n c (bs out) ∧ Below w.heap.size w w'
def BytesSt (t : Tree) : Prop := ∀ (P : Nat → Prop) (v0 v1 v2 : Value) (w : World), RdT w P t v0 v1 v2 → WellT t → (bodyT t).length ≤ 16777215 →
    Calls Try.prog 49 #[.agg #[v0, v1, v2]] w (OutP (encT t) w)
def RBodySt (t : Tree) : Prop := ∀ (P : Nat → Prop) (v0 v1 v2 : Value) (w : World), RdT w P t v0 v1 v2 → WellT t → (bodyT t).length ≤ 16777215 →
    Calls Try.prog 66 #[.agg #[v0, v1, v2]] w (OutP (bodyT t) w)

theorem enc_item_le : ∀ (its : List Tree) (j : Nat) (h : j < its.length), (encL (its.take j)).length + (encT its[j]).length ≤ (encL its).length := encT_le_encL

set_option maxHeartbeats 2000000 in
set_option maxRecDepth 100000 in
theorem rbody_step (l : Bool) (b : List UInt8) (its : List Tree) (ih : ∀ i (h : i < its.length), BytesSt its[i]) : RBodySt (.mk l b its) := by
  intro P v0 v1 v2 w ht hwl hlen
  have IH := Go.Lib.hid ih
  obtain ⟨A, c, B, d, cs, rfl, rfl, rfl, hbc, hb47, hid', hd, hA, hB, hL⟩ := ht.parts
  obtain ⟨i0, hi, hz0, hz1, hz2⟩ := info_parts info_u8
  rw [bodyT, List.length_append] at hlen
  rw [bodyT]
  have HA := Go.Lib.hid hA
  have HB := Go.Lib.hid hB
  have HL := Go.Lib.hid hL
  have HWI := Go.Lib.hid hwl.items
  obtain ⟨w1, hw1⟩ : ∃ w1, w1 = w.alloc (.cells #[.bool l, .slice A b.length c, .slice B its.length d] 45) := ⟨_, rfl⟩
  have hx1 : w1.heap[w.heap.size]? = some (.cells #[.bool l, .slice A b.length c, .slice B its.length d] 45 (0, 0)) := by rw [hw1]; exact Go.heap_alloc_new w _
  have hb1 : Below w.heap.size w w1 := by rw [hw1]; exact bal (Below.refl _ _) _
  have HW1 := Go.Lib.hid hw1
  have HX1 := Go.Lib.hid hx1
  have HB1 := Go.Lib.hid hb1
  have hs1 : w1.heap.size = w.heap.size + 1 := by rw [hw1]; simp
  have HS1 := Go.Lib.hid hs1
  clear ht ih hwl hA hB hL hw1 hx1 hb1 hs1
  go_enter Try.func66, Try.ntmps66
  go_wp2_with (at_builtin; refine wpList_append_o _ rfl _ _ 24 rfl 5 i0 (.int .u8 0) 1 1 Try.underlying24 hi hz0 hz1 hz2 rfl (by decide) (w.heap.size + 1) none 0 0 [] rfl (Own.nil _ _ _ _) A b.length c (bs b) rfl (by simp) (HA.out.rd.alloc _) (bs_one _) (by omega) (by unfold maxLen; omega) (by simp) ?_)
  intro A2 c2 w2 hown2 hk2 hl2
  rw [← HW1.out] at hk2
  have hb2 : Below w1.heap.size w1 w2 := Kp.below (Below.refl _ _) hk2 (fun i h => by simp at h)
  have HO2 := Go.Lib.hid hown2
  have HB2 := Go.Lib.hid hb2
  clear hown2 hk2 hl2 hb2
  go_wp2_with fail
  go_loopg [3, 4] its.length (fun g s3 i wr => ∃ (j : Nat) (A3 : Option Addr) (n3 c3 : Nat), i = .int .i64 j ∧ s3 = .slice A3 n3 c3 ∧ n3 = b.length + (encL (its.take j)).length ∧ j ≤ its.length ∧ g = its.length - j ∧ Hid (Own wr (w.heap.size + 1) 5 1 A3 n3 c3 (bs (b ++ encL (its.take j)))) ∧ Hid (Below w1.heap.size w1 wr))
  case atStart =>
    exact ⟨0, A2, _, c2, rfl, rfl, by simp [encL], Nat.zero_le _, rfl, Go.Lib.hid (by simpa [encL] using HO2.out), HB2⟩
  case round =>
    obtain ⟨j, A3, n3, c3, rfl, rfl, hn3, hj, rfl, HO3, HB3⟩ := hrel
    obtain ⟨x0, x1, x2, xf⟩ := cells3 (box_keep HX1.out HB3.out)
    have hs2 : w.heap.size < wr.heap.size := by have h1 := HB3.out.size; have := HS1.out; omega
    by_cases hlt : j < its.length
    · obtain ⟨g, off, p0, p1, p2, rfl, hp, c0, c1, c2'⟩ := item_cells HB.out HL.out (btr HB1.out HB3.out) j hlt
      obtain ⟨a1, a2, a3, a4, a5, a6, rfl, rfl, rfl⟩ := hp.shape
      have HP := Go.Lib.hid hp
      have hle := encT_le_encL its j hlt
      have hwj := HWI.out _ (List.getElem_mem hlt)
      have hbj := hwj.body
      have HWJ := Go.Lib.hid hwj
      have hts := Go.Lib.hid (encL_take_succ its j hlt)
      clear hp hwj
      obtain ⟨E, hE⟩ : ∃ E, E = encT its[j] := ⟨_, rfl⟩
      have HE := Go.Lib.hid hE
      rw [← hE] at hle hbj
      clear hE
      have HN3 := Go.Lib.hid hn3
      have hn3s : n3 + E.length ≤ 16777215 := by omega
      clear hn3
      go_wp2_with fail
      refine (IH.out j hlt P _ _ _ _ HP.out HWJ.out (by omega)).mono ?_
      rintro r w5 ⟨A5, n5, c5, rfl, hown5, hb5⟩
      rw [← HE.out] at hown5
      obtain rfl : n5 = E.length := by have := hown5.len; simpa using this.symm
      have HR5 := Go.Lib.hid hown5.rd
      have HO3' := Go.Lib.hid (HO3.out.below hb5)
      have HB5 := Go.Lib.hid (btr HB3.out hb5)
      clear hown5 hb5
      go_wp2_with (at_builtin; refine wpList_append_o _ rfl _ _ 24 rfl 5 i0 (.int .u8 0) 1 1 Try.underlying24 hi hz0 hz1 hz2 rfl (by decide) (w.heap.size + 1) A3 n3 c3 _ rfl HO3'.out A5 E.length c5 (bs E) rfl (by simp) HR5.out (bs_one _) (by omega) (by unfold maxLen; omega) (by have := HB5.out.size; have := HS1.out; omega) ?_)
      intro A6 c6 w6 hown6 hk6 hl6
      have hb6 : Below w1.heap.size w1 w6 := Kp.below HB5.out hk6 (fun i h => by rw [HS1.out]; exact (HO3'.out.block_lt i h.symm).1)
      rw [← bs_append, List.append_assoc, HE.out, ← hts.out, ← HE.out] at hown6
      have HO6 := Go.Lib.hid hown6
      have HB6 := Go.Lib.hid hb6
      clear hown6 hk6 hl6 hb6
      go_wp2_with fail
      go_roundg (its.length - (j + 1))
      case measure => omega
      case rel =>
        exact ⟨j + 1, A6, _, c6, by go_num, rfl, by rw [hts.out, List.length_append, ← HE.out, HN3.out]; omega, by omega, rfl, HO6, HB6⟩
    · obtain rfl : j = its.length := by omega
      clear hlt
      have hO := HO3.out
      rw [List.take_length] at hO
      have HO := Go.Lib.hid hO
      clear hO hn3
      go_wp2_with fail
      go_ret
      exact ⟨A3, n3, c3, rfl, HO.out.more (fun g e => by have := (HO.out.block_lt g e).1; omega), btr HB1.out HB3.out⟩

end Go.Proofs.Ytgpaiphjbhkadaa
