/- NestEncodes: the walk. -/
import Derived.Test.YtfolidaonnblbaaNsREnc3
namespace Go.Proofs.Ytfolidaonnblbaa
open Go.ChangeShapes Go.WideShapes Go.RowKit
set_option linter.unusedVariables false

/-- What either Encode tells. -/
theorem EncP.shape {t : Tree} {w w' : World} {r : Ending} (h : EncP t w r w') : ∃ (A : Option Addr) (n c : Nat) (e : Int) (out : List UInt8), r = .returned (.tuple #[.slice A n c, .int .i64 e]) ∧ n = out.length ∧ n ≤ c ∧ c ≤ 9223372036854775807 ∧ Rd w' A (bs out) ∧ Below w.heap.size w w' ∧
    (match pEncode t with | .ok o => e = 0 ∧ out = o | .error e' => e = e' ∧ e ≠ 0 ∧ out = []) := by
  unfold EncP at h
  cases hq : pEncode t with
  | error e =>
    rw [hq] at h
    obtain ⟨rfl, hb⟩ := h
    have he := encode_err hq
    exact ⟨none, 0, 0, e, [], rfl, rfl, Nat.le_refl _, by omega, Rd.nil _ _, hb, rfl, by omega, rfl⟩
  | ok o =>
    rw [hq] at h
    obtain ⟨A, n, c, rfl, hown, hb⟩ := h
    have hcap := hown.cap
    exact ⟨A, n, c, 0, o, rfl, by have := hown.len; simpa using this.symm, hcap.1, hcap.2, hown.rd, hb, rfl, rfl⟩

set_option maxHeartbeats 2000000 in
set_option maxRecDepth 100000 in
theorem encodes_walk (w : World) (t : Tree) (v0 v1 v2 : Value) (ht : RdT w (fun _ => True) t v0 v1 v2) :
    Calls Try.prog 10 #[.agg #[v0, v1, v2]] w fun r w' => r = .returned (.bool true) ∧ Below w.heap.size w w' := by
  obtain ⟨a1, a2, a3, a4, a5, a6, rfl, rfl, rfl⟩ := ht.shape
  have HT := Go.Lib.hid ht
  obtain ⟨w1, hw1⟩ : ∃ w1, w1 = w.alloc (.cells #[.bool t.l, .slice a1 a2 a3, .slice a4 a5 a6] 25) := ⟨_, rfl⟩
  have hx1 : w1.heap[w.heap.size]? = some (.cells #[.bool t.l, .slice a1 a2 a3, .slice a4 a5 a6] 25 (0, 0)) := by rw [hw1]; exact Go.heap_alloc_new w _
  have hb1 : Below w.heap.size w w1 := by rw [hw1]; exact bal (Below.refl _ _) _
  have HW1 := Go.Lib.hid hw1
  have HX1 := Go.Lib.hid hx1
  have HB1 := Go.Lib.hid hb1
  clear ht hw1 hx1 hb1
  go_enter Try.func10, Try.ntmps10
  go_wp2_with fail
  rw [← HW1.out]
  refine (nest_Encode t _ _ _ _ _ (HT.out.below HB1.out)).mono ?_
  intro r w2 hp
  obtain ⟨A2, n2, c2, e, out, rfl, hn2, hc2, hm2, hr2, hb2, hcase⟩ := hp.shape
  have HX2 := Go.Lib.hid (box_keep HX1.out hb2)
  have HB2 := Go.Lib.hid (btr HB1.out hb2)
  have HR2 := Go.Lib.hid hr2
  have HC := Go.Lib.hid hcase
  have HN2 := Go.Lib.hid hn2
  obtain ⟨x0, x1, x2, xf⟩ := cells3 HX2.out
  have hs2 : w.heap.size < w2.heap.size := (Array.getElem?_eq_some_iff.1 HX2.out).1
  clear hp hcase hr2 hb2 hn2
  go_wp2_with fail
  refine (ref_Encode t _ _ _ _ _ (HT.out.below HB2.out)).mono ?_
  intro r w3 hp
  obtain ⟨A3, n3, c3, f, out3, rfl, hn3, hc3, hm3, hr3, hb3, hcase3⟩ := hp.shape
  have heq : e = f ∧ out = out3 ∧ okE t = (f == 0) := by
    have h2 := HC.out
    unfold okE
    cases hq : pEncode t with
    | error e' =>
      rw [hq] at h2 hcase3
      obtain ⟨rfl, hne, rfl⟩ := h2
      obtain ⟨rfl, _, rfl⟩ := hcase3
      exact ⟨rfl, rfl, by simp [hne]⟩
    | ok o =>
      rw [hq] at h2 hcase3
      obtain ⟨rfl, rfl⟩ := h2
      obtain ⟨rfl, rfl⟩ := hcase3
      exact ⟨rfl, rfl, rfl⟩
  obtain ⟨rfl, rfl, hok⟩ := heq
  have HOK := Go.Lib.hid hok
  have HX3 := Go.Lib.hid (box_keep HX2.out hb3)
  have HR2' := Go.Lib.hid (HR2.out.below hb3)
  have HB3 := Go.Lib.hid (btr HB2.out hb3)
  have HR3 := Go.Lib.hid hr3
  have HN3 := Go.Lib.hid hn3
  clear hp hcase3 hr3 hb3 hn3 hok x0 x1 x2 xf HC
  go_wp2_with fail
  refine (law_alive _).mono ?_
  rintro r w4 ⟨rfl, hb4⟩
  have HX4 := Go.Lib.hid (box_keep HX3.out hb4)
  have HB4 := Go.Lib.hid (btr HB3.out hb4)
  have HR24 := Go.Lib.hid (HR2'.out.below hb4)
  have HR34 := Go.Lib.hid (HR3.out.below hb4)
  clear hb4
  have hs4 : w.heap.size < w4.heap.size := (Array.getElem?_eq_some_iff.1 HX4.out).1
  obtain ⟨x0, x1, x2, xf⟩ := cells3 HX4.out
  go_wp2_with fail
  refine (law_same A2 A3 n2 c2 n3 c3 out out w4 HR24.out HR34.out HN2.out.symm HN3.out.symm).mono ?_
  rintro r w5 ⟨rfl, rfl⟩
  simp only [beq_self_eq_true]
  go_wp2_with fail
  refine (nest_Right t _ _ _ _ _ (HT.out.below HB4.out)).mono ?_
  rintro r w6 ⟨rfl, hb6⟩
  rw [HOK.out]
  have HB6 := Go.Lib.hid (btr HB4.out hb6)
  clear hb6
  go_wp2_with fail
  go_ret
  exact ⟨by simp, HB6.out⟩

end Go.Proofs.Ytfolidaonnblbaa
