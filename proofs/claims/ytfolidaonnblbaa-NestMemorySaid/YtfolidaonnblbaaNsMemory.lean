/- NestMemory: the walk. -/
import Derived.Test.YtfolidaonnblbaaNsSpoil
namespace Go.Proofs.Ytfolidaonnblbaa
open Go.ChangeShapes Go.WideShapes Go.RowKit
set_option linter.unusedVariables false

def decT (p : Except Int Tree) : Tree := match p with | .ok t => t | .error _ => Tree.zero
def decE (p : Except Int Tree) : Int := match p with | .ok _ => 0 | .error e => e
theorem DecP.any {w w' : World} {p : Except Int Tree} {r : Ending} (h : DecP w p r w') :
    ∃ v0 v1 v2, r = .returned (.tuple #[.agg #[v0, v1, v2], .int .i64 (decE p)]) ∧ RdT w' (fun g => w.heap.size ≤ g) (decT p) v0 v1 v2 ∧ Below w.heap.size w w' := by
  cases p with
  | error e =>
    obtain ⟨rfl, hb⟩ := h
    exact ⟨_, _, _, rfl, RdT.zero _ _, hb⟩
  | ok t => exact h
theorem RdT.sh_zero {w : World} {P Q : Nat → Prop} {v0 v1 v2 : Value} (h : RdT w P Tree.zero v0 v1 v2) : ShT w Q Tree.zero v0 v1 v2 := by
  simp only [Tree.zero, RdT] at h
  simp only [Tree.zero, ShT]
  obtain ⟨h0, ⟨A, n, c, e1, e2, e3, e4, e9, h1⟩, B, m, d, cs, e5, e6, e7, e8, h2, h3⟩ := h
  refine ⟨h0, ⟨A, n, c, e1, e2, e3, e4, e9, fun hn => ?_⟩, B, m, d, cs, e5, e6, e7, e8, h2.rd, by simpa only [RdL, ShL] using h3⟩
  simp at e2
  omega

set_option maxHeartbeats 2000000 in
set_option maxRecDepth 100000 in
theorem memory_walk (w : World) (A : Option Addr) (n c : Nat) (xs : List UInt8) (hn : xs.length = n) (hnc : n ≤ c) (hr : Rd w A (bs xs)) (hz : c ≤ 140737488351232) :
    Calls Try.prog 8 #[.slice A n c] w fun r w' => r = .returned (.bool true) ∧ Below w.heap.size w w' := by
  have HR := Go.Lib.hid hr
  have HN := Go.Lib.hid hn
  obtain ⟨i0, hi, hz0, hz1, hz2⟩ := info_parts info_u8
  obtain ⟨T, hT⟩ : ∃ T, T = decT (pDecode xs) := ⟨_, rfl⟩
  obtain ⟨E, hE⟩ : ∃ E, E = decE (pDecode xs) := ⟨_, rfl⟩
  have HT := Go.Lib.hid hT
  have HE := Go.Lib.hid hE
  clear hr hn hT hE
  go_enter Try.func8, Try.ntmps8
  go_wp2_with (at_builtin; refine wpList_append_o _ rfl _ _ 22 rfl 5 i0 (.int .u8 0) 1 1 Try.underlying22 hi hz0 hz1 hz2 rfl (by decide) w.heap.size none 0 0 [] rfl (Own.nil _ _ _ _) A n c (bs xs) rfl (by have := HN.out; simp; omega) HR.out (bs_one _) (by omega) (by unfold maxLen; omega) (by simp) ?_)
  intro A1 c1 w1 hown1 hk1 hl1
  have hb1 : Below w.heap.size w w1 := Kp.below (Below.refl _ _) hk1 (fun i h => by simp at h)
  have hcap1 := hown1.cap
  have hown1 : Own w1 w.heap.size 5 1 A1 n c1 (bs xs) := by simpa using hown1
  have HO1 := Go.Lib.hid hown1
  have HB1 := Go.Lib.hid hb1
  clear hown1 hk1 hl1 hb1
  go_wp2_with fail
  refine (nest_Decode A1 n c1 xs _ HO1.out.rd HN.out.symm (by omega) (by omega)).mono ?_
  intro r w2 hp
  obtain ⟨v0, v1, v2, rfl, ht1, hb2⟩ := hp.any
  rw [← HT.out] at ht1
  rw [← HE.out]
  obtain ⟨a1, a2, a3, a4, a5, a6, rfl, rfl, rfl⟩ := ht1.shape
  have ht2 : RdT w2 (fun g => w1.heap.size ≤ g ∧ g < w2.heap.size) T (.bool T.l) (.slice a1 a2 a3) (.slice a4 a5 a6) := ht1.mono fun g hg h => ⟨h, hg⟩
  have HZ : Hid (w1.heap.size = 0 → T = Tree.zero) := Go.Lib.hid fun h => by
    have hx : xs = [] := by
      by_cases hx : xs = []
      · exact hx
      · obtain ⟨g, off, _, hg, _⟩ := HO1.out.rd (by simpa [bs] using hx)
        omega
    rw [HT.out, hx]
    rfl
  have HT2 := Go.Lib.hid ht2
  have HB2 := Go.Lib.hid hb2
  have HO2 := Go.Lib.hid (HO1.out.below hb2)
  clear hp ht1 ht2 hb2
  go_wp2_with fail
  refine (ref_Decode A n c xs _ ((HR.out.below (btr HB1.out HB2.out)).alloc _) HN.out.symm hnc (by omega)).mono ?_
  intro r w3 hp
  obtain ⟨u0, u1, u2, rfl, ht3, hb3⟩ := hp.any
  rw [← HT.out] at ht3
  rw [← HE.out]
  obtain ⟨b1, b2, b3, b4, b5, b6, rfl, rfl, rfl⟩ := ht3.shape
  have hx3 : w3.heap[w2.heap.size]? = some (.cells #[.bool T.l, .slice a1 a2 a3, .slice a4 a5 a6] 25 (0, 0)) := (hb3.block _ (by simp)).trans (Go.heap_alloc_new w2 _)
  have hb23 : Below w2.heap.size w2 w3 := btr (bal (Below.refl _ _) _) hb3
  have hs23 : w2.heap.size < w3.heap.size := (Array.getElem?_eq_some_iff.1 hx3).1
  obtain ⟨w4, hw4⟩ : ∃ w4, w4 = w3.alloc (.cells #[.bool T.l, .slice b1 b2 b3, .slice b4 b5 b6] 25) := ⟨_, rfl⟩
  have hb34 : Below w3.heap.size w3 w4 := by rw [hw4]; exact bal (Below.refl _ _) _
  have hb24 := btr hb23 hb34
  have hy4 : w4.heap[w3.heap.size]? = some (.cells #[.bool T.l, .slice b1 b2 b3, .slice b4 b5 b6] 25 (0, 0)) := by rw [hw4]; exact Go.heap_alloc_new w3 _
  have HX4 := Go.Lib.hid ((hb34.block _ hs23).trans hx3)
  have HY4 := Go.Lib.hid hy4
  have HO4 := Go.Lib.hid (HO2.out.below hb24)
  have HT4 := Go.Lib.hid (HT2.out.below hb24)
  have HU4 := Go.Lib.hid ((ht3.mono (Q := fun g => w2.heap.size < g) fun g _ h => by simp at h; omega).below hb34)
  have HB4 := Go.Lib.hid (btr (btr HB1.out HB2.out) hb24)
  have hs4 : w4.heap.size = w3.heap.size + 1 := by rw [hw4]; simp
  have HW4 := Go.Lib.hid hw4
  have HS24 := Go.Lib.hid hb24
  clear hp ht3 hb3 hb23 hb34 hb24 hx3 hy4 hw4
  go_wp2_with fail
  go_loopg [25, 8] n (fun g i s8 wr => ∃ (j : Nat) (zs : List Value), i = .int .i64 j ∧ j ≤ n ∧ g = n - j ∧ zs.length = n ∧ Hid (Own wr w.heap.size 5 1 A1 n c1 zs) ∧ Hid (Kp (fun k => some k = A1.map (·.block)) w4 wr))
  case atStart =>
    exact ⟨0, bs xs, rfl, Nat.zero_le _, rfl, by have := HN.out; simp; omega, Go.Lib.hid (by rw [← HW4.out]; exact HO4.out), Go.Lib.hid (by rw [← HW4.out]; exact Kp.refl _ _)⟩
  case round =>
    obtain ⟨j, zs, rfl, hj, rfl, hzl, HOJ, HKJ⟩ := hrel
    by_cases hlt : j < n
    · obtain ⟨g, off, rfl, hg, hgl, hcell, hfr⟩ := HOJ.out.shape (by omega)
      have hcj := hcell j zs[j] (by rw [List.getElem?_eq_getElem])
      clear hcell
      go_wp2_with fail
      go_roundg (n - (j + 1))
      case measure => omega
      case rel =>
        exact ⟨j + 1, zs.set j (.int .u8 ((j : Int) % 256)), by go_num, by omega, rfl, by simpa using hzl, Go.Lib.hid (HOJ.out.store rfl j (by omega) _), Go.Lib.hid (HKJ.out.trans (Kp.setCell (S := fun k => some k = Option.map (fun x => x.block) (some (⟨g, off, none⟩ : Addr))) (p := ⟨g, off + j, none⟩) wr rfl _))⟩
    · obtain rfl : n = j := by omega
      obtain ⟨w5, rfl⟩ : ∃ w' : World, w' = wr := ⟨_, rfl⟩
      have hk5 : Kp (fun k => some k = A1.map (·.block)) w4 w5 := HKJ.out
      have hbl : ∀ g, A1.map (·.block) = some g → w.heap.size ≤ g ∧ g < w1.heap.size := fun g e => HO1.out.block_lt g e
      have hs12 := HB2.out.size
      have hs24 := HS24.out.size
      have hx5 : w5.heap[w2.heap.size]? = some (.cells #[.bool T.l, .slice a1 a2 a3, .slice a4 a5 a6] 25 (0, 0)) := (hk5.block _ (by omega) (fun e => by have := (hbl _ e.symm).2; omega)).trans HX4.out
      have hy5 : w5.heap[w3.heap.size]? = some (.cells #[.bool T.l, .slice b1 b2 b3, .slice b4 b5 b6] 25 (0, 0)) := (hk5.block _ (by omega) (fun e => by have := (hbl _ e.symm).2; omega)).trans HY4.out
      have ht5 : RdT w5 (fun g => w1.heap.size ≤ g ∧ g < w2.heap.size) T (.bool T.l) (.slice a1 a2 a3) (.slice a4 a5 a6) := HT4.out.kp hk5 (fun g hg e => by have := (hbl g e.symm).2; omega)
      have hu5 : RdT w5 (fun g => w2.heap.size < g) T (.bool T.l) (.slice b1 b2 b3) (.slice b4 b5 b6) := HU4.out.kp hk5 (fun g hg e => by have := (hbl g e.symm).2; omega)
      have hb5 : Below w.heap.size w w5 := Kp.below HB4.out hk5 (fun i e => (hbl i e.symm).1)
      have HX5 := Go.Lib.hid hx5
      have HY5 := Go.Lib.hid hy5
      have HT5 := Go.Lib.hid ht5
      have HU5 := Go.Lib.hid hu5
      have HB5 := Go.Lib.hid hb5
      obtain ⟨x0, x1, x2, xf⟩ := cells3 hx5
      obtain ⟨y0, y1, y2, yf⟩ := cells3 hy5
      have hl3 := (Array.getElem?_eq_some_iff.1 hy5).1
      have hl2 := (Array.getElem?_eq_some_iff.1 hx5).1
      clear hk5 hx5 hy5 ht5 hu5 hb5 hlt HKJ HOJ
      go_wp2_with fail
      refine (ref_Same T T _ _ _ _ _ _ _ _ _ HT5.out HU5.out).mono ?_
      rintro r w6 ⟨rfl, hb6⟩
      rw [sameT_refl]
      clear x0 x1 x2 xf y0 y1 y2 yf
      have HX6 := Go.Lib.hid (box_keep HX5.out hb6)
      have HY6 := Go.Lib.hid (box_keep HY5.out hb6)
      have HU6 := Go.Lib.hid (HU5.out.below hb6)
      have HB6 := Go.Lib.hid (btr HB5.out hb6)
      obtain ⟨x0, x1, x2, xf⟩ := cells3 HX6.out
      go_wp2_with fail
      have hsh : ShT w6 (fun g => w1.heap.size ≤ g ∧ g < w2.heap.size) T (.bool T.l) (.slice a1 a2 a3) (.slice a4 a5 a6) := by
        have h := HT5.out.below hb6
        rcases Nat.eq_zero_or_pos w1.heap.size with h0 | h0
        · have h1 := HZ.out h0
          rw [h1] at h ⊢
          exact h.sh_zero
        · exact h.sh (by omega)
      refine (law_spoil T _ _ _ _ _ hsh).mono ?_
      rintro r w7 ⟨rfl, hk7, hs7⟩
      have hs6 := hb6.size
      clear x0 x1 x2 xf hsh
      have hx7 := (hk7.block w2.heap.size (Array.getElem?_eq_some_iff.1 HX6.out).1 (by omega)).trans HX6.out
      have hy7 := (hk7.block w3.heap.size (Array.getElem?_eq_some_iff.1 HY6.out).1 (by omega)).trans HY6.out
      have HU7 := Go.Lib.hid (HU6.out.kp hk7 (fun g hg h => by omega))
      have HB7 := Go.Lib.hid (Kp.below HB6.out hk7 (fun i h => by have := HB1.out.size; omega))
      have HX7 := Go.Lib.hid hx7
      have HY7 := Go.Lib.hid hy7
      clear hk7 hs7 hx7 hy7 hb6
      go_wp2_with fail
      refine (nest_Decode A n c xs _ (HR.out.below HB7.out) HN.out.symm hnc (by omega)).mono ?_
      intro r w8 hp
      obtain ⟨z0, z1, z2, rfl, ht8, hb8⟩ := hp.any
      rw [← HT.out] at ht8
      rw [← HE.out]
      obtain ⟨d1, d2, d3, d4, d5, d6, rfl, rfl, rfl⟩ := ht8.shape
      have HX8 := Go.Lib.hid (box_keep HX7.out hb8)
      have HY8 := Go.Lib.hid (box_keep HY7.out hb8)
      have HU8 := Go.Lib.hid (HU7.out.below hb8)
      have HT8 := Go.Lib.hid ht8
      have HB8 := Go.Lib.hid (btr HB7.out hb8)
      clear hp ht8 hb8
      go_wp2_with fail
      refine (law_alive _).mono ?_
      rintro r w9 ⟨rfl, hb9⟩
      have hl8 := (Array.getElem?_eq_some_iff.1 HY8.out).1
      obtain ⟨x0, x1, x2, xf⟩ := cells3 ((hb9.block w8.heap.size (by simp)).trans (Go.heap_alloc_new w8 (.cells #[.bool T.l, .slice d1 d2 d3, .slice d4 d5 d6] 25)))
      obtain ⟨y0, y1, y2, yf⟩ := cells3 ((hb9.block w3.heap.size (by simp; omega)).trans ((Below.heap_alloc w8 _ _ hl8).trans HY8.out))
      have HB9 := Go.Lib.hid (btr (bal HB8.out _) hb9)
      have HT9 := Go.Lib.hid ((HT8.out.below (bal (Below.refl _ _) _)).below hb9)
      have HU9 := Go.Lib.hid ((HU8.out.below (bal (Below.refl _ _) _)).below hb9)
      clear hb9
      go_wp2_with fail
      refine (ref_Same T T _ _ _ _ _ _ _ _ _ HT9.out HU9.out).mono ?_
      rintro r w10 ⟨rfl, hb10⟩
      rw [sameT_refl]
      go_wp2_with fail
      go_ret
      exact ⟨rfl, btr HB9.out hb10⟩

end Go.Proofs.Ytfolidaonnblbaa
