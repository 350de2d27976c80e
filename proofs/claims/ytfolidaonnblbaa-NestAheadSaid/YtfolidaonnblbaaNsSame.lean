/- Same: are two items the same? -/
import Derived.Test.YtfolidaonnblbaaNsRef3
import Derived.Lib.LazyBuf
import Derived.WalkLawsBesides
import Derived.StillTailTactics
namespace Go.Proofs.Ytfolidaonnblbaa
open Go.ChangeShapes Go.WideShapes Go.RowKit
set_option linter.unusedVariables false

def intC (l : List Int) : List Value := l.map (Value.int .u8)
theorem intC_one (l : List Int) : ∀ u ∈ intC l, u.oneCell' = true := by
  intro u hu
  obtain ⟨x, _, rfl⟩ := List.mem_map.1 hu
  rfl

/-- 'string(b)'. -/
theorem conv_rd {P : Program} (w : World) (src e dst : TypeId) (hs : P.underlying src = some (.slice e)) (he : P.underlying e = some (.int .u8)) (hd : P.underlying dst = some .string) (A : Option Addr) (n c : Nat) (l : List Int)
    (hr : Rd w A (intC l)) (hn : l.length = n) : (convert src dst (.slice A n c)).run P w = .ok (.string (strOfNums l)) w := by
  rcases A with _ | a
  · have hl : l = [] := by
      cases l with
      | nil => rfl
      | cons x xs =>
        obtain ⟨g, off, h, _⟩ := hr (by simp [intC])
        cases h
    subst hl
    exact run_convert_bytes_nil w src e hs he n c dst hd
  · by_cases hl : l = []
    · subst hl
      simp at hn
      subst hn
      have h2 : (loadCells a 0).run P w = .ok (([] : List Int).map (Value.int .u8)).toArray w := by
        simp [loadCells, loadCellsFrom]
      rw [run_convert_bytes_string w src dst e _ 0 c hs he hd, run_bytesToString w _ 0 c [] h2]
      rfl
    · obtain ⟨g, off, h, _, hc⟩ := hr (by simpa [intC] using hl)
      injection h with h
      subst h
      refine run_convert_bytes_arg w src e hs he g off n c l hn (fun i hi => ?_) dst hd
      refine hc i _ ?_
      have hi' : i < l.length := by omega
      simp [intC, List.getD, hi']

theorem conv_bs {P : Program} (w : World) (src e dst : TypeId) (hs : P.underlying src = some (.slice e)) (he : P.underlying e = some (.int .u8)) (hd : P.underlying dst = some .string) (A : Option Addr) (n c : Nat) (xs : List UInt8)
    (hr : Rd w A (bs xs)) (hn : xs.length = n) : (convert src dst (.slice A n c)).run P w = .ok (.string ⟨xs.toArray⟩) w := by
  have h := conv_rd (P := P) w src e dst hs he hd A n c (xs.map fun u => (u.toNat : Int)) (by
    have e : intC (xs.map fun u => (u.toNat : Int)) = bs xs := by simp [intC, bs, bv, Function.comp_def]
    rw [e]; exact hr) (by simpa using hn)
  rw [h, Go.Lib.Lz.strOfNums_map]


mutual
def sameT : Tree → Tree → Bool
  | .mk l b its, u => l == u.l && (b == u.b && (its.length == u.its.length && sameL its u.its))
def sameL : List Tree → List Tree → Bool
  | [], _ => true
  | t :: ts, us => match us with
    | [] => true
    | u :: us => sameT t u && sameL ts us
end

def SameSt (t : Tree) : Prop := ∀ (u : Tree) (P Q : Nat → Prop) (v0 v1 v2 u0 u1 u2 : Value) (w : World), RdT w P t v0 v1 v2 → RdT w Q u u0 u1 u2 →
    Calls Try.prog 16 #[.agg #[v0, v1, v2], .agg #[u0, u1, u2]] w fun r w' => r = .returned (.bool (sameT t u)) ∧ Below w.heap.size w w'

theorem its_size {l : Bool} {b : List UInt8} {its : List Tree} {i : Nat} (h : i < its.length) : SizeOf.sizeOf its[i] < SizeOf.sizeOf (Tree.mk l b its) := by
  have h1 := List.sizeOf_lt_of_mem (List.getElem_mem h)
  simp only [Tree.mk.sizeOf_spec]
  omega

set_option maxHeartbeats 1000000 in
set_option maxRecDepth 100000 in
theorem ref_Same_step (l : Bool) (b : List UInt8) (its : List Tree) (ih : ∀ i (h : i < its.length), SameSt its[i]) : SameSt (.mk l b its) := by
  intro u P Q v0 v1 v2 u0 u1 u2 w ht hu
  obtain ⟨l', b', its'⟩ := u
  have IH := Go.Lib.hid ih
  clear ih
  obtain ⟨A, c, B, d, cs, rfl, rfl, rfl, hbc, hc, hid', hd, hA, hB, hL⟩ := ht.parts
  obtain ⟨A', c', B', d', cs', rfl, rfl, rfl, hbc', hc', hid'', hd', hA', hB', hL'⟩ := hu.parts
  clear ht hu
  obtain ⟨R, hR⟩ : ∃ R, R = sameT (.mk l b its) (.mk l' b' its') := ⟨_, rfl⟩
  rw [← hR]
  have HRR := Go.Lib.hid hR
  have HA := Go.Lib.hid hA
  have HB := Go.Lib.hid hB
  have HA' := Go.Lib.hid hA'
  have HB' := Go.Lib.hid hB'
  have HL := Go.Lib.hid hL
  have HL' := Go.Lib.hid hL'
  clear hR hA hB hA' hB' hL hL'
  by_cases hl : l = l'
  case neg =>
    have hR0 : R = false := by rw [HRR.out]; simp [sameT, Tree.l, hl]
    have hlb : (l != l') = true := by simpa using hl
    subst hR0
    go_enter Try.func16, Try.ntmps16
    go_wp2_with fail
    go_ret
    exact ⟨rfl, bal (bal (Below.refl _ _) _) _⟩
  subst hl
  have hcv : ∀ w1 : World, Below w.heap.size w w1 → (convert 22 9 (.slice A b.length c)).run Try.prog w1 = .ok (.string ⟨b.toArray⟩) w1 := fun w1 h =>
    conv_bs w1 _ 5 _ Try.underlying22 Try.underlying5 Try.underlying9 A _ c b (HA.out.rd.below h) rfl
  have hcv' : ∀ w1 : World, Below w.heap.size w w1 → (convert 22 9 (.slice A' b'.length c')).run Try.prog w1 = .ok (.string ⟨b'.toArray⟩) w1 := fun w1 h =>
    conv_bs w1 _ 5 _ Try.underlying22 Try.underlying5 Try.underlying9 A' _ c' b' (HA'.out.rd.below h) rfl
  have k1 := hcv ((w.alloc (.cells #[.bool l, .slice A b.length c, .slice B its.length d] 25)).alloc (.cells #[.bool l, .slice A' b'.length c', .slice B' its'.length d'] 25)) (bal (bal (Below.refl _ _) _) _)
  have k2 := hcv' ((w.alloc (.cells #[.bool l, .slice A b.length c, .slice B its.length d] 25)).alloc (.cells #[.bool l, .slice A' b'.length c', .slice B' its'.length d'] 25)) (bal (bal (Below.refl _ _) _) _)
  clear hcv hcv'
  by_cases hb : b = b'
  case neg =>
    have hR0 : R = false := by rw [HRR.out]; simp [sameT, Tree.b, hb]
    subst hR0
    go_enter Try.func16, Try.ntmps16
    go_wp2_with fail
    go_ret
    exact ⟨rfl, bal (bal (Below.refl _ _) _) _⟩
  subst hb
  by_cases hi : its.length = its'.length
  case neg =>
    have hR0 : R = false := by rw [HRR.out]; simp [sameT, Tree.its, hi]
    have hib : ((its.length : Int) != (its'.length : Int)) = true := by rw [bne_iff_ne]; omega
    subst hR0
    go_enter Try.func16, Try.ntmps16
    go_wp2_with fail
    go_ret
    exact ⟨rfl, bal (bal (Below.refl _ _) _) _⟩
  have hib : ((its.length : Int) != (its'.length : Int)) = false := by rw [bne_eq_false_iff_eq]; omega
  have hR0 : R = sameL its its' := by rw [HRR.out]; simp [sameT, Tree.b, Tree.its, Tree.l, hi]
  have HR0 := Go.Lib.hid hR0
  have HI := Go.Lib.hid hi
  clear hi hR0
  obtain ⟨w2, hw2⟩ : ∃ w2, w2 = (w.alloc (.cells #[.bool l, .slice A b.length c, .slice B its.length d] 25)).alloc (.cells #[.bool l, .slice A' b.length c', .slice B' its'.length d'] 25) := ⟨_, rfl⟩
  have hb2 : Below w.heap.size w w2 := by rw [hw2]; exact bal (bal (Below.refl _ _) _) _
  have hsz2 : w2.heap.size = w.heap.size + 2 := by rw [hw2]; simp
  have x2 : w2.heap[w.heap.size]? = some (.cells #[.bool l, .slice A b.length c, .slice B its.length d] 25 (0, 0)) := by
    rw [hw2]
    exact (Below.heap_alloc _ _ w.heap.size (by simp)).trans (Go.heap_alloc_new w _)
  have y2 : w2.heap[w.heap.size + 1]? = some (.cells #[.bool l, .slice A' b.length c', .slice B' its'.length d'] 25 (0, 0)) := by
    rw [hw2]
    have := Go.heap_alloc_new (w.alloc (.cells #[.bool l, .slice A b.length c, .slice B its.length d] 25)) (.cells #[.bool l, .slice A' b.length c', .slice B' its'.length d'] 25)
    simpa using this
  have HW2 := Go.Lib.hid hw2
  have HB2 := Go.Lib.hid hb2
  have HSZ2 := Go.Lib.hid hsz2
  have X2 := Go.Lib.hid x2
  have Y2 := Go.Lib.hid y2
  clear hw2 hb2 hsz2 x2 y2
  go_enter Try.func16, Try.ntmps16
  go_wp2_with fail
  go_loopg [5] its.length (fun g v wr => ∃ j : Nat, v = .int .i64 j ∧ j ≤ its.length ∧ g = its.length - j ∧ Hid (R = sameL (its.drop j) (its'.drop j)) ∧ Hid (Below w2.heap.size w2 wr))
  case atStart => exact ⟨0, rfl, Nat.zero_le _, rfl, HR0, Go.Lib.hid (by rw [HW2.out]; exact Below.refl _ _)⟩
  case round =>
    obtain ⟨j, rfl, hj, rfl, HRj, HBj⟩ := hrel
    have hs2 : w.heap.size + 2 ≤ wr.heap.size := by have h1 := HBj.out.size; have h2 := HSZ2.out; omega
    obtain ⟨x0, x1, x2, xf⟩ := cells3 ((HBj.out.block w.heap.size (by have := HSZ2.out; omega)).trans X2.out)
    obtain ⟨y0, y1, y2, yf⟩ := cells3 ((HBj.out.block (w.heap.size + 1) (by have := HSZ2.out; omega)).trans Y2.out)
    by_cases hlt : j < its.length
    · have hlt' : j < its'.length := by have := HI.out; omega
      have hbw : Below w.heap.size w wr := HB2.out.trans (HBj.out.mono (by have := HSZ2.out; omega))
      obtain ⟨p0, p1, p2, e0, e1, e2, hp⟩ := HL.out.at_ j hlt
      obtain ⟨q0, q1, q2, f0, f1, f2, hq⟩ := HL'.out.at_ j hlt'
      obtain ⟨g, off, rfl, hg, _, hc1⟩ := HB.out (by intro h; rw [h] at e0; cases e0)
      obtain ⟨g', off', rfl, hg', _, hc1'⟩ := HB'.out (by intro h; rw [h] at f0; cases f0)
      have c0 : wr.cell? ⟨g, off + j * 3, none⟩ = some p0 := by
        have h5 := hc1 (3 * j) p0 e0
        rw [hbw.cell (p := ⟨g, off + j * 3, none⟩) hg, show j * 3 = 3 * j from by omega]; exact h5
      have c1 : wr.cell? ⟨g, off + j * 3 + 1, none⟩ = some p1 := by
        have h5 := hc1 (3 * j + 1) p1 e1
        rw [hbw.cell (p := ⟨g, off + j * 3 + 1, none⟩) hg, show off + j * 3 + 1 = off + (3 * j + 1) from by omega]; exact h5
      have c2 : wr.cell? ⟨g, off + j * 3 + 2, none⟩ = some p2 := by
        have h5 := hc1 (3 * j + 2) p2 e2
        rw [hbw.cell (p := ⟨g, off + j * 3 + 2, none⟩) hg, show off + j * 3 + 2 = off + (3 * j + 2) from by omega]; exact h5
      have c0' : wr.cell? ⟨g', off' + j * 3, none⟩ = some q0 := by
        have h5 := hc1' (3 * j) q0 f0
        rw [hbw.cell (p := ⟨g', off' + j * 3, none⟩) hg', show j * 3 = 3 * j from by omega]; exact h5
      have c1' : wr.cell? ⟨g', off' + j * 3 + 1, none⟩ = some q1 := by
        have h5 := hc1' (3 * j + 1) q1 f1
        rw [hbw.cell (p := ⟨g', off' + j * 3 + 1, none⟩) hg', show off' + j * 3 + 1 = off' + (3 * j + 1) from by omega]; exact h5
      have c2' : wr.cell? ⟨g', off' + j * 3 + 2, none⟩ = some q2 := by
        have h5 := hc1' (3 * j + 2) q2 f2
        rw [hbw.cell (p := ⟨g', off' + j * 3 + 2, none⟩) hg', show off' + j * 3 + 2 = off' + (3 * j + 2) from by omega]; exact h5
      have HP := Go.Lib.hid hp
      have HQ := Go.Lib.hid hq
      have HBW := Go.Lib.hid hbw
      have hj0 : (0 : Int) ≤ (j : Int) := by omega
      have hj1 : (j : Int) < (its.length : Int) := by omega
      have hj2 : (j : Int) < (its'.length : Int) := by omega
      clear hp hq hbw e0 e1 e2 f0 f1 f2 hc1 hc1'
      have hst : sameL (its.drop j) (its'.drop j) = (sameT its[j] its'[j] && sameL (its.drop (j + 1)) (its'.drop (j + 1))) := by
        rw [List.drop_eq_getElem_cons hlt, List.drop_eq_getElem_cons hlt', sameL]
      have HST := Go.Lib.hid hst
      clear hst
      cases hs : sameT its[j] its'[j] with
      | true =>
        have HS := Go.Lib.hid hs
        clear hs
        go_wp2_with fail
        go_still_tail 10, (by kernel_rfl)
        change wpList _ _ _ _ _ wr.drew
        go_wp2_with fail
        refine (IH.out j hlt its'[j] P Q p0 p1 p2 q0 q1 q2 _ (HP.out.below (HBW.out.drew)) (HQ.out.below (HBW.out.drew))).mono ?_
        rintro r w5 ⟨rfl, hb5⟩
        rw [HS.out]
        have HB5 := Go.Lib.hid hb5
        clear hb5
        go_wp2_with fail
        go_roundg (its.length - (j + 1))
        case measure => omega
        case rel =>
          refine ⟨j + 1, by go_num, by omega, rfl, Go.Lib.hid (by rw [HRj.out, HST.out, HS.out, Bool.true_and]), Go.Lib.hid (btr (bdr HBj.out) HB5.out)⟩
      | false =>
        have HS := Go.Lib.hid hs
        clear hs
        have hRf : R = false := by rw [HRj.out, HST.out, HS.out, Bool.false_and]
        subst hRf
        go_wp2_with fail
        go_still_tail 10, (by kernel_rfl)
        change wpList _ _ _ _ _ wr.drew
        go_wp2_with fail
        refine (IH.out j hlt its'[j] P Q p0 p1 p2 q0 q1 q2 _ (HP.out.below (HBW.out.drew)) (HQ.out.below (HBW.out.drew))).mono ?_
        rintro r w5 ⟨rfl, hb5⟩
        rw [HS.out]
        have HB5 := Go.Lib.hid hb5
        clear hb5
        go_wp2_with fail
        go_ret
        exact ⟨rfl, btr (bdr HBW.out) HB5.out⟩
    · go_wp2_with fail
      obtain rfl : j = its.length := by omega
      go_ret
      have hRt : R = true := by
        rw [HRj.out, List.drop_eq_nil_of_le (Nat.le_refl _)]
        rfl
      rw [hRt]
      exact ⟨rfl, HB2.out.trans (HBj.out.mono (by have := HSZ2.out; omega))⟩

theorem ref_Same_lt : ∀ (k : Nat) (t : Tree), SizeOf.sizeOf t < k → SameSt t
  | 0, t, h => by omega
  | k + 1, .mk l b its, h => ref_Same_step l b its fun i hi => ref_Same_lt k its[i] (by have := its_size (l := l) (b := b) hi; omega)
theorem ref_Same (t : Tree) : SameSt t := ref_Same_lt _ t (Nat.lt_succ_self _)

mutual
theorem sameT_refl : ∀ t : Tree, sameT t t = true
  | .mk l b its => by simp [sameT, Tree.l, Tree.b, Tree.its, sameL_refl its]
theorem sameL_refl : ∀ ts : List Tree, sameL ts ts = true
  | [] => by simp [sameL]
  | t :: ts => by simp [sameL, sameT_refl t, sameL_refl ts]
end
mutual
theorem sameT_eq : ∀ t u : Tree, sameT t u = true → t = u
  | .mk l b its, .mk l' b' its', h => by
    simp only [sameT, Tree.l, Tree.b, Tree.its, Bool.and_eq_true, beq_iff_eq] at h
    obtain ⟨rfl, rfl, h1, h2⟩ := h
    rw [sameL_eq its its' h1 h2]
theorem sameL_eq : ∀ ts us : List Tree, ts.length = us.length → sameL ts us = true → ts = us
  | [], [], _, _ => rfl
  | [], _ :: _, h, _ => by simp at h
  | _ :: _, [], h, _ => by simp at h
  | t :: ts, u :: us, h, hs => by
    simp only [sameL, Bool.and_eq_true] at hs
    rw [sameT_eq t u hs.1, sameL_eq ts us (by simpa using h) hs.2]
end

end Go.Proofs.Ytfolidaonnblbaa
