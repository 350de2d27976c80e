/- The program's First and Decode. -/
import Derived.Test.YtfolidaonnblbaaNsItem2
import Derived.RegionTactic
import Derived.ChangeAlike
namespace Go.Proofs.Ytfolidaonnblbaa
open Go.ChangeShapes Go.WideShapes Go.RowKit
set_option linter.unusedVariables false

theorem below_set3 {B : Nat} {w w1 : World} (hb : Below B w w1) {g : Nat} (hg : B ≤ g) (x y z : Value) : Below B w (((w1.setCell ⟨g, 0, none⟩ x).setCell ⟨g, 1, none⟩ y).setCell ⟨g, 2, none⟩ z) :=
  ((hb.setCell (p := ⟨g, 0, none⟩) hg x).setCell (p := ⟨g, 1, none⟩) hg y).setCell (p := ⟨g, 2, none⟩) hg z
/-- What First answers, of the program and of the reference. -/
def FirstP (w : World) (p : Except Int (Tree × Nat)) (r : Ending) (w' : World) : Prop :=
  match p with
  | .ok (t, m) => ∃ v0 v1 v2, r = .returned (.tuple #[.agg #[v0, v1, v2], .int .i64 m, .int .i64 0]) ∧ RdT w' (fun g => w.heap.size ≤ g) t v0 v1 v2 ∧ Below w.heap.size w w'
  | .error e => r = .returned (.tuple #[item0, .int .i64 0, .int .i64 e]) ∧ Below w.heap.size w w'
def DecP (w : World) (p : Except Int Tree) (r : Ending) (w' : World) : Prop :=
  match p with
  | .ok t => ∃ v0 v1 v2, r = .returned (.tuple #[.agg #[v0, v1, v2], .int .i64 0]) ∧ RdT w' (fun g => w.heap.size ≤ g) t v0 v1 v2 ∧ Below w.heap.size w w'
  | .error e => r = .returned (.tuple #[item0, .int .i64 e]) ∧ Below w.heap.size w w'

set_option maxHeartbeats 1000000 in
set_option maxRecDepth 100000 in
theorem nest_First (A : Option Addr) (n c : Nat) (xs : List UInt8) (w : World) (hr : Rd w A (bs xs)) (hn : n = xs.length) (hnc : n ≤ c) (hc : c ≤ 9223372036854775807 ∧ n ≤ 175921860444160) :
    Calls Try.prog 13 #[.slice A n c] w (FirstP w (pFirst xs)) := by
  have HR := Go.Lib.hid hr
  have HN := Go.Lib.hid hn
  clear hr hn
  generalize hP : pFirst xs = P
  have HP := Go.Lib.hid hP
  clear hP
  have h0 : RdrAt ((w.alloc (.cells #[.bool false, .slice none 0 0, .slice none 0 0] 25)).alloc (.cells #[.slice A n c, .int .i64 0] 46)) (w.heap.size + 1) xs 0 := by
    have hb := Go.heap_alloc_new (w.alloc (.cells #[.bool false, .slice none 0 0, .slice none 0 0] 25)) (.cells #[.slice A n c, .int .i64 0] 46)
    refine ⟨A, n, c, by simpa [Rdr] using hb, HN.out, hnc, by omega, (HR.out.alloc _).alloc _, fun hne g hg => ?_⟩
    obtain ⟨g', off, rfl, hg', _⟩ := HR.out (by simpa [bs] using hne)
    simp at hg
    omega
  have H0 := Go.Lib.hid h0
  clear h0
  go_enter Try.func13, Try.ntmps13
  go_wp2_with fail
  refine (nest_item 8 (by omega) (w.heap.size + 1) xs 0 _ (by exact H0.out) (by simp)).mono ?_
  intro r w1 hp
  have hres : ∀ w1 : World, Kp (fun k => k = w.heap.size + 1) ((w.alloc (.cells #[.bool false, .slice none 0 0, .slice none 0 0] 25)).alloc (.cells #[.slice A n c, .int .i64 0] 46)) w1 →
      w1.heap[w.heap.size]? = some (.cells #[.bool false, .slice none 0 0, .slice none 0 0] 25 (0, 0)) := fun w1 hk =>
    (hk.block w.heap.size (by simp; omega) (by omega)).trans ((Below.heap_alloc _ _ w.heap.size (by simp)).trans (Go.heap_alloc_new w _))
  cases P with
  | error e =>
    rw [show pItem 8 xs = .error e from HP.out] at hp
    obtain ⟨rfl, ⟨A1, n1, c1, h1⟩, hk⟩ := hp
    have hs1 : w.heap.size + 1 < w1.heap.size := by have := hk.size; simp at this; omega
    have hs0 : w.heap.size < w1.heap.size := by omega
    have he := pItem_err 8 xs e HP.out
    have he1 : (e != 0) = true := by rw [bne_iff_ne]; omega
    obtain ⟨p0, p1, p2, pf⟩ := cells3 (hres w1 hk)
    obtain ⟨i0, i1, iff⟩ := cells2 h1
    have HK := Go.Lib.hid hk
    clear hres hk h1
    unfold item0
    go_wp2
    go_region
    all_goals
      go_wp2
      refine bodyPost_ret (v := .tuple #[item0, .int .i64 0, .int .i64 e]) (by simp [results, Try.results13, go_sem, item0, p0, p1, p2, hs0]) rfl ⟨rfl, ?_⟩
      have hb : Below w.heap.size w w1 := Kp.below (bal (bal (Below.refl _ _) _) _) HK.out (fun i h => by omega)
      exact bdr (bal (bst (bst (bst hb (p := ⟨w.heap.size, 0, none⟩) (Nat.le_refl _) _) (p := ⟨w.heap.size, 1, none⟩) (Nat.le_refl _) _) (p := ⟨w.heap.size, 2, none⟩) (Nat.le_refl _) _) _)
  | ok tm =>
    obtain ⟨t, m⟩ := tm
    rw [show pItem 8 xs = .ok (t, m) from HP.out] at hp
    obtain ⟨v0, v1, v2, rfl, ht, hrd, hk⟩ := hp
    have hm := pItem_ok (show pItem 8 xs = .ok (t, m) from HP.out)
    have hs1 : w.heap.size + 1 < w1.heap.size := by have := hk.size; simp at this; omega
    have hs0 : w.heap.size < w1.heap.size := by omega
    obtain ⟨p0, p1, p2, pf⟩ := cells3 (hres w1 hk)
    obtain ⟨A1, n1, c1, h1, hn1, _⟩ := hrd
    obtain ⟨i0, i1, iff⟩ := cells2 h1
    obtain ⟨a1, a2, a3, a4, a5, a6, rfl, rfl, rfl⟩ := ht.shape
    have hn2 : (n : Int) - (n1 : Int) = (m : Int) := by
      have := HN.out
      rw [List.length_drop] at hn1
      omega
    have HN2 := Go.Lib.hid hn2
    have hn3 : n1 ≤ n := by omega
    have HK := Go.Lib.hid hk
    have HT := Go.Lib.hid ht
    clear hres hk h1 ht hn1 hn2
    go_wp2
    go_region
    all_goals
      go_wp2
      refine bodyPost_ret (v := .tuple #[.agg #[.bool t.l, .slice a1 a2 a3, .slice a4 a5 a6], .int .i64 m, .int .i64 0]) (by rw [← HN2.out]; simp [results, Try.results13, go_sem, p0, p1, p2, hs0]) rfl ⟨_, _, _, rfl, ?_, ?_⟩
      · have h1 := HT.out.kp (kp_set3 w1 w.heap.size (.bool t.l) (.slice a1 a2 a3) (.slice a4 a5 a6)) (fun g hg h => by simp at hg; omega)
        exact ((h1.below (bdr (bal (Below.refl _ _) _))).mono (fun g _ h => by simp at h; omega))
      · have hb : Below w.heap.size w w1 := Kp.below (bal (bal (Below.refl _ _) _) _) HK.out (fun i h => by omega)
        exact bdr (bal (bst (bst (bst hb (p := ⟨w.heap.size, 0, none⟩) (Nat.le_refl _) _) (p := ⟨w.heap.size, 1, none⟩) (Nat.le_refl _) _) (p := ⟨w.heap.size, 2, none⟩) (Nat.le_refl _) _) _)

theorem pFirst_err {xs : List UInt8} {e : Int} (h : pFirst xs = .error e) : e = 21 ∨ e = 22 ∨ e = 23 := pItem_err 8 xs e h

set_option maxHeartbeats 1000000 in
set_option maxRecDepth 100000 in
theorem nest_Decode (A : Option Addr) (n c : Nat) (xs : List UInt8) (w : World) (hr : Rd w A (bs xs)) (hn : n = xs.length) (hnc : n ≤ c) (hc : c ≤ 9223372036854775807 ∧ n ≤ 175921860444160) :
    Calls Try.prog 17 #[.slice A n c] w (DecP w (pDecode xs)) := by
  have HR := Go.Lib.hid hr
  have HN := Go.Lib.hid hn
  clear hr hn
  generalize hP : pDecode xs = P
  have HP := Go.Lib.hid hP
  clear hP
  go_enter Try.func17, Try.ntmps17
  go_wp2_with fail
  refine (nest_First A n c xs _ (HR.out.alloc _) HN.out hnc hc).mono ?_
  intro r w1 hp
  rcases hpf : pFirst xs with e | ⟨t, m⟩
  · rw [hpf] at hp
    obtain ⟨rfl, hb⟩ := hp
    have hPo : P = .error e := by rw [← HP.out, pDecode, hpf]
    subst hPo
    have he := pFirst_err hpf
    have he1 : (e == 0) = false := by rw [beq_eq_false_iff_ne]; omega
    have hs1 : w.heap.size < w1.heap.size := by have := hb.size; simp at this; omega
    obtain ⟨p0, p1, p2, pf⟩ := cells3 ((hb.block w.heap.size (by simp)).trans (Go.heap_alloc_new w _))
    have HB := Go.Lib.hid hb
    clear hb hpf
    unfold item0
    go_wp2
    refine bodyPost_ret (v := .tuple #[item0, .int .i64 e]) (by simp [results, Try.results17, go_sem, item0, p0, p1, p2, hs1]) rfl ⟨rfl, ?_⟩
    exact bal (below_set3 (btr (bal (Below.refl _ _) _) HB.out) (Nat.le_refl _) _ _ _) _
  · have hm := pItem_ok (show pItem 8 xs = .ok (t, m) from hpf)
    rw [hpf] at hp
    obtain ⟨v0, v1, v2, rfl, ht, hb⟩ := hp
    have hs1 : w.heap.size < w1.heap.size := by have := hb.size; simp at this; omega
    obtain ⟨p0, p1, p2, pf⟩ := cells3 ((hb.block w.heap.size (by simp)).trans (Go.heap_alloc_new w _))
    obtain ⟨a1, a2, a3, a4, a5, a6, rfl, rfl, rfl⟩ := ht.shape
    have HB := Go.Lib.hid hb
    have HT := Go.Lib.hid ht
    have HPF := Go.Lib.hid hpf
    clear hb ht hpf
    by_cases hlt : m < xs.length
    · have hPo : P = .error 24 := by
        rw [← HP.out, pDecode, HPF.out]
        simp [hlt]
      subst hPo
      have hln : m < n := by have := HN.out; omega
      go_wp2
      refine bodyPost_ret (v := .tuple #[item0, .int .i64 24]) (by simp [results, Try.results17, go_sem, item0, p0, p1, p2, hs1]) rfl ⟨rfl, ?_⟩
      exact bal (below_set3 (btr (bal (Below.refl _ _) _) HB.out) (Nat.le_refl _) _ _ _) _
    · have hPo : P = .ok t := by
        rw [← HP.out, pDecode, HPF.out]
        simp [hlt]
      subst hPo
      have hln : ¬ m < n := by have := HN.out; omega
      go_wp2
      refine bodyPost_ret (v := .tuple #[.agg #[.bool t.l, .slice a1 a2 a3, .slice a4 a5 a6], .int .i64 0]) (by simp [results, Try.results17, go_sem, p0, p1, p2, hs1]) rfl ⟨_, _, _, rfl, ?_, ?_⟩
      · have h1 := HT.out.kp (kp_set3 w1 w.heap.size (.bool t.l) (.slice a1 a2 a3) (.slice a4 a5 a6)) (fun g hg h => by simp at hg; omega)
        exact (h1.below (bal (Below.refl _ _) _)).mono (fun g _ h => by simp at h; omega)
      · exact bal (below_set3 (btr (bal (Below.refl _ _) _) HB.out) (Nat.le_refl _) _ _ _) _

end Go.Proofs.Ytfolidaonnblbaa
