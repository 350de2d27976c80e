/- The reference's First and Decode. -/
import Derived.Test.YtfolidaonnblbaaNsRef2
namespace Go.Proofs.Ytfolidaonnblbaa
open Go.ChangeShapes Go.WideShapes Go.RowKit
set_option linter.unusedVariables false

theorem ref_first : ∀ d, d ≤ 8 → RFirSt d
  | 0, hd => fun A n c xs a en AA EE D w hr hn hnc hc hae hen hA hE hD => ref_first0 0 hd none (.inl ⟨rfl, rfl⟩) A n c xs a en AA EE D w hr hn hnc hc hae hen hA hE hD
  | d + 1, hd => fun A n c xs a en AA EE D w hr hn hnc hc hae hen hA hE hD => ref_first0 (d + 1) hd (some fun b => pLoop (pItem d) b.length b)
      (.inr ⟨_, rfl, by omega, fun A n c xs a en AA EE D w hr hn hnc hc hae hen hsz hA hE hD => ref_items d (by omega) (ref_first d (by omega)) A n c xs a en AA EE D w hr hn hnc hc hae hen hsz hA hE (by simpa using hD)⟩) A n c xs a en AA EE D w hr hn hnc hc hae hen hA hE hD

theorem seg_all (xs : List UInt8) : seg xs 0 xs.length = xs := by simp [seg]

set_option maxHeartbeats 1000000 in
set_option maxRecDepth 100000 in
theorem ref_First (A : Option Addr) (n c : Nat) (xs : List UInt8) (w : World) (hr : Rd w A (bs xs)) (hn : n = xs.length) (hnc : n ≤ c) (hc : c ≤ 9223372036854775807 ∧ n ≤ 175921860444160) :
    Calls Try.prog 14 #[.slice A n c] w (FirstP w (pFirst xs)) := by
  have HR := Go.Lib.hid hr
  have HN := Go.Lib.hid hn
  clear hr hn
  generalize hP : pFirst xs = P
  have HP := Go.Lib.hid hP
  clear hP
  go_enter Try.func14, Try.ntmps14
  go_wp2_with fail
  refine (ref_first 8 (by omega) A n c xs 0 n _ _ _ _ (HR.out.alloc _) HN.out hnc hc (by omega) (Nat.le_refl _) rfl rfl (by simp)).mono ?_
  intro r w1 hp
  rw [show seg xs 0 n = xs from by rw [HN.out]; exact seg_all xs] at hp
  cases P with
  | error e =>
    rw [show pItem 8 xs = .error e from HP.out] at hp
    obtain ⟨rfl, hb⟩ := hp
    obtain ⟨p0, p1, p2, pf⟩ := cells3 ((hb.block w.heap.size (by simp)).trans (Go.heap_alloc_new w _))
    have HB := Go.Lib.hid hb
    clear hb
    unfold item0
    go_wp2
    refine bodyPost_ret (v := .tuple #[item0, .int .i64 0, .int .i64 e]) (by simp [results, Try.results14, go_sem, item0, p0, p1, p2]) rfl ⟨rfl, ?_⟩
    exact below_set3 (btr (bal (Below.refl _ _) _) HB.out) (Nat.le_refl _) _ _ _
  | ok tm =>
    obtain ⟨t, m⟩ := tm
    rw [show pItem 8 xs = .ok (t, m) from HP.out] at hp
    obtain ⟨v0, v1, v2, rfl, ht, hb⟩ := hp
    obtain ⟨p0, p1, p2, pf⟩ := cells3 ((hb.block w.heap.size (by simp)).trans (Go.heap_alloc_new w _))
    obtain ⟨a1, a2, a3, a4, a5, a6, rfl, rfl, rfl⟩ := ht.shape
    have HB := Go.Lib.hid hb
    have HT := Go.Lib.hid ht
    clear hb ht
    rw [Nat.zero_add]
    go_wp2
    refine bodyPost_ret (v := .tuple #[.agg #[.bool t.l, .slice a1 a2 a3, .slice a4 a5 a6], .int .i64 m, .int .i64 0]) (by simp [results, Try.results14, go_sem, p0, p1, p2]) rfl ⟨_, _, _, rfl, ?_, ?_⟩
    · exact (HT.out.kp (kp_set3 w1 w.heap.size (.bool t.l) (.slice a1 a2 a3) (.slice a4 a5 a6)) (fun g hg h => by simp at hg; omega)).mono (fun g _ h => by simp at h; omega)
    · exact below_set3 (btr (bal (Below.refl _ _) _) HB.out) (Nat.le_refl _) _ _ _

set_option maxHeartbeats 1000000 in
set_option maxRecDepth 100000 in
theorem ref_Decode (A : Option Addr) (n c : Nat) (xs : List UInt8) (w : World) (hr : Rd w A (bs xs)) (hn : n = xs.length) (hnc : n ≤ c) (hc : c ≤ 9223372036854775807 ∧ n ≤ 175921860444160) :
    Calls Try.prog 18 #[.slice A n c] w (DecP w (pDecode xs)) := by
  have HR := Go.Lib.hid hr
  have HN := Go.Lib.hid hn
  clear hr hn
  generalize hP : pDecode xs = P
  have HP := Go.Lib.hid hP
  clear hP
  go_enter Try.func18, Try.ntmps18
  go_wp2_with fail
  refine (ref_First A n c xs _ (HR.out.alloc _) HN.out hnc hc).mono ?_
  intro r w1 hp
  rcases hpf : pFirst xs with e | ⟨t, m⟩
  · rw [hpf] at hp
    obtain ⟨rfl, hb⟩ := hp
    have hPo : P = .error e := by rw [← HP.out, pDecode, hpf]
    subst hPo
    have he := pFirst_err hpf
    have he1 : (e != 0) = true := by rw [bne_iff_ne]; omega
    have hs1 : w.heap.size < w1.heap.size := by have := hb.size; simp at this; omega
    obtain ⟨p0, p1, p2, pf⟩ := cells3 ((hb.block w.heap.size (by simp)).trans (Go.heap_alloc_new w _))
    have HB := Go.Lib.hid hb
    clear hb hpf
    unfold item0
    go_wp2
    refine bodyPost_ret (v := .tuple #[item0, .int .i64 e]) (by simp [results, Try.results18, go_sem, item0, p0, p1, p2, hs1]) rfl ⟨rfl, ?_⟩
    exact bal (below_set3 (btr (bal (Below.refl _ _) _) HB.out) (Nat.le_refl _) _ _ _) _
  · have hm := pItem_ok (show pItem 8 xs = .ok (t, m) from hpf)
    rw [hpf] at hp
    obtain ⟨v0, v1, v2, rfl, ht, hb⟩ := hp
    have hs1 : w.heap.size < w1.heap.size := by have := hb.size; simp at this; omega
    obtain ⟨p0, p1, p2, pf⟩ := cells3 ((hb.block w.heap.size (by simp)).trans (Go.heap_alloc_new w _))
    obtain ⟨a1, a2, a3, a4, a5, a6, rfl, rfl, rfl⟩ := ht.shape
    have HB := Go.Lib.hid hb
    have HT := Go.Lib.hid ht
    have HPF := Go.Lib.hid hpf
    clear hb ht hpf
    by_cases hlt : m < xs.length
    · have hPo : P = .error 24 := by
        rw [← HP.out, pDecode, HPF.out]
        simp [hlt]
      subst hPo
      have hln : m < n := by have := HN.out; omega
      go_wp2
      refine bodyPost_ret (v := .tuple #[item0, .int .i64 24]) (by simp [results, Try.results18, go_sem, item0, p0, p1, p2, hs1]) rfl ⟨rfl, ?_⟩
      exact bal (below_set3 (btr (bal (Below.refl _ _) _) HB.out) (Nat.le_refl _) _ _ _) _
    · have hPo : P = .ok t := by
        rw [← HP.out, pDecode, HPF.out]
        simp [hlt]
      subst hPo
      have hln : ¬ m < n := by have := HN.out; omega
      go_wp2
      refine bodyPost_ret (v := .tuple #[.agg #[.bool t.l, .slice a1 a2 a3, .slice a4 a5 a6], .int .i64 0]) (by simp [results, Try.results18, go_sem, p0, p1, p2, hs1]) rfl ⟨_, _, _, rfl, ?_, ?_⟩
      · have h1 := HT.out.kp (kp_set3 w1 w.heap.size (.bool t.l) (.slice a1 a2 a3) (.slice a4 a5 a6)) (fun g hg h => by simp at hg; omega)
        exact (h1.below (bal (Below.refl _ _) _)).mono (fun g _ h => by simp at h; omega)
      · exact bal (below_set3 (btr (bal (Below.refl _ _) _) HB.out) (Nat.le_refl _) _ _ _) _

end Go.Proofs.Ytfolidaonnblbaa
