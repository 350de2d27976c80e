/- Hash.Len, Hash.Clone. -/
import Derived.Test.YtkjdmjflppcofaaDgPar
import Derived.Deep.RegionLaw
namespace Go.Proofs.Ytkjdmjflppcofaa
open Go.ChangeShapes Go.WideShapes Go.ChangeAt Go.RowKit
set_option linter.unusedVariables false

set_option maxHeartbeats 400000 in
theorem digest_Len (hb : Nat) (R : Option Nat) (base : Nat) (xs : List UInt8) (w : World) (hh : HashAt w hb R base xs) (hlen : xs.length ≤ 140737488355328) :
    Calls Try.prog 27 #[.pointer (some ⟨hb, 0, none⟩)] w fun e w' => e = .returned (.int .i64 xs.length) ∧ w' = w := by
  obtain ⟨s, A, n, c, hblk, hs, hown, rfl⟩ := hh
  obtain ⟨c0, c1, c2, c3, c4, c5, hfr⟩ := cells6 hblk
  have hlt : hb < w.heap.size := (Array.getElem?_eq_some_iff.1 hblk).1
  clear hown hs hblk
  go_enter Try.func27, Try.ntmps27
  go_wp2_with fail
  go_ret
  exact ⟨rfl, rfl⟩

theorem HashAt.below {w w' : World} {hb : Nat} {R : Option Nat} {base : Nat} {xs : List UInt8} (h : HashAt w hb R base xs) (hbl : Below w.heap.size w w') : HashAt w' hb R base xs := by
  obtain ⟨s, A, n, c, hblk, hs, hown, hR⟩ := h
  exact ⟨s, A, n, c, (hbl.block hb (Array.getElem?_eq_some_iff.1 hblk).1).trans hblk, hs, hown.below hbl, hR⟩
theorem HashAt.kp {S : Nat → Prop} {w w' : World} {hb : Nat} {R : Option Nat} {base : Nat} {xs : List UInt8} (h : HashAt w hb R base xs) (hk : Kp S w w') (h1 : ¬ S hb) (h2 : ∀ g, R = some g → ¬ S g) : HashAt w' hb R base xs := by
  obtain ⟨s, A, n, c, hblk, hs, hown, hR⟩ := h
  exact ⟨s, A, n, c, (hk.block hb (Array.getElem?_eq_some_iff.1 hblk).1 h1).trans hblk, hs, hown.kp hk (fun g e => h2 g (by rw [← hR]; exact e)), hR⟩
theorem HashAt.lt {w : World} {hb : Nat} {R : Option Nat} {base : Nat} {xs : List UInt8} (h : HashAt w hb R base xs) : hb < w.heap.size ∧ ∀ g, R = some g → base ≤ g ∧ g < w.heap.size := by
  obtain ⟨s, A, n, c, hblk, hs, hown, hR⟩ := h
  exact ⟨(Array.getElem?_eq_some_iff.1 hblk).1, fun g e => hown.block_lt g (by rw [hR]; exact e)⟩
theorem HashAt.more {w : World} {hb : Nat} {R : Option Nat} {base b : Nat} {xs : List UInt8} (h : HashAt w hb R base xs) (hb' : ∀ g, R = some g → b ≤ g) : HashAt w hb R b xs := by
  obtain ⟨s, A, n, c, hblk, hs, hown, hR⟩ := h
  exact ⟨s, A, n, c, hblk, hs, hown.more (fun g e => hb' g (by rw [← hR]; exact e)), hR⟩

set_option maxHeartbeats 2000000 in
set_option maxRecDepth 100000 in
theorem digest_Clone (hb : Nat) (R : Option Nat) (base : Nat) (xs : List UInt8) (w : World) (hh : HashAt w hb R base xs) (hlen : xs.length ≤ 140737488355328) :
    Calls Try.prog 28 #[.pointer (some ⟨hb, 0, none⟩)] w fun e w' => ∃ hb' R', e = .returned (.pointer (some ⟨hb', 0, none⟩)) ∧ HashAt w' hb' R' w.heap.size xs ∧ Below w.heap.size w w' ∧ w.heap.size ≤ hb' := by
  obtain ⟨s, A, n, c, hblk, hs, hown, rfl⟩ := hh
  obtain ⟨c0, c1, c2, c3, c4, c5, hfr⟩ := cells6 hblk
  have hlt : hb < w.heap.size := (Array.getElem?_eq_some_iff.1 hblk).1
  have hn : n = xs.length % 32 := by
    have := hown.len
    simp at this
    omega
  have hyl : (xs.drop (32 * (xs.length / 32))).length = n := by rw [List.length_drop]; omega
  have HYL := Go.Lib.hid hyl
  have HBK := Go.Lib.hid hblk
  have HO := Go.Lib.hid hown
  have HS := Go.Lib.hid hs
  have HN := Go.Lib.hid hn
  have hn32 : n ≤ 31 := by omega
  have hcap := hown.cap
  have OWN5 := Go.Lib.hid hown.rd
  obtain ⟨i0, hi, hz0, hz1, hz2⟩ := info_parts info_u8
  clear hown hs hblk hn hyl
  go_enter Try.func28, Try.ntmps28
  go_upto_region 1 with (fail)
  go_region_law (first | (revert OWN5; intro OWN5; refine step_append_o _ (by rfl) (.const (.slice none 0 0)) (.tmp 10) 26 (by rfl) 5 i0 (.int .u8 0) 1 1 Try.underlying26 hi hz0 hz1 hz2 (by rfl) (by decide) w.heap.size none 0 0 [] (by rfl) (Own.nil _ _ _ _) A n c _ (by rfl) (by rw [bs_length, HYL.out, Nat.mul_one]) OWN5.out (bs_one _) (by omega) (by unfold maxLen; omega) (by simp) ?_; intro A6 c6 w6 hown6 hk6 hl6; have hb6 : Below w.heap.size w w6 := (by first | exact Kp.below (Below.refl _ _) hk6 (fun i h => by simp at h) | exact Kp.below (bdr (Below.refl _ _)) hk6 (fun i h => by simp at h)); obtain ⟨e0, e1, e2, e3, e4, e5, ef⟩ := cells6 ((hb6.block hb hlt).trans HBK.out); have hl66 : hb < w6.heap.size := Nat.lt_of_lt_of_le hlt hb6.size; have HO6 := Go.Lib.hid hown6; have HB6 := Go.Lib.hid hb6; clear hown6 hk6 hl6 hb6))
  all_goals
    go_wp2_with fail
    go_ret
    refine ⟨_, _, rfl, ⟨s, A6, n, c6, Go.heap_alloc_new _ _, HS.out, ?_, rfl⟩, bal HB6.out _, HB6.out.size⟩
    have h := HO6.out.alloc (.cells #[.int .u64 s.a, .int .u64 s.b, .int .u64 s.c, .int .u64 s.d, .slice A6 n c6, .int .i64 xs.length] 61)
    simpa using h

end Go.Proofs.Ytkjdmjflppcofaa
