/- opcode.numbered. -/
import Derived.Test.YtlbiahpajcfcfaaDoorOpPush
import Derived.Test.YtlbiahpajcfcfaaDoorOpAsmP
namespace Go.Proofs.YtlbiahpajcfcfaaDoor
open Go.ChangeShapes Go.WideShapes Go.ChangeAt Go.RowKit
set_option linter.unusedVariables false
set_option maxRecDepth 100000
attribute [local go_sem ↓] Go.wp_at_zero Go.wp_at_succ

theorem own_new1 (w w0 : World) (hb : Below w0.heap.size w0 w) {v : Int} {x : UInt8} {E : TypeId} (hx : v = (x.toNat : Int)) : Own (w.alloc (.cells #[.int .u8 v] E)) w0.heap.size E 1 (some ⟨w.heap.size, 0, none⟩) 1 1 (bs [x]) := by
  subst hx
  exact own_made w w0.heap.size E 1 #[.int .u8 (x.toNat : Int)] 1 1 hb.size (by decide) (by decide) (by rfl)
theorem own_new2 (w w0 : World) (hb : Below w0.heap.size w0 w) {u v : Int} {x y : UInt8} {E : TypeId} (hy : u = (y.toNat : Int)) (hx : v = (x.toNat : Int)) : Own (w.alloc (.cells #[.int .u8 u, .int .u8 v] E)) w0.heap.size E 1 (some ⟨w.heap.size, 0, none⟩) 2 2 (bs [y, x]) := by
  subst hx hy
  exact own_made w w0.heap.size E 1 #[.int .u8 (y.toNat : Int), .int .u8 (x.toNat : Int)] 2 2 hb.size (by decide) (by decide) (by rfl)
theorem OutB.up {o : Option (List UInt8)} {w w3 : World} {r : Ending} {w' : World} (h : OutB o w3 r w') (hb : Below w.heap.size w w3) : OutB o w r w' := by
  refine ⟨?_, btr hb h.2⟩
  have h1 := h.1
  cases o with
  | none => exact h1
  | some b =>
    obtain ⟨A, c, hr, ho⟩ := h1
    exact ⟨A, c, hr, ho.more (fun g e => Nat.le_trans hb.size (ho.block_lt g e).1)⟩
/-- The returned pair, whatever it is. -/
theorem OutB.shape {o : Option (List UInt8)} {w : World} {r : Ending} {w' : World} (h : OutB o w r w') : ∃ A n c, r = .returned (.tuple #[.slice A n c, .bool o.isSome]) ∧ OutB o w (.returned (.tuple #[.slice A n c, .bool o.isSome])) w' := by
  cases o with
  | none =>
    have e : r = .returned (.tuple #[.slice none 0 0, .bool false]) := h.1
    subst e
    exact ⟨none, 0, 0, rfl, h⟩
  | some b =>
    obtain ⟨⟨A, c, hr, ho⟩, hb⟩ := id h
    subst hr
    exact ⟨A, _, c, rfl, h⟩

set_option maxHeartbeats 4000000 in
theorem op_numbered (l : List UInt8) (n : Nat) (hn : n < 18446744073709551616) (hz : l.length ≤ 140737488351232) (w : World) (hw : WL w) : Calls Tryd.prog 31 #[.string ⟨l.toArray⟩, .int .u64 (n : Int)] w (OutB (numG l n) w) := by
  cases hg : wideG l with
  | some k =>
    have hk := wideG_le hg
    have HE := Go.Lib.hid (show numG l n = pushG n k by unfold numG; rw [hg])
    have HG := Go.Lib.hid hg
    clear hg
    go_enter Tryd.func31, Tryd.ntmps31
    go_wp2_with (first | (go_at_call 29; refine (op_wide l hz _ hw).mono ?_; rintro _ w3 ⟨rfl, hb3⟩; rw [HG.out]; simp only [Option.getD_some, Option.isSome_some]; have HB3 := Go.Lib.hid hb3; clear hb3) | (go_at_call 40; refine (op_pushing n k hk _).mono ?_; intro r w4 hp; obtain ⟨A4, n4, c4, rfl, hp⟩ := hp.shape; have HP := Go.Lib.hid hp; clear hp))
    refine bodyPost_ret (v := .tuple #[.slice A4 n4 c4, .bool (pushG n k).isSome]) (by simp [results, Tryd.results31, go_sem]) rfl ?_
    rw [HE.out]
    exact HP.out.up HB3.out
  | none =>
    have HG := Go.Lib.hid hg
    have HE := Go.Lib.hid (show numG l n = if 255 < n then none else if l = dupW then some [49, UInt8.ofNat n] else if l = swapW then some [50, UInt8.ofNat n] else some [UInt8.ofNat n] by unfold numG; rw [hg])
    clear hg
    by_cases h255 : 255 < n
    · have hq : (255 : Int) < (n : Int) := by omega
      have H255 := Go.Lib.hid h255
      clear h255
      go_enter Tryd.func31, Tryd.ntmps31
      go_wp2_with (first | (go_at_call 29; refine (op_wide l hz _ hw).mono ?_; rintro _ w3 ⟨rfl, hb3⟩; rw [HG.out]; simp only [Option.getD_none, Option.isSome_none]; have HB3 := Go.Lib.hid hb3; clear hb3))
      refine bodyPost_ret (v := .tuple #[.slice none 0 0, .bool false]) (by simp [results, Tryd.results31, go_sem]) rfl ?_
      rw [HE.out, if_pos H255.out]
      exact ⟨rfl, HB3.out⟩
    · have hq : ¬ (255 : Int) < (n : Int) := by omega
      obtain ⟨xb, hxb⟩ : ∃ x, x = UInt8.ofNat n := ⟨_, rfl⟩
      have HX := Go.Lib.hid (And.intro hxb (show (n : Int) = (xb.toNat : Int) by rw [hxb, toNat_small _ (by omega)]))
      have hn2 : (n : Int) ≤ 255 := by omega
      rw [← hxb] at HE
      clear hxb
      have H255 := Go.Lib.hid h255
      clear h255
      by_cases hd : l = dupW
      · subst hd
        go_enter Tryd.func31, Tryd.ntmps31
        unfold dupW
        go_wp2_with (first | (go_at_call 29; refine (op_wide dupW hz _ hw).mono ?_; rintro _ w3 ⟨rfl, hb3⟩; rw [HG.out]; simp only [Option.getD_none, Option.isSome_none]; have HB3 := Go.Lib.hid hb3; clear hb3))
        refine bodyPost_ret (v := .tuple #[.slice (some ⟨w3.heap.size, 0, none⟩) 2 2, .bool true]) (by simp [results, Tryd.results31, go_sem]) rfl ?_
        show OutB (numG dupW n) w _ _
        rw [HE.out, if_neg H255.out, if_pos trivial]
        exact ⟨⟨_, _, rfl, own_new2 w3 w HB3.out (by decide) HX.out.2⟩, bal HB3.out _⟩
      · have hd1 : (l == [100, 117, 112]) = false := by simpa [dupW] using hd
        have HD := Go.Lib.hid hd
        clear hd
        by_cases hs : l = swapW
        · subst hs
          clear hd1
          go_enter Tryd.func31, Tryd.ntmps31
          unfold swapW
          go_wp2_with (first | (go_at_call 29; refine (op_wide swapW hz _ hw).mono ?_; rintro _ w3 ⟨rfl, hb3⟩; rw [HG.out]; simp only [Option.getD_none, Option.isSome_none]; have HB3 := Go.Lib.hid hb3; clear hb3))
          refine bodyPost_ret (v := .tuple #[.slice (some ⟨w3.heap.size, 0, none⟩) 2 2, .bool true]) (by simp [results, Tryd.results31, go_sem]) rfl ?_
          show OutB (numG swapW n) w _ _
          rw [HE.out, if_neg H255.out, if_neg HD.out, if_pos trivial]
          exact ⟨⟨_, _, rfl, own_new2 w3 w HB3.out (by decide) HX.out.2⟩, bal HB3.out _⟩
        · have hs1 : (l == [115, 119, 97, 112]) = false := by simpa [swapW] using hs
          have HS := Go.Lib.hid hs
          clear hs
          go_enter Tryd.func31, Tryd.ntmps31
          go_wp2_with (first | (go_at_call 29; refine (op_wide l hz _ hw).mono ?_; rintro _ w3 ⟨rfl, hb3⟩; rw [HG.out]; simp only [Option.getD_none, Option.isSome_none]; have HB3 := Go.Lib.hid hb3; clear hb3))
          refine bodyPost_ret (v := .tuple #[.slice (some ⟨w3.heap.size, 0, none⟩) 1 1, .bool true]) (by simp [results, Tryd.results31, go_sem]) rfl ?_
          rw [HE.out, if_neg H255.out, if_neg HD.out, if_neg HS.out]
          exact ⟨⟨_, _, rfl, own_new1 w3 w HB3.out HX.out.2⟩, bal HB3.out _⟩

end Go.Proofs.YtlbiahpajcfcfaaDoor
