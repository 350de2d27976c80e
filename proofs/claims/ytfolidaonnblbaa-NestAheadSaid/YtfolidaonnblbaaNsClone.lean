/- slices.Clone of bytes and of items. -/
import Derived.Test.YtfolidaonnblbaaNsSize
import Derived.Lib.SliceRun
namespace Go.Proofs.Ytfolidaonnblbaa
open Go.ChangeShapes Go.WideShapes Go.RowKit
set_option linter.unusedVariables false

theorem info_item : (Try.prog.info? 25).map (fun i => (i.zero, i.size, i.bytes)) = some (some item0, 3, 56) := by kernel_rfl

theorem own_empty (w : World) (base : Nat) (E : TypeId) (size : Nat) (hb : base ≤ w.heap.size) : Own (w.alloc (.cells #[] E)) base E size (some ⟨w.heap.size, 0, none⟩) 0 0 [] := by
  have := own_made w base E size #[] 0 0 hb (by simp [maxLen]) (Nat.le_refl _) (by simp)
  simpa using this

set_option maxHeartbeats 400000 in
theorem clone_bytes (A : Option Addr) (n c : Nat) (xs : List UInt8) (w : World) (hr : Rd w A (bs xs)) (hn : n = xs.length) (hnc : n ≤ c) (hlen : xs.length ≤ 175921860444160) :
    Calls Try.prog 31 #[.slice A n c] w fun r w' => ∃ A' c', r = .returned (.slice A' n c') ∧ Own w' w.heap.size 5 1 A' n c' (bs xs) ∧ Below w.heap.size w w' := by
  have HR := Go.Lib.hid hr
  have HN := Go.Lib.hid hn
  have hle : n ≤ 175921860444160 := by omega
  obtain ⟨i0, hi, hz0, hz1, hz2⟩ := info_parts info_u8
  cases A with
  | none =>
    have hx : xs = [] := by
      by_cases h : xs = []
      · exact h
      · obtain ⟨g, off, e, _⟩ := hr (by simpa [bs] using h)
        cases e
    clear hr hn
    subst hx
    have h0 : n = 0 := by have := HN.out; simpa using this
    subst h0
    have he : ∀ w' : World, (binOp .eql 22 (.slice none 0 c) (.slice none 0 0)).run Try.prog w' = .ok (.bool true) w' := fun w' => Lib.run_eql_slice_nil w' _ 5 none 0 c 0 0 Try.underlying22
    go_enter Try.func31, Try.ntmps31
    go_wp2
    go_ret
    exact ⟨none, 0, rfl, Own.nil _ _ _ _, Below.refl _ _⟩
  | some a =>
    clear hr hn
    have he : ∀ w' : World, (binOp .eql 22 (.slice (some a) n c) (.slice none 0 0)).run Try.prog w' = .ok (.bool false) w' := fun w' => Lib.run_eql_slice_nil w' _ 5 (some a) n c 0 0 Try.underlying22
    go_enter Try.func31, Try.ntmps31
    go_wp2_with (at_builtin; refine wpList_append_o _ rfl _ _ 22 rfl 5 i0 (.int .u8 0) 1 1 Try.underlying22 hi hz0 hz1 hz2 rfl (by decide) w.heap.size _ 0 0 [] rfl (own_empty _ _ _ _ (Nat.le_refl _)) (some a) n c (bs xs) rfl (by have := HN.out; simp; omega) (HR.out.alloc _) (bs_one _) (by omega) (by unfold maxLen; omega) (by simp) ?_)
    intro A1 n1 w1 hown1 hkp1 hlie1
    have hbel1 : Below w.heap.size w w1 := Kp.below (bal (Below.refl _ _) _) hkp1 (fun i h => by first | omega | (simp at h; omega))
    have HO := Go.Lib.hid hown1
    have HB := Go.Lib.hid hbel1
    clear hown1 hkp1 hlie1 hbel1
    go_wp2
    go_ret
    exact ⟨A1, n1, rfl, by simpa using HO.out, HB.out⟩

set_option maxHeartbeats 400000 in
theorem clone_nil (c : Nat) (w : World) :
    Calls Try.prog 31 #[.slice none 0 c] w fun r w' => r = .returned (.slice none 0 0) ∧ w' = w := by
  have he : ∀ w' : World, (binOp .eql 22 (.slice none 0 c) (.slice none 0 0)).run Try.prog w' = .ok (.bool true) w' := fun w' => Lib.run_eql_slice_nil w' _ 5 none 0 c 0 0 Try.underlying22
  go_enter Try.func31, Try.ntmps31
  go_wp2
  go_ret
  exact ⟨rfl, rfl⟩

end Go.Proofs.Ytfolidaonnblbaa
