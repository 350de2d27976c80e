/- nest.Text, nest.List. -/
import Derived.Test.YtgpaiphjbhkadaaNsEnc
namespace Go.Proofs.Ytgpaiphjbhkadaa
open Go.ChangeShapes Go.WideShapes Go.RowKit
set_option linter.unusedVariables false
set_option maxRecDepth 100000

set_option maxHeartbeats 400000 in
theorem clone_items (A : Option Addr) (n c : Nat) (cs : List Value) (w : World) (hr : Rd w A cs) (hn : cs.length = n * 3) (h1 : ∀ u ∈ cs, u.oneCell' = true) (hnc : n ≤ c) (hlen : n * 56 ≤ 140737488355328) :
    Calls Try.prog 43 #[.slice A n c] w fun r w' => ∃ A' c', r = .returned (.slice A' n c') ∧ Own w' w.heap.size 45 3 A' n c' cs ∧ Below w.heap.size w w' := by
  have HR := Go.Lib.hid hr
  have HN := Go.Lib.hid hn
  have HO := Go.Lib.hid h1
  obtain ⟨i0, hi, hz0, hz1, hz2⟩ := info_parts info_item
  cases A with
  | none =>
    have hx : cs = [] := by
      by_cases h : cs = []
      · exact h
      · obtain ⟨g, off, e, _⟩ := hr h
        cases e
    clear hr hn h1
    subst hx
    have h0 : n = 0 := by have := HN.out; simp at this; omega
    subst h0
    have he : ∀ w' : World, (binOp .eql 42 (.slice none 0 c) (.slice none 0 0)).run Try.prog w' = .ok (.bool true) w' := fun w' => Lib.run_eql_slice_nil w' _ 45 none 0 c 0 0 Try.underlying42
    go_enter Try.func43, Try.ntmps43
    go_wp2_with fail
    go_ret
    exact ⟨none, 0, rfl, Own.nil _ _ _ _, Below.refl _ _⟩
  | some a =>
    clear hr hn h1
    have he : ∀ w' : World, (binOp .eql 42 (.slice (some a) n c) (.slice none 0 0)).run Try.prog w' = .ok (.bool false) w' := fun w' => Lib.run_eql_slice_nil w' _ 45 (some a) n c 0 0 Try.underlying42
    go_enter Try.func43, Try.ntmps43
    go_wp2_with (at_builtin; refine wpList_append_o _ rfl _ _ 42 rfl 45 i0 item0 3 56 Try.underlying42 hi hz0 hz1 hz2 rfl (by decide) w.heap.size _ 0 0 [] rfl (own_empty _ _ _ _ (Nat.le_refl _)) (some a) n c cs rfl HN.out (HR.out.alloc _) HO.out (by omega) (by unfold maxLen; omega) (by simp) ?_)
    intro A1 n1 w1 hown1 hkp1 hlie1
    have hbel1 : Below w.heap.size w w1 := Kp.below (bal (Below.refl _ _) _) hkp1 (fun i h => by first | omega | (simp at h; omega))
    have HO := Go.Lib.hid hown1
    have HB := Go.Lib.hid hbel1
    clear hown1 hkp1 hlie1 hbel1
    go_wp2_with fail
    go_ret
    exact ⟨A1, n1, rfl, by simpa using HO.out, HB.out⟩

set_option maxHeartbeats 1000000 in
theorem nest_Text (A : Option Addr) (n c : Nat) (xs : List UInt8) (w : World) (hr : Rd w A (bs xs)) (hn : n = xs.length) (hnc : n ≤ c) (hlen : xs.length ≤ 140737488355328) :
    Calls Try.prog 26 #[.slice A n c] w fun r w' => ∃ A' c', r = .returned (.agg #[.bool false, .slice A' n c', .slice none 0 0]) ∧ n ≤ c' ∧ Own w' w.heap.size 5 1 A' n c' (bs xs) ∧ Below w.heap.size w w' := by
  have HR := Go.Lib.hid hr
  have HN := Go.Lib.hid hn
  clear hr hn
  go_enter Try.func26, Try.ntmps26
  go_wp2_with fail
  refine (clone_bytes A n c xs _ (HR.out.alloc _) HN.out hnc hlen).mono ?_
  rintro r w1 ⟨A1, c1, rfl, hown, hb⟩
  have hs1 : w.heap.size < w1.heap.size := by have := hb.size; simp at this; omega
  obtain ⟨p0, p1, p2, pf⟩ := cells3 ((hb.block w.heap.size (by simp)).trans (Go.heap_alloc_new w _))
  have HO := Go.Lib.hid hown
  have HB := Go.Lib.hid hb
  have hcap := hown.cap
  clear hown hb
  go_wp2_with fail
  refine bodyPost_ret (v := .agg #[.bool false, .slice A1 n c1, .slice none 0 0]) (by simp [results, Try.results26, go_sem, p0, p1, p2]) rfl ⟨A1, c1, rfl, hcap.1, ?_, ?_⟩
  · exact (HO.out.kp (kp_set3 _ _ _ _ _) (fun g e h => by have := (HO.out.block_lt g e).1; simp at this; omega)).more (fun g e => by have := (HO.out.block_lt g e).1; simp at this; omega)
  · exact below_set3 (btr (bal (Below.refl _ _) _) HB.out) (Nat.le_refl _) _ _ _

set_option maxHeartbeats 1000000 in
theorem nest_List (A : Option Addr) (n c : Nat) (cs : List Value) (w : World) (hr : Rd w A cs) (hn : cs.length = n * 3) (h1 : ∀ u ∈ cs, u.oneCell' = true) (hnc : n ≤ c) (hlen : n * 56 ≤ 140737488355328) :
    Calls Try.prog 25 #[.slice A n c] w fun r w' => ∃ A' c', r = .returned (.agg #[.bool true, .slice none 0 0, .slice A' n c']) ∧ n ≤ c' ∧ Own w' w.heap.size 45 3 A' n c' cs ∧ Below w.heap.size w w' := by
  have HR := Go.Lib.hid hr
  clear hr
  go_enter Try.func25, Try.ntmps25
  go_wp2_with fail
  refine (clone_items A n c cs _ (HR.out.alloc _) hn h1 hnc hlen).mono ?_
  rintro r w1 ⟨A1, c1, rfl, hown, hb⟩
  have hs1 : w.heap.size < w1.heap.size := by have := hb.size; simp at this; omega
  obtain ⟨p0, p1, p2, pf⟩ := cells3 ((hb.block w.heap.size (by simp)).trans (Go.heap_alloc_new w _))
  have HO := Go.Lib.hid hown
  have HB := Go.Lib.hid hb
  have hcap := hown.cap
  clear hown hb
  go_wp2_with fail
  refine bodyPost_ret (v := .agg #[.bool true, .slice none 0 0, .slice A1 n c1]) (by simp [results, Try.results25, go_sem, p0, p1, p2]) rfl ⟨A1, c1, rfl, hcap.1, ?_, ?_⟩
  · exact (HO.out.kp (kp_set3 _ _ _ _ _) (fun g e h => by have := (HO.out.block_lt g e).1; simp at this; omega)).more (fun g e => by have := (HO.out.block_lt g e).1; simp at this; omega)
  · exact below_set3 (btr (bal (Below.refl _ _) _) HB.out) (Nat.le_refl _) _ _ _

end Go.Proofs.Ytgpaiphjbhkadaa
