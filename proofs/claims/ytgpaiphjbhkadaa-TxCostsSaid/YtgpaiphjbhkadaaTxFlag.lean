/- slices.Equal of bytes; tx.flag. -/
import Derived.Test.YtgpaiphjbhkadaaTxREnc
import Derived.Test.YtgpaiphjbhkadaaLexKit
import Derived.Deep.LoopGhost
namespace Go.Proofs.Ytgpaiphjbhkadaa
open Go.ChangeShapes Go.WideShapes Go.ChangeAt Go.RowKit
set_option linter.unusedVariables false
set_option maxRecDepth 100000
attribute [local go_sem ↓] Go.wp_at_zero Go.wp_at_succ

set_option maxHeartbeats 2000000 in
theorem sl_Equal (A B : Option Addr) (m d k e : Nat) (xs ys : List UInt8) (w : World) (hz : m ≤ 9223372036854775806) (hm : m = xs.length) (hk : k = ys.length) (hA : Rd w A (bs xs)) (hB : Rd w B (bs ys)) :
    Calls Try.prog 52 #[.slice A m d, .slice B k e] w fun r w' => r = .returned (.bool (decide (xs = ys))) ∧ Below w.heap.size w w' := by
  have HM := Go.Lib.hid hm
  have HK := Go.Lib.hid hk
  have HA := Go.Lib.hid hA
  have HB := Go.Lib.hid hB
  clear hm hk hA hB
  by_cases hmk : m = k
  · subst hmk
    go_enter Try.func52, Try.ntmps52
    go_wp2_with fail
    go_loopg [13] m (fun g i wr => ∃ j : Nat, i = .int .i64 j ∧ j ≤ m ∧ g = m - j ∧ Hid (xs.take j = ys.take j) ∧ Hid (Below w.heap.size w wr))
    case atStart => exact ⟨0, rfl, Nat.zero_le _, rfl, Go.Lib.hid rfl, Go.Lib.hid (Below.refl _ _)⟩
    case round =>
      obtain ⟨j, rfl, hj, rfl, HE, HBW⟩ := hrel
      by_cases hlt : j < m
      · obtain ⟨ga, oa, rfl, hga, hca⟩ := HA.out.at_ (by have := HM.out; simp; omega)
        obtain ⟨gb, ob, rfl, hgb, hcb⟩ := HB.out.at_ (by have := HK.out; simp; omega)
        have hxa := hca j _ (bs_at xs j (by have := HM.out; omega))
        have hxb := hcb j _ (bs_at ys j (by have := HK.out; omega))
        rw [← HBW.out.cell (p := ⟨ga, oa + j, none⟩) hga] at hxa
        rw [← HBW.out.cell (p := ⟨gb, ob + j, none⟩) hgb] at hxb
        have hji : (0 : Int) ≤ (j : Int) := by omega
        have hjm : (j : Int) < (m : Int) := by omega
        have HXA := Go.Lib.hid hxa
        have HXB := Go.Lib.hid hxb
        clear hca hcb hxa hxb
        go_wp2_with fail
        refine wp_region_held_drew (S := fun _ => True) (by kernel_rfl) trivial (fun hHeld => ?_)
        change wpAnyH _ _ _ _ _ 9 (List.toArray [false, false, false, false, false, false, false, false, false]) _ _
        refine wpAnyH_and (N := (fun W => W.cell? ⟨ga, oa + j, none⟩ = some (.int .u8 (byteF xs j)) ∧ W.cell? ⟨gb, ob + j, none⟩ = some (.int .u8 (byteF ys j)))) ?_
        have hHeld := And.intro hHeld ((And.intro HXA.out HXB.out))
        (try dsimp only at hHeld)
        refine wpAnyH_take (i := 0) (v := ?_) rfl (by kernel_rfl) (by kernel_rfl) (by kernel_rfl) (fun _ _ _ h => h) (Or.inl ⟨by rfl, ?_⟩) (by assumption) ?_
        rotate_left
        focus (intro w hSw; (try dsimp only at hSw); obtain ⟨h0, h1, h2⟩ := hSw; (try simp only [List.getElem_toArray]); (try simp only [List.getElem_cons_succ]); (try simp only [List.getElem_cons_zero]); go_simp; (try with_reducible rfl); done)
        (try simp only [List.getElem_toArray]); (try simp only [List.getElem_cons_succ]); (try simp only [List.getElem_cons_zero]); (try simp only [Act.put]); (try simp only [List.setIfInBounds_toArray]); (try simp only [List.set_cons_succ]); (try simp only [List.set_cons_zero])
        refine wpAnyH_take (i := 1) (v := ?_) rfl (by kernel_rfl) (by kernel_rfl) (by kernel_rfl) (fun _ _ _ h => h) (Or.inl ⟨by rfl, ?_⟩) (by assumption) ?_
        rotate_left
        focus (intro w hSw; (try dsimp only at hSw); obtain ⟨h0, h1, h2⟩ := hSw; (try simp only [List.getElem_toArray]); (try simp only [List.getElem_cons_succ]); (try simp only [List.getElem_cons_zero]); go_simp; (try with_reducible rfl); done)
        (try simp only [List.getElem_toArray]); (try simp only [List.getElem_cons_succ]); (try simp only [List.getElem_cons_zero]); (try simp only [Act.put]); (try simp only [List.setIfInBounds_toArray]); (try simp only [List.set_cons_succ]); (try simp only [List.set_cons_zero])
        refine wpAnyH_take (i := 2) (v := ?_) rfl (by kernel_rfl) (by kernel_rfl) (by kernel_rfl) (fun _ _ _ h => h) (Or.inl ⟨by rfl, ?_⟩) (by assumption) ?_
        rotate_left
        focus (intro w hSw; (try dsimp only at hSw); obtain ⟨h0, h1, h2⟩ := hSw; (try simp only [List.getElem_toArray]); (try simp only [List.getElem_cons_succ]); (try simp only [List.getElem_cons_zero]); go_simp; (try with_reducible rfl); done)
        (try simp only [List.getElem_toArray]); (try simp only [List.getElem_cons_succ]); (try simp only [List.getElem_cons_zero]); (try simp only [Act.put]); (try simp only [List.setIfInBounds_toArray]); (try simp only [List.set_cons_succ]); (try simp only [List.set_cons_zero])
        refine wpAnyH_take (i := 3) (v := ?_) rfl (by kernel_rfl) (by kernel_rfl) (by kernel_rfl) (fun _ _ _ h => h) (Or.inl ⟨by rfl, ?_⟩) (by assumption) ?_
        rotate_left
        focus (intro w hSw; (try dsimp only at hSw); obtain ⟨h0, h1, h2⟩ := hSw; (try simp only [List.getElem_toArray]); (try simp only [List.getElem_cons_succ]); (try simp only [List.getElem_cons_zero]); go_simp; (try with_reducible rfl); done)
        (try simp only [List.getElem_toArray]); (try simp only [List.getElem_cons_succ]); (try simp only [List.getElem_cons_zero]); (try simp only [Act.put]); (try simp only [List.setIfInBounds_toArray]); (try simp only [List.set_cons_succ]); (try simp only [List.set_cons_zero])
        refine wpAnyH_take (i := 4) (v := ?_) rfl (by kernel_rfl) (by kernel_rfl) (by kernel_rfl) (fun _ _ _ h => h) (Or.inl ⟨by rfl, ?_⟩) (by assumption) ?_
        rotate_left
        focus (intro w hSw; (try dsimp only at hSw); obtain ⟨h0, h1, h2⟩ := hSw; (try simp only [List.getElem_toArray]); (try simp only [List.getElem_cons_succ]); (try simp only [List.getElem_cons_zero]); go_simp; (try with_reducible rfl); done)
        (try simp only [List.getElem_toArray]); (try simp only [List.getElem_cons_succ]); (try simp only [List.getElem_cons_zero]); (try simp only [Act.put]); (try simp only [List.setIfInBounds_toArray]); (try simp only [List.set_cons_succ]); (try simp only [List.set_cons_zero])
        refine wpAnyH_take (i := 5) (v := ?_) rfl (by kernel_rfl) (by kernel_rfl) (by kernel_rfl) (fun _ _ _ h => h) (Or.inl ⟨by rfl, ?_⟩) (by assumption) ?_
        rotate_left
        focus (intro w hSw; (try dsimp only at hSw); obtain ⟨h0, h1, h2⟩ := hSw; (try simp only [List.getElem_toArray]); (try simp only [List.getElem_cons_succ]); (try simp only [List.getElem_cons_zero]); go_simp; (try with_reducible rfl); done)
        (try simp only [List.getElem_toArray]); (try simp only [List.getElem_cons_succ]); (try simp only [List.getElem_cons_zero]); (try simp only [Act.put]); (try simp only [List.setIfInBounds_toArray]); (try simp only [List.set_cons_succ]); (try simp only [List.set_cons_zero])
        refine wpAnyH_take (i := 6) (v := ?_) rfl (by kernel_rfl) (by kernel_rfl) (by kernel_rfl) (fun _ _ _ h => h) (Or.inl ⟨by rfl, ?_⟩) (by assumption) ?_
        rotate_left
        focus (intro w hSw; (try dsimp only at hSw); obtain ⟨h0, h1, h2⟩ := hSw; (try simp only [List.getElem_toArray]); (try simp only [List.getElem_cons_succ]); (try simp only [List.getElem_cons_zero]); go_simp; (try with_reducible rfl); done)
        (try simp only [List.getElem_toArray]); (try simp only [List.getElem_cons_succ]); (try simp only [List.getElem_cons_zero]); (try simp only [Act.put]); (try simp only [List.setIfInBounds_toArray]); (try simp only [List.set_cons_succ]); (try simp only [List.set_cons_zero])
        refine wpAnyH_take (i := 7) (v := ?_) rfl (by kernel_rfl) (by kernel_rfl) (by kernel_rfl) (fun _ _ _ h => h) (Or.inl ⟨by rfl, ?_⟩) (by assumption) ?_
        rotate_left
        focus (intro w hSw; (try dsimp only at hSw); obtain ⟨h0, h1, h2⟩ := hSw; (try simp only [List.getElem_toArray]); (try simp only [List.getElem_cons_succ]); (try simp only [List.getElem_cons_zero]); go_simp; (try with_reducible rfl); done)
        (try simp only [List.getElem_toArray]); (try simp only [List.getElem_cons_succ]); (try simp only [List.getElem_cons_zero]); (try simp only [Act.put]); (try simp only [List.setIfInBounds_toArray]); (try simp only [List.set_cons_succ]); (try simp only [List.set_cons_zero])
        refine wpAnyH_take (i := 8) (v := ?_) rfl (by kernel_rfl) (by kernel_rfl) (by kernel_rfl) (fun _ _ _ h => h) (Or.inl ⟨by rfl, ?_⟩) (by assumption) ?_
        rotate_left
        focus (intro w hSw; (try dsimp only at hSw); obtain ⟨h0, h1, h2⟩ := hSw; (try simp only [List.getElem_toArray]); (try simp only [List.getElem_cons_succ]); (try simp only [List.getElem_cons_zero]); go_simp; (try with_reducible rfl); done)
        (try simp only [List.getElem_toArray]); (try simp only [List.getElem_cons_succ]); (try simp only [List.getElem_cons_zero]); (try simp only [Act.put]); (try simp only [List.setIfInBounds_toArray]); (try simp only [List.set_cons_succ]); (try simp only [List.set_cons_zero])
        refine wpAnyH_done (by kernel_rfl) ?_ _
        by_cases hq : byteF xs j = byteF ys j
        · have HQ := Go.Lib.hid hq
          go_wp2_with fail
          go_roundg (m - (j + 1))
          case measure => omega
          case rel =>
            refine ⟨j + 1, by go_num, by omega, rfl, Go.Lib.hid ?_, Go.Lib.hid (bdr HBW.out)⟩
            have hlx : j < xs.length := by have := HM.out; omega
            have hly : j < ys.length := by have := HK.out; omega
            rw [List.take_succ_eq_append_getElem hlx, List.take_succ_eq_append_getElem hly, HE.out]
            have h := HQ.out
            simp only [byteF, List.getD, List.getElem?_eq_getElem hlx, List.getElem?_eq_getElem hly, Option.getD_some] at h
            rw [UInt8.toNat_inj.1 (by omega : xs[j].toNat = ys[j].toNat)]
        · have hne : xs ≠ ys := fun h => hq (by rw [h])
          have HN := Go.Lib.hid (decide_eq_false hne)
          go_wp2_with fail
          go_ret
          exact ⟨by have h := HN.out; simp at h; simp [h], bdr HBW.out⟩
      · have hxy : xs = ys := by
          have h := HE.out
          rwa [List.take_of_length_le (by have := HM.out; omega), List.take_of_length_le (by have := HK.out; omega)] at h
        have HN := Go.Lib.hid (decide_eq_true hxy)
        have HBW' := HBW
        clear HE hxy
        go_wp2_with fail
        go_ret
        exact ⟨by have h := HN.out; simp at h; simp [h], HBW'.out⟩
  · have hne : xs ≠ ys := fun h => hmk (by rw [HM.out, HK.out, h])
    have HN := Go.Lib.hid (decide_eq_false hne)
    clear hne
    go_enter Try.func52, Try.ntmps52
    go_wp2_with fail
    go_ret
    exact ⟨by have h := HN.out; simp at h; simp [h], Below.refl _ _⟩

/-- What flag answers. -/
def flagB (x : Tree) : Bool × Bool := if x.l then (false, false) else if x.b = [] then (false, true) else (true, decide (x.b = [1]))

end Go.Proofs.Ytgpaiphjbhkadaa
