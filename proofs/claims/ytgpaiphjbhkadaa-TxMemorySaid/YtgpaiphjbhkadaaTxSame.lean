/- The reference's Same, of transactions that are the same. -/
import Derived.Test.YtgpaiphjbhkadaaTxAlive
import Derived.Test.YtgpaiphjbhkadaaLexKit
import Derived.Deep.LoopGhost
namespace Go.Proofs.Ytgpaiphjbhkadaa
open Go.ChangeShapes Go.WideShapes Go.ChangeAt Go.RowKit
set_option linter.unusedVariables false
set_option maxRecDepth 100000
attribute [local go_sem ↓] Go.wp_at_zero Go.wp_at_succ

set_option maxHeartbeats 4000000 in
theorem ref_Same16 (t : TxD) (A : Option Addr) (d : Nat) (B : Option Addr) (c : Nat) (A' : Option Addr) (d' : Nat) (B' : Option Addr) (c' : Nat) (w : World) (hA : Rd w A (u64s t.inp)) (hB : Rd w B (bs t.code)) (hA' : Rd w A' (u64s t.inp)) (hB' : Rd w B' (bs t.code)) (hm : t.inp.length ≤ 9223372036854775807) :
    Calls Try.prog 17 #[.agg #[.int .u64 (t.a0 : Int), .int .u64 (t.a1 : Int), .int .u64 (t.a2 : Int), .int .u64 (t.a3 : Int), .int .u64 (t.a4 : Int), .int .u64 (t.a5 : Int), .slice A t.inp.length d, .bool t.mak, .slice B t.code.length c], .agg #[.int .u64 (t.a0 : Int), .int .u64 (t.a1 : Int), .int .u64 (t.a2 : Int), .int .u64 (t.a3 : Int), .int .u64 (t.a4 : Int), .int .u64 (t.a5 : Int), .slice A' t.inp.length d', .bool t.mak, .slice B' t.code.length c']] w fun r w' => r = .returned (.bool true) ∧ Below w.heap.size w w' := by
  obtain ⟨w2, hw2⟩ : ∃ x, x = (w.alloc (.cells #[.int .u64 (t.a0 : Int), .int .u64 (t.a1 : Int), .int .u64 (t.a2 : Int), .int .u64 (t.a3 : Int), .int .u64 (t.a4 : Int), .int .u64 (t.a5 : Int), .slice A t.inp.length d, .bool t.mak, .slice B t.code.length c] 26)).alloc (.cells #[.int .u64 (t.a0 : Int), .int .u64 (t.a1 : Int), .int .u64 (t.a2 : Int), .int .u64 (t.a3 : Int), .int .u64 (t.a4 : Int), .int .u64 (t.a5 : Int), .slice A' t.inp.length d', .bool t.mak, .slice B' t.code.length c'] 26) := ⟨_, rfl⟩
  have hb2 : Below w.heap.size w w2 := by rw [hw2]; exact bal (bal (Below.refl _ _) _) _
  have hx : w2.heap[w.heap.size]? = some (.cells #[.int .u64 (t.a0 : Int), .int .u64 (t.a1 : Int), .int .u64 (t.a2 : Int), .int .u64 (t.a3 : Int), .int .u64 (t.a4 : Int), .int .u64 (t.a5 : Int), .slice A t.inp.length d, .bool t.mak, .slice B t.code.length c] 26 (0, 0)) := by rw [hw2]; exact Below.heap_alloc _ _ w.heap.size (by simp) |>.trans (Go.heap_alloc_new w _)
  have hy : w2.heap[w.heap.size + 1]? = some (.cells #[.int .u64 (t.a0 : Int), .int .u64 (t.a1 : Int), .int .u64 (t.a2 : Int), .int .u64 (t.a3 : Int), .int .u64 (t.a4 : Int), .int .u64 (t.a5 : Int), .slice A' t.inp.length d', .bool t.mak, .slice B' t.code.length c'] 26 (0, 0)) := by
    rw [hw2]
    have h := Go.heap_alloc_new (w.alloc (.cells #[.int .u64 (t.a0 : Int), .int .u64 (t.a1 : Int), .int .u64 (t.a2 : Int), .int .u64 (t.a3 : Int), .int .u64 (t.a4 : Int), .int .u64 (t.a5 : Int), .slice A t.inp.length d, .bool t.mak, .slice B t.code.length c] 26)) (.cells #[.int .u64 (t.a0 : Int), .int .u64 (t.a1 : Int), .int .u64 (t.a2 : Int), .int .u64 (t.a3 : Int), .int .u64 (t.a4 : Int), .int .u64 (t.a5 : Int), .slice A' t.inp.length d', .bool t.mak, .slice B' t.code.length c'] 26)
    simpa using h
  have k1 := conv_bs (P := Try.prog) w2 24 5 9 Try.underlying24 Try.underlying5 Try.underlying9 B t.code.length c t.code (hB.below hb2) rfl
  have k2 := conv_bs (P := Try.prog) w2 24 5 9 Try.underlying24 Try.underlying5 Try.underlying9 B' t.code.length c' t.code (hB'.below hb2) rfl
  obtain ⟨x0, x1, x2, x3, x4, x5, x6, x7, x8, xf⟩ := cells9 hx
  obtain ⟨y0, y1, y2, y3, y4, y5, y6, y7, y8, yf⟩ := cells9 hy
  have HX := Go.Lib.hid hx
  have HY := Go.Lib.hid hy
  have HB2 := Go.Lib.hid hb2
  have HA := Go.Lib.hid (hA.below hb2)
  have HA' := Go.Lib.hid (hA'.below hb2)
  have HW2 := Go.Lib.hid hw2
  rw [hw2] at k1 k2
  clear hA hB hA' hB' hb2 hx hy hw2
  go_enter Try.func17, Try.ntmps17
  go_wp2_with fail
  rw [← HW2.out]
  go_loopg [5] t.inp.length (fun g i wr => ∃ j : Nat, i = .int .i64 j ∧ j ≤ t.inp.length ∧ g = t.inp.length - j ∧ Hid (Below w2.heap.size w2 wr))
  case atStart => exact ⟨0, rfl, Nat.zero_le _, rfl, Go.Lib.hid (Below.refl _ _)⟩
  case round =>
    obtain ⟨j, rfl, hj, rfl, HBW⟩ := hrel
    have hx := (HBW.out.block _ (Array.getElem?_eq_some_iff.1 HX.out).1).trans HX.out
    have hy := (HBW.out.block _ (Array.getElem?_eq_some_iff.1 HY.out).1).trans HY.out
    clear x0 x1 x2 x3 x4 x5 x6 x7 x8 xf y0 y1 y2 y3 y4 y5 y6 y7 y8 yf
    obtain ⟨x0, x1, x2, x3, x4, x5, x6, x7, x8, xf⟩ := cells9 hx
    obtain ⟨y0, y1, y2, y3, y4, y5, y6, y7, y8, yf⟩ := cells9 hy
    have HXR := Go.Lib.hid hx
    have HYR := Go.Lib.hid hy
    clear hx hy
    by_cases hlt : j < t.inp.length
    · obtain ⟨ga, oa, e1, hga, hca⟩ := HA.out.at_ (by simp; omega)
      obtain ⟨gb, ob, e2, hgb, hcb⟩ := HA'.out.at_ (by simp; omega)
      subst e1 e2
      have hxa := hca j _ (u64s_at t.inp j hlt)
      have hxb := hcb j _ (u64s_at t.inp j hlt)
      rw [← HBW.out.cell (p := ⟨ga, oa + j, none⟩) hga] at hxa
      rw [← HBW.out.cell (p := ⟨gb, ob + j, none⟩) hgb] at hxb
      have hji : (0 : Int) ≤ (j : Int) := by omega
      have hjm : (j : Int) < (t.inp.length : Int) := by omega
      obtain ⟨v, hv⟩ : ∃ v, v = t.inp.getD j 0 := ⟨_, rfl⟩
      rw [← hv] at hxa hxb
      have HXA := Go.Lib.hid hxa
      have HXB := Go.Lib.hid hxb
      have X6 := Go.Lib.hid x6
      have Y6 := Go.Lib.hid y6
      clear hca hcb hxa hxb hv
      go_wp2_with fail
      refine wp_region_held_drew (S := fun _ => True) (by kernel_rfl) trivial (fun hHeld => ?_)
      change wpAnyH _ _ _ _ _ 11 (List.toArray [false, false, false, false, false, false, false, false, false, false, false]) _ _
      refine wpAnyH_and (N := (fun W => W.cell? ⟨ga, oa + j, none⟩ = some (.int .u64 (v : Int)) ∧ W.cell? ⟨gb, ob + j, none⟩ = some (.int .u64 (v : Int)) ∧ W.cell? ⟨w.heap.size, 6, none⟩ = some (.slice (some ⟨ga, oa, none⟩) t.inp.length d) ∧ W.cell? ⟨w.heap.size + 1, 6, none⟩ = some (.slice (some ⟨gb, ob, none⟩) t.inp.length d'))) ?_
      have hHeld := And.intro hHeld ((And.intro HXA.out (And.intro HXB.out (And.intro X6.out Y6.out))))
      (try dsimp only at hHeld)
      refine wpAnyH_take (i := 0) (v := ?_) rfl (by kernel_rfl) (by kernel_rfl) (by kernel_rfl) (fun _ _ _ h => h) (Or.inl ⟨by rfl, ?_⟩) (by assumption) ?_
      rotate_left
      focus (intro w hSw; (try dsimp only at hSw); obtain ⟨h0, h1, h2, h3, h4⟩ := hSw; (try simp only [List.getElem_toArray]); (try simp only [List.getElem_cons_succ]); (try simp only [List.getElem_cons_zero]); go_simp; (try with_reducible rfl); done)
      (try simp only [List.getElem_toArray]); (try simp only [List.getElem_cons_succ]); (try simp only [List.getElem_cons_zero]); (try simp only [Act.put]); (try simp only [List.setIfInBounds_toArray]); (try simp only [List.set_cons_succ]); (try simp only [List.set_cons_zero])
      refine wpAnyH_take (i := 1) (v := ?_) rfl (by kernel_rfl) (by kernel_rfl) (by kernel_rfl) (fun _ _ _ h => h) (Or.inl ⟨by rfl, ?_⟩) (by assumption) ?_
      rotate_left
      focus (intro w hSw; (try dsimp only at hSw); obtain ⟨h0, h1, h2, h3, h4⟩ := hSw; (try simp only [List.getElem_toArray]); (try simp only [List.getElem_cons_succ]); (try simp only [List.getElem_cons_zero]); go_simp; (try with_reducible rfl); done)
      (try simp only [List.getElem_toArray]); (try simp only [List.getElem_cons_succ]); (try simp only [List.getElem_cons_zero]); (try simp only [Act.put]); (try simp only [List.setIfInBounds_toArray]); (try simp only [List.set_cons_succ]); (try simp only [List.set_cons_zero])
      refine wpAnyH_take (i := 2) (v := ?_) rfl (by kernel_rfl) (by kernel_rfl) (by kernel_rfl) (fun _ _ _ h => h) (Or.inl ⟨by rfl, ?_⟩) (by assumption) ?_
      rotate_left
      focus (intro w hSw; (try dsimp only at hSw); obtain ⟨h0, h1, h2, h3, h4⟩ := hSw; (try simp only [List.getElem_toArray]); (try simp only [List.getElem_cons_succ]); (try simp only [List.getElem_cons_zero]); go_simp; (try with_reducible rfl); done)
      (try simp only [List.getElem_toArray]); (try simp only [List.getElem_cons_succ]); (try simp only [List.getElem_cons_zero]); (try simp only [Act.put]); (try simp only [List.setIfInBounds_toArray]); (try simp only [List.set_cons_succ]); (try simp only [List.set_cons_zero])
      refine wpAnyH_take (i := 3) (v := ?_) rfl (by kernel_rfl) (by kernel_rfl) (by kernel_rfl) (fun _ _ _ h => h) (Or.inl ⟨by rfl, ?_⟩) (by assumption) ?_
      rotate_left
      focus (intro w hSw; (try dsimp only at hSw); obtain ⟨h0, h1, h2, h3, h4⟩ := hSw; (try simp only [List.getElem_toArray]); (try simp only [List.getElem_cons_succ]); (try simp only [List.getElem_cons_zero]); go_simp; (try with_reducible rfl); done)
      (try simp only [List.getElem_toArray]); (try simp only [List.getElem_cons_succ]); (try simp only [List.getElem_cons_zero]); (try simp only [Act.put]); (try simp only [List.setIfInBounds_toArray]); (try simp only [List.set_cons_succ]); (try simp only [List.set_cons_zero])
      refine wpAnyH_take (i := 4) (v := ?_) rfl (by kernel_rfl) (by kernel_rfl) (by kernel_rfl) (fun _ _ _ h => h) (Or.inl ⟨by rfl, ?_⟩) (by assumption) ?_
      rotate_left
      focus (intro w hSw; (try dsimp only at hSw); obtain ⟨h0, h1, h2, h3, h4⟩ := hSw; (try simp only [List.getElem_toArray]); (try simp only [List.getElem_cons_succ]); (try simp only [List.getElem_cons_zero]); go_simp; (try with_reducible rfl); done)
      (try simp only [List.getElem_toArray]); (try simp only [List.getElem_cons_succ]); (try simp only [List.getElem_cons_zero]); (try simp only [Act.put]); (try simp only [List.setIfInBounds_toArray]); (try simp only [List.set_cons_succ]); (try simp only [List.set_cons_zero])
      refine wpAnyH_take (i := 5) (v := ?_) rfl (by kernel_rfl) (by kernel_rfl) (by kernel_rfl) (fun _ _ _ h => h) (Or.inl ⟨by rfl, ?_⟩) (by assumption) ?_
      rotate_left
      focus (intro w hSw; (try dsimp only at hSw); obtain ⟨h0, h1, h2, h3, h4⟩ := hSw; (try simp only [List.getElem_toArray]); (try simp only [List.getElem_cons_succ]); (try simp only [List.getElem_cons_zero]); go_simp; (try with_reducible rfl); done)
      (try simp only [List.getElem_toArray]); (try simp only [List.getElem_cons_succ]); (try simp only [List.getElem_cons_zero]); (try simp only [Act.put]); (try simp only [List.setIfInBounds_toArray]); (try simp only [List.set_cons_succ]); (try simp only [List.set_cons_zero])
      refine wpAnyH_take (i := 6) (v := ?_) rfl (by kernel_rfl) (by kernel_rfl) (by kernel_rfl) (fun _ _ _ h => h) (Or.inl ⟨by rfl, ?_⟩) (by assumption) ?_
      rotate_left
      focus (intro w hSw; (try dsimp only at hSw); obtain ⟨h0, h1, h2, h3, h4⟩ := hSw; (try simp only [List.getElem_toArray]); (try simp only [List.getElem_cons_succ]); (try simp only [List.getElem_cons_zero]); go_simp; (try with_reducible rfl); done)
      (try simp only [List.getElem_toArray]); (try simp only [List.getElem_cons_succ]); (try simp only [List.getElem_cons_zero]); (try simp only [Act.put]); (try simp only [List.setIfInBounds_toArray]); (try simp only [List.set_cons_succ]); (try simp only [List.set_cons_zero])
      refine wpAnyH_take (i := 7) (v := ?_) rfl (by kernel_rfl) (by kernel_rfl) (by kernel_rfl) (fun _ _ _ h => h) (Or.inl ⟨by rfl, ?_⟩) (by assumption) ?_
      rotate_left
      focus (intro w hSw; (try dsimp only at hSw); obtain ⟨h0, h1, h2, h3, h4⟩ := hSw; (try simp only [List.getElem_toArray]); (try simp only [List.getElem_cons_succ]); (try simp only [List.getElem_cons_zero]); go_simp; (try with_reducible rfl); done)
      (try simp only [List.getElem_toArray]); (try simp only [List.getElem_cons_succ]); (try simp only [List.getElem_cons_zero]); (try simp only [Act.put]); (try simp only [List.setIfInBounds_toArray]); (try simp only [List.set_cons_succ]); (try simp only [List.set_cons_zero])
      refine wpAnyH_take (i := 8) (v := ?_) rfl (by kernel_rfl) (by kernel_rfl) (by kernel_rfl) (fun _ _ _ h => h) (Or.inl ⟨by rfl, ?_⟩) (by assumption) ?_
      rotate_left
      focus (intro w hSw; (try dsimp only at hSw); obtain ⟨h0, h1, h2, h3, h4⟩ := hSw; (try simp only [List.getElem_toArray]); (try simp only [List.getElem_cons_succ]); (try simp only [List.getElem_cons_zero]); go_simp; (try with_reducible rfl); done)
      (try simp only [List.getElem_toArray]); (try simp only [List.getElem_cons_succ]); (try simp only [List.getElem_cons_zero]); (try simp only [Act.put]); (try simp only [List.setIfInBounds_toArray]); (try simp only [List.set_cons_succ]); (try simp only [List.set_cons_zero])
      refine wpAnyH_take (i := 9) (v := ?_) rfl (by kernel_rfl) (by kernel_rfl) (by kernel_rfl) (fun _ _ _ h => h) (Or.inl ⟨by rfl, ?_⟩) (by assumption) ?_
      rotate_left
      focus (intro w hSw; (try dsimp only at hSw); obtain ⟨h0, h1, h2, h3, h4⟩ := hSw; (try simp only [List.getElem_toArray]); (try simp only [List.getElem_cons_succ]); (try simp only [List.getElem_cons_zero]); go_simp; (try with_reducible rfl); done)
      (try simp only [List.getElem_toArray]); (try simp only [List.getElem_cons_succ]); (try simp only [List.getElem_cons_zero]); (try simp only [Act.put]); (try simp only [List.setIfInBounds_toArray]); (try simp only [List.set_cons_succ]); (try simp only [List.set_cons_zero])
      refine wpAnyH_take (i := 10) (v := ?_) rfl (by kernel_rfl) (by kernel_rfl) (by kernel_rfl) (fun _ _ _ h => h) (Or.inl ⟨by rfl, ?_⟩) (by assumption) ?_
      rotate_left
      focus (intro w hSw; (try dsimp only at hSw); obtain ⟨h0, h1, h2, h3, h4⟩ := hSw; (try simp only [List.getElem_toArray]); (try simp only [List.getElem_cons_succ]); (try simp only [List.getElem_cons_zero]); go_simp; (try with_reducible rfl); done)
      (try simp only [List.getElem_toArray]); (try simp only [List.getElem_cons_succ]); (try simp only [List.getElem_cons_zero]); (try simp only [Act.put]); (try simp only [List.setIfInBounds_toArray]); (try simp only [List.set_cons_succ]); (try simp only [List.set_cons_zero])
      refine wpAnyH_done (by kernel_rfl) ?_ _
      go_wp2_with fail
      go_roundg (t.inp.length - (j + 1))
      case measure => omega
      case rel => exact ⟨j + 1, by go_num, by omega, rfl, Go.Lib.hid (bdr HBW.out)⟩
    · have hjm : ((j : Int) < (t.inp.length : Int)) = False := by simp; omega
      go_wp2_with fail
      go_ret
      exact ⟨rfl, btr HB2.out HBW.out⟩

end Go.Proofs.Ytgpaiphjbhkadaa
