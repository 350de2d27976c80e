/- opcode.told. -/
import Derived.Test.YtlbiahpajcfcfaaDoorOpAsm
import Derived.Test.YtlbiahpajcfcfaaDoorOpPrintP
import Derived.Deep.DeepCutAuto
namespace Go.Proofs.YtlbiahpajcfcfaaDoor
open Go.ChangeShapes Go.WideShapes Go.ChangeAt Go.RowKit
set_option linter.unusedVariables false
set_option maxRecDepth 100000
attribute [local go_sem ↓] Go.wp_at_zero Go.wp_at_succ

def strC (s : List UInt8) : Value := .string ⟨List.toArray s⟩
def strsC (l : List (List UInt8)) : List Value := l.map strC
@[simp] theorem strsC_length (l : List (List UInt8)) : (strsC l).length = l.length := by simp [strsC]
theorem strsC_one (l : List (List UInt8)) : ∀ u ∈ strsC l, u.oneCell' = true := by
  intro u hu
  simp only [strsC, List.mem_map] at hu
  obtain ⟨s, _, rfl⟩ := hu
  rfl

def ToldP (i : InfoD) (own : List UInt8) (w : World) (r : Ending) (w' : World) : Prop := ∃ A, r = .returned (.slice A 2 2) ∧ Own w' w.heap.size 9 1 A 2 2 (strsC (tellI i own)) ∧ Below w.heap.size w w'

theorem own_strs2 (w w0 : World) (hb : Below w0.heap.size w0 w) {E : TypeId} {x y : List UInt8} : Own (w.alloc (.cells #[.string ⟨List.toArray x⟩, .string ⟨List.toArray y⟩] E)) w0.heap.size E 1 (some ⟨w.heap.size, 0, none⟩) 2 2 (strsC [x, y]) :=
  own_made w w0.heap.size E 1 #[.string ⟨List.toArray x⟩, .string ⟨List.toArray y⟩] 2 2 hb.size (by decide) (by decide) (by rfl)

set_option maxHeartbeats 4000000 in
theorem op_told (i : InfoD) (hi8 : i.behind ≤ 8) (hwl : i.word.length ≤ 8) (A : Option Addr) (n c : Nat) (xs : List UInt8) (hn : n = xs.length) (h8 : n ≤ 8) (w : World) (hr : Rd w A (bs xs)) (hw : WL w) :
    Calls Tryd.prog 35 #[.agg #[.string ⟨List.toArray i.word⟩, .int .i64 (i.behind : Int), .int .i64 (i.takes : Int), .int .i64 (i.gives : Int), .int .u64 (i.gas : Int)], .slice A n c] w (ToldP i xs w) := by
  have HWL := Go.Lib.hid hw
  obtain ⟨w1, hw1⟩ : ∃ x, x = w.alloc (.cells #[.string ⟨List.toArray i.word⟩, .int .i64 (i.behind : Int), .int .i64 (i.takes : Int), .int .i64 (i.gives : Int), .int .u64 (i.gas : Int)] 24) := ⟨_, rfl⟩
  have HX1 := Go.Lib.hid (show w1.heap[w.heap.size]? = some (.cells #[.string ⟨List.toArray i.word⟩, .int .i64 (i.behind : Int), .int .i64 (i.takes : Int), .int .i64 (i.gives : Int), .int .u64 (i.gas : Int)] 24 (0, 0)) by rw [hw1]; exact Go.heap_alloc_new w _)
  have HB1 := Go.Lib.hid (show Below w.heap.size w w1 by rw [hw1]; exact bal (Below.refl _ _) _)
  have HR := Go.Lib.hid (show Rd w1 A (bs xs) by rw [hw1]; exact hr.alloc _)
  have HN := Go.Lib.hid hn
  have HW1 := Go.Lib.hid hw1
  have hv64 : wval xs < 18446744073709551616 := wval_lt8 (by omega)
  have hz1 : (ByteArray.mk (List.toArray i.word)).size = i.word.length := by simp [ByteArray.size]
  have hlt1 : w.heap.size < w1.heap.size := (Array.getElem?_eq_some_iff.1 HX1.out).1
  clear hr hn hw1 hw
  go_enter Tryd.func35, Tryd.ntmps35
  go_wp2_with fail
  rw [← HW1.out]
  go_loop [5, 11] (fun t i => ∃ k : Nat, k ≤ n ∧ i = .int .i64 k ∧ t = .int .u64 ((wval (xs.take k) : Nat) : Int)) (fun _ i => n - (intOf i).toNat)
  case atStart => exact ⟨0, by omega, rfl, rfl⟩
  case round =>
    obtain ⟨k, hk, rfl, rfl⟩ := hrel
    by_cases hlt : k < n
    · obtain ⟨g, off, rfl, hg, hc⟩ := HR.out.at_ (by have := HN.out; simp; omega)
      have h1 := hc k _ (bs_at xs k (by have := HN.out; omega))
      have h2 := byteF_bd xs k
      have h3 := wval_take_bd xs k (by omega)
      have h4 : 0 ≤ ((wval (xs.take k) : Nat) : Int) := Int.natCast_nonneg _
      have HS := Go.Lib.hid (wval_take_succ xs k (by have := HN.out; omega))
      clear hc
      generalize ((wval (xs.take k) : Nat) : Int) = v at *
      generalize byteF xs k = x at *
      go_wp2_with fail
      go_round
      case rel => exact ⟨k + 1, by omega, by go_num, by rw [or_byte _ _ h4 h3 h2.1 h2.2, HS.out]⟩
      case measure => simp [intOf]; omega
    · have hkn : k = n := by omega
      subst hkn
      have hxk : xs.take k = xs := List.take_of_length_le (by have := HN.out; omega)
      rw [hxk]
      obtain ⟨v, hv⟩ : ∃ v, v = wval xs := ⟨_, rfl⟩
      rw [← hv] at hv64 ⊢
      have HV := Go.Lib.hid hv
      obtain ⟨x0, x1, x2, x3, x4, xf⟩ := cells5 HX1.out
      obtain ⟨m, hm⟩ : ∃ m, m = (wbytes v).length := ⟨_, rfl⟩
      have hl8 := wbytes_len v
      rw [← hm] at hl8
      obtain ⟨q, hq⟩ : ∃ q, q = leastN v := ⟨_, rfl⟩
      have hls : q = max m 1 := by rw [hq, leastN, hm]
      have HQ := Go.Lib.hid hq
      have hmx : max (m : Int) 1 = (q : Int) := by omega
      have HM := Go.Lib.hid hm
      have hi0 : (0 : Int) ≤ (i.behind : Int) := by omega
      have hv0 : (0 : Int) ≤ (v : Int) := by omega
      have hv63 : (v : Int) ≤ 18446744073709551615 := by omega
      clear hv hm hq hls hxk
      by_cases hp : i.word = pushW
      · have hpb : (i.word == [112, 117, 115, 104]) = true := by rw [hp]; rfl
        have HP := Go.Lib.hid hp
        have HPL := Go.Lib.hid hpb
        clear hp
        go_wp2_with fail
        refine wp_region_held_drew (S := fun _ => True) (by kernel_rfl) trivial (fun hHeld => ?_)
        change wpAnyH _ _ _ _ _ 11 (List.toArray [false, false, false, false, false, false, false, false, false, false, false]) _ _
        refine wpAnyH_take (i := 0) (v := ?_) rfl (by kernel_rfl) (by kernel_rfl) (by kernel_rfl) (fun _ _ _ h => h) (Or.inl ⟨by rfl, ?_⟩) (by assumption) ?_
        rotate_left
        focus (intro w hSw; (try dsimp only at hSw); (try simp only [List.getElem_toArray]); (try simp only [List.getElem_cons_succ]); (try simp only [List.getElem_cons_zero]); go_simp; (try with_reducible rfl); done)
        (try simp only [List.getElem_toArray]); (try simp only [List.getElem_cons_succ]); (try simp only [List.getElem_cons_zero]); (try simp only [Act.put]); (try simp only [List.setIfInBounds_toArray]); (try simp only [List.set_cons_succ]); (try simp only [List.set_cons_zero])
        refine wpAnyH_take (i := 1) (v := ?_) rfl (by kernel_rfl) (by kernel_rfl) (by kernel_rfl) (fun _ _ _ h => h) (Or.inl ⟨by rfl, ?_⟩) (by assumption) ?_
        rotate_left
        focus (intro w hSw; (try dsimp only at hSw); (try simp only [List.getElem_toArray]); (try simp only [List.getElem_cons_succ]); (try simp only [List.getElem_cons_zero]); go_simp; (try with_reducible rfl); done)
        (try simp only [List.getElem_toArray]); (try simp only [List.getElem_cons_succ]); (try simp only [List.getElem_cons_zero]); (try simp only [Act.put]); (try simp only [List.setIfInBounds_toArray]); (try simp only [List.set_cons_succ]); (try simp only [List.set_cons_zero])
        refine wpAnyH_take (i := 2) (v := ?_) rfl (by kernel_rfl) (by kernel_rfl) (by kernel_rfl) (fun _ _ _ h => h) (Or.inl ⟨by rfl, ?_⟩) (by assumption) ?_
        rotate_left
        focus (intro w hSw; (try dsimp only at hSw); (try simp only [List.getElem_toArray]); (try simp only [List.getElem_cons_succ]); (try simp only [List.getElem_cons_zero]); go_simp; (try with_reducible rfl); done)
        (try simp only [List.getElem_toArray]); (try simp only [List.getElem_cons_succ]); (try simp only [List.getElem_cons_zero]); (try simp only [Act.put]); (try simp only [List.setIfInBounds_toArray]); (try simp only [List.set_cons_succ]); (try simp only [List.set_cons_zero])
        refine wpAnyH_take (i := 3) (v := ?_) rfl (by kernel_rfl) (by kernel_rfl) (by kernel_rfl) (fun _ _ _ h => h) (Or.inl ⟨by rfl, ?_⟩) (by assumption) ?_
        rotate_left
        focus (intro w hSw; (try dsimp only at hSw); (try simp only [List.getElem_toArray]); (try simp only [List.getElem_cons_succ]); (try simp only [List.getElem_cons_zero]); go_simp; (try with_reducible rfl); done)
        (try simp only [List.getElem_toArray]); (try simp only [List.getElem_cons_succ]); (try simp only [List.getElem_cons_zero]); (try simp only [Act.put]); (try simp only [List.setIfInBounds_toArray]); (try simp only [List.set_cons_succ]); (try simp only [List.set_cons_zero])
        refine wpAnyH_take (i := 7) (v := ?_) rfl (by kernel_rfl) (by kernel_rfl) (by kernel_rfl) (fun _ _ _ h => h) (Or.inl ⟨by rfl, ?_⟩) (by assumption) ?_
        rotate_left
        focus (intro w hSw; (try dsimp only at hSw); (try simp only [List.getElem_toArray]); (try simp only [List.getElem_cons_succ]); (try simp only [List.getElem_cons_zero]); go_simp; (try with_reducible rfl); done)
        (try simp only [List.getElem_toArray]); (try simp only [List.getElem_cons_succ]); (try simp only [List.getElem_cons_zero]); (try simp only [Act.put]); (try simp only [List.setIfInBounds_toArray]); (try simp only [List.set_cons_succ]); (try simp only [List.set_cons_zero])
        refine wpAnyH_and (N := (fun W => W.cell? ⟨w.heap.size, 1, none⟩ = some (.int .i64 (i.behind : Int)))) ?_
        have hHeld := And.intro hHeld ((by exact x1))
        (try dsimp only at hHeld)
        refine wpAnyH_take (i := 8) (v := ?_) rfl (by kernel_rfl) (by kernel_rfl) (by kernel_rfl) (fun _ _ _ h => h) (Or.inl ⟨by rfl, ?_⟩) (by assumption) ?_
        rotate_left
        focus (intro w hSw; (try dsimp only at hSw); have k := hSw.2; (try simp only [List.getElem_toArray]); (try simp only [List.getElem_cons_succ]); (try simp only [List.getElem_cons_zero]); go_simp; (try with_reducible rfl); done)
        (try simp only [List.getElem_toArray]); (try simp only [List.getElem_cons_succ]); (try simp only [List.getElem_cons_zero]); (try simp only [Act.put]); (try simp only [List.setIfInBounds_toArray]); (try simp only [List.set_cons_succ]); (try simp only [List.set_cons_zero])
        refine wpAnyH_ready (rs := [4]) (by kernel_rfl) (by simp) ?_
        refine AllReadyH.cons rfl (fun Kq hKq => ?_) AllReadyH.nil
        go_simp
        refine (words_Bytes v _).mono ?_
        rintro _ w3 ⟨A3, m3, c3, rfl, hm3, hown3, hb3⟩
        rw [← HM.out] at hm3
        subst hm3
        have HX3 := Go.Lib.hid (box_keep (show w1.drew.heap[w.heap.size]? = _ from HX1.out) hb3)
        have HB3 := Go.Lib.hid (btr (bdr HB1.out) hb3)
        obtain ⟨y0, y1, y2, y3, y4, yf⟩ := cells5 HX3.out
        clear hb3 hown3
        go_wp2_with fail
        refine hKq.out _ _ (⟨trivial, y1⟩) (fun hHeld => ?_)
        clear hKq Kq
        (try simp only [List.getElem_toArray]); (try simp only [List.getElem_cons_succ]); (try simp only [List.getElem_cons_zero]); (try simp only [Act.put]); (try simp only [List.setIfInBounds_toArray]); (try simp only [List.set_cons_succ]); (try simp only [List.set_cons_zero])
        refine wpAnyH_take (i := 5) (v := ?_) rfl (by kernel_rfl) (by kernel_rfl) (by kernel_rfl) (fun _ _ _ h => h) (Or.inl ⟨by rfl, ?_⟩) (by assumption) ?_
        rotate_left
        focus (intro w hSw; (try dsimp only at hSw); (try simp only [List.getElem_toArray]); (try simp only [List.getElem_cons_succ]); (try simp only [List.getElem_cons_zero]); go_simp; (try with_reducible rfl); done)
        (try simp only [List.getElem_toArray]); (try simp only [List.getElem_cons_succ]); (try simp only [List.getElem_cons_zero]); (try simp only [Act.put]); (try simp only [List.setIfInBounds_toArray]); (try simp only [List.set_cons_succ]); (try simp only [List.set_cons_zero])
        refine wpAnyH_take (i := 6) (v := ?_) rfl (by kernel_rfl) (by kernel_rfl) (by kernel_rfl) (fun _ _ _ h => h) (Or.inl ⟨by rfl, ?_⟩) (by assumption) ?_
        rotate_left
        focus (intro w hSw; (try dsimp only at hSw); (try simp only [List.getElem_toArray]); (try simp only [List.getElem_cons_succ]); (try simp only [List.getElem_cons_zero]); go_simp; (try with_reducible rfl); done)
        (try simp only [List.getElem_toArray]); (try simp only [List.getElem_cons_succ]); (try simp only [List.getElem_cons_zero]); (try simp only [Act.put]); (try simp only [List.setIfInBounds_toArray]); (try simp only [List.set_cons_succ]); (try simp only [List.set_cons_zero])
        refine wpAnyH_take (i := 9) (v := ?_) rfl (by kernel_rfl) (by kernel_rfl) (by kernel_rfl) (fun _ _ _ h => h) (Or.inl ⟨by rfl, ?_⟩) (by assumption) ?_
        rotate_left
        focus (intro w hSw; (try dsimp only at hSw); (try simp only [List.getElem_toArray]); (try simp only [List.getElem_cons_succ]); (try simp only [List.getElem_cons_zero]); go_simp; (try with_reducible rfl); done)
        (try simp only [List.getElem_toArray]); (try simp only [List.getElem_cons_succ]); (try simp only [List.getElem_cons_zero]); (try simp only [Act.put]); (try simp only [List.setIfInBounds_toArray]); (try simp only [List.set_cons_succ]); (try simp only [List.set_cons_zero])
        refine wpAnyH_take (i := 10) (v := ?_) rfl (by kernel_rfl) (by kernel_rfl) (by kernel_rfl) (fun _ _ _ h => h) (Or.inl ⟨by rfl, ?_⟩) (by assumption) ?_
        rotate_left
        focus (intro w hSw; (try dsimp only at hSw); (try simp only [List.getElem_toArray]); (try simp only [List.getElem_cons_succ]); (try simp only [List.getElem_cons_zero]); go_simp; (try with_reducible rfl); done)
        (try simp only [List.getElem_toArray]); (try simp only [List.getElem_cons_succ]); (try simp only [List.getElem_cons_zero]); (try simp only [Act.put]); (try simp only [List.setIfInBounds_toArray]); (try simp only [List.set_cons_succ]); (try simp only [List.set_cons_zero])
        refine wpAnyH_done (by kernel_rfl) ?_ _
        by_cases hlq : q < i.behind
        · have hlq' : (q : Int) < (i.behind : Int) := by omega
          have HE := Go.Lib.hid (show tellI i xs = [i.word ++ Lib.decDigits i.behind, Lib.decDigits v] by unfold tellI; rw [if_pos ⟨HP.out, by rw [← HV.out, ← HQ.out]; exact hlq⟩, ← HV.out])
          have hcat : (ByteArray.mk (List.toArray i.word)) ++ (ByteArray.mk (List.toArray (Lib.decDigits i.behind))) = ⟨(i.word ++ Lib.decDigits i.behind).toArray⟩ := by
            apply ByteArray.ext
            rw [ByteArray.data_append]
            simp
          have hz2 : (ByteArray.mk (List.toArray (Lib.decDigits i.behind))).size ≤ 20 := by
            have := dec_len20 (u := i.behind) (by omega)
            simpa [ByteArray.size] using this
          clear hpb hlq
          go_wp2_with (first | (go_at_call 34; refine (words_Print i.behind (by omega) _ (HWL.out.below HB3.out)).mono ?_; rintro _ w4 ⟨rfl, hb4⟩; have HB4 := Go.Lib.hid (btr HB3.out hb4); clear hb4) | (go_at_call 34; refine (words_Print v hv64 _ (HWL.out.below HB4.out)).mono ?_; rintro _ w5 ⟨rfl, hb5⟩; have HB5 := Go.Lib.hid (btr HB4.out hb5); clear hb5))
          refine bodyPost_ret (v := .slice (some ⟨w5.heap.size, 0, none⟩) 2 2) (by simp [results, Tryd.results35, go_sem]) rfl ?_
          refine ⟨_, rfl, ?_, bal HB5.out _⟩
          rw [HE.out]
          exact own_strs2 w5 w HB5.out
        · have hlq' : ¬ (q : Int) < (i.behind : Int) := by omega
          have HE := Go.Lib.hid (show tellI i xs = [i.word, Lib.decDigits v] by unfold tellI; rw [if_neg (fun h => hlq (by rw [HQ.out, HV.out]; exact h.2)), ← HV.out])
          clear hpb hlq
          go_wp2_with (go_at_call 34; refine (words_Print v hv64 _ (HWL.out.below HB3.out)).mono ?_; rintro _ w5 ⟨rfl, hb5⟩; have HB5 := Go.Lib.hid (btr HB3.out hb5); clear hb5)
          refine bodyPost_ret (v := .slice (some ⟨w5.heap.size, 0, none⟩) 2 2) (by simp [results, Tryd.results35, go_sem]) rfl ?_
          refine ⟨_, rfl, ?_, bal HB5.out _⟩
          rw [HE.out]
          exact own_strs2 w5 w HB5.out
      · have hpb : (i.word == [112, 117, 115, 104]) = false := by simpa [pushW] using hp
        have HE := Go.Lib.hid (show tellI i xs = [i.word, Lib.decDigits v] by unfold tellI; rw [if_neg (fun h => hp h.1), ← HV.out])
        clear hp
        go_wp2_with fail
        refine wp_region_held_drew (S := fun _ => True) (by kernel_rfl) trivial (fun hHeld => ?_)
        change wpAnyH _ _ _ _ _ 11 (List.toArray [false, false, false, false, false, false, false, false, false, false, false]) _ _
        refine wpAnyH_take (i := 0) (v := ?_) rfl (by kernel_rfl) (by kernel_rfl) (by kernel_rfl) (fun _ _ _ h => h) (Or.inl ⟨by rfl, ?_⟩) (by assumption) ?_
        rotate_left
        focus (intro w hSw; (try dsimp only at hSw); (try simp only [List.getElem_toArray]); (try simp only [List.getElem_cons_succ]); (try simp only [List.getElem_cons_zero]); go_simp; (try with_reducible rfl); done)
        (try simp only [List.getElem_toArray]); (try simp only [List.getElem_cons_succ]); (try simp only [List.getElem_cons_zero]); (try simp only [Act.put]); (try simp only [List.setIfInBounds_toArray]); (try simp only [List.set_cons_succ]); (try simp only [List.set_cons_zero])
        refine wpAnyH_take (i := 1) (v := ?_) rfl (by kernel_rfl) (by kernel_rfl) (by kernel_rfl) (fun _ _ _ h => h) (Or.inl ⟨by rfl, ?_⟩) (by assumption) ?_
        rotate_left
        focus (intro w hSw; (try dsimp only at hSw); (try simp only [List.getElem_toArray]); (try simp only [List.getElem_cons_succ]); (try simp only [List.getElem_cons_zero]); go_simp; (try with_reducible rfl); done)
        (try simp only [List.getElem_toArray]); (try simp only [List.getElem_cons_succ]); (try simp only [List.getElem_cons_zero]); (try simp only [Act.put]); (try simp only [List.setIfInBounds_toArray]); (try simp only [List.set_cons_succ]); (try simp only [List.set_cons_zero])
        refine wpAnyH_take (i := 2) (v := ?_) rfl (by kernel_rfl) (by kernel_rfl) (by kernel_rfl) (fun _ _ _ h => h) (Or.inl ⟨by rfl, ?_⟩) (by assumption) ?_
        rotate_left
        focus (intro w hSw; (try dsimp only at hSw); (try simp only [List.getElem_toArray]); (try simp only [List.getElem_cons_succ]); (try simp only [List.getElem_cons_zero]); go_simp; (try with_reducible rfl); done)
        (try simp only [List.getElem_toArray]); (try simp only [List.getElem_cons_succ]); (try simp only [List.getElem_cons_zero]); (try simp only [Act.put]); (try simp only [List.setIfInBounds_toArray]); (try simp only [List.set_cons_succ]); (try simp only [List.set_cons_zero])
        refine wpAnyH_take (i := 3) (v := undef) rfl (by kernel_rfl) (by kernel_rfl) (by kernel_rfl) (fun _ _ _ h => h) (Or.inr ⟨by rfl, rfl⟩) (by assumption) ?_
        (try simp only [List.getElem_toArray]); (try simp only [List.getElem_cons_succ]); (try simp only [List.getElem_cons_zero]); (try simp only [Act.put]); (try simp only [List.setIfInBounds_toArray]); (try simp only [List.set_cons_succ]); (try simp only [List.set_cons_zero])
        refine wpAnyH_take (i := 4) (v := undef) rfl (by kernel_rfl) (by kernel_rfl) (by kernel_rfl) (fun _ _ _ h => h) (Or.inr ⟨by rfl, rfl⟩) (by assumption) ?_
        (try simp only [List.getElem_toArray]); (try simp only [List.getElem_cons_succ]); (try simp only [List.getElem_cons_zero]); (try simp only [Act.put]); (try simp only [List.setIfInBounds_toArray]); (try simp only [List.set_cons_succ]); (try simp only [List.set_cons_zero])
        refine wpAnyH_take (i := 5) (v := undef) rfl (by kernel_rfl) (by kernel_rfl) (by kernel_rfl) (fun _ _ _ h => h) (Or.inr ⟨by rfl, rfl⟩) (by assumption) ?_
        (try simp only [List.getElem_toArray]); (try simp only [List.getElem_cons_succ]); (try simp only [List.getElem_cons_zero]); (try simp only [Act.put]); (try simp only [List.setIfInBounds_toArray]); (try simp only [List.set_cons_succ]); (try simp only [List.set_cons_zero])
        refine wpAnyH_take (i := 6) (v := undef) rfl (by kernel_rfl) (by kernel_rfl) (by kernel_rfl) (fun _ _ _ h => h) (Or.inr ⟨by rfl, rfl⟩) (by assumption) ?_
        (try simp only [List.getElem_toArray]); (try simp only [List.getElem_cons_succ]); (try simp only [List.getElem_cons_zero]); (try simp only [Act.put]); (try simp only [List.setIfInBounds_toArray]); (try simp only [List.set_cons_succ]); (try simp only [List.set_cons_zero])
        refine wpAnyH_take (i := 7) (v := undef) rfl (by kernel_rfl) (by kernel_rfl) (by kernel_rfl) (fun _ _ _ h => h) (Or.inr ⟨by rfl, rfl⟩) (by assumption) ?_
        (try simp only [List.getElem_toArray]); (try simp only [List.getElem_cons_succ]); (try simp only [List.getElem_cons_zero]); (try simp only [Act.put]); (try simp only [List.setIfInBounds_toArray]); (try simp only [List.set_cons_succ]); (try simp only [List.set_cons_zero])
        refine wpAnyH_take (i := 8) (v := undef) rfl (by kernel_rfl) (by kernel_rfl) (by kernel_rfl) (fun _ _ _ h => h) (Or.inr ⟨by rfl, rfl⟩) (by assumption) ?_
        (try simp only [List.getElem_toArray]); (try simp only [List.getElem_cons_succ]); (try simp only [List.getElem_cons_zero]); (try simp only [Act.put]); (try simp only [List.setIfInBounds_toArray]); (try simp only [List.set_cons_succ]); (try simp only [List.set_cons_zero])
        refine wpAnyH_take (i := 9) (v := undef) rfl (by kernel_rfl) (by kernel_rfl) (by kernel_rfl) (fun _ _ _ h => h) (Or.inr ⟨by rfl, rfl⟩) (by assumption) ?_
        (try simp only [List.getElem_toArray]); (try simp only [List.getElem_cons_succ]); (try simp only [List.getElem_cons_zero]); (try simp only [Act.put]); (try simp only [List.setIfInBounds_toArray]); (try simp only [List.set_cons_succ]); (try simp only [List.set_cons_zero])
        refine wpAnyH_take (i := 10) (v := ?_) rfl (by kernel_rfl) (by kernel_rfl) (by kernel_rfl) (fun _ _ _ h => h) (Or.inl ⟨by rfl, ?_⟩) (by assumption) ?_
        rotate_left
        focus (intro w hSw; (try dsimp only at hSw); (try simp only [List.getElem_toArray]); (try simp only [List.getElem_cons_succ]); (try simp only [List.getElem_cons_zero]); go_simp; (try with_reducible rfl); done)
        (try simp only [List.getElem_toArray]); (try simp only [List.getElem_cons_succ]); (try simp only [List.getElem_cons_zero]); (try simp only [Act.put]); (try simp only [List.setIfInBounds_toArray]); (try simp only [List.set_cons_succ]); (try simp only [List.set_cons_zero])
        refine wpAnyH_done (by kernel_rfl) ?_ _
        go_wp2_with (go_at_call 34; refine (words_Print v hv64 _ (HWL.out.below (bdr HB1.out))).mono ?_; rintro _ w5 ⟨rfl, hb5⟩; have HB5 := Go.Lib.hid (btr (bdr HB1.out) hb5); clear hb5)
        refine bodyPost_ret (v := .slice (some ⟨w5.heap.size, 0, none⟩) 2 2) (by simp [results, Tryd.results35, go_sem]) rfl ?_
        refine ⟨_, rfl, ?_, bal HB5.out _⟩
        rw [HE.out]
        exact own_strs2 w5 w HB5.out

end Go.Proofs.YtlbiahpajcfcfaaDoor
