/- The reference's one. -/
import Derived.Test.YtlbiahpajcfcfaaDoorOpRPiece
import Derived.Test.YtlbiahpajcfcfaaDoorOpAlive
namespace Go.Proofs.YtlbiahpajcfcfaaDoor
open Go.ChangeShapes Go.WideShapes Go.ChangeAt Go.RowKit
set_option linter.unusedVariables false
set_option maxRecDepth 100000
attribute [local go_sem ↓] Go.wp_at_zero Go.wp_at_succ

theorem wbytes_wval_len {b : List UInt8} (h : b.length ≤ 8) : (wbytes (wval b)).length ≤ b.length := by
  have e : wbytes (wval b) = strip b := by
    rw [← wval_strip b]
    exact wbytes_wval ((isWord_iff _).2 ⟨Nat.le_trans (strip_len b) h, strip_head b⟩)
  rw [e]
  exact strip_len b
theorem leastN_own {b : List UInt8} (h : b.length ≤ 8) (h1 : 1 ≤ b.length) : leastN (wval b) ≤ b.length := by
  have := wbytes_wval_len h
  unfold leastN
  omega
theorem cat_lists (a b : List UInt8) : (ByteArray.mk (List.toArray a)) ++ (ByteArray.mk (List.toArray b)) = ⟨(a ++ b).toArray⟩ := by
  apply ByteArray.ext
  rw [ByteArray.data_append]
  simp
theorem size_list (a : List UInt8) : (ByteArray.mk (List.toArray a)).size = a.length := by simp [ByteArray.size]
theorem slice_at (A : Option Addr) (n c l h : Nat) (L H : Int) (hL : L = (l : Int)) (hH : H = (h : Int)) (hl : l ≤ h) (hc : h ≤ c) : ∃ A2, Hid (A2 = if c = l then A else A.map (·.add l)) ∧ ∀ w, (Instr.slice 32 (.slice A n c) (some (.int .i64 L)) (some (.int .i64 H)) none).run Tryd.prog w = .ok (.slice A2 (h - l) (c - l)) w := by
  subst hL hH
  refine ⟨_, Go.Lib.hid rfl, fun w => ?_⟩
  rw [run_slice_lh w 32 A n c Tryd.underlying32 .i64 .i64 l h (by omega) (by omega) (by omega)]
  have hs : (sizeOf (Tryd.prog.elem 32)).run Tryd.prog w = .ok 1 w := by kernel_rfl
  rw [hs]
  simp [Result.andThen, sliced]

def OneP (xs : List UInt8) (w : World) (r : Ending) (w' : World) : Prop := r = .returned (.string ⟨(joinB (tellP (xs.take (pieceN xs)))).toArray⟩) ∧ Below w.heap.size w w'

set_option maxHeartbeats 8000000 in
theorem ref_one (A : Option Addr) (n c p : Nat) (xs : List UInt8) (x : UInt8) (ys : List UInt8) (w : World) (hd : xs.drop p = x :: ys) (hn : n = xs.length) (hc : n ≤ c) (hz : c ≤ 9223372036854775807) (hr : Rd w A (bs xs)) :
    Calls Tryd.prog 37 #[.slice A n c, .int .i64 (p : Int)] w (OneP (x :: ys) w) := by
  have HD := Go.Lib.hid hd
  have HN := Go.Lib.hid hn
  have HR := Go.Lib.hid hr
  have hdl := drop_len hd
  obtain ⟨g, off, rfl, hg, hcc⟩ := hr.at_ (by simp; omega)
  have hx0 := hcc p _ (byte_at hd)
  have HX0 := Go.Lib.hid (show ∀ wx, Below w.heap.size w wx → wx.cell? ⟨g, off + p, none⟩ = some (.int .u8 (x.toNat : Int)) from fun wx hb => (hb.cell (p := ⟨g, off + p, none⟩) hg).trans hx0)
  have hx256 : x.toNat < 256 := x.toNat_lt
  have hpn : (p : Int) < (n : Int) := by omega
  have hp0 : (0 : Int) ≤ (p : Int) := by omega
  obtain ⟨m, hm⟩ : ∃ m, m = ys.length := ⟨_, rfl⟩
  have HM := Go.Lib.hid (And.intro hm (show p + m + 1 = n by omega))
  have hp63 : (p : Int) ≤ 9223372036854775000 + 807 := by omega
  have hpn2 : p + m + 1 ≤ 9223372036854775807 := by omega
  clear hx0 hcc hr hn hdl hd hm
  cases hpi : pieceI (x :: ys) with
  | none =>
    have HE := Go.Lib.hid (And.intro (show pieceN (x :: ys) = 1 by simp [pieceN, hpi]) hpi)
    have HT := Go.Lib.hid (show joinB (tellP ((x :: ys).take (pieceN (x :: ys)))) = [98, 121, 116, 101, 32] ++ Lib.decDigits x.toNat by rw [tell_none hpi]; rfl)
    obtain ⟨s, hs⟩ : ∃ s, s = Lib.decDigits x.toNat := ⟨_, rfl⟩
    have hs20 : s.length ≤ 20 := by rw [hs]; exact dec_len20 (by omega)
    have HS := Go.Lib.hid hs
    obtain ⟨t, ht⟩ : ∃ t, t = [98, 121, 116, 101, 32] ++ s := ⟨_, rfl⟩
    have hz1 := size_list s
    have hcat : (ByteArray.mk #[98, 121, 116, 101, 32]) ++ (ByteArray.mk (List.toArray s)) = ⟨List.toArray t⟩ := by rw [ht]; exact cat_lists [98, 121, 116, 101, 32] s
    have HTT := Go.Lib.hid ht
    clear hs ht hpi
    go_enter Tryd.func37, Tryd.ntmps37
    go_wp2_with (first | (go_at_call 26; refine (ref_Piece (some ⟨g, off, none⟩) n c p xs x ys _ HD.out HN.out (by omega) HR.out).mono ?_; rintro _ w3 ⟨rfl, hb3⟩; rw [HE.out.1, HE.out.2]; simp only [Option.isSome_none]; have HB3 := Go.Lib.hid hb3; clear hb3; have hx3 := HX0.out w3 HB3.out) | (go_at_call 12; refine (ref_Of _ _ hx256).mono ?_; rintro _ w4 ⟨rfl, hb4⟩; have HB4 := Go.Lib.hid (btr HB3.out hb4); clear hb4; have hx4 := HX0.out _ (bal HB4.out (.cells #[.string ⟨List.toArray (ofG x.toNat).word⟩, .int .i64 ((ofG x.toNat).behind : Int), .int .i64 ((ofG x.toNat).takes : Int), .int .i64 ((ofG x.toNat).gives : Int), .int .u64 ((ofG x.toNat).gas : Int)] 27)); have hx5 := HX0.out w4 HB4.out; have hgl4 : g < w4.heap.size := Nat.lt_of_lt_of_le hg HB4.out.size; have hgn4 : g ≠ w4.heap.size := (by omega); have hgn4' : w4.heap.size ≠ g := (by omega)) | (go_at_call 51; refine (ref_WPrint x.toNat (by omega) _).mono ?_; rintro _ w5 ⟨rfl, hb5⟩; have HB5 := Go.Lib.hid (btr (bal HB4.out _) hb5); clear hb5; rw [← HS.out]))
    refine bodyPost_ret (v := .string ⟨List.toArray t⟩) (by simp [results, Tryd.results37, go_sem]) rfl ⟨?_, HB5.out⟩
    rw [HT.out, ← HS.out, ← HTT.out]
  | some i =>
    obtain ⟨hpi1, hpi2, hpi3⟩ := pieceI_behind hpi
    have hwl := ofI_word hpi1
    have HE := Go.Lib.hid (And.intro (show pieceN (x :: ys) = i.behind + 1 by simp [pieceN, hpi]) (And.intro hpi (show ofG x.toNat = i by simp [ofG, hpi1])))
    have hbm : i.behind ≤ m := by rw [HM.out.1]; exact hpi2
    by_cases h0 : i.behind = 0
    · have HT := Go.Lib.hid (show joinB (tellP ((x :: ys).take (pieceN (x :: ys)))) = i.word by rw [tell_bare hpi h0]; rfl)
      have hi0 : (i.behind : Int) = 0 := by omega
      clear hpi h0 hpi1 hpi2
      go_enter Tryd.func37, Tryd.ntmps37
      go_wp2_with (first | (go_at_call 26; refine (ref_Piece (some ⟨g, off, none⟩) n c p xs x ys _ HD.out HN.out (by omega) HR.out).mono ?_; rintro _ w3 ⟨rfl, hb3⟩; rw [HE.out.1, HE.out.2.1]; simp only [Option.isSome_some]; have HB3 := Go.Lib.hid hb3; clear hb3; have hx3 := HX0.out w3 HB3.out) | (go_at_call 12; refine (ref_Of _ _ hx256).mono ?_; rintro _ w4 ⟨rfl, hb4⟩; rw [HE.out.2.2]; have HB4 := Go.Lib.hid (btr HB3.out hb4); clear hb4))
      refine bodyPost_ret (v := .string ⟨List.toArray i.word⟩) (by simp [results, Tryd.results37, go_sem]) rfl ⟨?_, bal HB4.out _⟩
      rw [HT.out]
    · have hi0 : ((i.behind : Int) == 0) = false := beq_eq_false_iff_ne.2 (by omega)
      have hib : (0 : Int) ≤ (i.behind : Int) := by omega
      have HT := Go.Lib.hid (tell_own hpi h0)
      obtain ⟨A3, HA3, hsm⟩ := slice_at (some ⟨g, off, none⟩) n c (p + 1) (p + i.behind + 1) ((p : Int) + 1) ((p : Int) + ((i.behind : Int) + 1)) (by omega) (by omega) (by omega) (by have := HM.out.2; omega)
      have hsm2 : ∀ w, (Instr.slice 32 (.slice (some ⟨g, off, none⟩) n c) (some (.int .i64 ((p : Int) + 1))) (some (.int .i64 ((p : Int) + ((i.behind : Int) + 1)))) none).run Tryd.prog w = .ok (.slice A3 i.behind (c - (p + 1))) w := by
        intro w
        have h := hsm w
        rw [show p + i.behind + 1 - (p + 1) = i.behind by omega] at h
        exact h
      clear hsm
      have HR3 := Go.Lib.hid (show Rd w A3 (bs (ys.take i.behind)) by
        have h1 := HR.out.cut (p + 1) c (by simp; have := HN.out; omega)
        rw [← HA3.out, ← bs_drop, show p + 1 = p + 1 from rfl, ← List.drop_drop, HD.out, List.drop_succ_cons, List.drop_zero] at h1
        rw [bs_take]
        exact h1.take _)
      have hown : i.behind = (ys.take i.behind).length := by rw [List.length_take, ← HM.out.1]; omega
      have HOL := Go.Lib.hid hown
      obtain ⟨v, hv⟩ : ∃ v, v = wval (ys.take i.behind) := ⟨_, rfl⟩
      have hv64 : v < 18446744073709551616 := by rw [hv]; exact wval_lt8 (by omega)
      have hlo := leastN_own (b := ys.take i.behind) (by omega) (by omega)
      rw [← hown, ← hv] at hlo
      have HV := Go.Lib.hid hv
      obtain ⟨q, hq⟩ : ∃ q, q = leastN v := ⟨_, rfl⟩
      have HQ := Go.Lib.hid hq
      rw [← hq] at hlo
      obtain ⟨s, hs⟩ : ∃ s, s = Lib.decDigits v := ⟨_, rfl⟩
      have hs20 : s.length ≤ 20 := by rw [hs]; exact dec_len20 hv64
      have HS := Go.Lib.hid hs
      have hz1 := size_list s
      have hz2 := size_list i.word
      have hq0 : (0 : Int) ≤ (q : Int) := by omega
      clear hpi h0 hpi1 hpi2 hown hv hq hs
      go_enter Tryd.func37, Tryd.ntmps37
      go_wp2_with (first | (go_at_call 26; refine (ref_Piece (some ⟨g, off, none⟩) n c p xs x ys _ HD.out HN.out (by omega) HR.out).mono ?_; rintro _ w3 ⟨rfl, hb3⟩; rw [HE.out.1, HE.out.2.1]; simp only [Option.isSome_some]; have HB3 := Go.Lib.hid hb3; clear hb3; have hx3 := HX0.out w3 HB3.out) | (go_at_call 12; refine (ref_Of _ _ hx256).mono ?_; rintro _ w4 ⟨rfl, hb4⟩; rw [HE.out.2.2]; have HB4 := Go.Lib.hid (btr HB3.out hb4); clear hb4) | (go_at_call 52; refine (ref_number A3 i.behind (c - (p + 1)) (ys.take i.behind) _ (HR3.out.below (bal HB4.out _)) HOL.out hpi3).mono ?_; rintro _ _ ⟨rfl, rfl⟩; rw [← HV.out]))
      obtain ⟨w5, hw5⟩ : ∃ y, y = w4.alloc (.cells #[.string ⟨List.toArray i.word⟩, .int .i64 (i.behind : Int), .int .i64 (i.takes : Int), .int .i64 (i.gives : Int), .int .u64 (i.gas : Int)] 27) := ⟨_, rfl⟩
      have HX5 := Go.Lib.hid (show w5.heap[w4.heap.size]? = some (.cells #[.string ⟨List.toArray i.word⟩, .int .i64 (i.behind : Int), .int .i64 (i.takes : Int), .int .i64 (i.gives : Int), .int .u64 (i.gas : Int)] 27 (0, 0)) by rw [hw5]; exact Go.heap_alloc_new w4 _)
      have HB5 := Go.Lib.hid (show Below w.heap.size w w5 by rw [hw5]; exact bal HB4.out _)
      rw [← hw5]
      clear hw5
      obtain ⟨x0, x1, x2, x3, x4, xf⟩ := cells5 HX5.out
      by_cases hp : i.word = pushW
      · have hpb : (i.word == [112, 117, 115, 104]) = true := by rw [hp]; rfl
        have HP := Go.Lib.hid hp
        clear hp
        refine wp_region_held_drew (S := fun _ => True) (by kernel_rfl) trivial (fun hHeld => ?_)
        change wpAnyH _ _ _ _ _ 10 (List.toArray [false, false, false, false, false, false, false, false, false, false]) _ _
        refine wpAnyH_and (N := (fun W => W.cell? ⟨w4.heap.size, 0, none⟩ = some (.string ⟨List.toArray i.word⟩) ∧ W.cell? ⟨w4.heap.size, 1, none⟩ = some (.int .i64 (i.behind : Int)))) ?_
        have hHeld := And.intro hHeld (And.intro (show w5.drew.cell? ⟨w4.heap.size, 0, none⟩ = some (.string ⟨List.toArray i.word⟩) from x0) (show w5.drew.cell? ⟨w4.heap.size, 1, none⟩ = some (.int .i64 (i.behind : Int)) from x1))
        (try dsimp only at hHeld)
        refine wpAnyH_take (i := 0) (v := ?_) rfl (by kernel_rfl) (by kernel_rfl) (by kernel_rfl) (fun _ _ _ h => h) (Or.inl ⟨by rfl, ?_⟩) (by assumption) ?_
        rotate_left
        focus (intro w hSw; (try dsimp only at hSw); have k0 := hSw.2.1; have k1 := hSw.2.2; (try simp only [List.getElem_toArray]); (try simp only [List.getElem_cons_succ]); (try simp only [List.getElem_cons_zero]); go_simp; (try with_reducible rfl); done)
        (try simp only [List.getElem_toArray]); (try simp only [List.getElem_cons_succ]); (try simp only [List.getElem_cons_zero]); (try simp only [Act.put]); (try simp only [List.setIfInBounds_toArray]); (try simp only [List.set_cons_succ]); (try simp only [List.set_cons_zero])
        refine wpAnyH_take (i := 1) (v := ?_) rfl (by kernel_rfl) (by kernel_rfl) (by kernel_rfl) (fun _ _ _ h => h) (Or.inl ⟨by rfl, ?_⟩) (by assumption) ?_
        rotate_left
        focus (intro w hSw; (try dsimp only at hSw); have k0 := hSw.2.1; have k1 := hSw.2.2; (try simp only [List.getElem_toArray]); (try simp only [List.getElem_cons_succ]); (try simp only [List.getElem_cons_zero]); go_simp; (try with_reducible rfl); done)
        (try simp only [List.getElem_toArray]); (try simp only [List.getElem_cons_succ]); (try simp only [List.getElem_cons_zero]); (try simp only [Act.put]); (try simp only [List.setIfInBounds_toArray]); (try simp only [List.set_cons_succ]); (try simp only [List.set_cons_zero])
        refine wpAnyH_take (i := 2) (v := ?_) rfl (by kernel_rfl) (by kernel_rfl) (by kernel_rfl) (fun _ _ _ h => h) (Or.inl ⟨by rfl, ?_⟩) (by assumption) ?_
        rotate_left
        focus (intro w hSw; (try dsimp only at hSw); have k0 := hSw.2.1; have k1 := hSw.2.2; (try simp only [List.getElem_toArray]); (try simp only [List.getElem_cons_succ]); (try simp only [List.getElem_cons_zero]); go_simp; (try with_reducible rfl); done)
        (try simp only [List.getElem_toArray]); (try simp only [List.getElem_cons_succ]); (try simp only [List.getElem_cons_zero]); (try simp only [Act.put]); (try simp only [List.setIfInBounds_toArray]); (try simp only [List.set_cons_succ]); (try simp only [List.set_cons_zero])
        refine wpAnyH_take (i := 3) (v := ?_) rfl (by kernel_rfl) (by kernel_rfl) (by kernel_rfl) (fun _ _ _ h => h) (Or.inl ⟨by rfl, ?_⟩) (by assumption) ?_
        rotate_left
        focus (intro w hSw; (try dsimp only at hSw); have k0 := hSw.2.1; have k1 := hSw.2.2; (try simp only [List.getElem_toArray]); (try simp only [List.getElem_cons_succ]); (try simp only [List.getElem_cons_zero]); go_simp; (try with_reducible rfl); done)
        (try simp only [List.getElem_toArray]); (try simp only [List.getElem_cons_succ]); (try simp only [List.getElem_cons_zero]); (try simp only [Act.put]); (try simp only [List.setIfInBounds_toArray]); (try simp only [List.set_cons_succ]); (try simp only [List.set_cons_zero])
        refine wpAnyH_take (i := 4) (v := ?_) rfl (by kernel_rfl) (by kernel_rfl) (by kernel_rfl) (fun _ _ _ h => h) (Or.inl ⟨by rfl, ?_⟩) (by assumption) ?_
        rotate_left
        focus (intro w hSw; (try dsimp only at hSw); have k0 := hSw.2.1; have k1 := hSw.2.2; (try simp only [List.getElem_toArray]); (try simp only [List.getElem_cons_succ]); (try simp only [List.getElem_cons_zero]); go_simp; (try with_reducible rfl); done)
        (try simp only [List.getElem_toArray]); (try simp only [List.getElem_cons_succ]); (try simp only [List.getElem_cons_zero]); (try simp only [Act.put]); (try simp only [List.setIfInBounds_toArray]); (try simp only [List.set_cons_succ]); (try simp only [List.set_cons_zero])
        refine wpAnyH_take (i := 6) (v := ?_) rfl (by kernel_rfl) (by kernel_rfl) (by kernel_rfl) (fun _ _ _ h => h) (Or.inl ⟨by rfl, ?_⟩) (by assumption) ?_
        rotate_left
        focus (intro w hSw; (try dsimp only at hSw); have k0 := hSw.2.1; have k1 := hSw.2.2; (try simp only [List.getElem_toArray]); (try simp only [List.getElem_cons_succ]); (try simp only [List.getElem_cons_zero]); go_simp; (try with_reducible rfl); done)
        (try simp only [List.getElem_toArray]); (try simp only [List.getElem_cons_succ]); (try simp only [List.getElem_cons_zero]); (try simp only [Act.put]); (try simp only [List.setIfInBounds_toArray]); (try simp only [List.set_cons_succ]); (try simp only [List.set_cons_zero])
        refine wpAnyH_take (i := 7) (v := ?_) rfl (by kernel_rfl) (by kernel_rfl) (by kernel_rfl) (fun _ _ _ h => h) (Or.inl ⟨by rfl, ?_⟩) (by assumption) ?_
        rotate_left
        focus (intro w hSw; (try dsimp only at hSw); have k0 := hSw.2.1; have k1 := hSw.2.2; (try simp only [List.getElem_toArray]); (try simp only [List.getElem_cons_succ]); (try simp only [List.getElem_cons_zero]); go_simp; (try with_reducible rfl); done)
        (try simp only [List.getElem_toArray]); (try simp only [List.getElem_cons_succ]); (try simp only [List.getElem_cons_zero]); (try simp only [Act.put]); (try simp only [List.setIfInBounds_toArray]); (try simp only [List.set_cons_succ]); (try simp only [List.set_cons_zero])
        refine wpAnyH_ready (rs := [5]) (by kernel_rfl) (by simp) ?_
        refine AllReadyH.cons rfl (fun Kq hKq => ?_) AllReadyH.nil
        go_simp
        refine (ref_least v hv64 _).mono ?_
        rintro _ w6 ⟨rfl, hb6⟩
        rw [← HQ.out]
        have HX6 := Go.Lib.hid (box_keep (show w5.drew.heap[w4.heap.size]? = _ from HX5.out) hb6)
        have HB6 := Go.Lib.hid (btr (bdr HB5.out) hb6)
        obtain ⟨y0, y1, y2, y3, y4, yf⟩ := cells5 HX6.out
        clear hb6
        go_wp2_with fail
        refine hKq.out _ _ (⟨trivial, y0, y1⟩) (fun hHeld => ?_)
        clear hKq Kq
        (try simp only [List.getElem_toArray]); (try simp only [List.getElem_cons_succ]); (try simp only [List.getElem_cons_zero]); (try simp only [Act.put]); (try simp only [List.setIfInBounds_toArray]); (try simp only [List.set_cons_succ]); (try simp only [List.set_cons_zero])
        refine wpAnyH_take (i := 8) (v := ?_) rfl (by kernel_rfl) (by kernel_rfl) (by kernel_rfl) (fun _ _ _ h => h) (Or.inl ⟨by rfl, ?_⟩) (by assumption) ?_
        rotate_left
        focus (intro w hSw; (try dsimp only at hSw); (try simp only [List.getElem_toArray]); (try simp only [List.getElem_cons_succ]); (try simp only [List.getElem_cons_zero]); go_simp; (try with_reducible rfl); done)
        (try simp only [List.getElem_toArray]); (try simp only [List.getElem_cons_succ]); (try simp only [List.getElem_cons_zero]); (try simp only [Act.put]); (try simp only [List.setIfInBounds_toArray]); (try simp only [List.set_cons_succ]); (try simp only [List.set_cons_zero])
        refine wpAnyH_take (i := 9) (v := ?_) rfl (by kernel_rfl) (by kernel_rfl) (by kernel_rfl) (fun _ _ _ h => h) (Or.inl ⟨by rfl, ?_⟩) (by assumption) ?_
        rotate_left
        focus (intro w hSw; (try dsimp only at hSw); (try simp only [List.getElem_toArray]); (try simp only [List.getElem_cons_succ]); (try simp only [List.getElem_cons_zero]); go_simp; (try with_reducible rfl); done)
        (try simp only [List.getElem_toArray]); (try simp only [List.getElem_cons_succ]); (try simp only [List.getElem_cons_zero]); (try simp only [Act.put]); (try simp only [List.setIfInBounds_toArray]); (try simp only [List.set_cons_succ]); (try simp only [List.set_cons_zero])
        refine wpAnyH_done (by kernel_rfl) ?_ _
        by_cases hlq : q < i.behind
        · have hne : ((q : Int) == (i.behind : Int)) = false := beq_eq_false_iff_ne.2 (by omega)
          have HTL := Go.Lib.hid (show tellI i (ys.take i.behind) = [i.word ++ Lib.decDigits i.behind, s] by unfold tellI; rw [← HV.out, if_pos ⟨HP.out, by rw [← HQ.out]; exact hlq⟩, ← HS.out])
          obtain ⟨d, hd⟩ : ∃ d, d = Lib.decDigits i.behind := ⟨_, rfl⟩
          have hd20 : d.length ≤ 20 := by rw [hd]; exact dec_len20 (by omega)
          have HDD := Go.Lib.hid hd
          obtain ⟨t1, ht1⟩ : ∃ t1, t1 = [112, 117, 115, 104] ++ d := ⟨_, rfl⟩
          obtain ⟨t2, ht2⟩ : ∃ t2, t2 = t1 ++ [32] := ⟨_, rfl⟩
          obtain ⟨t3, ht3⟩ : ∃ t3, t3 = t2 ++ s := ⟨_, rfl⟩
          have hl1 : t1.length ≤ 24 := by rw [ht1, List.length_append]; simp; omega
          have hl2 : t2.length ≤ 25 := by rw [ht2, List.length_append]; simp; omega
          have hcat1 : (ByteArray.mk #[112, 117, 115, 104]) ++ (ByteArray.mk (List.toArray d)) = ⟨List.toArray t1⟩ := by rw [ht1]; exact cat_lists [112, 117, 115, 104] d
          have hcat2 : (ByteArray.mk (List.toArray t1)) ++ (ByteArray.mk #[32]) = ⟨List.toArray t2⟩ := by rw [ht2]; exact cat_lists t1 [32]
          have hcat3 : (ByteArray.mk (List.toArray t2)) ++ (ByteArray.mk (List.toArray s)) = ⟨List.toArray t3⟩ := by rw [ht3]; exact cat_lists t2 s
          have hz3 := size_list d
          have hz4 := size_list t1
          have hz5 := size_list t2
          have HTT := Go.Lib.hid (And.intro ht1 (And.intro ht2 ht3))
          clear hd ht1 ht2 ht3 hlq hpb x0 x1 x2 x3 x4 xf
          go_wp2_with fail
          refine (ref_WPrint i.behind (by omega) _).mono ?_
          rintro _ w7 ⟨rfl, hb7⟩
          have HB7 := Go.Lib.hid (btr HB6.out hb7)
          clear hb7
          rw [← HDD.out]
          go_wp2_with fail
          refine (ref_WPrint v hv64 _).mono ?_
          rintro _ w8 ⟨rfl, hb8⟩
          have HB8 := Go.Lib.hid (btr HB7.out hb8)
          clear hb8
          rw [← HS.out]
          go_wp2_with fail
          refine bodyPost_ret (v := .string ⟨List.toArray t3⟩) (by simp [results, Tryd.results37, go_sem]) rfl ⟨?_, HB8.out⟩
          rw [HT.out, HTL.out, HTT.out.2.2, HTT.out.2.1, HTT.out.1, HP.out, ← HDD.out]
          simp [joinB, pushW]
        · have hqe : q = i.behind := by omega
          have HTL := Go.Lib.hid (show tellI i (ys.take i.behind) = [i.word, s] by unfold tellI; rw [← HV.out, if_neg (fun h => hlq (by rw [HQ.out]; exact h.2)), ← HS.out])
          have heq : ((q : Int) == (i.behind : Int)) = true := beq_iff_eq.2 (by omega)
          obtain ⟨t2, ht2⟩ : ∃ t2, t2 = i.word ++ [32] := ⟨_, rfl⟩
          obtain ⟨t3, ht3⟩ : ∃ t3, t3 = t2 ++ s := ⟨_, rfl⟩
          have hl2 : t2.length ≤ 25 := by rw [ht2, List.length_append]; simp; omega
          have hcat2 : (ByteArray.mk (List.toArray i.word)) ++ (ByteArray.mk #[32]) = ⟨List.toArray t2⟩ := by rw [ht2]; exact cat_lists i.word [32]
          have hcat3 : (ByteArray.mk (List.toArray t2)) ++ (ByteArray.mk (List.toArray s)) = ⟨List.toArray t3⟩ := by rw [ht3]; exact cat_lists t2 s
          have hz5 := size_list t2
          have HTT := Go.Lib.hid (And.intro ht2 ht3)
          clear ht2 ht3 hlq hpb hqe x0 x1 x2 x3 x4 xf
          go_wp2_with fail
          refine wp_region_held_drew (S := fun _ => True) (by kernel_rfl) trivial (fun hHeld => ?_)
          change wpAnyH _ _ _ _ _ 7 (List.toArray [false, false, false, false, false, false, false]) _ _
          refine wpAnyH_and (N := (fun W => W.cell? ⟨w4.heap.size, 0, none⟩ = some (.string ⟨List.toArray i.word⟩))) ?_
          have hHeld := And.intro hHeld ((by exact y0))
          (try dsimp only at hHeld)
          refine wpAnyH_take (i := 0) (v := ?_) rfl (by kernel_rfl) (by kernel_rfl) (by kernel_rfl) (fun _ _ _ h => h) (Or.inl ⟨by rfl, ?_⟩) (by assumption) ?_
          rotate_left
          focus (intro w hSw; (try dsimp only at hSw); have k0 := hSw.2; have kl : ¬ (9223372036854775807 < i.word.length + 1) := (by omega); (try simp only [List.getElem_toArray]); (try simp only [List.getElem_cons_succ]); (try simp only [List.getElem_cons_zero]); go_simp; (try with_reducible rfl); done)
          (try simp only [List.getElem_toArray]); (try simp only [List.getElem_cons_succ]); (try simp only [List.getElem_cons_zero]); (try simp only [Act.put]); (try simp only [List.setIfInBounds_toArray]); (try simp only [List.set_cons_succ]); (try simp only [List.set_cons_zero])
          refine wpAnyH_take (i := 1) (v := ?_) rfl (by kernel_rfl) (by kernel_rfl) (by kernel_rfl) (fun _ _ _ h => h) (Or.inl ⟨by rfl, ?_⟩) (by assumption) ?_
          rotate_left
          focus (intro w hSw; (try dsimp only at hSw); have k0 := hSw.2; have kl : ¬ (9223372036854775807 < i.word.length + 1) := (by omega); (try simp only [List.getElem_toArray]); (try simp only [List.getElem_cons_succ]); (try simp only [List.getElem_cons_zero]); go_simp; (try with_reducible rfl); done)
          (try simp only [List.getElem_toArray]); (try simp only [List.getElem_cons_succ]); (try simp only [List.getElem_cons_zero]); (try simp only [Act.put]); (try simp only [List.setIfInBounds_toArray]); (try simp only [List.set_cons_succ]); (try simp only [List.set_cons_zero])
          refine wpAnyH_take (i := 2) (v := ?_) rfl (by kernel_rfl) (by kernel_rfl) (by kernel_rfl) (fun _ _ _ h => h) (Or.inl ⟨by rfl, ?_⟩) (by assumption) ?_
          rotate_left
          focus (intro w hSw; (try dsimp only at hSw); have k0 := hSw.2; have kl : ¬ (9223372036854775807 < i.word.length + 1) := (by omega); (try simp only [List.getElem_toArray]); (try simp only [List.getElem_cons_succ]); (try simp only [List.getElem_cons_zero]); go_simp; (try with_reducible rfl); done)
          (try simp only [List.getElem_toArray]); (try simp only [List.getElem_cons_succ]); (try simp only [List.getElem_cons_zero]); (try simp only [Act.put]); (try simp only [List.setIfInBounds_toArray]); (try simp only [List.set_cons_succ]); (try simp only [List.set_cons_zero])
          refine wpAnyH_take (i := 3) (v := ?_) rfl (by kernel_rfl) (by kernel_rfl) (by kernel_rfl) (fun _ _ _ h => h) (Or.inl ⟨by rfl, ?_⟩) (by assumption) ?_
          rotate_left
          focus (intro w hSw; (try dsimp only at hSw); have k0 := hSw.2; have kl : ¬ (9223372036854775807 < i.word.length + 1) := (by omega); (try simp only [List.getElem_toArray]); (try simp only [List.getElem_cons_succ]); (try simp only [List.getElem_cons_zero]); go_simp; (try with_reducible rfl); done)
          (try simp only [List.getElem_toArray]); (try simp only [List.getElem_cons_succ]); (try simp only [List.getElem_cons_zero]); (try simp only [Act.put]); (try simp only [List.setIfInBounds_toArray]); (try simp only [List.set_cons_succ]); (try simp only [List.set_cons_zero])
          refine wpAnyH_ready (rs := [4]) (by kernel_rfl) (by simp) ?_
          refine AllReadyH.cons rfl (fun Kq hKq => ?_) AllReadyH.nil
          go_simp
          refine (ref_WPrint v hv64 _).mono ?_
          rintro _ w8 ⟨rfl, hb8⟩
          rw [← HS.out]
          have HX8 := Go.Lib.hid (box_keep (show w6.drew.heap[w4.heap.size]? = _ from HX6.out) hb8)
          have HB8 := Go.Lib.hid (btr (bdr HB6.out) hb8)
          obtain ⟨z0, z1, z2, z3, z4, zf⟩ := cells5 HX8.out
          clear hb8
          go_wp2_with fail
          refine hKq.out _ _ (⟨trivial, z0⟩) (fun hHeld => ?_)
          clear hKq Kq
          (try simp only [List.getElem_toArray]); (try simp only [List.getElem_cons_succ]); (try simp only [List.getElem_cons_zero]); (try simp only [Act.put]); (try simp only [List.setIfInBounds_toArray]); (try simp only [List.set_cons_succ]); (try simp only [List.set_cons_zero])
          refine wpAnyH_take (i := 5) (v := ?_) rfl (by kernel_rfl) (by kernel_rfl) (by kernel_rfl) (fun _ _ _ h => h) (Or.inl ⟨by rfl, ?_⟩) (by assumption) ?_
          rotate_left
          focus (intro w hSw; (try dsimp only at hSw); have kl : ¬ (9223372036854775807 < t2.length + s.length) := (by omega); (try simp only [List.getElem_toArray]); (try simp only [List.getElem_cons_succ]); (try simp only [List.getElem_cons_zero]); go_simp; (try with_reducible rfl); done)
          (try simp only [List.getElem_toArray]); (try simp only [List.getElem_cons_succ]); (try simp only [List.getElem_cons_zero]); (try simp only [Act.put]); (try simp only [List.setIfInBounds_toArray]); (try simp only [List.set_cons_succ]); (try simp only [List.set_cons_zero])
          refine wpAnyH_take (i := 6) (v := ?_) rfl (by kernel_rfl) (by kernel_rfl) (by kernel_rfl) (fun _ _ _ h => h) (Or.inl ⟨by rfl, ?_⟩) (by assumption) ?_
          rotate_left
          focus (intro w hSw; (try dsimp only at hSw); have kl : ¬ (9223372036854775807 < t2.length + s.length) := (by omega); (try simp only [List.getElem_toArray]); (try simp only [List.getElem_cons_succ]); (try simp only [List.getElem_cons_zero]); go_simp; (try with_reducible rfl); done)
          (try simp only [List.getElem_toArray]); (try simp only [List.getElem_cons_succ]); (try simp only [List.getElem_cons_zero]); (try simp only [Act.put]); (try simp only [List.setIfInBounds_toArray]); (try simp only [List.set_cons_succ]); (try simp only [List.set_cons_zero])
          refine wpAnyH_done (by kernel_rfl) ?_ _
          go_wp2_with fail
          refine bodyPost_ret (v := .string ⟨List.toArray t3⟩) (by simp [results, Tryd.results37, go_sem]) rfl ⟨?_, HB8.out⟩
          rw [HT.out, HTL.out, HTT.out.2, HTT.out.1]
          simp [joinB]
      · have hpb : (i.word == [112, 117, 115, 104]) = false := by simpa [pushW] using hp
        have HTL := Go.Lib.hid (show tellI i (ys.take i.behind) = [i.word, s] by unfold tellI; rw [← HV.out, if_neg (fun h => hp h.1), ← HS.out])
        clear hp
        refine wp_region_held_drew (S := fun _ => True) (by kernel_rfl) trivial (fun hHeld => ?_)
        change wpAnyH _ _ _ _ _ 10 (List.toArray [false, false, false, false, false, false, false, false, false, false]) _ _
        refine wpAnyH_and (N := (fun W => W.cell? ⟨w4.heap.size, 0, none⟩ = some (.string ⟨List.toArray i.word⟩))) ?_
        have hHeld := And.intro hHeld ((by exact x0))
        (try dsimp only at hHeld)
        refine wpAnyH_take (i := 0) (v := ?_) rfl (by kernel_rfl) (by kernel_rfl) (by kernel_rfl) (fun _ _ _ h => h) (Or.inl ⟨by rfl, ?_⟩) (by assumption) ?_
        rotate_left
        focus (intro w hSw; (try dsimp only at hSw); have k0 := hSw.2; have kl : ¬ (9223372036854775807 < i.word.length + 1) := (by omega); (try simp only [List.getElem_toArray]); (try simp only [List.getElem_cons_succ]); (try simp only [List.getElem_cons_zero]); go_simp; (try with_reducible rfl); done)
        (try simp only [List.getElem_toArray]); (try simp only [List.getElem_cons_succ]); (try simp only [List.getElem_cons_zero]); (try simp only [Act.put]); (try simp only [List.setIfInBounds_toArray]); (try simp only [List.set_cons_succ]); (try simp only [List.set_cons_zero])
        refine wpAnyH_take (i := 1) (v := ?_) rfl (by kernel_rfl) (by kernel_rfl) (by kernel_rfl) (fun _ _ _ h => h) (Or.inl ⟨by rfl, ?_⟩) (by assumption) ?_
        rotate_left
        focus (intro w hSw; (try dsimp only at hSw); have k0 := hSw.2; have kl : ¬ (9223372036854775807 < i.word.length + 1) := (by omega); (try simp only [List.getElem_toArray]); (try simp only [List.getElem_cons_succ]); (try simp only [List.getElem_cons_zero]); go_simp; (try with_reducible rfl); done)
        (try simp only [List.getElem_toArray]); (try simp only [List.getElem_cons_succ]); (try simp only [List.getElem_cons_zero]); (try simp only [Act.put]); (try simp only [List.setIfInBounds_toArray]); (try simp only [List.set_cons_succ]); (try simp only [List.set_cons_zero])
        refine wpAnyH_take (i := 2) (v := ?_) rfl (by kernel_rfl) (by kernel_rfl) (by kernel_rfl) (fun _ _ _ h => h) (Or.inl ⟨by rfl, ?_⟩) (by assumption) ?_
        rotate_left
        focus (intro w hSw; (try dsimp only at hSw); have k0 := hSw.2; have kl : ¬ (9223372036854775807 < i.word.length + 1) := (by omega); (try simp only [List.getElem_toArray]); (try simp only [List.getElem_cons_succ]); (try simp only [List.getElem_cons_zero]); go_simp; (try with_reducible rfl); done)
        (try simp only [List.getElem_toArray]); (try simp only [List.getElem_cons_succ]); (try simp only [List.getElem_cons_zero]); (try simp only [Act.put]); (try simp only [List.setIfInBounds_toArray]); (try simp only [List.set_cons_succ]); (try simp only [List.set_cons_zero])
        refine wpAnyH_take (i := 3) (v := ?_) rfl (by kernel_rfl) (by kernel_rfl) (by kernel_rfl) (fun _ _ _ h => h) (Or.inl ⟨by rfl, ?_⟩) (by assumption) ?_
        rotate_left
        focus (intro w hSw; (try dsimp only at hSw); have k0 := hSw.2; have kl : ¬ (9223372036854775807 < i.word.length + 1) := (by omega); (try simp only [List.getElem_toArray]); (try simp only [List.getElem_cons_succ]); (try simp only [List.getElem_cons_zero]); go_simp; (try with_reducible rfl); done)
        (try simp only [List.getElem_toArray]); (try simp only [List.getElem_cons_succ]); (try simp only [List.getElem_cons_zero]); (try simp only [Act.put]); (try simp only [List.setIfInBounds_toArray]); (try simp only [List.set_cons_succ]); (try simp only [List.set_cons_zero])
        refine wpAnyH_take (i := 4) (v := undef) rfl (by kernel_rfl) (by kernel_rfl) (by kernel_rfl) (fun _ _ _ h => h) (Or.inr ⟨by rfl, rfl⟩) (by assumption) ?_
        (try simp only [List.getElem_toArray]); (try simp only [List.getElem_cons_succ]); (try simp only [List.getElem_cons_zero]); (try simp only [Act.put]); (try simp only [List.setIfInBounds_toArray]); (try simp only [List.set_cons_succ]); (try simp only [List.set_cons_zero])
        refine wpAnyH_take (i := 5) (v := undef) rfl (by kernel_rfl) (by kernel_rfl) (by kernel_rfl) (fun _ _ _ h => h) (Or.inr ⟨by rfl, rfl⟩) (by assumption) ?_
        (try simp only [List.getElem_toArray]); (try simp only [List.getElem_cons_succ]); (try simp only [List.getElem_cons_zero]); (try simp only [Act.put]); (try simp only [List.setIfInBounds_toArray]); (try simp only [List.set_cons_succ]); (try simp only [List.set_cons_zero])
        refine wpAnyH_take (i := 6) (v := undef) rfl (by kernel_rfl) (by kernel_rfl) (by kernel_rfl) (fun _ _ _ h => h) (Or.inr ⟨by rfl, rfl⟩) (by assumption) ?_
        (try simp only [List.getElem_toArray]); (try simp only [List.getElem_cons_succ]); (try simp only [List.getElem_cons_zero]); (try simp only [Act.put]); (try simp only [List.setIfInBounds_toArray]); (try simp only [List.set_cons_succ]); (try simp only [List.set_cons_zero])
        refine wpAnyH_take (i := 7) (v := undef) rfl (by kernel_rfl) (by kernel_rfl) (by kernel_rfl) (fun _ _ _ h => h) (Or.inr ⟨by rfl, rfl⟩) (by assumption) ?_
        (try simp only [List.getElem_toArray]); (try simp only [List.getElem_cons_succ]); (try simp only [List.getElem_cons_zero]); (try simp only [Act.put]); (try simp only [List.setIfInBounds_toArray]); (try simp only [List.set_cons_succ]); (try simp only [List.set_cons_zero])
        refine wpAnyH_take (i := 8) (v := undef) rfl (by kernel_rfl) (by kernel_rfl) (by kernel_rfl) (fun _ _ _ h => h) (Or.inr ⟨by rfl, rfl⟩) (by assumption) ?_
        (try simp only [List.getElem_toArray]); (try simp only [List.getElem_cons_succ]); (try simp only [List.getElem_cons_zero]); (try simp only [Act.put]); (try simp only [List.setIfInBounds_toArray]); (try simp only [List.set_cons_succ]); (try simp only [List.set_cons_zero])
        refine wpAnyH_take (i := 9) (v := ?_) rfl (by kernel_rfl) (by kernel_rfl) (by kernel_rfl) (fun _ _ _ h => h) (Or.inl ⟨by rfl, ?_⟩) (by assumption) ?_
        rotate_left
        focus (intro w hSw; (try dsimp only at hSw); (try simp only [List.getElem_toArray]); (try simp only [List.getElem_cons_succ]); (try simp only [List.getElem_cons_zero]); go_simp; (try with_reducible rfl); done)
        (try simp only [List.getElem_toArray]); (try simp only [List.getElem_cons_succ]); (try simp only [List.getElem_cons_zero]); (try simp only [Act.put]); (try simp only [List.setIfInBounds_toArray]); (try simp only [List.set_cons_succ]); (try simp only [List.set_cons_zero])
        refine wpAnyH_done (by kernel_rfl) ?_ _
        obtain ⟨t2, ht2⟩ : ∃ t2, t2 = i.word ++ [32] := ⟨_, rfl⟩
        obtain ⟨t3, ht3⟩ : ∃ t3, t3 = t2 ++ s := ⟨_, rfl⟩
        have hl2 : t2.length ≤ 25 := by rw [ht2, List.length_append]; simp; omega
        have hcat2 : (ByteArray.mk (List.toArray i.word)) ++ (ByteArray.mk #[32]) = ⟨List.toArray t2⟩ := by rw [ht2]; exact cat_lists i.word [32]
        have hcat3 : (ByteArray.mk (List.toArray t2)) ++ (ByteArray.mk (List.toArray s)) = ⟨List.toArray t3⟩ := by rw [ht3]; exact cat_lists t2 s
        have hz5 := size_list t2
        have HTT := Go.Lib.hid (And.intro ht2 ht3)
        clear ht2 ht3
        go_wp2_with fail
        refine wp_region_held_drew (S := fun _ => True) (by kernel_rfl) trivial (fun hHeld => ?_)
        change wpAnyH _ _ _ _ _ 7 (List.toArray [false, false, false, false, false, false, false]) _ _
        refine wpAnyH_and (N := (fun W => W.cell? ⟨w4.heap.size, 0, none⟩ = some (.string ⟨List.toArray i.word⟩))) ?_
        have hHeld := And.intro hHeld ((by exact x0))
        (try dsimp only at hHeld)
        refine wpAnyH_take (i := 0) (v := ?_) rfl (by kernel_rfl) (by kernel_rfl) (by kernel_rfl) (fun _ _ _ h => h) (Or.inl ⟨by rfl, ?_⟩) (by assumption) ?_
        rotate_left
        focus (intro w hSw; (try dsimp only at hSw); have k0 := hSw.2; have kl : ¬ (9223372036854775807 < i.word.length + 1) := (by omega); (try simp only [List.getElem_toArray]); (try simp only [List.getElem_cons_succ]); (try simp only [List.getElem_cons_zero]); go_simp; (try with_reducible rfl); done)
        (try simp only [List.getElem_toArray]); (try simp only [List.getElem_cons_succ]); (try simp only [List.getElem_cons_zero]); (try simp only [Act.put]); (try simp only [List.setIfInBounds_toArray]); (try simp only [List.set_cons_succ]); (try simp only [List.set_cons_zero])
        refine wpAnyH_take (i := 1) (v := ?_) rfl (by kernel_rfl) (by kernel_rfl) (by kernel_rfl) (fun _ _ _ h => h) (Or.inl ⟨by rfl, ?_⟩) (by assumption) ?_
        rotate_left
        focus (intro w hSw; (try dsimp only at hSw); have k0 := hSw.2; have kl : ¬ (9223372036854775807 < i.word.length + 1) := (by omega); (try simp only [List.getElem_toArray]); (try simp only [List.getElem_cons_succ]); (try simp only [List.getElem_cons_zero]); go_simp; (try with_reducible rfl); done)
        (try simp only [List.getElem_toArray]); (try simp only [List.getElem_cons_succ]); (try simp only [List.getElem_cons_zero]); (try simp only [Act.put]); (try simp only [List.setIfInBounds_toArray]); (try simp only [List.set_cons_succ]); (try simp only [List.set_cons_zero])
        refine wpAnyH_take (i := 2) (v := ?_) rfl (by kernel_rfl) (by kernel_rfl) (by kernel_rfl) (fun _ _ _ h => h) (Or.inl ⟨by rfl, ?_⟩) (by assumption) ?_
        rotate_left
        focus (intro w hSw; (try dsimp only at hSw); have k0 := hSw.2; have kl : ¬ (9223372036854775807 < i.word.length + 1) := (by omega); (try simp only [List.getElem_toArray]); (try simp only [List.getElem_cons_succ]); (try simp only [List.getElem_cons_zero]); go_simp; (try with_reducible rfl); done)
        (try simp only [List.getElem_toArray]); (try simp only [List.getElem_cons_succ]); (try simp only [List.getElem_cons_zero]); (try simp only [Act.put]); (try simp only [List.setIfInBounds_toArray]); (try simp only [List.set_cons_succ]); (try simp only [List.set_cons_zero])
        refine wpAnyH_take (i := 3) (v := ?_) rfl (by kernel_rfl) (by kernel_rfl) (by kernel_rfl) (fun _ _ _ h => h) (Or.inl ⟨by rfl, ?_⟩) (by assumption) ?_
        rotate_left
        focus (intro w hSw; (try dsimp only at hSw); have k0 := hSw.2; have kl : ¬ (9223372036854775807 < i.word.length + 1) := (by omega); (try simp only [List.getElem_toArray]); (try simp only [List.getElem_cons_succ]); (try simp only [List.getElem_cons_zero]); go_simp; (try with_reducible rfl); done)
        (try simp only [List.getElem_toArray]); (try simp only [List.getElem_cons_succ]); (try simp only [List.getElem_cons_zero]); (try simp only [Act.put]); (try simp only [List.setIfInBounds_toArray]); (try simp only [List.set_cons_succ]); (try simp only [List.set_cons_zero])
        refine wpAnyH_ready (rs := [4]) (by kernel_rfl) (by simp) ?_
        refine AllReadyH.cons rfl (fun Kq hKq => ?_) AllReadyH.nil
        go_simp
        refine (ref_WPrint v hv64 _).mono ?_
        rintro _ w8 ⟨rfl, hb8⟩
        rw [← HS.out]
        have HX8 := Go.Lib.hid (box_keep (show w5.drew.drew.heap[w4.heap.size]? = _ from HX5.out) hb8)
        have HB8 := Go.Lib.hid (btr (bdr (bdr HB5.out)) hb8)
        obtain ⟨z0, z1, z2, z3, z4, zf⟩ := cells5 HX8.out
        clear hb8
        go_wp2_with fail
        refine hKq.out _ _ (⟨trivial, z0⟩) (fun hHeld => ?_)
        clear hKq Kq
        (try simp only [List.getElem_toArray]); (try simp only [List.getElem_cons_succ]); (try simp only [List.getElem_cons_zero]); (try simp only [Act.put]); (try simp only [List.setIfInBounds_toArray]); (try simp only [List.set_cons_succ]); (try simp only [List.set_cons_zero])
        refine wpAnyH_take (i := 5) (v := ?_) rfl (by kernel_rfl) (by kernel_rfl) (by kernel_rfl) (fun _ _ _ h => h) (Or.inl ⟨by rfl, ?_⟩) (by assumption) ?_
        rotate_left
        focus (intro w hSw; (try dsimp only at hSw); have kl : ¬ (9223372036854775807 < t2.length + s.length) := (by omega); (try simp only [List.getElem_toArray]); (try simp only [List.getElem_cons_succ]); (try simp only [List.getElem_cons_zero]); go_simp; (try with_reducible rfl); done)
        (try simp only [List.getElem_toArray]); (try simp only [List.getElem_cons_succ]); (try simp only [List.getElem_cons_zero]); (try simp only [Act.put]); (try simp only [List.setIfInBounds_toArray]); (try simp only [List.set_cons_succ]); (try simp only [List.set_cons_zero])
        refine wpAnyH_take (i := 6) (v := ?_) rfl (by kernel_rfl) (by kernel_rfl) (by kernel_rfl) (fun _ _ _ h => h) (Or.inl ⟨by rfl, ?_⟩) (by assumption) ?_
        rotate_left
        focus (intro w hSw; (try dsimp only at hSw); have kl : ¬ (9223372036854775807 < t2.length + s.length) := (by omega); (try simp only [List.getElem_toArray]); (try simp only [List.getElem_cons_succ]); (try simp only [List.getElem_cons_zero]); go_simp; (try with_reducible rfl); done)
        (try simp only [List.getElem_toArray]); (try simp only [List.getElem_cons_succ]); (try simp only [List.getElem_cons_zero]); (try simp only [Act.put]); (try simp only [List.setIfInBounds_toArray]); (try simp only [List.set_cons_succ]); (try simp only [List.set_cons_zero])
        refine wpAnyH_done (by kernel_rfl) ?_ _
        go_wp2_with fail
        refine bodyPost_ret (v := .string ⟨List.toArray t3⟩) (by simp [results, Tryd.results37, go_sem]) rfl ⟨?_, HB8.out⟩
        rw [HT.out, HTL.out, HTT.out.2, HTT.out.1]
        simp [joinB]

end Go.Proofs.YtlbiahpajcfcfaaDoor
