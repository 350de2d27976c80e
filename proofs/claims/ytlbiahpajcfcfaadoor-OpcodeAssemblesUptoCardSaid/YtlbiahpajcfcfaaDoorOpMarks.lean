/- opcode.Marks. -/
import Derived.Test.YtlbiahpajcfcfaaDoorOpPiece
import Derived.Test.YtlbiahpajcfcfaaDoorOpPrintP
namespace Go.Proofs.YtlbiahpajcfcfaaDoor
open Go.ChangeShapes Go.WideShapes Go.ChangeAt Go.RowKit
set_option linter.unusedVariables false
set_option maxRecDepth 100000
attribute [local go_sem ↓] Go.wp_at_zero Go.wp_at_succ

theorem wd_int : (Tryd.prog.info? 3).map (fun i => (i.zero, i.size, i.bytes)) = some (some (.int .i64 0), 1, 8) := by kernel_rfl
def ints (l : List Nat) : List Value := l.map (fun n : Nat => Value.int .i64 (n : Int))
@[simp] theorem ints_length (l : List Nat) : (ints l).length = l.length := by simp [ints]
theorem ints_append (l k : List Nat) : ints (l ++ k) = ints l ++ ints k := by simp [ints]
theorem ints_one (l : List Nat) : ∀ u ∈ ints l, u.oneCell' = true := by
  intro u hu
  simp only [ints, List.mem_map] at hu
  obtain ⟨s, _, rfl⟩ := hu
  rfl
theorem rd_int (w : World) (E : TypeId) (n : Nat) {g : Nat} (hg : w.heap.size = g) : Rd (w.alloc (.cells #[.int .i64 (n : Int)] E)) (some ⟨g, 0, none⟩) (ints [n]) := by
  subst hg
  exact rd_new w _ _
theorem marks_step {x : UInt8} {ys : List UInt8} {k : Nat} (hk : pieceN (x :: ys) = k) (pos : Nat) : marksP pos (pieces (x :: ys)) = (if (pieceI (x :: ys)).isSome = true ∧ x = 66 then [pos] else []) ++ marksP (pos + k) (pieces ((x :: ys).drop k)) := by
  have h1 := pieceN_pos (x :: ys)
  have h2 := pieceN_le x ys
  rw [pieces_cons]
  simp only [marksP]
  have e1 : isMk ((x :: ys).take (pieceN (x :: ys))) = true ↔ (pieceI (x :: ys)).isSome = true ∧ x = 66 := by
    unfold isMk
    rw [pieceI_take, List.head?_take, if_neg (by omega)]
    simp
  have e2 : ((x :: ys).take (pieceN (x :: ys))).length = k := by rw [List.length_take, List.length_cons]; omega
  rw [e2, hk]
  congr 1
  by_cases h : (pieceI (x :: ys)).isSome = true ∧ x = 66
  · rw [if_pos h, if_pos (by rw [← hk]; exact e1.2 h)]
  · rw [if_neg h, if_neg (fun h' => h (e1.1 (by rw [← hk] at h'; exact h')))]

def MarksP (xs : List UInt8) (w : World) (r : Ending) (w' : World) : Prop := ∃ A c, r = .returned (.slice A (marksL xs).length c) ∧ Own w' w.heap.size 3 1 A (marksL xs).length c (ints (marksL xs)) ∧ Below w.heap.size w w'
structure MkI (w : World) (xs : List UInt8) (pos : Nat) (L : List Nat) (B : Option Addr) (cB : Nat) (wr : World) : Prop where
  le : pos ≤ xs.length
  bel : Below w.heap.size w wr
  own : Own wr w.heap.size 3 1 B L.length cB (ints L)
  inv : L ++ marksP pos (pieces (xs.drop pos)) = marksL xs
  few : L.length ≤ pos
theorem MkI.step {w wr wr' : World} {x : UInt8} {xs ys : List UInt8} {pos k : Nat} {L N : List Nat} {B B' : Option Addr} {cB cB' : Nat} (h : MkI w xs pos L B cB wr) (hd : xs.drop pos = x :: ys) (hk : pieceN (x :: ys) = k) (hN : (if (pieceI (x :: ys)).isSome = true ∧ x = 66 then [pos] else []) = N)
    (hb : Below w.heap.size w wr') (ho : Own wr' w.heap.size 3 1 B' (L ++ N).length cB' (ints (L ++ N))) : MkI w xs (pos + k) (L ++ N) B' cB' wr' := by
  have h4 := pieceN_pos (x :: ys)
  have h5 := pieceN_le x ys
  have h6 : (xs.drop pos).length = ys.length + 1 := by rw [hd]; rfl
  rw [List.length_drop] at h6
  have hN1 : N.length ≤ 1 := by rw [← hN]; split <;> simp
  have h7 := h.few
  refine ⟨by omega, hb, ho, ?_, by rw [List.length_append]; omega⟩
  rw [← h.inv, hd, marks_step hk pos, hN, List.append_assoc]
  congr 3
  rw [← hd, List.drop_drop]

set_option maxHeartbeats 8000000 in
theorem op_Marks (A : Option Addr) (n c : Nat) (xs : List UInt8) (w : World) (hn : n = xs.length) (hc : n ≤ c) (hc2 : c ≤ 9223372036854775807) (hz : n ≤ 1099511627776) (hr : Rd w A (bs xs)) :
    Calls Tryd.prog 14 #[.slice A n c] w (MarksP xs w) := by
  have HR := Go.Lib.hid hr
  have HN := Go.Lib.hid hn
  have H0 := Go.Lib.hid (show MkI w xs 0 [] none 0 w from ⟨Nat.zero_le _, Below.refl _ _, Own.nil _ _ _ _, rfl, Nat.le_refl _⟩)
  obtain ⟨i0, hi, hz0, hz1, hz2⟩ := info_parts wd_int
  clear hr hn
  go_enter Tryd.func14, Tryd.ntmps14
  go_wp2_with fail
  go_loopg [3, 4] (n + 1) (fun g v3 v4 wr => ∃ (pos : Nat) (L : List Nat) (B : Option Addr) (cB : Nat), v3 = .slice B L.length cB ∧ v4 = .int .i64 (pos : Int) ∧ g = n + 1 - pos ∧ Hid (MkI w xs pos L B cB wr))
  case atStart => exact ⟨0, [], none, 0, rfl, rfl, rfl, H0⟩
  case round =>
    obtain ⟨pos, L, B, cB, rfl, rfl, rfl, H⟩ := hrel
    have hle := H.out.le
    have HLE := Go.Lib.hid hle
    have hple : pos ≤ n := by rw [HN.out]; exact hle
    clear hle
    by_cases hp : pos < n
    · have hpi : (0 : Int) ≤ (pos : Int) := by omega
      have hfew := H.out.few
      obtain ⟨x, ys, hd⟩ : ∃ x ys, xs.drop pos = x :: ys := List.exists_cons_of_length_pos (by rw [List.length_drop, ← HN.out]; omega)
      have HD := Go.Lib.hid hd
      have hl : n - pos = ys.length + 1 := by
        have := congrArg List.length hd
        rw [List.length_drop, ← HN.out, List.length_cons] at this
        exact this
      have HLN := Go.Lib.hid hl
      obtain ⟨g, off, rfl, hg, hcell⟩ := HR.out.at_ (by simp; have := HN.out; omega)
      have hxb : (bs xs)[pos]? = some (.int .u8 (x.toNat : Int)) := by
        have e : xs[pos]? = some x := by
          have := List.getElem?_drop (xs := xs) (i := pos) (j := 0)
          rw [hd] at this
          simpa using this.symm
        rw [bs, List.getElem?_map, e]
        rfl
      have HX0 := Go.Lib.hid (show ∀ wx, Below w.heap.size w wx → wx.cell? ⟨g, off + pos, none⟩ = some (.int .u8 (x.toNat : Int)) from fun wx hb => (hb.cell (p := ⟨g, off + pos, none⟩) hg).trans (hcell pos _ hxb))
      obtain ⟨A2, HA2, hsl⟩ := slice_from (P := Tryd.prog) 32 Tryd.underlying32 Tryd.sizeOf5 (some ⟨g, off, none⟩) n c pos pos rfl hple
      have HR2 := Go.Lib.hid (show Rd wr A2 (bs (x :: ys)) by
        have h1 := (HR.out.below H.out.bel).cut pos c (by simp; have := HN.out; omega)
        rw [← HA2.out, ← bs_drop, hd] at h1
        exact h1)
      have hx256 : x.toNat < 256 := x.toNat_lt
      have hkp := pieceN_pos (x :: ys)
      have hkl := pieceN_le x ys
      obtain ⟨k, hk⟩ : ∃ k, k = pieceN (x :: ys) := ⟨_, rfl⟩
      have HK := Go.Lib.hid hk
      rw [← hk] at hkp hkl
      have hkn : pos + k ≤ n := by omega
      have hk0 : (0 : Int) ≤ (k : Int) := by omega
      clear hd hcell hxb hk hl hkl
      by_cases hm : (pieceI (x :: ys)).isSome = true ∧ x = 66
      · have HM := Go.Lib.hid (show (if (pieceI (x :: ys)).isSome = true ∧ x = 66 then [pos] else []) = [pos] from if_pos hm)
        have HI := Go.Lib.hid hm.1
        have hx66 : (x.toNat : Int) = 66 := by rw [hm.2]; rfl
        clear hm
        go_wp2_with (first | (go_at_call 25; refine (op_piece A2 (n - pos) (c - pos) x ys _ HLN.out HR2.out (by omega)).mono ?_; rintro _ w3 ⟨rfl, hb3⟩; rw [HI.out, ← HK.out]; have HB3 := Go.Lib.hid (btr H.out.bel hb3); have HO3 := Go.Lib.hid (H.out.own.below hb3); clear hb3; have hx3 := HX0.out w3 HB3.out; have hg3 : g < w3.heap.size := Nat.lt_of_lt_of_le hg HB3.out.size; have hgn3 : g ≠ w3.heap.size := (by omega); have hgn3' : w3.heap.size ≠ g := (by omega); have HR4 := Go.Lib.hid (rd_int (w3.alloc (.cells #[.string ⟨List.toArray (pieceG (x :: ys)).word⟩, .int .i64 ((pieceG (x :: ys)).behind : Int), .int .i64 ((pieceG (x :: ys)).takes : Int), .int .i64 ((pieceG (x :: ys)).gives : Int), .int .u64 ((pieceG (x :: ys)).gas : Int)] 24)) 3 pos (g := w3.heap.size + 1) (by simp))) | (at_builtin; go_loud (refine wpList_append_o _ rfl _ _ 33 rfl 3 i0 (.int .i64 0) 1 8 Tryd.underlying33 hi hz0 hz1 hz2 rfl (by decide) w.heap.size B L.length cB (ints L) rfl ((HO3.out.alloc _).alloc _) (some ⟨w3.heap.size + 1, 0, none⟩) 1 1 (ints [pos]) rfl (by simp) HR4.out (ints_one _) (by omega) (by unfold maxLen; omega) (bal (bal HB3.out _) _).size ?_)))
        intro B6 cB6 w6 hown6 hkp6 hlie6
        have HB6 := Go.Lib.hid (show Below w.heap.size w w6 from Kp.below (bal (bal HB3.out _) _) hkp6 (fun i h => (HO3.out.block_lt i h.symm).1))
        have HO6 := Go.Lib.hid hown6
        clear hown6 hkp6 hlie6
        go_wp2_with fail
        go_roundg (n + 1 - (pos + k))
        case measure => omega
        case rel =>
          refine ⟨pos + k, L ++ [pos], B6, cB6, by simp, by go_num, rfl, Go.Lib.hid (H.out.step HD.out HK.out.symm HM.out HB6.out ?_)⟩
          have := HO6.out
          rw [← ints_append] at this
          rw [List.length_append]
          exact this
      · have HM := Go.Lib.hid (show (if (pieceI (x :: ys)).isSome = true ∧ x = 66 then [pos] else []) = [] from if_neg hm)
        rcases (show (pieceI (x :: ys)).isSome = false ∨ ((pieceI (x :: ys)).isSome = true ∧ ¬ ((x.toNat : Int) = 66)) by
          cases hI : (pieceI (x :: ys)).isSome with
          | false => exact .inl rfl
          | true =>
            refine .inr ⟨rfl, fun h => hm ⟨hI, ?_⟩⟩
            apply UInt8.toNat_inj.1
            have : x.toNat = 66 := by omega
            rw [this]; rfl) with hI | ⟨hI, hx66⟩
        all_goals
          have HI := Go.Lib.hid hI
          clear hm hI
          go_wp2_with (go_at_call 25; refine (op_piece A2 (n - pos) (c - pos) x ys _ HLN.out HR2.out (by omega)).mono ?_; rintro _ w3 ⟨rfl, hb3⟩; rw [HI.out, ← HK.out]; have HB3 := Go.Lib.hid (btr H.out.bel hb3); have HO3 := Go.Lib.hid (H.out.own.below hb3); clear hb3; have hx3 := HX0.out w3 HB3.out; have hg3 : g < w3.heap.size := Nat.lt_of_lt_of_le hg HB3.out.size; have hgn3 : g ≠ w3.heap.size := (by omega); have hgn3' : w3.heap.size ≠ g := (by omega))
          go_roundg (n + 1 - (pos + k))
          case measure => omega
          case rel =>
            refine ⟨pos + k, L ++ [], B, cB, by simp, by go_num, rfl, Go.Lib.hid (H.out.step HD.out HK.out.symm HM.out (bal HB3.out _) ?_)⟩
            rw [List.append_nil]
            exact HO3.out.alloc _
    · have HD := Go.Lib.hid (show L = marksL xs by
        have h := H.out.inv
        have hd : xs.drop pos = [] := List.drop_eq_nil_of_le (by rw [← HN.out]; omega)
        rw [hd] at h
        simpa [pieces_nil, marksP] using h)
      go_wp2_with fail
      refine bodyPost_ret (v := .slice B L.length cB) (by simp [results, Tryd.results14, go_sem]) rfl ?_
      have h := H.out.own
      have h2 := H.out.bel
      refine ⟨B, cB, ?_, ?_, h2⟩
      · rw [← HD.out]
      · rw [← HD.out]; exact h

end Go.Proofs.YtlbiahpajcfcfaaDoor
