/- opcode.Print. -/
import Derived.Test.YtlbiahpajcfcfaaDoorOpTold
import Derived.Test.YtlbiahpajcfcfaaDoorOpPiece
import Derived.Test.YtlbiahpajcfcfaaDoorOpPrintP
namespace Go.Proofs.YtlbiahpajcfcfaaDoor
open Go.ChangeShapes Go.WideShapes Go.ChangeAt Go.RowKit
set_option linter.unusedVariables false
set_option maxRecDepth 100000
attribute [local go_sem ↓] Go.wp_at_zero Go.wp_at_succ

theorem wd_str : (Tryd.prog.info? 9).map (fun i => (i.zero, i.size, i.bytes)) = some (some (.string ⟨#[]⟩), 1, 16) := by kernel_rfl
/-- strings.Join with a blank. -/
theorem join_blank (L : List (List UInt8)) (B : Option Addr) (cB : Nat) (w : World) (hr : Rd w B (strsC L)) (hc : L.length ≤ cB) (hN : L.length ≤ 1000000) (hl : ∀ s ∈ L, s.length ≤ 28) :
    Calls Tryd.prog 36 #[.slice B L.length cB, .string ⟨#[32]⟩] w fun e w' => e = .returned (.string ⟨(joinB L).toArray⟩) ∧ Below w.heap.size w w' := by
  cases L with
  | nil =>
    refine (Tryd.strings_Join_none B cB ⟨#[32]⟩ w).mono ?_
    rintro r w' ⟨rfl, rfl⟩
    exact ⟨rfl, Below.refl _ _⟩
  | cons s L =>
    obtain ⟨g, off, rfl, hg, hcell⟩ := hr.at_ (by simp)
    have e1 : ((s :: L).map fun s => ByteArray.mk (List.toArray s)).length = (s :: L).length := by simp
    have e2 : ((s :: L).map fun s => ByteArray.mk (List.toArray s)).map (·.data.toList) = s :: L := by
      rw [List.map_map]
      conv => rhs; rw [← List.map_id (s :: L)]
      apply List.map_congr_left
      intro a _
      rfl
    have e3 : (ByteArray.mk #[32]).data.toList = [32] := rfl
    have hj := joinB_len (s :: L) hl
    rw [joinB_join] at hj ⊢
    have h := Tryd.strings_Join g off cB ((s :: L).map fun s => ByteArray.mk (List.toArray s)) ⟨#[32]⟩ w ?_ hg (by rw [e1]; omega) (by rw [e1]; exact hc) (by rw [e2, e3]; omega)
    · rw [e1, e2, e3] at h
      exact h
    · intro j x hx
      rw [List.getElem?_map, Option.map_eq_some_iff] at hx
      obtain ⟨y, hy, rfl⟩ := hx
      exact hcell j _ (by rw [strsC, List.getElem?_map, hy]; rfl)
theorem slice_mid (A : Option Addr) (n c k : Nat) (hk : 1 ≤ k) (hc : k ≤ c) : ∃ A2, Hid (A2 = if c = 1 then A else A.map (·.add 1)) ∧ ∀ w, (Instr.slice 32 (.slice A n c) (some (.int .i64 1)) (some (.int .i64 (k : Int))) none).run Tryd.prog w = .ok (.slice A2 (k - 1) (c - 1)) w := by
  refine ⟨_, Go.Lib.hid rfl, fun w => ?_⟩
  rw [run_slice_lh w 32 A n c Tryd.underlying32 .i64 .i64 1 k (by omega) (by omega) (by omega)]
  have hs : (sizeOf (Tryd.prog.elem 32)).run Tryd.prog w = .ok 1 w := by kernel_rfl
  rw [hs]
  simp [Result.andThen, sliced]
theorem rd_mid {w : World} {A A2 : Option Addr} {x : UInt8} {ys : List UInt8} {c k : Nat} (h : Rd w A (bs (x :: ys))) (hc : ys.length + 1 ≤ c) (hA : A2 = if c = 1 then A else A.map (·.add 1)) : Rd w A2 (bs (ys.take k)) := by
  have := (h.cut 1 c (by simpa using hc))
  rw [← hA, ← bs_drop] at this
  rw [bs_take]
  exact this.take k
theorem rd_behind {w : World} {A A2 : Option Addr} {xs : List UInt8} {c k : Nat} (h : Rd w A (bs xs)) (hc : xs.length ≤ c) (hA : A2 = if c = k then A else A.map (·.add k)) : Rd w A2 (bs (xs.drop k)) := by
  have := (h.cut k c (by simpa using hc))
  rw [← hA, ← bs_drop] at this
  exact this
theorem own_strs1 (w w0 : World) (hb : Below w0.heap.size w0 w) {E : TypeId} {x : List UInt8} {g : Nat} (hg : w.heap.size = g) : Own (w.alloc (.cells #[.string ⟨List.toArray x⟩] E)) w0.heap.size E 1 (some ⟨g, 0, none⟩) 1 1 (strsC [x]) := by
  subst hg
  exact own_made w w0.heap.size E 1 #[.string ⟨List.toArray x⟩] 1 1 hb.size (by decide) (by decide) (by rfl)

def PrintP (xs : List UInt8) (w : World) (r : Ending) (w' : World) : Prop := r = .returned (.tuple (if xs.length > 256 then #[.string ⟨#[]⟩, .int .i64 142] else #[.string ⟨List.toArray (printL xs)⟩, .int .i64 0])) ∧ Below w.heap.size w w'

/-- What Print's loop holds. -/
structure PrI (w : World) (xs ys : List UInt8) (A : Option Addr) (c : Nat) (L : List (List UInt8)) (B : Option Addr) (cB : Nat) (wr : World) : Prop where
  bel : Below w.heap.size w wr
  rd : Rd w A (bs ys)
  own : Own wr w.heap.size 9 1 B L.length cB (strsC L)
  inv : L ++ tells ys = tells xs
  cap : ys.length ≤ c ∧ c ≤ 9223372036854775807
  few : L.length + 2 * ys.length ≤ 512

theorem PrI.step {w wr wr' : World} {x : UInt8} {xs ys : List UInt8} {A A' B B' : Option Addr} {c cB cB' k : Nat} {L N : List (List UInt8)} (h : PrI w xs (x :: ys) A c L B cB wr) (hk : pieceN (x :: ys) = k) (hN : tellP ((x :: ys).take (pieceN (x :: ys))) = N) (hA : A' = if c = k then A else A.map (·.add k))
    (hb : Below w.heap.size w wr') (ho : Own wr' w.heap.size 9 1 B' (L.length + N.length) cB' (strsC L ++ strsC N)) : PrI w xs ((x :: ys).drop k) A' (c - k) (L ++ N) B' cB' wr' := by
  have h1 := tellP_len (x := x) (ys := ys)
  rw [hN] at h1
  have h2 := h.few
  have h3 := h.cap
  have h4 := pieceN_pos (x :: ys)
  have h5 := pieceN_le x ys
  rw [hk] at h4 h5
  simp only [List.length_cons] at h2 h3
  refine ⟨hb, rd_behind h.rd (by simpa using h3.1) hA, ?_, ?_, ?_, ?_⟩
  · rw [List.length_append, strsC, List.map_append]
    exact ho
  · rw [← h.inv, tells_cons, hN, hk, List.append_assoc]
  · rw [List.length_drop]; simp only [List.length_cons]; omega
  · rw [List.length_drop, List.length_append]; simp only [List.length_cons]; omega

set_option maxHeartbeats 8000000 in
theorem op_Print (A : Option Addr) (n c : Nat) (xs : List UInt8) (w : World) (hn : n = xs.length) (hc : n ≤ c) (hc2 : c ≤ 9223372036854775807) (hr : Rd w A (bs xs)) (hw : WL w) :
    Calls Tryd.prog 20 #[.slice A n c] w (PrintP xs w) := by
  have HWL := Go.Lib.hid hw
  clear hw
  by_cases hlong : n > 256
  · have hq : (n : Int) > 256 := by omega
    have HL := Go.Lib.hid (show xs.length > 256 by omega)
    clear hlong hn
    go_enter Tryd.func20, Tryd.ntmps20
    go_wp2_with fail
    refine bodyPost_ret (v := .tuple #[.string ⟨#[]⟩, .int .i64 142]) (by simp [results, Tryd.results20, go_sem]) rfl ⟨by rw [if_pos HL.out], Below.refl _ _⟩
  · have hq : ¬ (n : Int) > 256 := by omega
    have HL := Go.Lib.hid (show ¬ xs.length > 256 by omega)
    have H0 := Go.Lib.hid (show PrI w xs xs A c [] none 0 w from ⟨Below.refl _ _, hr, Own.nil _ _ _ _, rfl, ⟨by omega, hc2⟩, by simp; omega⟩)
    obtain ⟨i0, hi, hz0, hz1, hz2⟩ := info_parts wd_str
    have HN := Go.Lib.hid hn
    clear hlong hr hn
    go_enter Tryd.func20, Tryd.ntmps20
    go_wp2_with fail
    go_loopg [0, 4] (xs.length + 1) (fun g v0 v4 wr => ∃ (ys : List UInt8) (A : Option Addr) (c : Nat) (L : List (List UInt8)) (B : Option Addr) (cB : Nat), v0 = .slice A ys.length c ∧ v4 = .slice B L.length cB ∧ g = ys.length + 1 ∧ Hid (PrI w xs ys A c L B cB wr))
    case atStart => exact ⟨xs, A, c, [], none, 0, by rw [HN.out], rfl, rfl, H0⟩
    case round =>
      obtain ⟨ys, A, c, L, B, cB, rfl, rfl, rfl, H⟩ := hrel
      cases ys with
      | nil =>
        have hn0 : ([] : List UInt8).length = 0 := rfl
        have HLL := Go.Lib.hid (show L = tells xs by have := H.out.inv; simpa [tells, pieces_nil] using this)
        have HLEN := Go.Lib.hid (tells_len xs.length xs (Nat.le_refl _))
        go_wp2_with (go_at_call 36; refine (join_blank L B cB _ H.out.own.rd H.out.own.cap.1 (by have := H.out.few; omega) (by rw [HLL.out]; exact HLEN.out.1)).mono ?_; rintro _ w4 ⟨rfl, hb4⟩; have HB4 := Go.Lib.hid (btr H.out.bel hb4); clear hb4)
        refine bodyPost_ret (v := .tuple #[.string ⟨(joinB L).toArray⟩, .int .i64 0]) (by simp [results, Tryd.results20, go_sem]) rfl ⟨?_, HB4.out⟩
        rw [if_neg HL.out, HLL.out]
        rfl
      | cons x ys =>
        obtain ⟨hcap1, hcap2⟩ := H.out.cap
        have hfew := H.out.few
        obtain ⟨m, hm⟩ : ∃ m, m = ys.length := ⟨_, rfl⟩
        have hm1 : (x :: ys).length = m + 1 := by rw [List.length_cons, hm]
        have HM := Go.Lib.hid hm
        rw [hm1] at hcap1 hfew ⊢
        have hx256 : x.toNat < 256 := x.toNat_lt
        have HR := Go.Lib.hid H.out.rd
        obtain ⟨g, off, rfl, hg, hcell⟩ := H.out.rd.at_ (by simp)
        have hgr : g < wr.heap.size := Nat.lt_of_lt_of_le hg H.out.bel.size
        have hx0 : ∀ wx, Below w.heap.size w wx → wx.cell? ⟨g, off, none⟩ = some (.int .u8 (x.toNat : Int)) := fun wx hb => (hb.cell (p := ⟨g, off, none⟩) hg).trans (hcell 0 _ rfl)
        have HX0 := Go.Lib.hid hx0
        have HRR := Go.Lib.hid (HR.out.below H.out.bel)
        clear hcell hx0
        have hpn := pieceN_pos (x :: ys)
        have hpl := pieceN_le x ys
        rw [← hm] at hpl
        cases hpi : pieceI (x :: ys) with
        | none =>
          have e1 : pieceN (x :: ys) = 1 := by simp [pieceN, hpi]
          have HT := Go.Lib.hid (tell_none hpi)
          have HG := Go.Lib.hid (And.intro e1 (show pieceG (x :: ys) = zeroI by simp [pieceG, hpi]))
          have HI := Go.Lib.hid hpi
          obtain ⟨A2, HA2, hsl⟩ := slice_from (P := Tryd.prog) 32 Tryd.underlying32 Tryd.sizeOf5 (some ⟨g, off, none⟩) (m + 1) c 1 1 rfl (by omega)
          clear hpi e1 hm hm1
          go_wp2_with (first | (go_at_call 25; refine (op_piece (some ⟨g, off, none⟩) (m + 1) c x ys _ (by rw [HM.out]) HRR.out (by omega)).mono ?_; rintro _ w3 ⟨rfl, hb3⟩; rw [HG.out.1, HG.out.2, HI.out]; simp only [Option.isSome_none]; have HB3 := Go.Lib.hid (btr H.out.bel hb3); have HO3 := Go.Lib.hid (H.out.own.below hb3); clear hb3; have hx3 := HX0.out w3 HB3.out; have hg3 : g < w3.heap.size := Nat.lt_of_lt_of_le hg HB3.out.size; have hgn3 : g ≠ w3.heap.size := (by omega); have hgn3' : w3.heap.size ≠ g := (by omega)) | (go_at_call 34; refine (words_Print x.toNat (by omega) _ (HWL.out.below (bal HB3.out _))).mono ?_; rintro _ w4 ⟨rfl, hb4⟩; have HO4 := Go.Lib.hid ((HO3.out.alloc _).below hb4); have HB4 := Go.Lib.hid (btr (bal HB3.out _) hb4); clear hb4; have HR4 := Go.Lib.hid (own_strs2 w4 w HB4.out (E := 9) (x := byteW) (y := Lib.decDigits x.toNat)).rd) | (at_builtin; go_loud (refine wpList_append_o _ rfl _ _ 71 rfl 9 i0 (.string ⟨#[]⟩) 1 16 Tryd.underlying71 hi hz0 hz1 hz2 rfl (by decide) w.heap.size B L.length cB (strsC L) rfl (HO4.out.alloc _) (some ⟨w4.heap.size, 0, none⟩) 2 2 (strsC [byteW, Lib.decDigits x.toNat]) rfl (by simp) HR4.out (strsC_one _) (by omega) (by unfold maxLen; omega) (bal HB4.out _).size ?_)))
          intro B6 cB6 w6 hown6 hkp6 hlie6
          have HB6 := Go.Lib.hid (show Below w.heap.size w w6 from Kp.below (bal HB4.out _) hkp6 (fun i h => (HO4.out.block_lt i h.symm).1))
          have HO6 := Go.Lib.hid hown6
          clear hown6 hkp6 hlie6
          go_wp2_with fail
          go_roundg (m + 1)
          case measure => (have := HM.out; simp only [List.length_cons]; omega)
          case rel =>
            refine ⟨(x :: ys).drop 1, A2, c - 1, L ++ [byteW, Lib.decDigits x.toNat], B6, cB6, by simp [HM.out], by simp, by simp [HM.out], Go.Lib.hid (H.out.step HG.out.1 HT.out HA2.out HB6.out HO6.out)⟩
        | some i =>
          obtain ⟨hpi1, hpi2, hpi3⟩ := pieceI_behind hpi
          have hwl := ofI_word hpi1
          have e1 : pieceN (x :: ys) = i.behind + 1 := by simp [pieceN, hpi]
          have HG := Go.Lib.hid (And.intro e1 (show pieceG (x :: ys) = i by simp [pieceG, hpi]))
          have HI := Go.Lib.hid hpi
          rw [← hm] at hpi2
          by_cases h0 : i.behind = 0
          · have HT := Go.Lib.hid (tell_bare hpi h0)
            have hi0 : (i.behind : Int) = 0 := by omega
            have H0' := Go.Lib.hid h0
            obtain ⟨A2, HA2, hsl⟩ := slice_from (P := Tryd.prog) 32 Tryd.underlying32 Tryd.sizeOf5 (some ⟨g, off, none⟩) (m + 1) c 1 1 rfl (by omega)
            clear hpi e1 hm hm1 hpi1 h0
            go_wp2_with (first | (go_at_call 25; refine (op_piece (some ⟨g, off, none⟩) (m + 1) c x ys _ (by rw [HM.out]) HRR.out (by omega)).mono ?_; rintro _ w3 ⟨rfl, hb3⟩; rw [HG.out.1, HG.out.2, HI.out, H0'.out]; simp only [Option.isSome_some]; have HB3 := Go.Lib.hid (btr H.out.bel hb3); have HO3 := Go.Lib.hid (H.out.own.below hb3); clear hb3; have HR4 := Go.Lib.hid (own_strs1 (w3.alloc (.cells #[.string ⟨List.toArray i.word⟩, .int .i64 0, .int .i64 (i.takes : Int), .int .i64 (i.gives : Int), .int .u64 (i.gas : Int)] 24)) w (bal HB3.out _) (E := 9) (x := i.word) (g := w3.heap.size + 1) (by simp)).rd) | (at_builtin; go_loud (refine wpList_append_o _ rfl _ _ 71 rfl 9 i0 (.string ⟨#[]⟩) 1 16 Tryd.underlying71 hi hz0 hz1 hz2 rfl (by decide) w.heap.size B L.length cB (strsC L) rfl ((HO3.out.alloc _).alloc _) (some ⟨w3.heap.size + 1, 0, none⟩) 1 1 (strsC [i.word]) rfl (by simp) HR4.out (strsC_one _) (by omega) (by unfold maxLen; omega) (bal (bal HB3.out _) _).size ?_)))
            intro B6 cB6 w6 hown6 hkp6 hlie6
            have HB6 := Go.Lib.hid (show Below w.heap.size w w6 from Kp.below (bal (bal HB3.out _) _) hkp6 (fun i h => (HO3.out.block_lt i h.symm).1))
            have HO6 := Go.Lib.hid hown6
            clear hown6 hkp6 hlie6
            go_wp2_with fail
            go_roundg (m + 1)
            case measure => (have := HM.out; simp only [List.length_cons]; omega)
            case rel =>
              refine ⟨(x :: ys).drop 1, A2, c - 1, L ++ [i.word], B6, cB6, by simp [HM.out], by simp, by simp [HM.out], Go.Lib.hid (H.out.step (HG.out.1.trans (by rw [H0'.out])) HT.out HA2.out HB6.out HO6.out)⟩
          · have HT := Go.Lib.hid (tell_own hpi h0)
            have hi0 : ¬ ((i.behind : Int) + 1 = 1) := by omega
            have hib : (0 : Int) ≤ (i.behind : Int) := by omega
            obtain ⟨A2, HA2, hsl⟩ := slice_from (P := Tryd.prog) 32 Tryd.underlying32 Tryd.sizeOf5 (some ⟨g, off, none⟩) (m + 1) c (i.behind + 1) ((i.behind : Int) + 1) (by omega) (by omega)
            obtain ⟨A3, HA3, hsm⟩ := slice_mid (some ⟨g, off, none⟩) (m + 1) c (i.behind + 1) (by omega) (by omega)
            have hsm2 : ∀ w, (Instr.slice 32 (.slice (some ⟨g, off, none⟩) (m + 1) c) (some (.int .i64 1)) (some (.int .i64 ((i.behind : Int) + 1))) none).run Tryd.prog w = .ok (.slice A3 i.behind (c - 1)) w := by
              intro w
              have := hsm w
              rw [Nat.add_sub_cancel] at this
              exact this
            clear hsm
            have HR3 := Go.Lib.hid (rd_mid (k := i.behind) HR.out (by rw [← hm]; omega) HA3.out)
            have hown : i.behind = (ys.take i.behind).length := by rw [List.length_take, ← hm]; omega
            have HOL := Go.Lib.hid hown
            clear hpi e1 hm hm1 hpi1 h0 hown
            go_wp2_with (first | (go_at_call 25; refine (op_piece (some ⟨g, off, none⟩) (m + 1) c x ys _ (by rw [HM.out]) HRR.out (by omega)).mono ?_; rintro _ w3 ⟨rfl, hb3⟩; rw [HG.out.1, HG.out.2, HI.out]; simp only [Option.isSome_some]; have HB3 := Go.Lib.hid (btr H.out.bel hb3); have HO3 := Go.Lib.hid (H.out.own.below hb3); clear hb3))
            obtain ⟨w5, hw5⟩ : ∃ x, x = w3.alloc (.cells #[.string ⟨List.toArray i.word⟩, .int .i64 (i.behind : Int), .int .i64 (i.takes : Int), .int .i64 (i.gives : Int), .int .u64 (i.gas : Int)] 24) := ⟨_, rfl⟩
            have HX5 := Go.Lib.hid (show w5.heap[w3.heap.size]? = some (.cells #[.string ⟨List.toArray i.word⟩, .int .i64 (i.behind : Int), .int .i64 (i.takes : Int), .int .i64 (i.gives : Int), .int .u64 (i.gas : Int)] 24 (0, 0)) by rw [hw5]; exact Go.heap_alloc_new w3 _)
            have HB5 := Go.Lib.hid (show Below w.heap.size w w5 by rw [hw5]; exact bal HB3.out _)
            have HO5 := Go.Lib.hid (show Own w5 w.heap.size 9 1 B L.length cB (strsC L) by rw [hw5]; exact HO3.out.alloc _)
            rw [← hw5]
            clear hw5
            have hws : (w3.heap.size : Nat) < w5.heap.size := (Array.getElem?_eq_some_iff.1 HX5.out).1
            refine wp_region_held_drew (S := fun _ => True) (by kernel_rfl) trivial (fun hHeld => ?_)
            change wpAnyH _ _ _ _ _ 8 (List.toArray [false, false, false, false, false, false, false, false]) _ _
            refine wpAnyH_take (i := 0) (v := ?_) rfl (by kernel_rfl) (by kernel_rfl) (by kernel_rfl) (fun _ _ _ h => h) (Or.inl ⟨by rfl, ?_⟩) (by assumption) ?_
            rotate_left
            focus (intro w hSw; (try dsimp only at hSw); (try simp only [List.getElem_toArray]); (try simp only [List.getElem_cons_succ]); (try simp only [List.getElem_cons_zero]); go_simp; (try with_reducible rfl); done)
            (try simp only [List.getElem_toArray]); (try simp only [List.getElem_cons_succ]); (try simp only [List.getElem_cons_zero]); (try simp only [Act.put]); (try simp only [List.setIfInBounds_toArray]); (try simp only [List.set_cons_succ]); (try simp only [List.set_cons_zero])
            refine wpAnyH_take (i := 2) (v := ?_) rfl (by kernel_rfl) (by kernel_rfl) (by kernel_rfl) (fun _ _ _ h => h) (Or.inl ⟨by rfl, ?_⟩) (by assumption) ?_
            rotate_left
            focus (intro w hSw; (try dsimp only at hSw); (try simp only [List.getElem_toArray]); (try simp only [List.getElem_cons_succ]); (try simp only [List.getElem_cons_zero]); go_simp; (try with_reducible rfl); done)
            (try simp only [List.getElem_toArray]); (try simp only [List.getElem_cons_succ]); (try simp only [List.getElem_cons_zero]); (try simp only [Act.put]); (try simp only [List.setIfInBounds_toArray]); (try simp only [List.set_cons_succ]); (try simp only [List.set_cons_zero])
            refine wpAnyH_take (i := 3) (v := ?_) rfl (by kernel_rfl) (by kernel_rfl) (by kernel_rfl) (fun _ _ _ h => h) (Or.inl ⟨by rfl, ?_⟩) (by assumption) ?_
            rotate_left
            focus (intro w hSw; (try dsimp only at hSw); (try simp only [List.getElem_toArray]); (try simp only [List.getElem_cons_succ]); (try simp only [List.getElem_cons_zero]); go_simp; (try with_reducible rfl); done)
            (try simp only [List.getElem_toArray]); (try simp only [List.getElem_cons_succ]); (try simp only [List.getElem_cons_zero]); (try simp only [Act.put]); (try simp only [List.setIfInBounds_toArray]); (try simp only [List.set_cons_succ]); (try simp only [List.set_cons_zero])
            refine wpAnyH_take (i := 4) (v := ?_) rfl (by kernel_rfl) (by kernel_rfl) (by kernel_rfl) (fun _ _ _ h => h) (Or.inl ⟨by rfl, ?_⟩) (by assumption) ?_
            rotate_left
            focus (intro w hSw; (try dsimp only at hSw); (try simp only [List.getElem_toArray]); (try simp only [List.getElem_cons_succ]); (try simp only [List.getElem_cons_zero]); go_simp; (try with_reducible rfl); done)
            (try simp only [List.getElem_toArray]); (try simp only [List.getElem_cons_succ]); (try simp only [List.getElem_cons_zero]); (try simp only [Act.put]); (try simp only [List.setIfInBounds_toArray]); (try simp only [List.set_cons_succ]); (try simp only [List.set_cons_zero])
            refine wpAnyH_and (N := (fun W => W.heap[w3.heap.size]? = some (.cells #[.string ⟨List.toArray i.word⟩, .int .i64 (i.behind : Int), .int .i64 (i.takes : Int), .int .i64 (i.gives : Int), .int .u64 (i.gas : Int)] 24 (0, 0)))) ?_
            have hHeld := And.intro hHeld ((by exact HX5.out))
            (try dsimp only at hHeld)
            refine wpAnyH_take (i := 1) (v := ?_) rfl (by kernel_rfl) (by kernel_rfl) (by kernel_rfl) (fun _ _ _ h => h) (Or.inl ⟨by rfl, ?_⟩) (by assumption) ?_
            rotate_left
            focus (intro w hSw; (try dsimp only at hSw); obtain ⟨k0, k1, k2, k3, k4, kf⟩ := cells5 hSw.2; (try simp only [List.getElem_toArray]); (try simp only [List.getElem_cons_succ]); (try simp only [List.getElem_cons_zero]); go_simp; (try with_reducible rfl); done)
            (try simp only [List.getElem_toArray]); (try simp only [List.getElem_cons_succ]); (try simp only [List.getElem_cons_zero]); (try simp only [Act.put]); (try simp only [List.setIfInBounds_toArray]); (try simp only [List.set_cons_succ]); (try simp only [List.set_cons_zero])
            refine wpAnyH_ready (rs := [5]) (by kernel_rfl) (by simp) ?_
            refine AllReadyH.cons rfl (fun Kq hKq => ?_) AllReadyH.nil
            go_simp
            refine (op_told i hpi3 hwl A3 i.behind (c - 1) (ys.take i.behind) HOL.out hpi3 _ (HR3.out.below (bdr HB5.out)) (HWL.out.below (bdr HB5.out))).mono ?_
            rintro _ w7 ⟨A7, rfl, hown7, hb7⟩
            have HR7 := Go.Lib.hid hown7.rd
            have HX7 := Go.Lib.hid (box_keep (show w5.drew.heap[w3.heap.size]? = _ from HX5.out) hb7)
            have HB7 := Go.Lib.hid (btr (bdr HB5.out) hb7)
            have HO7 := Go.Lib.hid (HO5.out.drew.below hb7)
            clear hown7 hb7
            go_wp2_with fail
            refine hKq.out _ _ (⟨trivial, HX7.out⟩) (fun hHeld => ?_)
            clear hKq Kq
            (try simp only [List.getElem_toArray]); (try simp only [List.getElem_cons_succ]); (try simp only [List.getElem_cons_zero]); (try simp only [Act.put]); (try simp only [List.setIfInBounds_toArray]); (try simp only [List.set_cons_succ]); (try simp only [List.set_cons_zero])
            refine wpAnyH_ready (rs := [6]) (by kernel_rfl) (by simp) ?_
            refine AllReadyH.cons rfl (fun Kq hKq => ?_) AllReadyH.nil
            refine wp_append_o _ _ _ 71 rfl 9 i0 (.string ⟨#[]⟩) 1 16 Tryd.underlying71 hi hz0 hz1 hz2 rfl (by decide) w.heap.size B L.length cB (strsC L) rfl HO7.out A7 2 2 (strsC (tellI i (ys.take i.behind))) rfl (by simp [tellI]) HR7.out (strsC_one _) (by omega) (by unfold maxLen; omega) HB7.out.size ?_
            intro B9 cB9 w9 hown9 hkp9 hlie9
            have HB9 := Go.Lib.hid (show Below w.heap.size w w9 from Kp.below HB7.out hkp9 (fun i h => (HO7.out.block_lt i h.symm).1))
            have HX9 := Go.Lib.hid (show w9.heap[w3.heap.size]? = some (.cells #[.string ⟨List.toArray i.word⟩, .int .i64 (i.behind : Int), .int .i64 (i.takes : Int), .int .i64 (i.gives : Int), .int .u64 (i.gas : Int)] 24 (0, 0)) from (hkp9.block w3.heap.size (Array.getElem?_eq_some_iff.1 HX7.out).1 (fun h => by have := HO3.out.block_lt _ h.symm; omega)).trans HX7.out)
            have HO9 := Go.Lib.hid hown9
            clear hown9 hkp9 hlie9
            refine hKq.out _ _ (⟨trivial, HX9.out⟩) (fun hHeld => ?_)
            clear hKq Kq
            (try simp only [List.getElem_toArray]); (try simp only [List.getElem_cons_succ]); (try simp only [List.getElem_cons_zero]); (try simp only [Act.put]); (try simp only [List.setIfInBounds_toArray]); (try simp only [List.set_cons_succ]); (try simp only [List.set_cons_zero])
            refine wpAnyH_take (i := 7) (v := ?_) rfl (by kernel_rfl) (by kernel_rfl) (by kernel_rfl) (fun _ _ _ h => h) (Or.inl ⟨by rfl, ?_⟩) (by assumption) ?_
            rotate_left
            focus (intro w hSw; (try dsimp only at hSw); (try simp only [List.getElem_toArray]); (try simp only [List.getElem_cons_succ]); (try simp only [List.getElem_cons_zero]); go_simp; (try with_reducible rfl); done)
            (try simp only [List.getElem_toArray]); (try simp only [List.getElem_cons_succ]); (try simp only [List.getElem_cons_zero]); (try simp only [Act.put]); (try simp only [List.setIfInBounds_toArray]); (try simp only [List.set_cons_succ]); (try simp only [List.set_cons_zero])
            refine wpAnyH_done (by kernel_rfl) ?_ _
            go_wp2_with fail
            go_roundg (m - i.behind + 1)
            case measure => (have := HM.out; simp only [List.length_cons]; omega)
            case rel =>
              refine ⟨(x :: ys).drop (i.behind + 1), A2, c - (i.behind + 1), L ++ tellI i (ys.take i.behind), B9, cB9, by simp [HM.out], by simp [tellI], by simp [HM.out], Go.Lib.hid (H.out.step HG.out.1 HT.out HA2.out HB9.out (by have := HO9.out; simpa [tellI] using this))⟩

end Go.Proofs.YtlbiahpajcfcfaaDoor
