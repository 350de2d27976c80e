/- DigestPieces: the walk. -/
import Derived.Test.YtkjdmjflppcofaaDgClonesW
namespace Go.Proofs.Ytkjdmjflppcofaa
open Go.ChangeShapes Go.WideShapes Go.ChangeAt Go.RowKit
set_option linter.unusedVariables false

/-- Slices of bytes in a row of cells. -/
def RdB (w : World) : List (List UInt8) → List Value → Prop
  | [], cl => cl = []
  | y :: ys, cl => ∃ A c rest, cl = .slice A y.length c :: rest ∧ y.length ≤ c ∧ c ≤ 1048576 ∧ Rd w A (bs y) ∧ RdB w ys rest
theorem RdB.at_ {w : World} : ∀ {ys : List (List UInt8)} {cl : List Value} (_ : RdB w ys cl) (i : Nat) (hi : i < ys.length), ∃ A c, cl[i]? = some (.slice A ys[i].length c) ∧ ys[i].length ≤ c ∧ c ≤ 1048576 ∧ Rd w A (bs ys[i])
  | [], cl, h, i, hi => by simp at hi
  | y :: ys, cl, h, 0, hi => by
    simp only [RdB] at h
    obtain ⟨A, c, rest, rfl, h1, h2, h3, h4⟩ := h
    exact ⟨A, c, rfl, h1, h2, h3⟩
  | y :: ys, cl, h, i + 1, hi => by
    simp only [RdB] at h
    obtain ⟨A, c, rest, rfl, h1, h2, h3, h4⟩ := h
    obtain ⟨A', c', e, r⟩ := RdB.at_ h4 i (by simpa using hi)
    exact ⟨A', c', by simpa using e, r⟩
theorem RdB.len {w : World} : ∀ {ys : List (List UInt8)} {cl : List Value}, RdB w ys cl → cl.length = ys.length
  | [], cl, h => by simp only [RdB] at h; simp [h]
  | y :: ys, cl, h => by
    simp only [RdB] at h
    obtain ⟨A, c, rest, rfl, h1, h2, h3, h4⟩ := h
    have := RdB.len h4
    simp [this]
def catB : List (List UInt8) → List UInt8
  | [] => []
  | y :: ys => y ++ catB ys
theorem catB_take_succ : ∀ (ys : List (List UInt8)) (j : Nat) (h : j < ys.length), catB (ys.take (j + 1)) = catB (ys.take j) ++ ys[j]
  | [], j, h => by simp at h
  | y :: ys, 0, h => by simp [catB]
  | y :: ys, j + 1, h => by
    have := catB_take_succ ys j (by simpa using h)
    simp only [List.take_succ_cons, catB, List.getElem_cons_succ, this, List.append_assoc]
theorem catB_take_le : ∀ (ys : List (List UInt8)) (j : Nat), (catB (ys.take j)).length ≤ (catB ys).length
  | [], j => by simp
  | y :: ys, 0 => by simp [catB]
  | y :: ys, j + 1 => by
    have := catB_take_le ys j
    simp only [List.take_succ_cons, catB, List.length_append]
    omega

set_option maxHeartbeats 4000000 in
set_option maxRecDepth 100000 in
theorem pieces_walk (w : World) (B : Option Addr) (m d : Nat) (yss : List (List UInt8)) (cl : List Value) (hm : yss.length = m) (hmd : m ≤ d) (hzd : d ≤ 1048576) (hr : Rd w B cl) (hl : RdB w yss cl) (hsum : (catB yss).length ≤ 1048576) :
    Calls Try.prog 7 #[.slice B m d] w fun e w' => e = .returned (.bool true) ∧ Below w.heap.size w w' := by
  subst hm
  have HR := Go.Lib.hid hr
  have HL := Go.Lib.hid hl
  clear hr hl
  obtain ⟨i0, hi, hz0, hz1, hz2⟩ := info_parts info_u8
  go_enter Try.func7, Try.ntmps7
  go_wp2_with fail
  refine (digest_New _).mono ?_
  rintro e w1 ⟨w0, hb0, rfl, rfl⟩
  have hh0 := hashAt_new w0
  obtain ⟨h, hh⟩ : ∃ h, h = w0.heap.size := ⟨_, rfl⟩
  have hwh : w.heap.size ≤ h := by rw [hh]; exact hb0.size
  obtain ⟨w1, hw1⟩ : ∃ w1, w1 = (w0.alloc (.cells #[.int .u64 initS.a, .int .u64 initS.b, .int .u64 initS.c, .int .u64 initS.d, .slice none 0 0, .int .i64 0] 61)) := ⟨_, rfl⟩
  rw [← hw1, ← hh] at hh0
  rw [← hw1, ← hh]
  have hb1 : Below w.heap.size w w1 := by rw [hw1]; exact bal hb0 _
  have H1 := Go.Lib.hid hh0
  have HB1 := Go.Lib.hid hb1
  clear hh0 hb0 hh hw1 hb1
  go_wp2_with fail
  refine (law_alive _).mono ?_
  rintro e w2 ⟨rfl, hb2⟩
  have H2 := Go.Lib.hid (H1.out.below hb2)
  have HB2 := Go.Lib.hid (btr HB1.out hb2)
  clear hb2
  go_wp2_with fail
  go_loopg [17, 4, 5, 6, 7] yss.length (fun g i s4 s5 s6 s7 wr => ∃ (j : Nat) (A4 : Option Addr) (c4 : Nat) (R : Option Nat), i = .int .i64 j ∧ j ≤ yss.length ∧ g = yss.length - j ∧ s4 = .slice A4 (catB (yss.take j)).length c4 ∧ Hid (HashAt wr h R h (catB (yss.take j))) ∧ Hid (Own wr w.heap.size 5 1 A4 (catB (yss.take j)).length c4 (bs (catB (yss.take j)))) ∧ Hid (∀ k, R = some k → A4.map (·.block) = some k → False) ∧ Hid (A4.map (·.block) ≠ some h) ∧ Hid (Below w.heap.size w wr))
  case atStart =>
    exact ⟨0, none, 0, none, rfl, Nat.zero_le _, rfl, rfl, H2, Go.Lib.hid (Own.nil _ _ _ _), Go.Lib.hid (fun k e => by cases e), Go.Lib.hid (by simp), HB2⟩
  case round =>
    obtain ⟨j, A4, c4, R, rfl, hj, rfl, rfl, HH, HO, HRA, HAH, HB⟩ := hrel
    obtain ⟨wo, rfl⟩ : ∃ w' : World, w' = wr := ⟨_, rfl⟩
    have hcj := catB_take_le yss j
    by_cases hlt : j < yss.length
    · obtain ⟨Aj, cj, ej, hj1, hj2, hrj⟩ := HL.out.at_ j hlt
      obtain ⟨g, off, rfl, hg, hcB⟩ := HR.out (by intro h; rw [h] at ej; cases ej)
      have k0 : wo.cell? ⟨g, off + j, none⟩ = some (.slice Aj yss[j].length cj) := by rw [HB.out.cell (p := ⟨g, off + j, none⟩) hg]; exact hcB _ _ ej
      have hgl : g < wo.heap.size := Nat.lt_of_lt_of_le hg HB.out.size
      have KW := Go.Lib.hid (hcB _ _ ej)
      have HRJ := Go.Lib.hid hrj
      have hts := Go.Lib.hid (catB_take_succ yss j hlt)
      generalize yss[j] = ys at *
      clear hrj ej hcB
      go_wp2_with (at_builtin; refine wpList_append_o _ rfl _ _ 26 rfl 5 i0 (.int .u8 0) 1 1 Try.underlying26 hi hz0 hz1 hz2 rfl (by decide) wo.heap.size _ 0 0 [] rfl (own_empty _ _ _ (Nat.le_refl _)) Aj ys.length cj (bs ys) rfl (by simp) ((HRJ.out.below HB.out).alloc _) (bs_one _) (by omega) (by unfold maxLen; omega) (by simp) ?_)
      intro A5 c5 w5 hown5 hk5 hl5
      have hb5 : Below wo.heap.size wo w5 := Kp.below (bal (Below.refl _ _) _) hk5 (fun i h => by first | omega | (simp at h; omega))
      have HO5 := Go.Lib.hid hown5
      have HB5 := Go.Lib.hid hb5
      clear hown5 hk5 hl5 hb5
      obtain ⟨P, hP⟩ : ∃ P, P = catB (yss.take j) := ⟨_, rfl⟩
      have HPP := Go.Lib.hid hP
      rw [← hP] at HH HO hcj ⊢
      have hsj : P.length + ys.length ≤ 1048576 := by
        have h1 := catB_take_le yss (j + 1)
        rw [hts.out, List.length_append, ← hP] at h1
        omega
      clear hP
      go_wp2_with fail
      have hhl := HH.out.lt
      refine (digest_Write h R h P ys A5 c5 w5 (HH.out.below HB5.out) (Nat.le_refl _) HO5.out.rd (by omega)).mono ?_
      rintro e w6 ⟨rfl, R6, hh6, hk6, hR6⟩
      have hA5 : ∀ k, A5.map (·.block) = some k → wo.heap.size ≤ k ∧ k < w5.heap.size := HO5.out.block_lt
      have hO6 : Own w6 wo.heap.size 5 1 A5 ys.length c5 (bs ys) := HO5.out.kp hk6 (fun k e h => by have h1 := hA5 k e; rcases h with rfl | h; have := hhl.1; omega; have := (hhl.2 k h.symm).2; omega)
      have hA4 : Own w6 w.heap.size 5 1 A4 P.length c4 (bs P) := (HO.out.below HB5.out).kp hk6 (fun k e h => by rcases h with rfl | h; exact HAH.out e; exact HRA.out k h.symm e)
      have hb6 : Below w.heap.size w w6 := Kp.below (btr HB.out HB5.out) hk6 (fun i e => by rcases e with rfl | e; exact hwh; have := (hhl.2 i e.symm).1; omega)
      have hs56 := hk6.size
      have H6 := Go.Lib.hid hh6
      have HO6 := Go.Lib.hid hO6
      have HA6 := Go.Lib.hid hA4
      have HB6 := Go.Lib.hid hb6
      have HR6 := Go.Lib.hid hR6
      have HHL := Go.Lib.hid hhl
      have HA5 := Go.Lib.hid hA5
      clear hh6 hk6 hR6 hO6 hA4 hb6 hhl hA5
      go_wp2_with fail
      go_loopg [31, 7] ys.length (fun g i s7 wr => ∃ (q : Nat) (zs : List Value), i = .int .i64 q ∧ q ≤ ys.length ∧ g = ys.length - q ∧ zs.length = ys.length ∧ Hid (Own wr wo.heap.size 5 1 A5 ys.length c5 zs) ∧ Hid (Kp (fun k => some k = A5.map (·.block)) w6 wr))
      case atStart => exact ⟨0, bs ys, rfl, Nat.zero_le _, rfl, by simp, HO6, Go.Lib.hid (Kp.refl _ _)⟩
      case round =>
        obtain ⟨q, zs, rfl, hq, rfl, hzl, HOZ, HKZ⟩ := hrel
        by_cases hlq : q < ys.length
        · obtain ⟨g2, off2, rfl, hg2, hgl2, hcell2, hfr2⟩ := HOZ.out.shape (by omega)
          have hcq := hcell2 q zs[q] (by rw [List.getElem?_eq_getElem])
          clear hcell2
          go_wp2_with fail
          go_roundg (ys.length - (q + 1))
          case measure => omega
          case rel =>
            exact ⟨q + 1, zs.set q (.int .u8 77), by go_num, by omega, rfl, by simpa using hzl, Go.Lib.hid (HOZ.out.store rfl q (by omega) _), Go.Lib.hid (HKZ.out.trans (Kp.setCell (S := fun k => some k = Option.map (fun x => x.block) (some (⟨g2, off2, none⟩ : Addr))) (p := ⟨g2, off2 + q, none⟩) wr rfl _))⟩
        · obtain ⟨w7, rfl⟩ : ∃ w' : World, w' = wr := ⟨_, rfl⟩
          have hk7 := HKZ.out
          have h45 : ∀ k, A4.map (·.block) = some k → k < wo.heap.size := fun k e => (HO.out.block_lt k e).2
          have hR6n : ∀ k, R6 = some k → (R = some k ∧ k < wo.heap.size) ∨ w5.heap.size ≤ k := by
            intro k e
            rcases HR6.out with h5 | ⟨i, h5, h6⟩
            · exact .inl ⟨by rw [← h5]; exact e, (HHL.out.2 k (by rw [← h5]; exact e)).2⟩
            · rw [h5] at e
              injection e with e
              exact .inr (by omega)
          have hs5 : wo.heap.size ≤ w5.heap.size := HB5.out.size
          have hH7 : HashAt w7 h R6 h (P ++ ys) := H6.out.kp hk7 (fun e => by have h1 := HA5.out h e.symm; have := HHL.out.1; omega)
            (fun k e e2 => by have h1 := HA5.out k e2.symm; rcases hR6n k e with h2 | h2; omega; omega)
          have hA7 : Own w7 w.heap.size 5 1 A4 P.length c4 (bs P) := HA6.out.kp hk7 (fun k e e2 => by have h1 := HA5.out k e2.symm; have h2 := h45 k e; omega)
          have hb7 : Below w.heap.size w w7 := Kp.below HB6.out hk7 (fun k e => by have h1 := HA5.out k e.symm; have := HB.out.size; omega)
          have k7 : w7.cell? ⟨g, off + j, none⟩ = some (.slice Aj ys.length cj) := by rw [hb7.cell (p := ⟨g, off + j, none⟩) hg]; exact KW.out
          have H7 := Go.Lib.hid hH7
          have HA7 := Go.Lib.hid hA7
          have HB7 := Go.Lib.hid hb7
          have H45 := Go.Lib.hid h45
          have HR6N := Go.Lib.hid hR6n
          clear hk7 hH7 hA7 hb7 h45 hR6n HKZ HOZ
          go_wp2_with (at_builtin; refine wpList_append_o _ rfl _ _ 26 rfl 5 i0 (.int .u8 0) 1 1 Try.underlying26 hi hz0 hz1 hz2 rfl (by decide) w.heap.size A4 P.length c4 (bs P) rfl HA7.out Aj ys.length cj (bs ys) rfl (by simp) (HRJ.out.below HB7.out) (bs_one _) (by omega) (by unfold maxLen; omega) (by exact HB7.out.size) ?_)
          intro A8 c8 w8 hown8 hk8 hl8
          have hb8 : Below w.heap.size w w8 := Kp.below HB7.out hk8 (fun k e => (HA7.out.block_lt k e.symm).1)
          have hno : ∀ k, R6 = some k → A4.map (·.block) = some k → False := by
            intro k e e2
            rcases HR6N.out k e with ⟨h2, _⟩ | h2
            · exact HRA.out k h2 e2
            · have := H45.out k e2; omega
          have hH8 : HashAt w8 h R6 h (P ++ ys) := H7.out.kp hk8 (fun e => HAH.out e.symm) (fun k e e2 => hno k e e2.symm)
          have hRA8 : ∀ k, R6 = some k → A8.map (·.block) = some k → False := by
            intro k e e2
            rcases hl8 with h5 | ⟨i, h5, h6⟩
            · exact hno k e (by rw [← h5]; exact e2)
            · rw [h5] at e2
              injection e2 with e2
              have := (H7.out.lt.2 k e).2
              omega
          have hAH8 : A8.map (·.block) ≠ some h := by
            intro e2
            rcases hl8 with h5 | ⟨i, h5, h6⟩
            · exact HAH.out (by rw [← h5]; exact e2)
            · rw [h5] at e2
              injection e2 with e2
              have := H7.out.lt.1
              omega
          rw [← bs_append] at hown8
          have H8 := Go.Lib.hid hH8
          have HO8 := Go.Lib.hid hown8
          have HB8 := Go.Lib.hid hb8
          have HRA8 := Go.Lib.hid hRA8
          have HAH8 := Go.Lib.hid hAH8
          obtain ⟨D, hD⟩ : ∃ D, D = digB (P ++ ys) := ⟨_, rfl⟩
          have HD := Go.Lib.hid hD
          clear hown8 hk8 hl8 hb8 hno hH8 hRA8 hAH8 hD
          go_wp2_with fail
          refine (digest_Sum h R6 h (P ++ ys) w8 H8.out (by simp; omega)).mono ?_
          rintro e w9 ⟨rfl, hb9⟩
          rw [digV_dA, ← HD.out]
          have HO9 := Go.Lib.hid (HO8.out.below hb9)
          have HB9 := Go.Lib.hid hb9
          clear hb9
          go_wp2_with fail
          refine (ref_Of A8 (P.length + ys.length) c8 (P ++ ys) w9 (by simp) HO9.out.rd (by simp; omega)).mono ?_
          rintro e w10 ⟨rfl, hb10⟩
          rw [digV_dA, ← HD.out]
          have HB10 := Go.Lib.hid (btr HB9.out hb10)
          clear hb10
          go_wp2_with fail
          refine (digest_Len h R6 h (P ++ ys) w10 (H8.out.below HB10.out) (by simp; omega)).mono ?_
          rintro e w11 ⟨rfl, rfl⟩
          rw [List.length_append]
          go_wp2_with fail
          go_roundg (yss.length - (j + 1))
          case measure => omega
          case rel =>
            refine ⟨j + 1, A8, c8, R6, by go_num, by omega, rfl, ?_, ?_, ?_, HRA8, HAH8, Go.Lib.hid (btr HB8.out HB10.out)⟩
            · rw [hts.out, ← HPP.out, List.length_append]
            · rw [hts.out, ← HPP.out]; exact Go.Lib.hid (H8.out.below HB10.out)
            · rw [hts.out, ← HPP.out, List.length_append]; exact Go.Lib.hid (HO8.out.below HB10.out)
    · obtain rfl : j = yss.length := by omega
      clear hlt
      rw [List.take_length] at *
      obtain ⟨P, hP⟩ : ∃ P, P = catB yss := ⟨_, rfl⟩
      rw [← hP] at HH HO hsum ⊢
      obtain ⟨D, hD⟩ : ∃ D, D = digB P := ⟨_, rfl⟩
      have HD := Go.Lib.hid hD
      clear hP hD hcj
      go_wp2_with fail
      refine (digest_Sum h R h P _ HH.out (by omega)).mono ?_
      rintro e w9 ⟨rfl, hb9⟩
      rw [digV_dA, ← HD.out]
      have HO9 := Go.Lib.hid (HO.out.below hb9)
      have HB9 := Go.Lib.hid (btr HB.out hb9)
      clear hb9
      go_wp2_with fail
      refine (digest_Of A4 P.length c4 P _ rfl HO9.out.rd (by omega)).mono ?_
      rintro e w10 ⟨rfl, hb10⟩
      rw [digV_dA, ← HD.out]
      go_wp2_with fail
      go_ret
      exact ⟨by simp, btr HB9.out hb10⟩

end Go.Proofs.Ytkjdmjflppcofaa
