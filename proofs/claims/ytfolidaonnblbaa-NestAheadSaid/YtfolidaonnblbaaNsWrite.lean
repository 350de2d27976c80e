/- The program's writing of items: write. -/
import Derived.Test.YtfolidaonnblbaaNsLen
namespace Go.Proofs.Ytfolidaonnblbaa
open Go.ChangeShapes Go.WideShapes Go.RowKit
set_option linter.unusedVariables false

def WriteP (base : Nat) (A : Option Addr) (out : List UInt8) (w : World) (r : Ending) (w' : World) : Prop :=
  ∃ A' n' c', r = .returned (.slice A' n' c') ∧ Own w' base 5 1 A' n' c' (bs out) ∧ Kp (fun k => some k = A.map (·.block)) w w' ∧ Lie A' A w.heap.size
def WriteSt (t : Tree) : Prop := ∀ (P : Nat → Prop) (base : Nat) (A : Option Addr) (n c : Nat) (pre : List UInt8) (v0 v1 v2 : Value) (w : World), RdT w P t v0 v1 v2 → (∀ g, P g → g < base) → base ≤ w.heap.size →
    Own w base 5 1 A n c (bs pre) → n + (encT t).length ≤ 4294967295 →
    Calls Try.prog 30 #[.slice A n c, .agg #[v0, v1, v2]] w (WriteP base A (pre ++ encT t) w)

/-- In the midst of write. -/
def WOn (w : World) (base : Nat) (A : Option Addr) (o : Obj) (out : List UInt8) (A1 : Option Addr) (n1 c1 : Nat) (wx : World) : Prop :=
  Own wx base 5 1 A1 n1 c1 (bs out) ∧ Kp (fun k => some k = A.map (·.block)) w wx ∧ Lie A1 A (w.heap.size + 1) ∧ wx.heap[w.heap.size]? = some o
theorem WOn.lt {w wx : World} {base : Nat} {A A1 : Option Addr} {o : Obj} {out : List UInt8} {n1 c1 : Nat} (h : WOn w base A o out A1 n1 c1 wx) : w.heap.size < wx.heap.size := (Array.getElem?_eq_some_iff.1 h.2.2.2).1
theorem WOn.len {w wx : World} {base : Nat} {A A1 : Option Addr} {o : Obj} {out : List UInt8} {n1 c1 : Nat} (h : WOn w base A o out A1 n1 c1 wx) : n1 = out.length := by have := h.1.len; simpa using this.symm
theorem WOn.start {w : World} {base : Nat} {A : Option Addr} {n c : Nat} {pre : List UInt8} (o : Obj) (h : Own w base 5 1 A n c (bs pre)) : WOn w base A o pre A n c (w.alloc o) :=
  ⟨h.alloc o, Kp.alloc _ _ _, Lie.refl _ _, Go.heap_alloc_new w o⟩
theorem WOn.below {w wx wy : World} {base : Nat} {A A1 : Option Addr} {o : Obj} {out : List UInt8} {n1 c1 : Nat} (h : WOn w base A o out A1 n1 c1 wx) (hb : Below wx.heap.size wx wy) : WOn w base A o out A1 n1 c1 wy :=
  ⟨h.1.below hb, h.2.1.then (Kp.of_below hb (fun _ => False)) (fun _ _ h => h.elim), h.2.2.1, (hb.block _ h.lt).trans h.2.2.2⟩
theorem WOn.append {w wx wy : World} {base : Nat} {A A1 A2 : Option Addr} {o : Obj} {out out2 : List UInt8} {n1 c1 n2 c2 : Nat} (h : WOn w base A o out A1 n1 c1 wx) (hA : ∀ g, A.map (·.block) = some g → g < w.heap.size)
    (hown : Own wy base 5 1 A2 n2 c2 (bs out2)) (hk : Kp (fun k => some k = A1.map (·.block)) wx wy) (hl : Lie A2 A1 wx.heap.size) : WOn w base A o out2 A2 n2 c2 wy := by
  have hlt := h.lt
  obtain ⟨_, h2, h3, h4⟩ := h
  have hno : ∀ i, i ≤ w.heap.size → some i = A1.map (·.block) → some i = A.map (·.block) := by
    intro i hi e
    rcases h3 with h3 | ⟨j, e3, hj⟩
    · exact e.trans h3
    · rw [e3] at e
      injection e with e
      omega
  refine ⟨hown, h2.then hk fun i hi e => hno i (by omega) e, Lie.trans (hl.mono (by omega)) h3, (hk.block _ hlt fun e => ?_).trans h4⟩
  have := hA _ (hno _ (Nat.le_refl _) e).symm
  omega
theorem WOn.done {w wx : World} {base : Nat} {A A1 : Option Addr} {o : Obj} {out : List UInt8} {n1 c1 : Nat} (h : WOn w base A o out A1 n1 c1 wx) : WriteP base A out w (.returned (.slice A1 n1 c1)) wx :=
  ⟨A1, n1, c1, rfl, h.1, h.2.1, h.2.2.1.mono (by omega)⟩
theorem WOn.base {w wx : World} {base : Nat} {A A1 : Option Addr} {o : Obj} {out : List UInt8} {n1 c1 : Nat} (h : WOn w base A o out A1 n1 c1 wx) {P : Nat → Prop} (hP : ∀ g, P g → g < base) {t : Tree} {v0 v1 v2 : Value} (ht : RdT w P t v0 v1 v2)
    (hA : ∀ g, A.map (·.block) = some g → base ≤ g) : RdT wx P t v0 v1 v2 :=
  ht.kp h.2.1 fun g hg e => by have := hP g hg; have := hA g e.symm; omega

theorem beBytes_split (n : Nat) : ∀ k j : Nat, beBytes (k + j) n = beBytes k (n / 256 ^ j) ++ beBytes j n
  | k, 0 => by simp [beBytes]
  | k, j + 1 => by
    have h := beBytes_split (n / 256) k j
    rw [Nat.div_div_eq_div_mul, ← Nat.pow_succ'] at h
    rw [show k + (j + 1) = (k + j) + 1 from by omega, beBytes, h, beBytes, List.append_assoc]
theorem beBytes_next (n k j : Nat) : beBytes (k + 1) (n / 256 ^ j) = beBytes k (n / 256 ^ (j + 1)) ++ [UInt8.ofNat (n / 256 ^ j)] := by
  rw [beBytes, Nat.div_div_eq_div_mul, Nat.pow_succ]

set_option maxHeartbeats 2000000 in
set_option maxRecDepth 100000 in
theorem write_step (l : Bool) (b : List UInt8) (its : List Tree) (ih : ∀ i (h : i < its.length), WriteSt its[i]) : WriteSt (.mk l b its) := by
  intro P base A n c pre v0 v1 v2 w ht hP hbase hown hlen
  have IH := Go.Lib.hid ih
  obtain ⟨Ab, cb, B, d, cs, rfl, rfl, rfl, hbc, hb47, hid', hd, hA, hB, hL⟩ := ht.parts
  have hAlt : ∀ g, A.map (·.block) = some g → g < w.heap.size := fun g e => (hown.block_lt g e).2
  have hAge : ∀ g, A.map (·.block) = some g → base ≤ g := fun g e => (hown.block_lt g e).1
  have hn : n = pre.length := by have := hown.len; simpa using this.symm
  have h0 := WOn.start (.cells #[.bool l, .slice Ab b.length cb, .slice B its.length d] 25) hown
  obtain ⟨i0, hi, hz0, hz1, hz2⟩ := info_parts info_u8
  have HT := Go.Lib.hid ht
  have HA := Go.Lib.hid hA
  have HB := Go.Lib.hid hB
  have HL := Go.Lib.hid hL
  have HPB := Go.Lib.hid hP
  have HALT := Go.Lib.hid hAlt
  have HAGE := Go.Lib.hid hAge
  have HN := Go.Lib.hid hn
  have H0 := Go.Lib.hid h0
  have hel := encT_length (.mk l b its)
  clear ht ih hA hB hL hP hAlt hAge hn h0 hown
  have hnc := H0.out.1.cap
  cases hp : plainT (.mk l b its) with
  | true =>
    have henc : encT (.mk l b its) = b := by rw [encT, if_pos hp]
    rw [henc] at hlen ⊢
    have HPL := Go.Lib.hid hp
    clear hp hel henc
    go_enter Try.func30, Try.ntmps30
    go_wp2_with fail
    refine (nest_plain (.mk l b its) P _ _ _ _ (HT.out.below (bal (Below.refl _ _) _))).mono ?_
    rintro r w2 ⟨rfl, hb2⟩
    rw [HPL.out]
    have h2 := H0.out.below hb2
    obtain ⟨x0, x1, x2, xf⟩ := cells3 h2.2.2.2
    have H2 := Go.Lib.hid h2
    have HB2 := Go.Lib.hid hb2
    clear hb2 h2
    go_wp2_with (at_builtin; refine wpList_append_o _ rfl _ _ 22 rfl 5 i0 (.int .u8 0) 1 1 Try.underlying22 hi hz0 hz1 hz2 rfl (by decide) base A n c (bs pre) rfl H2.out.1 Ab b.length cb (bs b) rfl (by simp) (HA.out.rd.below (btr (bal (Below.refl _ _) _) HB2.out)) (bs_one _) (by omega) (by unfold maxLen; omega) (by have := H2.out.lt; omega) ?_)
    intro A3 c3 w3 hown3 hk3 hl3
    rw [← bs_append] at hown3
    have H3 := Go.Lib.hid (H2.out.append HALT.out hown3 hk3 hl3)
    clear hown3 hk3 hl3
    go_wp2_with fail
    go_ret
    exact H3.out.done
  | false =>
    have henc : encT (.mk l b its) = headB l (b ++ encL its).length ++ (b ++ encL its) := by rw [encT, if_neg (by rw [hp]; decide)]
    rw [henc] at hlen ⊢
    have HPL := Go.Lib.hid hp
    clear hp hel henc
    obtain ⟨q, hq⟩ : ∃ q, q = (b ++ encL its).length := ⟨_, rfl⟩
    rw [← hq] at hlen ⊢
    have hq2 : q = b.length + (encL its).length := by rw [hq]; simp
    have hhl := headB_length l q
    rw [List.length_append, ← hq] at hlen
    have HQ := Go.Lib.hid hq
    have HQ2 := Go.Lib.hid hq2
    have HHL := Go.Lib.hid hhl
    have hql : q < 4294967296 := by omega
    have hqb : b.length ≤ q := by omega
    clear hq hhl hq2
    go_enter Try.func30, Try.ntmps30
    go_wp2_with fail
    refine (nest_plain (.mk l b its) P _ _ _ _ (HT.out.below (bal (Below.refl _ _) _))).mono ?_
    rintro r w2 ⟨rfl, hb2⟩
    rw [HPL.out]
    have h2 := H0.out.below hb2
    obtain ⟨x0, x1, x2, xf⟩ := cells3 h2.2.2.2
    have H2 := Go.Lib.hid h2
    have HB2 := Go.Lib.hid hb2
    clear hb2 h2
    obtain ⟨bse, hbse⟩ : ∃ bse : Nat, bse = if l then 192 else 128 := ⟨_, rfl⟩
    have hbs2 : 128 ≤ bse ∧ bse ≤ 192 := by rw [hbse]; split <;> omega
    obtain ⟨hbs2, hbs3⟩ := hbs2
    have HBSE := Go.Lib.hid hbse
    clear hbse
    go_upto_if 18 with (fail)
    go_cut [5] (fun s5 wx => s5 = .int .i64 (bse : Nat) ∧ wx = w2)
    case first =>
      cases l with
      | true =>
        go_wp2_with fail
        go_meet
        exact ⟨by rw [HBSE.out]; rfl, rfl⟩
      | false =>
        go_wp2_with fail
        go_meet
        exact ⟨by rw [HBSE.out]; rfl, rfl⟩
    case rest =>
      obtain ⟨rfl, rfl⟩ := hcut
      obtain ⟨w2, rfl⟩ : ∃ w' : World, w' = wc := ⟨_, rfl⟩
      go_wp2_with fail
      refine (nest_body (.mk l b its) P _ _ _ _ (HT.out.below (btr (bal (Below.refl _ _) _) HB2.out)) (by rw [bodyT, ← HQ.out]; exact hql)).mono ?_
      rintro r w3 ⟨rfl, hb3⟩
      rw [bodyT, ← HQ.out]
      have h3 := H2.out.below hb3
      have H3 := Go.Lib.hid h3
      have HB3 := Go.Lib.hid (btr HB2.out hb3)
      clear h3 hb3 x0 x1 x2 xf
      go_upto_if 22 with (fail)
      go_cut [0] (fun s0 wx => ∃ A1 n1 c1, s0 = .slice A1 n1 c1 ∧ Hid (WOn w base A (.cells #[.bool l, .slice Ab b.length cb, .slice B its.length d] 25) (pre ++ headB l q) A1 n1 c1 wx))
      case first =>
        by_cases h55 : q ≤ 55
        · have hb55 : decide ((q : Int) ≤ 55) = true := by simp; omega
          obtain ⟨y, hy⟩ : ∃ y : UInt8, y = UInt8.ofNat (bse + q) := ⟨_, rfl⟩
          have hhe : headB l q = [y] := by rw [headB, if_pos h55, hy, HBSE.out]
          have hwr : IntKind.u8.wrap ((bse : Int) + (q : Int)) = ((y.toNat : Nat) : Int) := by
            rw [IntKind.wrap_u8, hy, UInt8.toNat_ofNat']
            omega
          have hwr2 : ((bse : Int) + (q : Int)) % 256 = ((y.toNat : Nat) : Int) := by
            rw [hy, UInt8.toNat_ofNat']
            omega
          have HHE := Go.Lib.hid hhe
          clear hhe hy
          go_wp2_with (at_builtin; refine wpList_append_o _ rfl _ _ 22 rfl 5 i0 (.int .u8 0) 1 1 Try.underlying22 hi hz0 hz1 hz2 rfl (by decide) base A n c (bs pre) rfl (H3.out.1.alloc _) _ 1 1 (bs [y]) rfl (by simp) (rd_new _ _ _) (bs_one _) (by omega) (by unfold maxLen; omega) (by have := H3.out.lt; simp; omega) ?_)
          intro A4 c4 w4 hown4 hk4 hl4
          rw [← bs_append] at hown4
          have H4 := Go.Lib.hid ((H3.out.below (bal (Below.refl _ _) _)).append HALT.out hown4 hk4 (by simpa using hl4))
          clear hown4 hk4 hl4
          go_wp2_with fail
          go_meet
          exact ⟨A4, _, c4, rfl, Go.Lib.hid (by rw [HHE.out]; exact H4.out)⟩
        · have hb55 : decide ((q : Int) ≤ 55) = false := by simp; omega
          obtain ⟨k, hk⟩ : ∃ k, k = numN q := ⟨_, rfl⟩
          have hk4 : k ≤ 4 := by rw [hk]; exact numN_le q
          obtain ⟨y, hy⟩ : ∃ y : UInt8, y = UInt8.ofNat (bse + 55 + k) := ⟨_, rfl⟩
          have hhe : headB l q = y :: beBytes k q := by rw [headB, if_neg h55, hy, hk, HBSE.out]
          have hwr2 : ((bse : Int) + 55 + (k : Int)) % 256 = ((y.toNat : Nat) : Int) := by
            rw [hy, UInt8.toNat_ofNat']
            omega
          have hwr : IntKind.u8.wrap ((bse : Int) + 55 + (k : Int)) = ((y.toNat : Nat) : Int) := by
            rw [IntKind.wrap_u8, hy, UInt8.toNat_ofNat']
            omega
          have HHE := Go.Lib.hid hhe
          have HK := Go.Lib.hid hk
          have hlen2 : n + (1 + k) + q ≤ 4294967295 := by have := HHL.out; rw [if_neg h55, ← hk] at this; omega
          clear hhe hy hk
          go_wp2_with fail
          refine (nest_number q _ _ rfl hql).mono ?_
          rintro r w4 ⟨rfl, rfl⟩
          rw [← HK.out]
          go_wp2_with (at_builtin; refine wpList_append_o _ rfl _ _ 22 rfl 5 i0 (.int .u8 0) 1 1 Try.underlying22 hi hz0 hz1 hz2 rfl (by decide) base A n c (bs pre) rfl (H3.out.1.alloc _) _ 1 1 (bs [y]) rfl (by simp) (rd_new _ _ _) (bs_one _) (by omega) (by unfold maxLen; omega) (by have := H3.out.lt; simp; omega) ?_)
          intro A4 c4 w4 hown4 hk4' hl4
          rw [← bs_append] at hown4
          have H4 := Go.Lib.hid ((H3.out.below (bal (Below.refl _ _) _)).append HALT.out hown4 hk4' (by simpa using hl4))
          clear hown4 hk4' hl4
          go_wp2_with fail
          go_loopg [0, 8] k (fun g s0 i wx => ∃ (j : Nat) (A5 : Option Addr) (n5 c5 : Nat), g = j ∧ j ≤ k ∧ i = .int .i64 ((j : Int) - 1) ∧ s0 = .slice A5 n5 c5 ∧ Hid (WOn w base A (.cells #[.bool l, .slice Ab b.length cb, .slice B its.length d] 25) (pre ++ y :: beBytes (k - j) (q / 256 ^ j)) A5 n5 c5 wx))
          case atStart =>
            refine ⟨k, A4, _, c4, rfl, Nat.le_refl _, by go_num, rfl, Go.Lib.hid ?_⟩
            rw [Nat.sub_self, beBytes]
            exact H4.out
          case round =>
            obtain ⟨j0, A5, n5, c5, hgj, hj, rfl, rfl, H5⟩ := hrel
            subst hgj
            obtain ⟨j, rfl⟩ : ∃ j : Nat, j = gk := ⟨_, rfl⟩
            by_cases hj0 : j = 0
            · subst hj0
              go_wp2_with fail
              go_meet
              refine ⟨A5, n5, c5, rfl, Go.Lib.hid ?_⟩
              have h := H5.out
              rw [Nat.sub_zero, Nat.pow_zero, Nat.div_one, ← HHE.out] at h
              exact h
            · rcases (by omega : j = 1 ∨ j = 2 ∨ j = 3 ∨ j = 4) with rfl | rfl | rfl | rfl
              · obtain ⟨z, hz⟩ : ∃ z : UInt8, z = UInt8.ofNat (q / 256 ^ 0) := ⟨_, rfl⟩
                have z1 : IntKind.u8.wrap ((q : Int)) = ((z.toNat : Nat) : Int) := by
                  rw [IntKind.wrap_u8, hz, UInt8.toNat_ofNat']
                  omega
                have z2 : ((q : Int)) % 256 = ((z.toNat : Nat) : Int) := by
                  rw [hz, UInt8.toNat_ofNat']
                  omega
                have hbe : beBytes (k - 0) (q / 256 ^ 0) = beBytes (k - 1) (q / 256 ^ 1) ++ [z] := by
                  have h := beBytes_next q (k - 1) 0
                  rw [show k - 1 + 1 = k - 0 from by omega] at h
                  rw [h, hz]
                have HBE := Go.Lib.hid hbe
                clear hz hbe
                have hn5 : n5 = n + 1 + (k - 1) := by have h := H5.out.len; simp only [List.length_append, List.length_cons, beBytes_length] at h; have := HN.out; omega
                have hn5b : n5 + 1 ≤ 4294967295 := by omega
                have hbel5 := H5.out.lt
                clear hn5
                go_wp2_with (at_builtin; refine wpList_append_o _ rfl _ _ 22 rfl 5 i0 (.int .u8 0) 1 1 Try.underlying22 hi hz0 hz1 hz2 rfl (by decide) base A5 n5 c5 _ rfl (H5.out.1.alloc _) _ 1 1 (bs [z]) rfl (by simp) (rd_new _ _ _) (bs_one _) (by omega) (by unfold maxLen; omega) (by simp; omega) ?_)
                intro A6 c6 w6 hown6 hk6 hl6
                rw [← bs_append] at hown6
                have H6 := Go.Lib.hid ((H5.out.below (bal (Below.refl _ _) _)).append HALT.out hown6 hk6 (by simpa using hl6))
                clear hown6 hk6 hl6
                go_wp2_with fail
                go_roundg 0
                case measure => omega
                case rel =>
                  refine ⟨0, A6, _, c6, rfl, by omega, by go_num, rfl, Go.Lib.hid ?_⟩
                  rw [HBE.out, ← List.cons_append, ← List.append_assoc]
                  exact H6.out
              · obtain ⟨z, hz⟩ : ∃ z : UInt8, z = UInt8.ofNat (q / 256 ^ 1) := ⟨_, rfl⟩
                have z1 : IntKind.u8.wrap ((q : Int) / 256) = ((z.toNat : Nat) : Int) := by
                  rw [IntKind.wrap_u8, hz, UInt8.toNat_ofNat']
                  omega
                have z2 : ((q : Int) / 256) % 256 = ((z.toNat : Nat) : Int) := by
                  rw [hz, UInt8.toNat_ofNat']
                  omega
                have hbe : beBytes (k - 1) (q / 256 ^ 1) = beBytes (k - 2) (q / 256 ^ 2) ++ [z] := by
                  have h := beBytes_next q (k - 2) 1
                  rw [show k - 2 + 1 = k - 1 from by omega] at h
                  rw [h, hz]
                have HBE := Go.Lib.hid hbe
                clear hz hbe
                have hn5 : n5 = n + 1 + (k - 2) := by have h := H5.out.len; simp only [List.length_append, List.length_cons, beBytes_length] at h; have := HN.out; omega
                have hn5b : n5 + 1 ≤ 4294967295 := by omega
                have hbel5 := H5.out.lt
                clear hn5
                go_wp2_with (at_builtin; refine wpList_append_o _ rfl _ _ 22 rfl 5 i0 (.int .u8 0) 1 1 Try.underlying22 hi hz0 hz1 hz2 rfl (by decide) base A5 n5 c5 _ rfl (H5.out.1.alloc _) _ 1 1 (bs [z]) rfl (by simp) (rd_new _ _ _) (bs_one _) (by omega) (by unfold maxLen; omega) (by simp; omega) ?_)
                intro A6 c6 w6 hown6 hk6 hl6
                rw [← bs_append] at hown6
                have H6 := Go.Lib.hid ((H5.out.below (bal (Below.refl _ _) _)).append HALT.out hown6 hk6 (by simpa using hl6))
                clear hown6 hk6 hl6
                go_wp2_with fail
                go_roundg 1
                case measure => omega
                case rel =>
                  refine ⟨1, A6, _, c6, rfl, by omega, by go_num, rfl, Go.Lib.hid ?_⟩
                  rw [HBE.out, ← List.cons_append, ← List.append_assoc]
                  exact H6.out
              · obtain ⟨z, hz⟩ : ∃ z : UInt8, z = UInt8.ofNat (q / 256 ^ 2) := ⟨_, rfl⟩
                have z1 : IntKind.u8.wrap ((q : Int) / 65536) = ((z.toNat : Nat) : Int) := by
                  rw [IntKind.wrap_u8, hz, UInt8.toNat_ofNat']
                  omega
                have z2 : ((q : Int) / 65536) % 256 = ((z.toNat : Nat) : Int) := by
                  rw [hz, UInt8.toNat_ofNat']
                  omega
                have hbe : beBytes (k - 2) (q / 256 ^ 2) = beBytes (k - 3) (q / 256 ^ 3) ++ [z] := by
                  have h := beBytes_next q (k - 3) 2
                  rw [show k - 3 + 1 = k - 2 from by omega] at h
                  rw [h, hz]
                have HBE := Go.Lib.hid hbe
                clear hz hbe
                have hn5 : n5 = n + 1 + (k - 3) := by have h := H5.out.len; simp only [List.length_append, List.length_cons, beBytes_length] at h; have := HN.out; omega
                have hn5b : n5 + 1 ≤ 4294967295 := by omega
                have hbel5 := H5.out.lt
                clear hn5
                go_wp2_with (at_builtin; refine wpList_append_o _ rfl _ _ 22 rfl 5 i0 (.int .u8 0) 1 1 Try.underlying22 hi hz0 hz1 hz2 rfl (by decide) base A5 n5 c5 _ rfl (H5.out.1.alloc _) _ 1 1 (bs [z]) rfl (by simp) (rd_new _ _ _) (bs_one _) (by omega) (by unfold maxLen; omega) (by simp; omega) ?_)
                intro A6 c6 w6 hown6 hk6 hl6
                rw [← bs_append] at hown6
                have H6 := Go.Lib.hid ((H5.out.below (bal (Below.refl _ _) _)).append HALT.out hown6 hk6 (by simpa using hl6))
                clear hown6 hk6 hl6
                go_wp2_with fail
                go_roundg 2
                case measure => omega
                case rel =>
                  refine ⟨2, A6, _, c6, rfl, by omega, by go_num, rfl, Go.Lib.hid ?_⟩
                  rw [HBE.out, ← List.cons_append, ← List.append_assoc]
                  exact H6.out
              · obtain ⟨z, hz⟩ : ∃ z : UInt8, z = UInt8.ofNat (q / 256 ^ 3) := ⟨_, rfl⟩
                have z1 : IntKind.u8.wrap ((q : Int) / 16777216) = ((z.toNat : Nat) : Int) := by
                  rw [IntKind.wrap_u8, hz, UInt8.toNat_ofNat']
                  omega
                have z2 : ((q : Int) / 16777216) % 256 = ((z.toNat : Nat) : Int) := by
                  rw [hz, UInt8.toNat_ofNat']
                  omega
                have z3 : (q : Int) / 16777216 = ((z.toNat : Nat) : Int) := by
                  rw [hz, UInt8.toNat_ofNat']
                  omega
                have hbe : beBytes (k - 3) (q / 256 ^ 3) = beBytes (k - 4) (q / 256 ^ 4) ++ [z] := by
                  have h := beBytes_next q (k - 4) 3
                  rw [show k - 4 + 1 = k - 3 from by omega] at h
                  rw [h, hz]
                have HBE := Go.Lib.hid hbe
                clear hz hbe
                have hn5 : n5 = n + 1 + (k - 4) := by have h := H5.out.len; simp only [List.length_append, List.length_cons, beBytes_length] at h; have := HN.out; omega
                have hn5b : n5 + 1 ≤ 4294967295 := by omega
                have hbel5 := H5.out.lt
                clear hn5
                go_wp2_with (at_builtin; refine wpList_append_o _ rfl _ _ 22 rfl 5 i0 (.int .u8 0) 1 1 Try.underlying22 hi hz0 hz1 hz2 rfl (by decide) base A5 n5 c5 _ rfl (H5.out.1.alloc _) _ 1 1 (bs [z]) rfl (by simp) (rd_new _ _ _) (bs_one _) (by omega) (by unfold maxLen; omega) (by simp; omega) ?_)
                intro A6 c6 w6 hown6 hk6 hl6
                rw [← bs_append] at hown6
                have H6 := Go.Lib.hid ((H5.out.below (bal (Below.refl _ _) _)).append HALT.out hown6 hk6 (by simpa using hl6))
                clear hown6 hk6 hl6
                go_wp2_with fail
                go_roundg 3
                case measure => omega
                case rel =>
                  refine ⟨3, A6, _, c6, rfl, by omega, by go_num, rfl, Go.Lib.hid ?_⟩
                  rw [HBE.out, ← List.cons_append, ← List.append_assoc]
                  rw [show k - 4 = 0 from by omega]
                  exact H6.out
      case rest =>
        obtain ⟨A5, n5, c5, rfl, H5⟩ := hcut
        obtain ⟨w5, rfl⟩ : ∃ w' : World, w' = wc := ⟨_, rfl⟩
        have hn5 : n5 = n + (headB l q).length := by have h := H5.out.len; simp only [List.length_append] at h; have := HN.out; omega
        have hn5b : n5 + q ≤ 4294967295 := by omega
        have hn5c : n5 + b.length ≤ 4294967295 := by omega
        have hlt5 := H5.out.lt
        obtain ⟨x0, x1, x2, xf⟩ := cells3 H5.out.2.2.2
        have HT5 := Go.Lib.hid (H5.out.base HPB.out HT.out HAGE.out)
        have HN5 := Go.Lib.hid hn5
        have hab : Rd w5 Ab (bs b) := by
          obtain ⟨_, _, _, _, _, e0, e1, e2, _, _, _, _, h, _⟩ := HT5.out.parts
          injection e1 with e1 e3 e4
          subst e1
          exact h.rd
        have HAB := Go.Lib.hid hab
        clear hn5 hab
        go_wp2_with (at_builtin; refine wpList_append_o _ rfl _ _ 22 rfl 5 i0 (.int .u8 0) 1 1 Try.underlying22 hi hz0 hz1 hz2 rfl (by decide) base A5 n5 c5 _ rfl H5.out.1 Ab b.length cb (bs b) rfl (by simp) HAB.out (bs_one _) (by omega) (by unfold maxLen; omega) (by omega) ?_)
        intro A6 c6 w6 hown6 hk6 hl6
        rw [← bs_append] at hown6
        have H6 := Go.Lib.hid (H5.out.append HALT.out hown6 hk6 hl6)
        clear hown6 hk6 hl6 x0 x1 x2 xf
        obtain ⟨x0, x1, x2, xf⟩ := cells3 H6.out.2.2.2
        go_wp2_with fail
        go_loopg [0, 61] its.length (fun g s0 i wx => ∃ (j : Nat) (A7 : Option Addr) (n7 c7 : Nat), i = .int .i64 j ∧ j ≤ its.length ∧ g = its.length - j ∧ s0 = .slice A7 n7 c7 ∧ Hid (WOn w base A (.cells #[.bool l, .slice Ab b.length cb, .slice B its.length d] 25) (pre ++ headB l q ++ b ++ encL (its.take j)) A7 n7 c7 wx))
        case atStart => exact ⟨0, A6, _, c6, rfl, Nat.zero_le _, rfl, rfl, Go.Lib.hid (by rw [List.take_zero, encL, List.append_nil]; exact H6.out)⟩
        case round =>
          obtain ⟨j, A7, n7, c7, rfl, hj, rfl, rfl, H7⟩ := hrel
          by_cases hlt : j < its.length
          · have ht7 := H7.out.base HPB.out HT.out HAGE.out
            obtain ⟨_, _, _, _, cs7, _, _, e2, _, _, _, _, _, hB7, hL7⟩ := ht7.parts
            injection e2 with e2 e3 e4
            subst e2
            obtain ⟨g, off, p0, p1, p2, rfl, hp7, c0, c1, c2⟩ := item_cells hB7 hL7 (Below.refl _ _) j hlt
            have hle := encT_le_encL its j hlt
            obtain ⟨a1, a2, a3, a4, a5, a6, rfl, rfl, rfl⟩ := hp7.shape
            have hn7 : n7 = n + (headB l q).length + b.length + (encL (its.take j)).length := by have h := H7.out.len; simp only [List.length_append] at h; have := HN.out; omega
            have hlt7 := H7.out.lt
            have HP7 := Go.Lib.hid hp7
            have HN7 := Go.Lib.hid hn7
            clear ht7 hB7 hL7 hp7 hn7 e3 e4
            go_wp2_with fail
            refine (IH.out j hlt P base A7 n7 c7 (pre ++ headB l q ++ b ++ encL (its.take j)) _ _ _ _ (HP7.out.below (bal (Below.refl _ _) _)) HPB.out (by simp; omega) (H7.out.1.alloc _) (by have := HN7.out; have := HHL.out; have := HQ2.out; omega)).mono ?_
            rintro r w8 ⟨A8, n8, c8, rfl, hown8, hk8, hl8⟩
            have H8 := Go.Lib.hid ((H7.out.below (bal (Below.refl _ _) _)).append HALT.out hown8 hk8 hl8)
            clear hown8 hk8 hl8
            go_wp2_with fail
            go_roundg (its.length - (j + 1))
            case measure => omega
            case rel =>
              refine ⟨j + 1, A8, n8, c8, by go_num, by omega, rfl, rfl, Go.Lib.hid ?_⟩
              rw [encL_take_succ its j hlt, ← List.append_assoc]
              exact H8.out
          · obtain rfl : j = its.length := by omega
            clear hlt
            go_wp2_with fail
            go_ret
            have h := H7.out
            rw [List.take_length, List.append_assoc, List.append_assoc] at h
            exact h.done

theorem write_lt : ∀ (k : Nat) (t : Tree), SizeOf.sizeOf t < k → WriteSt t
  | 0, t, h => by omega
  | k + 1, .mk l b its, h => write_step l b its fun i hi => write_lt k its[i] (by have := its_size (l := l) (b := b) hi; omega)
theorem nest_write (t : Tree) : WriteSt t := write_lt _ t (Nat.lt_succ_self _)

end Go.Proofs.Ytfolidaonnblbaa
