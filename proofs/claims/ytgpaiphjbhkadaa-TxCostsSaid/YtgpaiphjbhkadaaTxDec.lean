/- tx.Decode: the walk. -/
import Derived.Test.YtgpaiphjbhkadaaTxDecP
import Derived.Outline
namespace Go.Proofs.Ytgpaiphjbhkadaa
open Go.ChangeShapes Go.WideShapes Go.ChangeAt Go.RowKit
set_option linter.unusedVariables false
set_option maxRecDepth 100000
attribute [local go_sem ↓] Go.wp_at_zero Go.wp_at_succ

theorem heap_set_list {w : World} {g : Nat} {l : List Value} {t : TypeId} {fr : Nat × Nat} (h : w.heap[g]? = some (.cells l.toArray t fr)) (i : Nat) (u : Value) : (w.setCell ⟨g, i, none⟩ u).heap[g]? = some (.cells (l.set i u).toArray t fr) := by
  rw [heap_set_same h i u, List.setIfInBounds_toArray]
theorem set9_heap {w : World} {g : Nat} {a0 a1 a2 a3 a4 a5 a6 a7 a8 : Value} {T : TypeId} (h : w.heap[g]? = some (.cells #[a0, a1, a2, a3, a4, a5, a6, a7, a8] T (0, 0))) (t : TxD) (A : Option Addr) (d : Nat) (B : Option Addr) (c : Nat) :
    ((World.setCell (World.setCell (World.setCell (World.setCell (World.setCell (World.setCell (World.setCell (World.setCell (World.setCell w ⟨g, 0, none⟩ (.int .u64 (t.a0 : Int))) ⟨g, 1, none⟩ (.int .u64 (t.a1 : Int))) ⟨g, 2, none⟩ (.int .u64 (t.a2 : Int))) ⟨g, 3, none⟩ (.int .u64 (t.a3 : Int))) ⟨g, 4, none⟩ (.int .u64 (t.a4 : Int))) ⟨g, 5, none⟩ (.int .u64 (t.a5 : Int))) ⟨g, 6, none⟩ (.slice A t.inp.length d)) ⟨g, 7, none⟩ (.bool t.mak)) ⟨g, 8, none⟩ (.slice B t.code.length c))).heap[g]? = some (.cells #[.int .u64 (t.a0 : Int), .int .u64 (t.a1 : Int), .int .u64 (t.a2 : Int), .int .u64 (t.a3 : Int), .int .u64 (t.a4 : Int), .int .u64 (t.a5 : Int), .slice A t.inp.length d, .bool t.mak, .slice B t.code.length c] T (0, 0)) := by
  have h0 := heap_set_list (l := [a0, a1, a2, a3, a4, a5, a6, a7, a8]) h 0 (.int .u64 (t.a0 : Int))
  have h1 := heap_set_list h0 1 (.int .u64 (t.a1 : Int))
  have h2 := heap_set_list h1 2 (.int .u64 (t.a2 : Int))
  have h3 := heap_set_list h2 3 (.int .u64 (t.a3 : Int))
  have h4 := heap_set_list h3 4 (.int .u64 (t.a4 : Int))
  have h5 := heap_set_list h4 5 (.int .u64 (t.a5 : Int))
  have h6 := heap_set_list h5 6 (.slice A t.inp.length d)
  have h7 := heap_set_list h6 7 (.bool t.mak)
  have h8 := heap_set_list h7 8 (.slice B t.code.length c)
  exact h8
theorem set0_heap {w : World} {g : Nat} {a0 a1 a2 a3 a4 a5 a6 a7 a8 : Value} {T : TypeId} (h : w.heap[g]? = some (.cells #[a0, a1, a2, a3, a4, a5, a6, a7, a8] T (0, 0))) :
    ((World.setCell (World.setCell (World.setCell (World.setCell (World.setCell (World.setCell (World.setCell (World.setCell (World.setCell w ⟨g, 0, none⟩ (.int .u64 0)) ⟨g, 1, none⟩ (.int .u64 0)) ⟨g, 2, none⟩ (.int .u64 0)) ⟨g, 3, none⟩ (.int .u64 0)) ⟨g, 4, none⟩ (.int .u64 0)) ⟨g, 5, none⟩ (.int .u64 0)) ⟨g, 6, none⟩ (.slice none 0 0)) ⟨g, 7, none⟩ (.bool false)) ⟨g, 8, none⟩ (.slice none 0 0))).heap[g]? = some (.cells #[.int .u64 0, .int .u64 0, .int .u64 0, .int .u64 0, .int .u64 0, .int .u64 0, .slice none 0 0, .bool false, .slice none 0 0] T (0, 0)) := by
  have h0 := heap_set_list (l := [a0, a1, a2, a3, a4, a5, a6, a7, a8]) h 0 (.int .u64 0)
  have h1 := heap_set_list h0 1 (.int .u64 0)
  have h2 := heap_set_list h1 2 (.int .u64 0)
  have h3 := heap_set_list h2 3 (.int .u64 0)
  have h4 := heap_set_list h3 4 (.int .u64 0)
  have h5 := heap_set_list h4 5 (.int .u64 0)
  have h6 := heap_set_list h5 6 (.slice none 0 0)
  have h7 := heap_set_list h6 7 (.bool false)
  have h8 := heap_set_list h7 8 (.slice none 0 0)
  exact h8
theorem ret_txDec {R : Ending → World → Prop} {a : Act} {w : World} {g : Nat} {v0 v1 v2 v3 v4 v5 v6 v7 v8 : Value} {e : Int} (h2 : a.tmps.getD 2 undef = .pointer (some ⟨g, 0, none⟩)) (h3 : a.tmps.getD 3 undef = .int .i64 e) (hd : a.defers = [])
    (h : w.heap[g]? = some (.cells #[v0, v1, v2, v3, v4, v5, v6, v7, v8] 26 (0, 0))) (hR : R (.returned (.tuple #[.agg #[v0, v1, v2, v3, v4, v5, v6, v7, v8], .int .i64 e])) w) : bodyPost Try.prog Try.f15 R .ret a w := by
  obtain ⟨c0, c1, c2, c3, c4, c5, c6, c7, c8, _⟩ := cells9 h
  refine bodyPost_ret (v := .tuple #[.agg #[v0, v1, v2, v3, v4, v5, v6, v7, v8], .int .i64 e]) ?_ hd hR
  simp at h2 h3
  simp [results, Try.results15, go_sem, c0, c1, c2, c3, c4, c5, c6, c7, c8, h2, h3]

theorem RdT.cap {w : World} {P : Nat → Prop} {t : Tree} {v0 v2 : Value} {A : Option Addr} {n c : Nat} (h : RdT w P t v0 (.slice A n c) v2) : c ≤ 9223372036854775807 := by
  obtain ⟨l, b, its⟩ := t
  simp only [RdT] at h
  obtain ⟨_, ⟨A', n', c', e, _, _, h, _⟩, _⟩ := h
  injection e with _ _ e
  rw [e]
  exact h

set_option maxHeartbeats 4000000 in
theorem tx_Decode_err (A : Option Addr) (n c : Nat) (xs : List UInt8) (e : Int) (w : World) (hq : pDecode xs = .error e) (hr : Rd w A (bs xs)) (hn : n = xs.length) (hnc : n ≤ c) (hc : c ≤ 9223372036854775807 ∧ n ≤ 140737488355328) :
    Calls Try.prog 15 #[.slice A n c] w (TxDecP (decTx xs) w) := by
  have he : e ≠ 0 := by
    have h : pFirst xs = .error e ∨ e = 24 := by
      unfold pDecode at hq
      split at hq
      · rename_i h
        injection hq with hq
        subst hq
        exact .inl h
      · split at hq
        · injection hq with hq
          exact .inr hq.symm
        · cases hq
    rcases h with h | h
    · have := pFirst_err h
      omega
    · omega
  have hen : (e != 0) = true := by rw [bne_iff_ne]; exact he
  have HD := Go.Lib.hid (dec_err hq)
  have HQ := Go.Lib.hid hq
  have HR := Go.Lib.hid hr
  have HN := Go.Lib.hid hn
  clear hq hr hn he
  go_enter Try.func15, Try.ntmps15
  go_wp2_with fail
  refine (nest_Decode A n c xs _ (HR.out.alloc _) HN.out hnc hc).mono ?_
  intro r w1 hp
  unfold DecP at hp
  rw [HQ.out] at hp
  obtain ⟨rfl, hb1⟩ := hp
  unfold item0
  have hx := (hb1.block w.heap.size (by simp)).trans (Go.heap_alloc_new w _)
  have HX := Go.Lib.hid hx
  have hlt : w.heap.size < w1.heap.size := (Array.getElem?_eq_some_iff.1 hx).1
  obtain ⟨c0, c1, c2, c3, c4, c5, c6, c7, c8, cf⟩ := cells9 hx
  have HB1 := Go.Lib.hid (btr (bal (Below.refl _ _) _) hb1)
  clear hx hb1
  go_wp2_with fail
  refine ret_txDec (g := w.heap.size) (e := 160) rfl rfl rfl ((Below.heap_alloc _ _ w.heap.size (by simpa using hlt)).trans (set0_heap HX.out)) ?_
  rw [HD.out]
  exact TxDecP.none (bal (Kp.below HB1.out (kp_set0 _ w.heap.size) fun i h => by omega) _)

set_option maxHeartbeats 4000000 in
theorem tx_Decode_form (A : Option Addr) (n c : Nat) (xs : List UInt8) (x : Tree) (w : World) (hq : pDecode xs = .ok x) (hf : x.l = false ∨ x.its.length ≠ 9) (hr : Rd w A (bs xs)) (hn : n = xs.length) (hnc : n ≤ c) (hc : c ≤ 9223372036854775807 ∧ n ≤ 140737488355328) :
    Calls Try.prog 15 #[.slice A n c] w (TxDecP (decTx xs) w) := by
  have hbad : goodT x = false := by
    rcases hf with h | h
    · exact good_l h
    · exact good_not9 h
  have HD := Go.Lib.hid (dec_bad hq hbad)
  have HQ := Go.Lib.hid hq
  have HR := Go.Lib.hid hr
  have HN := Go.Lib.hid hn
  clear hq hr hn hbad
  obtain ⟨l, b, its⟩ := x
  simp only [Tree.l, Tree.its] at hf
  go_enter Try.func15, Try.ntmps15
  go_wp2_with fail
  refine (nest_Decode A n c xs _ (HR.out.alloc _) HN.out hnc hc).mono ?_
  intro r w1 hp
  unfold DecP at hp
  rw [HQ.out] at hp
  obtain ⟨v0, v1, v2, rfl, ht, hb1⟩ := hp
  obtain ⟨a1, a2, a3, a4, a5, rfl, rfl, rfl, _⟩ := ht.parts
  have hx := (hb1.block w.heap.size (by simp)).trans (Go.heap_alloc_new w _)
  have HX := Go.Lib.hid hx
  have hlt : w.heap.size < w1.heap.size := (Array.getElem?_eq_some_iff.1 hx).1
  obtain ⟨c0, c1, c2, c3, c4, c5, c6, c7, c8, cf⟩ := cells9 hx
  have HB1 := Go.Lib.hid (btr (bal (Below.refl _ _) _) hb1)
  clear hx hb1 ht
  cases l with
  | false =>
    go_wp2_with fail
    refine ret_txDec (g := w.heap.size) (e := 160) rfl rfl rfl ((Below.heap_alloc _ _ w.heap.size (by simpa using hlt)).trans (set0_heap HX.out)) ?_
    rw [HD.out]
    exact TxDecP.none (bal (Kp.below HB1.out (kp_set0 _ w.heap.size) fun i h => by omega) _)
  | true =>
    have h9 : ((its.length : Int) != 9) = true := by
      rw [bne_iff_ne]
      rcases hf with h | h
      · cases h
      · omega
    go_wp2_with fail
    refine ret_txDec (g := w.heap.size) (e := 160) rfl rfl rfl ((Below.heap_alloc _ _ w.heap.size (by simpa using hlt)).trans (set0_heap HX.out)) ?_
    rw [HD.out]
    exact TxDecP.none (bal (Kp.below HB1.out (kp_set0 _ w.heap.size) fun i h => by omega) _)

set_option maxHeartbeats 8000000 in
theorem tx_Decode_nine (A : Option Addr) (n c : Nat) (xs : List UInt8) (bb : List UInt8) (i0 i1 i2 i3 i4 i5 i6 i7 i8 : Tree) (w : World) (hq : pDecode xs = .ok (.mk true bb [i0, i1, i2, i3, i4, i5, i6, i7, i8])) (hr : Rd w A (bs xs)) (hn : n = xs.length) (hnc : n ≤ c) (hc : c ≤ 9223372036854775807 ∧ n ≤ 140737488355328) :
    Calls Try.prog 15 #[.slice A n c] w (TxDecP (decTx xs) w) := by
  have hm6 : i6.its.length ≤ 16777215 := ((dec_well hq).1.items i6 (by simp)).many
  have HM6 := Go.Lib.hid hm6
  have HQ := Go.Lib.hid hq
  have HR := Go.Lib.hid hr
  have HN := Go.Lib.hid hn
  clear hq hr hn hm6
  go_enter Try.func15, Try.ntmps15
  go_wp2_with fail
  refine (nest_Decode A n c xs _ (HR.out.alloc _) HN.out hnc hc).mono ?_
  intro r w1 hp
  unfold DecP at hp
  rw [HQ.out] at hp
  obtain ⟨v0, v1, v2, rfl, ht, hb1⟩ := hp
  obtain ⟨a1, a2, B1, d1, cs, rfl, rfl, rfl, _, _, h9d, hdm, _, hrB, hrL⟩ := ht.parts
  simp only [List.length_cons, List.length_nil, Nat.zero_add, Nat.reduceAdd] at h9d ⊢
  have hx := (hb1.block w.heap.size (by simp)).trans (Go.heap_alloc_new w _)
  have HX := Go.Lib.hid hx
  have hlt : w.heap.size < w1.heap.size := (Array.getElem?_eq_some_iff.1 hx).1
  obtain ⟨g, off, e6⟩ : ∃ g off, B1 = some ⟨g, off, none⟩ := by
    obtain ⟨g, off, e, _⟩ := hrB (by intro h; have := hrL.len; rw [h] at this; simp at this)
    exact ⟨g, off, e⟩
  subst e6
  have HRB := Go.Lib.hid hrB
  have HRL := Go.Lib.hid hrL
  have HB1 := Go.Lib.hid (btr (bal (Below.refl _ _) _) hb1)
  clear hx hb1 ht hrB hrL
  go_wp2_with fail
  obtain ⟨cs1, cs2, rfl, hl1, hl2⟩ := HRL.out.split (ts := [i0, i1, i2, i3, i4, i5]) (us := [i6, i7, i8])
  refine (tx_read (some ⟨g, off, none⟩) 6 d1 [i0, i1, i2, i3, i4, i5] cs1 _ _ (HRB.out.left.keep (by simp) fun g' _ hg => (bal (Below.refl _ _) _).block g' hg) (hl1.below (bal (Below.refl _ _) _)) rfl (by omega)).mono ?_
  rintro r w2 ⟨A2, c2, rfl, hown2, hb2⟩
  have hb12 : Below w1.heap.size w1 w2 := btr (bal (Below.refl _ _) _) hb2
  have hy2 : w2.heap[w1.heap.size]? = some (.cells #[.bool true, .slice a1 bb.length a2, .slice (some ⟨g, off, none⟩) 9 d1] 45 (0, 0)) := (hb2.block _ (by simp)).trans (Go.heap_alloc_new w1 _)
  have HX2 := Go.Lib.hid ((hb12.block _ hlt).trans HX.out)
  have HY2 := Go.Lib.hid hy2
  have HL2 := Go.Lib.hid (HRL.out.below hb12)
  have HRB2 := Go.Lib.hid (HRB.out.keep hb12.size fun g' _ hg => hb12.block g' hg)
  have HB2 := Go.Lib.hid (btr HB1.out hb12)
  have HO2 := Go.Lib.hid hown2
  have hlt2 : w1.heap.size < w2.heap.size := (Array.getElem?_eq_some_iff.1 hy2).1
  obtain ⟨o1, ho1⟩ : ∃ o, o = readT [i0, i1, i2, i3, i4, i5] := ⟨_, rfl⟩
  have HO1 := Go.Lib.hid ho1
  rw [← ho1]
  obtain ⟨g', off', p0, p1, p2, e6, hp6, k60, k61, k62⟩ := item_cells HRB2.out HL2.out (Below.refl _ _) 6 (by simp)
  injection e6 with e6
  injection e6 with e6 e6'
  subst e6 e6'
  simp only [List.getElem_cons_succ, List.getElem_cons_zero] at hp6
  obtain ⟨y0, y1, y2, yf⟩ := cells3 hy2
  obtain ⟨l6, b6, its6⟩ := i6
  obtain ⟨A6, c6, B6, d6, cs6, rfl, rfl, rfl, _, _, h6d, h6dm, _, hr6, hrl6⟩ := hp6.parts
  clear hl1 hl2 hown2 hb2 hb12 hy2 ho1
  simp only [Nat.reduceMul] at k60 k61 k62
  go_wp2_with fail
  refine (tx_read B6 its6.length d6 its6 cs6 _ _ hr6 hrl6 rfl HM6.out).mono ?_
  rintro r w3 ⟨A3, c3, rfl, hown3, hb3⟩
  clear k60 k61 k62 y0 y1 y2 yf
  have hy3 := box_keep HY2.out hb3
  have HX3 := Go.Lib.hid (box_keep HX2.out hb3)
  have HY3 := Go.Lib.hid hy3
  have HL3 := Go.Lib.hid (HL2.out.below hb3)
  have HRB3 := Go.Lib.hid (HRB2.out.keep hb3.size fun g' _ hg => hb3.block g' hg)
  have HB3 := Go.Lib.hid (btr HB2.out hb3)
  have HO2' := Go.Lib.hid (HO2.out.below hb3)
  have HO3 := Go.Lib.hid hown3
  have hlt3 : w1.heap.size < w3.heap.size := (Array.getElem?_eq_some_iff.1 hy3).1
  have hs23 : w2.heap.size ≤ w3.heap.size := hb3.size
  obtain ⟨o2, ho2⟩ : ∃ o, o = readT its6 := ⟨_, rfl⟩
  have HO2T := Go.Lib.hid ho2
  rw [← ho2]
  obtain ⟨g', off', p0, p1, p2, e6, hp7, k70, k71, k72⟩ := item_cells HRB3.out HL3.out (Below.refl _ _) 7 (by simp)
  injection e6 with e6
  injection e6 with e6 e6'
  subst e6 e6'
  simp only [List.getElem_cons_succ, List.getElem_cons_zero] at hp7
  obtain ⟨y0, y1, y2, yf⟩ := cells3 hy3
  obtain ⟨A7, c7, d7, B7, m7, d7', rfl, rfl, rfl⟩ := hp7.shape
  have HP7 := Go.Lib.hid hp7
  clear hown3 hb3 hy3 ho2 hp6 hr6 hrl6 hp7
  simp only [Nat.reduceMul] at k70 k71 k72
  go_wp2_with fail
  refine (tx_flag i7 _ _ _ _ _ HP7.out).mono ?_
  intro r w4 hp
  unfold FlagP at hp
  obtain ⟨rfl, hb4⟩ := hp
  obtain ⟨F1, hF1⟩ : ∃ F, F = (flagB i7).1 := ⟨_, rfl⟩
  obtain ⟨F2, hF2⟩ : ∃ F, F = (flagB i7).2 := ⟨_, rfl⟩
  rw [← hF1, ← hF2]
  have HF1 := Go.Lib.hid hF1
  have HF2 := Go.Lib.hid hF2
  clear k70 k71 k72 y0 y1 y2 yf
  have hy4 := box_keep HY3.out hb4
  have HX4 := Go.Lib.hid (box_keep HX3.out hb4)
  have HY4 := Go.Lib.hid hy4
  have HL4 := Go.Lib.hid (HL3.out.below hb4)
  have HRB4 := Go.Lib.hid (HRB3.out.keep hb4.size fun g' _ hg => hb4.block g' hg)
  have HB4 := Go.Lib.hid (btr HB3.out hb4)
  have HO2'' := Go.Lib.hid (HO2'.out.below hb4)
  have HO3' := Go.Lib.hid (HO3.out.below hb4)
  have hlt4 : w1.heap.size < w4.heap.size := (Array.getElem?_eq_some_iff.1 hy4).1
  have hs34 : w3.heap.size ≤ w4.heap.size := hb4.size
  obtain ⟨g', off', p0, p1, p2, e6, hp6, k60, k61, k62⟩ := item_cells HRB4.out HL4.out (Below.refl _ _) 6 (by simp)
  injection e6 with e6
  injection e6 with e6 e6'
  subst e6 e6'
  obtain ⟨g', off', q0, q1, q2, e6, hp8, k80, k81, k82⟩ := item_cells HRB4.out HL4.out (Below.refl _ _) 8 (by simp)
  injection e6 with e6
  injection e6 with e6 e6'
  subst e6 e6'
  simp only [List.getElem_cons_succ, List.getElem_cons_zero] at hp6 hp8
  obtain ⟨A6', c6', n6', B6', m6', d6', rfl, rfl, rfl⟩ := hp6.shape
  obtain ⟨l8, b8, its8⟩ := i8
  obtain ⟨A8, c8, B8, d8, cs8, rfl, rfl, rfl, h8c, h847, _, _, hr8, _, _⟩ := hp8.parts
  have hcap8 := hp8.cap
  have HR8 := Go.Lib.hid hr8
  obtain ⟨y0, y1, y2, yf⟩ := cells3 hy4
  obtain ⟨x0, x1, x2, x3, x4, x5, x6, x7, x8, xf⟩ := cells9 HX4.out
  clear hb4 hy4 hF1 hF2 hp6 hp8 hr8
  simp only [Nat.reduceMul] at k60 k61 k62 k80 k81 k82
  simp only [Tree.l] at k60
  have hnone : (o1.isSome && (o2.isSome && (F2 && (l6 && !l8)))) = false → decTx xs = none := by
    intro h
    apply dec_bad HQ.out
    rw [good_nine, ← HO1.out, ← HF2.out]
    show (_ && ((readT its6).isSome && (_ && (l6 && (!l8 && _))))) = _
    rw [← HO2T.out]
    cases h1 : o1.isSome <;> cases h2 : o2.isSome <;> cases F2 <;> cases l6 <;> cases l8 <;> simp_all
  have HNONE := Go.Lib.hid hnone
  clear hnone
  cases hc1 : o1.isSome with
  | false =>
    have HD := Go.Lib.hid (HNONE.out (by simp [hc1]))
    clear hc1
    go_wp2_with fail
    refine ret_txDec (g := w.heap.size) (e := 160) rfl rfl rfl (set0_heap HX4.out) ?_
    rw [HD.out]
    exact TxDecP.none (Kp.below HB4.out (kp_set0 _ w.heap.size) fun i h => by omega)
  | true =>
  cases hc2 : o2.isSome with
  | false =>
    have HD := Go.Lib.hid (HNONE.out (by simp [hc1, hc2]))
    clear hc2
    go_wp2_with fail
    refine ret_txDec (g := w.heap.size) (e := 160) rfl rfl rfl (set0_heap HX4.out) ?_
    rw [HD.out]
    exact TxDecP.none (Kp.below HB4.out (kp_set0 _ w.heap.size) fun i h => by omega)
  | true =>
  cases F2 with
  | false =>
    have HD := Go.Lib.hid (HNONE.out (by simp []))
    clear hc2
    go_wp2_with fail
    refine ret_txDec (g := w.heap.size) (e := 160) rfl rfl rfl (set0_heap HX4.out) ?_
    rw [HD.out]
    exact TxDecP.none (Kp.below HB4.out (kp_set0 _ w.heap.size) fun i h => by omega)
  | true =>
  cases l6 with
  | false =>
    have HD := Go.Lib.hid (HNONE.out (by simp []))
    clear hc2
    go_wp2_with fail
    refine ret_txDec (g := w.heap.size) (e := 160) rfl rfl rfl (set0_heap HX4.out) ?_
    rw [HD.out]
    exact TxDecP.none (Kp.below HB4.out (kp_set0 _ w.heap.size) fun i h => by omega)
  | true =>
  cases l8 with
  | true =>
    have HD := Go.Lib.hid (HNONE.out (by simp []))
    clear hc2
    go_wp2_with fail
    refine ret_txDec (g := w.heap.size) (e := 160) rfl rfl rfl (set0_heap HX4.out) ?_
    rw [HD.out]
    exact TxDecP.none (Kp.below HB4.out (kp_set0 _ w.heap.size) fun i h => by omega)
  | false =>
    have e1 : o1 = some ([i0, i1, i2, i3, i4, i5].map rawN) := by
      rw [HO1.out]
      exact (readT_some _ (by rw [← HO1.out]; exact hc1)).1
    have e2 : o2 = some (its6.map rawN) := by
      rw [HO2T.out]
      exact (readT_some _ (by rw [← HO2T.out]; exact hc2)).1
    have ef : F1 = decide (0 < i7.b.length) := by
      rw [HF1.out]
      exact flag_val (HF2.out.symm)
    obtain ⟨t, ht⟩ : ∃ t, t = rawT (.mk true bb [i0, i1, i2, i3, i4, i5, .mk true b6 its6, i7, .mk false b8 its8]) := ⟨_, rfl⟩
    have q1 : o1 = some [t.a0, t.a1, t.a2, t.a3, t.a4, t.a5] := by rw [ht]; exact e1
    have q2 : o2 = some t.inp := by rw [ht]; exact e2
    have q3 : F1 = t.mak := by rw [ht]; exact ef
    have q4 : b8 = t.code := by rw [ht]; rfl
    have hgood : goodT (.mk true bb [i0, i1, i2, i3, i4, i5, .mk true b6 its6, i7, .mk false b8 its8]) = rightT t := by
      rw [good_nine, ← HO1.out, ← HF2.out, ht, hc1]
      show (true && ((readT its6).isSome && (true && (true && (!false && _))))) = _
      rw [← HO2T.out, hc2]
      rfl
    have hok : OkTx t := by rw [ht]; exact raw_ok _
    have HGOOD := Go.Lib.hid hgood
    have HT := Go.Lib.hid ht
    have HOK := Go.Lib.hid hok
    have HDG : Hid (rightT t = true → decTx xs = some t) := Go.Lib.hid fun h => by rw [HT.out]; exact dec_good HQ.out (by rw [HGOOD.out]; exact h)
    have HDB : Hid (rightT t = false → decTx xs = none) := Go.Lib.hid fun h => dec_bad HQ.out (by rw [HGOOD.out]; exact h)
    clear hc1 hc2 e1 e2 ef ht hgood hok HNONE HGOOD HT HF1 HF2 HQ HRL HRB HL2 HRB2 HL3 HRB3 HO2 HO3 HO2' HX HY2 HX2 HX3 HY3 HP7
    have hown2 := HO2''.out
    have hown3 := HO3'.out
    have hr8 := HR8.out
    rw [← HO1.out, q1] at hown2
    rw [← HO2T.out, q2] at hown3
    clear HO1 HO2T
    rw [q4] at hr8 k81 h8c h847
    rw [q1, q2, q3]
    simp only [Option.getD_some, List.length_cons, List.length_nil, Nat.zero_add, Nat.reduceAdd] at hown2 hown3 ⊢
    clear q1 q2 q3 q4 HO2'' HO3' HR8
    obtain ⟨ga, oa, rfl, hga, hgal, hca, hcf⟩ := hown2.shape (by omega)
    have z0 := hca 0 _ rfl
    have z1 := hca 1 _ rfl
    have z2 := hca 2 _ rfl
    have z3 := hca 3 _ rfl
    have z4 := hca 4 _ rfl
    have z5 := hca 5 _ rfl
    simp only [Nat.add_zero, u64v] at z0 z1 z2 z3 z4 z5
    have HOWN3 := Go.Lib.hid hown3
    have HR8 := Go.Lib.hid hr8
    have hcap3 := hown3.cap
    clear hca hcf hown2 hown3 hr8
    have hgl : g < w4.heap.size := by
      obtain ⟨_, _, e, h, _⟩ := HRB4.out (by intro h; have := HL4.out.len; rw [h] at this; simp at this)
      injection e with e
      injection e with e
      rw [e]
      exact h
    have HS4 : Hid (w4.cell? ⟨ga, oa, none⟩ = some (.int .u64 (t.a0 : Int)) ∧ w4.cell? ⟨ga, oa + 1, none⟩ = some (.int .u64 (t.a1 : Int)) ∧ w4.cell? ⟨ga, oa + 2, none⟩ = some (.int .u64 (t.a2 : Int)) ∧ w4.cell? ⟨ga, oa + 3, none⟩ = some (.int .u64 (t.a3 : Int)) ∧ w4.cell? ⟨ga, oa + 4, none⟩ = some (.int .u64 (t.a4 : Int)) ∧ w4.cell? ⟨ga, oa + 5, none⟩ = some (.int .u64 (t.a5 : Int)) ∧ w4.cell? ⟨w1.heap.size, 2, none⟩ = some (.slice (some ⟨g, off, none⟩) 9 d1) ∧ w4.cell? ⟨g, off + 24 + 1, none⟩ = some (.slice A8 t.code.length c8)) := Go.Lib.hid ⟨z0, z1, z2, z3, z4, z5, y2, k81⟩
    go_wp2_with fail
    refine wp_region_held_drew (S := fun _ => True) (by kernel_rfl) trivial (fun hHeld => ?_)
    change wpAnyH _ _ _ _ _ 28 (List.toArray [false, false, false, false, false, false, false, false, false, false, false, false, false, false, false, false, false, false, false, false, false, false, false, false, false, false, false, false]) _ _
    refine wpAnyH_and (N := (fun W => W.cell? ⟨ga, oa, none⟩ = some (.int .u64 (t.a0 : Int)) ∧ W.cell? ⟨ga, oa + 1, none⟩ = some (.int .u64 (t.a1 : Int)) ∧ W.cell? ⟨ga, oa + 2, none⟩ = some (.int .u64 (t.a2 : Int)) ∧ W.cell? ⟨ga, oa + 3, none⟩ = some (.int .u64 (t.a3 : Int)) ∧ W.cell? ⟨ga, oa + 4, none⟩ = some (.int .u64 (t.a4 : Int)) ∧ W.cell? ⟨ga, oa + 5, none⟩ = some (.int .u64 (t.a5 : Int)) ∧ W.cell? ⟨w1.heap.size, 2, none⟩ = some (.slice (some ⟨g, off, none⟩) 9 d1) ∧ W.cell? ⟨g, off + 24 + 1, none⟩ = some (.slice A8 t.code.length c8))) ?_
    have hHeld := And.intro hHeld (HS4.out)
    (try dsimp only at hHeld)
    refine wpAnyH_take (i := 0) (v := ?_) rfl (by kernel_rfl) (by kernel_rfl) (by kernel_rfl) (fun _ _ _ h => h) (Or.inl ⟨by rfl, ?_⟩) (by assumption) ?_
    rotate_left
    focus (intro w hSw; (try dsimp only at hSw); obtain ⟨h0, h1, h2, h3, h4, h5, h6, h7, h8⟩ := hSw; (try simp only [List.getElem_toArray]); (try simp only [List.getElem_cons_succ]); (try simp only [List.getElem_cons_zero]); go_simp; (try with_reducible rfl); done)
    (try simp only [List.getElem_toArray]); (try simp only [List.getElem_cons_succ]); (try simp only [List.getElem_cons_zero]); (try simp only [Act.put]); (try simp only [List.setIfInBounds_toArray]); (try simp only [List.set_cons_succ]); (try simp only [List.set_cons_zero])
    refine wpAnyH_take (i := 1) (v := ?_) rfl (by kernel_rfl) (by kernel_rfl) (by kernel_rfl) (fun _ _ _ h => h) (Or.inl ⟨by rfl, ?_⟩) (by assumption) ?_
    rotate_left
    focus (intro w hSw; (try dsimp only at hSw); obtain ⟨h0, h1, h2, h3, h4, h5, h6, h7, h8⟩ := hSw; (try simp only [List.getElem_toArray]); (try simp only [List.getElem_cons_succ]); (try simp only [List.getElem_cons_zero]); go_simp; (try with_reducible rfl); done)
    (try simp only [List.getElem_toArray]); (try simp only [List.getElem_cons_succ]); (try simp only [List.getElem_cons_zero]); (try simp only [Act.put]); (try simp only [List.setIfInBounds_toArray]); (try simp only [List.set_cons_succ]); (try simp only [List.set_cons_zero])
    refine wpAnyH_take (i := 2) (v := ?_) rfl (by kernel_rfl) (by kernel_rfl) (by kernel_rfl) (fun _ _ _ h => h) (Or.inl ⟨by rfl, ?_⟩) (by assumption) ?_
    rotate_left
    focus (intro w hSw; (try dsimp only at hSw); obtain ⟨h0, h1, h2, h3, h4, h5, h6, h7, h8⟩ := hSw; (try simp only [List.getElem_toArray]); (try simp only [List.getElem_cons_succ]); (try simp only [List.getElem_cons_zero]); go_simp; (try with_reducible rfl); done)
    (try simp only [List.getElem_toArray]); (try simp only [List.getElem_cons_succ]); (try simp only [List.getElem_cons_zero]); (try simp only [Act.put]); (try simp only [List.setIfInBounds_toArray]); (try simp only [List.set_cons_succ]); (try simp only [List.set_cons_zero])
    refine wpAnyH_take (i := 3) (v := ?_) rfl (by kernel_rfl) (by kernel_rfl) (by kernel_rfl) (fun _ _ _ h => h) (Or.inl ⟨by rfl, ?_⟩) (by assumption) ?_
    rotate_left
    focus (intro w hSw; (try dsimp only at hSw); obtain ⟨h0, h1, h2, h3, h4, h5, h6, h7, h8⟩ := hSw; (try simp only [List.getElem_toArray]); (try simp only [List.getElem_cons_succ]); (try simp only [List.getElem_cons_zero]); go_simp; (try with_reducible rfl); done)
    (try simp only [List.getElem_toArray]); (try simp only [List.getElem_cons_succ]); (try simp only [List.getElem_cons_zero]); (try simp only [Act.put]); (try simp only [List.setIfInBounds_toArray]); (try simp only [List.set_cons_succ]); (try simp only [List.set_cons_zero])
    refine wpAnyH_take (i := 4) (v := ?_) rfl (by kernel_rfl) (by kernel_rfl) (by kernel_rfl) (fun _ _ _ h => h) (Or.inl ⟨by rfl, ?_⟩) (by assumption) ?_
    rotate_left
    focus (intro w hSw; (try dsimp only at hSw); obtain ⟨h0, h1, h2, h3, h4, h5, h6, h7, h8⟩ := hSw; (try simp only [List.getElem_toArray]); (try simp only [List.getElem_cons_succ]); (try simp only [List.getElem_cons_zero]); go_simp; (try with_reducible rfl); done)
    (try simp only [List.getElem_toArray]); (try simp only [List.getElem_cons_succ]); (try simp only [List.getElem_cons_zero]); (try simp only [Act.put]); (try simp only [List.setIfInBounds_toArray]); (try simp only [List.set_cons_succ]); (try simp only [List.set_cons_zero])
    refine wpAnyH_take (i := 5) (v := ?_) rfl (by kernel_rfl) (by kernel_rfl) (by kernel_rfl) (fun _ _ _ h => h) (Or.inl ⟨by rfl, ?_⟩) (by assumption) ?_
    rotate_left
    focus (intro w hSw; (try dsimp only at hSw); obtain ⟨h0, h1, h2, h3, h4, h5, h6, h7, h8⟩ := hSw; (try simp only [List.getElem_toArray]); (try simp only [List.getElem_cons_succ]); (try simp only [List.getElem_cons_zero]); go_simp; (try with_reducible rfl); done)
    (try simp only [List.getElem_toArray]); (try simp only [List.getElem_cons_succ]); (try simp only [List.getElem_cons_zero]); (try simp only [Act.put]); (try simp only [List.setIfInBounds_toArray]); (try simp only [List.set_cons_succ]); (try simp only [List.set_cons_zero])
    refine wpAnyH_take (i := 6) (v := ?_) rfl (by kernel_rfl) (by kernel_rfl) (by kernel_rfl) (fun _ _ _ h => h) (Or.inl ⟨by rfl, ?_⟩) (by assumption) ?_
    rotate_left
    focus (intro w hSw; (try dsimp only at hSw); obtain ⟨h0, h1, h2, h3, h4, h5, h6, h7, h8⟩ := hSw; (try simp only [List.getElem_toArray]); (try simp only [List.getElem_cons_succ]); (try simp only [List.getElem_cons_zero]); go_simp; (try with_reducible rfl); done)
    (try simp only [List.getElem_toArray]); (try simp only [List.getElem_cons_succ]); (try simp only [List.getElem_cons_zero]); (try simp only [Act.put]); (try simp only [List.setIfInBounds_toArray]); (try simp only [List.set_cons_succ]); (try simp only [List.set_cons_zero])
    refine wpAnyH_take (i := 7) (v := ?_) rfl (by kernel_rfl) (by kernel_rfl) (by kernel_rfl) (fun _ _ _ h => h) (Or.inl ⟨by rfl, ?_⟩) (by assumption) ?_
    rotate_left
    focus (intro w hSw; (try dsimp only at hSw); obtain ⟨h0, h1, h2, h3, h4, h5, h6, h7, h8⟩ := hSw; (try simp only [List.getElem_toArray]); (try simp only [List.getElem_cons_succ]); (try simp only [List.getElem_cons_zero]); go_simp; (try with_reducible rfl); done)
    (try simp only [List.getElem_toArray]); (try simp only [List.getElem_cons_succ]); (try simp only [List.getElem_cons_zero]); (try simp only [Act.put]); (try simp only [List.setIfInBounds_toArray]); (try simp only [List.set_cons_succ]); (try simp only [List.set_cons_zero])
    refine wpAnyH_take (i := 8) (v := ?_) rfl (by kernel_rfl) (by kernel_rfl) (by kernel_rfl) (fun _ _ _ h => h) (Or.inl ⟨by rfl, ?_⟩) (by assumption) ?_
    rotate_left
    focus (intro w hSw; (try dsimp only at hSw); obtain ⟨h0, h1, h2, h3, h4, h5, h6, h7, h8⟩ := hSw; (try simp only [List.getElem_toArray]); (try simp only [List.getElem_cons_succ]); (try simp only [List.getElem_cons_zero]); go_simp; (try with_reducible rfl); done)
    (try simp only [List.getElem_toArray]); (try simp only [List.getElem_cons_succ]); (try simp only [List.getElem_cons_zero]); (try simp only [Act.put]); (try simp only [List.setIfInBounds_toArray]); (try simp only [List.set_cons_succ]); (try simp only [List.set_cons_zero])
    refine wpAnyH_take (i := 9) (v := ?_) rfl (by kernel_rfl) (by kernel_rfl) (by kernel_rfl) (fun _ _ _ h => h) (Or.inl ⟨by rfl, ?_⟩) (by assumption) ?_
    rotate_left
    focus (intro w hSw; (try dsimp only at hSw); obtain ⟨h0, h1, h2, h3, h4, h5, h6, h7, h8⟩ := hSw; (try simp only [List.getElem_toArray]); (try simp only [List.getElem_cons_succ]); (try simp only [List.getElem_cons_zero]); go_simp; (try with_reducible rfl); done)
    (try simp only [List.getElem_toArray]); (try simp only [List.getElem_cons_succ]); (try simp only [List.getElem_cons_zero]); (try simp only [Act.put]); (try simp only [List.setIfInBounds_toArray]); (try simp only [List.set_cons_succ]); (try simp only [List.set_cons_zero])
    refine wpAnyH_take (i := 10) (v := ?_) rfl (by kernel_rfl) (by kernel_rfl) (by kernel_rfl) (fun _ _ _ h => h) (Or.inl ⟨by rfl, ?_⟩) (by assumption) ?_
    rotate_left
    focus (intro w hSw; (try dsimp only at hSw); obtain ⟨h0, h1, h2, h3, h4, h5, h6, h7, h8⟩ := hSw; (try simp only [List.getElem_toArray]); (try simp only [List.getElem_cons_succ]); (try simp only [List.getElem_cons_zero]); go_simp; (try with_reducible rfl); done)
    (try simp only [List.getElem_toArray]); (try simp only [List.getElem_cons_succ]); (try simp only [List.getElem_cons_zero]); (try simp only [Act.put]); (try simp only [List.setIfInBounds_toArray]); (try simp only [List.set_cons_succ]); (try simp only [List.set_cons_zero])
    refine wpAnyH_take (i := 11) (v := ?_) rfl (by kernel_rfl) (by kernel_rfl) (by kernel_rfl) (fun _ _ _ h => h) (Or.inl ⟨by rfl, ?_⟩) (by assumption) ?_
    rotate_left
    focus (intro w hSw; (try dsimp only at hSw); obtain ⟨h0, h1, h2, h3, h4, h5, h6, h7, h8⟩ := hSw; (try simp only [List.getElem_toArray]); (try simp only [List.getElem_cons_succ]); (try simp only [List.getElem_cons_zero]); go_simp; (try with_reducible rfl); done)
    (try simp only [List.getElem_toArray]); (try simp only [List.getElem_cons_succ]); (try simp only [List.getElem_cons_zero]); (try simp only [Act.put]); (try simp only [List.setIfInBounds_toArray]); (try simp only [List.set_cons_succ]); (try simp only [List.set_cons_zero])
    refine wpAnyH_take (i := 12) (v := ?_) rfl (by kernel_rfl) (by kernel_rfl) (by kernel_rfl) (fun _ _ _ h => h) (Or.inl ⟨by rfl, ?_⟩) (by assumption) ?_
    rotate_left
    focus (intro w hSw; (try dsimp only at hSw); obtain ⟨h0, h1, h2, h3, h4, h5, h6, h7, h8⟩ := hSw; (try simp only [List.getElem_toArray]); (try simp only [List.getElem_cons_succ]); (try simp only [List.getElem_cons_zero]); go_simp; (try with_reducible rfl); done)
    (try simp only [List.getElem_toArray]); (try simp only [List.getElem_cons_succ]); (try simp only [List.getElem_cons_zero]); (try simp only [Act.put]); (try simp only [List.setIfInBounds_toArray]); (try simp only [List.set_cons_succ]); (try simp only [List.set_cons_zero])
    refine wpAnyH_take (i := 13) (v := ?_) rfl (by kernel_rfl) (by kernel_rfl) (by kernel_rfl) (fun _ _ _ h => h) (Or.inl ⟨by rfl, ?_⟩) (by assumption) ?_
    rotate_left
    focus (intro w hSw; (try dsimp only at hSw); obtain ⟨h0, h1, h2, h3, h4, h5, h6, h7, h8⟩ := hSw; (try simp only [List.getElem_toArray]); (try simp only [List.getElem_cons_succ]); (try simp only [List.getElem_cons_zero]); go_simp; (try with_reducible rfl); done)
    (try simp only [List.getElem_toArray]); (try simp only [List.getElem_cons_succ]); (try simp only [List.getElem_cons_zero]); (try simp only [Act.put]); (try simp only [List.setIfInBounds_toArray]); (try simp only [List.set_cons_succ]); (try simp only [List.set_cons_zero])
    refine wpAnyH_take (i := 14) (v := ?_) rfl (by kernel_rfl) (by kernel_rfl) (by kernel_rfl) (fun _ _ _ h => h) (Or.inl ⟨by rfl, ?_⟩) (by assumption) ?_
    rotate_left
    focus (intro w hSw; (try dsimp only at hSw); obtain ⟨h0, h1, h2, h3, h4, h5, h6, h7, h8⟩ := hSw; (try simp only [List.getElem_toArray]); (try simp only [List.getElem_cons_succ]); (try simp only [List.getElem_cons_zero]); go_simp; (try with_reducible rfl); done)
    (try simp only [List.getElem_toArray]); (try simp only [List.getElem_cons_succ]); (try simp only [List.getElem_cons_zero]); (try simp only [Act.put]); (try simp only [List.setIfInBounds_toArray]); (try simp only [List.set_cons_succ]); (try simp only [List.set_cons_zero])
    refine wpAnyH_take (i := 15) (v := ?_) rfl (by kernel_rfl) (by kernel_rfl) (by kernel_rfl) (fun _ _ _ h => h) (Or.inl ⟨by rfl, ?_⟩) (by assumption) ?_
    rotate_left
    focus (intro w hSw; (try dsimp only at hSw); obtain ⟨h0, h1, h2, h3, h4, h5, h6, h7, h8⟩ := hSw; (try simp only [List.getElem_toArray]); (try simp only [List.getElem_cons_succ]); (try simp only [List.getElem_cons_zero]); go_simp; (try with_reducible rfl); done)
    (try simp only [List.getElem_toArray]); (try simp only [List.getElem_cons_succ]); (try simp only [List.getElem_cons_zero]); (try simp only [Act.put]); (try simp only [List.setIfInBounds_toArray]); (try simp only [List.set_cons_succ]); (try simp only [List.set_cons_zero])
    refine wpAnyH_take (i := 16) (v := ?_) rfl (by kernel_rfl) (by kernel_rfl) (by kernel_rfl) (fun _ _ _ h => h) (Or.inl ⟨by rfl, ?_⟩) (by assumption) ?_
    rotate_left
    focus (intro w hSw; (try dsimp only at hSw); obtain ⟨h0, h1, h2, h3, h4, h5, h6, h7, h8⟩ := hSw; (try simp only [List.getElem_toArray]); (try simp only [List.getElem_cons_succ]); (try simp only [List.getElem_cons_zero]); go_simp; (try with_reducible rfl); done)
    (try simp only [List.getElem_toArray]); (try simp only [List.getElem_cons_succ]); (try simp only [List.getElem_cons_zero]); (try simp only [Act.put]); (try simp only [List.setIfInBounds_toArray]); (try simp only [List.set_cons_succ]); (try simp only [List.set_cons_zero])
    refine wpAnyH_take (i := 17) (v := ?_) rfl (by kernel_rfl) (by kernel_rfl) (by kernel_rfl) (fun _ _ _ h => h) (Or.inl ⟨by rfl, ?_⟩) (by assumption) ?_
    rotate_left
    focus (intro w hSw; (try dsimp only at hSw); obtain ⟨h0, h1, h2, h3, h4, h5, h6, h7, h8⟩ := hSw; (try simp only [List.getElem_toArray]); (try simp only [List.getElem_cons_succ]); (try simp only [List.getElem_cons_zero]); go_simp; (try with_reducible rfl); done)
    (try simp only [List.getElem_toArray]); (try simp only [List.getElem_cons_succ]); (try simp only [List.getElem_cons_zero]); (try simp only [Act.put]); (try simp only [List.setIfInBounds_toArray]); (try simp only [List.set_cons_succ]); (try simp only [List.set_cons_zero])
    refine wpAnyH_take (i := 18) (v := ?_) rfl (by kernel_rfl) (by kernel_rfl) (by kernel_rfl) (fun _ _ _ h => h) (Or.inl ⟨by rfl, ?_⟩) (by assumption) ?_
    rotate_left
    focus (intro w hSw; (try dsimp only at hSw); obtain ⟨h0, h1, h2, h3, h4, h5, h6, h7, h8⟩ := hSw; (try simp only [List.getElem_toArray]); (try simp only [List.getElem_cons_succ]); (try simp only [List.getElem_cons_zero]); go_simp; (try with_reducible rfl); done)
    (try simp only [List.getElem_toArray]); (try simp only [List.getElem_cons_succ]); (try simp only [List.getElem_cons_zero]); (try simp only [Act.put]); (try simp only [List.setIfInBounds_toArray]); (try simp only [List.set_cons_succ]); (try simp only [List.set_cons_zero])
    refine wpAnyH_take (i := 19) (v := ?_) rfl (by kernel_rfl) (by kernel_rfl) (by kernel_rfl) (fun _ _ _ h => h) (Or.inl ⟨by rfl, ?_⟩) (by assumption) ?_
    rotate_left
    focus (intro w hSw; (try dsimp only at hSw); obtain ⟨h0, h1, h2, h3, h4, h5, h6, h7, h8⟩ := hSw; (try simp only [List.getElem_toArray]); (try simp only [List.getElem_cons_succ]); (try simp only [List.getElem_cons_zero]); go_simp; (try with_reducible rfl); done)
    (try simp only [List.getElem_toArray]); (try simp only [List.getElem_cons_succ]); (try simp only [List.getElem_cons_zero]); (try simp only [Act.put]); (try simp only [List.setIfInBounds_toArray]); (try simp only [List.set_cons_succ]); (try simp only [List.set_cons_zero])
    refine wpAnyH_take (i := 20) (v := ?_) rfl (by kernel_rfl) (by kernel_rfl) (by kernel_rfl) (fun _ _ _ h => h) (Or.inl ⟨by rfl, ?_⟩) (by assumption) ?_
    rotate_left
    focus (intro w hSw; (try dsimp only at hSw); obtain ⟨h0, h1, h2, h3, h4, h5, h6, h7, h8⟩ := hSw; (try simp only [List.getElem_toArray]); (try simp only [List.getElem_cons_succ]); (try simp only [List.getElem_cons_zero]); go_simp; (try with_reducible rfl); done)
    (try simp only [List.getElem_toArray]); (try simp only [List.getElem_cons_succ]); (try simp only [List.getElem_cons_zero]); (try simp only [Act.put]); (try simp only [List.setIfInBounds_toArray]); (try simp only [List.set_cons_succ]); (try simp only [List.set_cons_zero])
    refine wpAnyH_take (i := 21) (v := ?_) rfl (by kernel_rfl) (by kernel_rfl) (by kernel_rfl) (fun _ _ _ h => h) (Or.inl ⟨by rfl, ?_⟩) (by assumption) ?_
    rotate_left
    focus (intro w hSw; (try dsimp only at hSw); obtain ⟨h0, h1, h2, h3, h4, h5, h6, h7, h8⟩ := hSw; (try simp only [List.getElem_toArray]); (try simp only [List.getElem_cons_succ]); (try simp only [List.getElem_cons_zero]); go_simp; (try with_reducible rfl); done)
    (try simp only [List.getElem_toArray]); (try simp only [List.getElem_cons_succ]); (try simp only [List.getElem_cons_zero]); (try simp only [Act.put]); (try simp only [List.setIfInBounds_toArray]); (try simp only [List.set_cons_succ]); (try simp only [List.set_cons_zero])
    refine wpAnyH_take (i := 22) (v := ?_) rfl (by kernel_rfl) (by kernel_rfl) (by kernel_rfl) (fun _ _ _ h => h) (Or.inl ⟨by rfl, ?_⟩) (by assumption) ?_
    rotate_left
    focus (intro w hSw; (try dsimp only at hSw); obtain ⟨h0, h1, h2, h3, h4, h5, h6, h7, h8⟩ := hSw; (try simp only [List.getElem_toArray]); (try simp only [List.getElem_cons_succ]); (try simp only [List.getElem_cons_zero]); go_simp; (try with_reducible rfl); done)
    (try simp only [List.getElem_toArray]); (try simp only [List.getElem_cons_succ]); (try simp only [List.getElem_cons_zero]); (try simp only [Act.put]); (try simp only [List.setIfInBounds_toArray]); (try simp only [List.set_cons_succ]); (try simp only [List.set_cons_zero])
    refine wpAnyH_take (i := 23) (v := ?_) rfl (by kernel_rfl) (by kernel_rfl) (by kernel_rfl) (fun _ _ _ h => h) (Or.inl ⟨by rfl, ?_⟩) (by assumption) ?_
    rotate_left
    focus (intro w hSw; (try dsimp only at hSw); obtain ⟨h0, h1, h2, h3, h4, h5, h6, h7, h8⟩ := hSw; (try simp only [List.getElem_toArray]); (try simp only [List.getElem_cons_succ]); (try simp only [List.getElem_cons_zero]); go_simp; (try with_reducible rfl); done)
    (try simp only [List.getElem_toArray]); (try simp only [List.getElem_cons_succ]); (try simp only [List.getElem_cons_zero]); (try simp only [Act.put]); (try simp only [List.setIfInBounds_toArray]); (try simp only [List.set_cons_succ]); (try simp only [List.set_cons_zero])
    refine wpAnyH_take (i := 24) (v := ?_) rfl (by kernel_rfl) (by kernel_rfl) (by kernel_rfl) (fun _ _ _ h => h) (Or.inl ⟨by rfl, ?_⟩) (by assumption) ?_
    rotate_left
    focus (intro w hSw; (try dsimp only at hSw); obtain ⟨h0, h1, h2, h3, h4, h5, h6, h7, h8⟩ := hSw; (try simp only [List.getElem_toArray]); (try simp only [List.getElem_cons_succ]); (try simp only [List.getElem_cons_zero]); go_simp; (try with_reducible rfl); done)
    (try simp only [List.getElem_toArray]); (try simp only [List.getElem_cons_succ]); (try simp only [List.getElem_cons_zero]); (try simp only [Act.put]); (try simp only [List.setIfInBounds_toArray]); (try simp only [List.set_cons_succ]); (try simp only [List.set_cons_zero])
    refine wpAnyH_take (i := 25) (v := ?_) rfl (by kernel_rfl) (by kernel_rfl) (by kernel_rfl) (fun _ _ _ h => h) (Or.inl ⟨by rfl, ?_⟩) (by assumption) ?_
    rotate_left
    focus (intro w hSw; (try dsimp only at hSw); obtain ⟨h0, h1, h2, h3, h4, h5, h6, h7, h8⟩ := hSw; (try simp only [List.getElem_toArray]); (try simp only [List.getElem_cons_succ]); (try simp only [List.getElem_cons_zero]); go_simp; (try with_reducible rfl); done)
    (try simp only [List.getElem_toArray]); (try simp only [List.getElem_cons_succ]); (try simp only [List.getElem_cons_zero]); (try simp only [Act.put]); (try simp only [List.setIfInBounds_toArray]); (try simp only [List.set_cons_succ]); (try simp only [List.set_cons_zero])
    refine wpAnyH_ready (rs := [26]) (by kernel_rfl) (by simp) ?_
    refine AllReadyH.cons rfl (fun Kq hKq => ?_) AllReadyH.nil
    go_simp
    obtain ⟨w5, hw5⟩ : ∃ x, x = (w4.alloc (.cells #[.int .u64 0, .int .u64 0, .int .u64 0, .int .u64 0, .int .u64 0, .int .u64 0, .slice none 0 0, .bool false, .slice none 0 0] 26)).drew := ⟨_, rfl⟩
    rw [← hw5]
    have hb45 : Below w4.heap.size w4 w5 := by rw [hw5]; exact bdr (bal (Below.refl _ _) _)
    have hk45 : ∀ b o v, b < w4.heap.size → w4.cell? ⟨b, o, none⟩ = some v → w5.cell? ⟨b, o, none⟩ = some v := fun b o v hb hv => (hb45.cell (p := ⟨b, o, none⟩) hb).trans hv
    have hx5 : w5.heap[w4.heap.size]? = some (.cells #[.int .u64 0, .int .u64 0, .int .u64 0, .int .u64 0, .int .u64 0, .int .u64 0, .slice none 0 0, .bool false, .slice none 0 0] 26 (0, 0)) := by rw [hw5]; exact Go.heap_alloc_new w4 _
    refine hKq.out _ _ (⟨trivial, hk45 _ _ _ hgal z0, hk45 _ _ _ hgal z1, hk45 _ _ _ hgal z2, hk45 _ _ _ hgal z3, hk45 _ _ _ hgal z4, hk45 _ _ _ hgal z5, hk45 _ _ _ hlt4 y2, hk45 _ _ _ hgl k81⟩) (fun hHeld => ?_)
    clear hKq Kq
    (try simp only [List.getElem_toArray]); (try simp only [List.getElem_cons_succ]); (try simp only [List.getElem_cons_zero]); (try simp only [Act.put]); (try simp only [List.setIfInBounds_toArray]); (try simp only [List.set_cons_succ]); (try simp only [List.set_cons_zero])
    obtain ⟨v0, v1, v2, v3, v4, v5, v6, v7, v8, vf⟩ := cells9 hx5
    refine wpAnyH_ready (rs := [27]) (by kernel_rfl) (by simp) ?_
    refine AllReadyH.cons rfl (fun Kq hKq => ?_) AllReadyH.nil
    go_simp
    obtain ⟨w6, hw6⟩ : ∃ x, x = (w4.alloc (.cells #[.int .u64 (t.a0 : Int), .int .u64 (t.a1 : Int), .int .u64 (t.a2 : Int), .int .u64 (t.a3 : Int), .int .u64 (t.a4 : Int), .int .u64 (t.a5 : Int), .slice A3 t.inp.length c3, .bool t.mak, .slice A8 t.code.length c8] 26)).drew := ⟨_, rfl⟩
    rw [← hw6]
    have hb46 : Below w4.heap.size w4 w6 := by rw [hw6]; exact bdr (bal (Below.refl _ _) _)
    have hk46 : ∀ b o v, b < w4.heap.size → w4.cell? ⟨b, o, none⟩ = some v → w6.cell? ⟨b, o, none⟩ = some v := fun b o v hb hv => (hb46.cell (p := ⟨b, o, none⟩) hb).trans hv
    have hx6 : w6.heap[w4.heap.size]? = some (.cells #[.int .u64 (t.a0 : Int), .int .u64 (t.a1 : Int), .int .u64 (t.a2 : Int), .int .u64 (t.a3 : Int), .int .u64 (t.a4 : Int), .int .u64 (t.a5 : Int), .slice A3 t.inp.length c3, .bool t.mak, .slice A8 t.code.length c8] 26 (0, 0)) := by rw [hw6]; exact Go.heap_alloc_new w4 _
    refine hKq.out _ _ (⟨trivial, hk46 _ _ _ hgal z0, hk46 _ _ _ hgal z1, hk46 _ _ _ hgal z2, hk46 _ _ _ hgal z3, hk46 _ _ _ hgal z4, hk46 _ _ _ hgal z5, hk46 _ _ _ hlt4 y2, hk46 _ _ _ hgl k81⟩) (fun hHeld => ?_)
    clear hKq Kq
    (try simp only [List.getElem_toArray]); (try simp only [List.getElem_cons_succ]); (try simp only [List.getElem_cons_zero]); (try simp only [Act.put]); (try simp only [List.setIfInBounds_toArray]); (try simp only [List.set_cons_succ]); (try simp only [List.set_cons_zero])
    have HB46 := Go.Lib.hid hb46
    have HX6 := Go.Lib.hid hx6
    have HT4 : Hid (TxRd w4 (fun g => w.heap.size < g) t A3 c3 A8 c8) := Go.Lib.hid ⟨HOK.out, hcap3.1, hcap3.2, h8c, hcap8, h847, HOWN3.out.rdp _ fun g _ h _ => by have := HB1.out.size; have := HB2.out.size; omega, HR8.out.mono fun g _ h => by simp at h; omega⟩
    clear v0 v1 v2 v3 v4 v5 v6 v7 v8 vf hw5 hw6 hb45 hk45 hx5 hb46 hk46
    clear x0 x1 x2 x3 x4 x5 x6 x7 x8 xf y0 y1 y2 yf z0 z1 z2 z3 z4 z5 HS4
    refine wpAnyH_done (by kernel_rfl) ?_ _
    obtain ⟨x0, x1, x2, x3, x4, x5, x6, x7, x8, xf⟩ := cells9 hx6
    clear hx6
    go_wp2_with fail
    refine (tx_Right _ _ _ _ _ t.a4 _ _ t.inp.length c3 t.code.length c8 t.mak _).mono ?_
    rintro r w7 ⟨rfl, hb7⟩
    have hx7 := box_keep HX6.out hb7
    have HX7 := Go.Lib.hid hx7
    have HB47 := Go.Lib.hid (btr HB46.out hb7)
    have HXR := Go.Lib.hid (box_keep HX4.out HB47.out)
    clear x0 x1 x2 x3 x4 x5 x6 x7 x8 xf hb7
    obtain ⟨x0, x1, x2, x3, x4, x5, x6, x7, x8, xf⟩ := cells9 hx7
    obtain ⟨rr, hrr⟩ : ∃ r, r = rightB t.a4 t.inp.length t.mak t.code.length := ⟨_, rfl⟩
    rw [← hrr]
    have HRR : Hid (rightT t = rr) := Go.Lib.hid hrr.symm
    obtain ⟨y0, y1, y2, y3, y4, y5, y6, y7, y8, yf⟩ := cells9 HXR.out
    clear hx7 hrr
    cases rr with
    | false =>
      have HD := Go.Lib.hid (HDB.out HRR.out)
      go_wp2_with fail
      refine ret_txDec (g := w.heap.size) (e := 160) rfl rfl rfl (set0_heap HXR.out) ?_
      rw [HD.out]
      exact TxDecP.none (Kp.below (btr HB4.out HB47.out) (kp_set0 _ w.heap.size) fun i h => by omega)
    | true =>
      have HD := Go.Lib.hid (HDG.out HRR.out)
      go_wp2_with fail
      refine ret_txDec (g := w.heap.size) (e := 0) rfl rfl rfl (set9_heap HXR.out t A3 c3 A8 c8) ?_
      rw [HD.out]
      refine TxDecP.some ?_ (Kp.below (btr HB4.out HB47.out) (kp_set9 _ w.heap.size t A3 c3 A8 c8) fun i h => by omega)
      exact ((HT4.out.below HB47.out).kp (kp_set9 _ w.heap.size t A3 c3 A8 c8) fun g h e => by omega).mono fun g _ h => Nat.le_of_lt h

theorem tx_Decode (A : Option Addr) (n c : Nat) (xs : List UInt8) (w : World) (hr : Rd w A (bs xs)) (hn : n = xs.length) (hnc : n ≤ c) (hc : c ≤ 9223372036854775807 ∧ n ≤ 140737488355328) :
    Calls Try.prog 15 #[.slice A n c] w (TxDecP (decTx xs) w) := by
  cases hq : pDecode xs with
  | error e => exact tx_Decode_err A n c xs e w hq hr hn hnc hc
  | ok x =>
    by_cases hf : x.l = false ∨ x.its.length ≠ 9
    · exact tx_Decode_form A n c xs x w hq hf hr hn hnc hc
    · obtain ⟨l, bb, its⟩ := x
      simp only [Tree.l, Tree.its, not_or, Bool.not_eq_false, ne_eq, Decidable.not_not] at hf
      obtain ⟨rfl, h9⟩ := hf
      obtain ⟨i0, i1, i2, i3, i4, i5, i6, i7, i8, rfl⟩ := nine its h9
      exact tx_Decode_nine A n c xs bb i0 i1 i2 i3 i4 i5 i6 i7 i8 w hq hr hn hnc hc

end Go.Proofs.Ytgpaiphjbhkadaa
