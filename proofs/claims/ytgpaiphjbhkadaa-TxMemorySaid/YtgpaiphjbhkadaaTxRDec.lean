/- The reference's Decode, of transactions. -/
import Derived.Test.YtgpaiphjbhkadaaTxSame
import Derived.Test.YtgpaiphjbhkadaaLexKit
import Derived.Deep.LoopGhost
import Derived.Deep.DeepCutAuto
namespace Go.Proofs.Ytgpaiphjbhkadaa
open Go.ChangeShapes Go.WideShapes Go.ChangeAt Go.RowKit
set_option linter.unusedVariables false
set_option maxRecDepth 100000
attribute [local go_sem ↓] Go.wp_at_zero Go.wp_at_succ

theorem ret_txRDec {R : Ending → World → Prop} {a : Act} {w : World} {g : Nat} {v0 v1 v2 v3 v4 v5 v6 v7 v8 : Value} {e : Int} (h2 : a.tmps.getD 2 undef = .pointer (some ⟨g, 0, none⟩)) (h3 : a.tmps.getD 3 undef = .int .i64 e) (hd : a.defers = [])
    (h : w.heap[g]? = some (.cells #[v0, v1, v2, v3, v4, v5, v6, v7, v8] 26 (0, 0))) (hR : R (.returned (.tuple #[.agg #[v0, v1, v2, v3, v4, v5, v6, v7, v8], .int .i64 e])) w) : bodyPost Try.prog Try.f16 R .ret a w := by
  obtain ⟨c0, c1, c2, c3, c4, c5, c6, c7, c8, _⟩ := cells9 h
  refine bodyPost_ret (v := .tuple #[.agg #[v0, v1, v2, v3, v4, v5, v6, v7, v8], .int .i64 e]) ?_ hd hR
  simp at h2 h3
  simp [results, Try.results16, go_sem, c0, c1, c2, c3, c4, c5, c6, c7, c8, h2, h3]

/-- A transaction that is filled in the box xb, right behind the world wx. -/
structure Dr (wx : World) (xb : Nat) (W : World) (cs : Array Value) : Prop where
  at_ : wx.heap.size = xb
  row : W.heap[xb]? = some (.cells cs 26 (0, 0))
  bel : Below xb wx W
theorem Dr.lt {wx W : World} {xb : Nat} {cs : Array Value} (h : Dr wx xb W cs) : xb < W.heap.size := (Array.getElem?_eq_some_iff.1 h.row).1
theorem Dr.below {wx W W' : World} {xb : Nat} {cs : Array Value} (h : Dr wx xb W cs) (hb : Below W.heap.size W W') : Dr wx xb W' cs :=
  ⟨h.at_, (hb.block _ h.lt).trans h.row, by have hbe := h.bel; have he := h.at_; subst he; exact btr hbe hb⟩
theorem Dr.set {wx W : World} {xb : Nat} {cs : Array Value} (h : Dr wx xb W cs) (i : Nat) (u : Value) : Dr wx xb (W.setCell ⟨xb, i, none⟩ u) (cs.setIfInBounds i u) :=
  ⟨h.at_, heap_set_same h.row i u, by have hbe := h.bel; have he := h.at_; subst he; exact Kp.below hbe (Kp.setCell (S := fun k => k = wx.heap.size) (p := ⟨wx.heap.size, i, none⟩) _ rfl u) fun i e => by omega⟩
theorem Dr.kp {wx W W' : World} {xb : Nat} {cs : Array Value} {S : Nat → Prop} (h : Dr wx xb W cs) (hk : Kp S W W') (hs : ∀ i, S i → xb < i) : Dr wx xb W' cs :=
  ⟨h.at_, (hk.block _ h.lt fun e => by have := hs _ e; omega).trans h.row, by have hbe := h.bel; have he := h.at_; subst he; exact Kp.below hbe hk fun i e => by have := hs _ e; omega⟩
theorem Dr.wx {wx W : World} {xb : Nat} {cs : Array Value} (h : Dr wx xb W cs) : Below wx.heap.size wx W := by have hbe := h.bel; have he := h.at_; subst he; exact hbe
theorem okW_raw (x : Tree) : okW (isWord x.b) (wval x.b) = .tuple #[.int .u64 (rawN x : Int), .bool (isWord x.b)] := by
  unfold okW rawN
  cases isWord x.b <;> simp

/-- The bytes of an item that stands in a row. -/
theorem item_bytes {w wr : World} {P : Nat → Prop} {its : List Tree} {B : Option Addr} {cs : List Value} (hB : RdP w P B cs) (hL : RdL w P its cs) (hb : Below w.heap.size w wr) (j : Nat) (h : j < its.length) :
    ∃ g off A c, B = some ⟨g, off, none⟩ ∧ wr.cell? ⟨g, off + j * 3 + 1, none⟩ = some (.slice A its[j].b.length c) ∧ RdP wr P A (bs its[j].b) ∧ its[j].b.length ≤ c ∧ c ≤ 9223372036854775807 ∧ its[j].b.length ≤ 140737488355328 := by
  obtain ⟨g, off, p0, p1, p2, e, hp, _, k, _⟩ := item_cells hB hL hb j h
  generalize its[j] = T at hp ⊢
  obtain ⟨l, b, its'⟩ := T
  obtain ⟨A, c, B', d, cs', rfl, rfl, rfl, h1, h2, _, _, h3, _, _⟩ := hp.parts
  exact ⟨g, off, A, c, e, k, h3, h1, hp.cap, h2⟩

set_option maxHeartbeats 4000000 in
theorem ref_Decode_no (A : Option Addr) (n c : Nat) (xs : List UInt8) (w : World) (hq : (∃ e, pDecode xs = .error e) ∨ ∃ x, pDecode xs = .ok x ∧ x.its.length ≠ 9) (hr : Rd w A (bs xs)) (hn : n = xs.length) (hnc : n ≤ c) (hc : c ≤ 9223372036854775807 ∧ n ≤ 140737488355328) :
    Calls Try.prog 16 #[.slice A n c] w (TxDecP (refTx xs) w) := by
  have hD : refTx xs = none := by
    unfold refTx
    rcases hq with ⟨e, h⟩ | ⟨x, h, h9⟩
    · rw [h]
    · rw [h]
      simp [h9]
  have HD := Go.Lib.hid hD
  have HR := Go.Lib.hid hr
  have HN := Go.Lib.hid hn
  clear hr hn hD
  go_enter Try.func16, Try.ntmps16
  go_wp2_with fail
  refine (ref_Decode A n c xs _ (HR.out.alloc _) HN.out hnc hc).mono ?_
  intro r w1 hp
  unfold DecP at hp
  rcases hq with ⟨e, hq⟩ | ⟨x, hq, h9⟩
  · have he : e ≠ 0 := by
      have h : pFirst xs = .error e ∨ e = 24 := by
        unfold pDecode at hq
        split at hq
        · rename_i h
          injection hq with hq
          subst hq
          exact .inl h
        · split at hq
          · injection hq with hq
            exact .inr hq.symm
          · cases hq
      rcases h with h | h
      · have := pFirst_err h
        omega
      · omega
    have hen : (e != 0) = true := by rw [bne_iff_ne]; exact he
    rw [hq] at hp
    obtain ⟨rfl, hb1⟩ := hp
    unfold item0
    have hx := (hb1.block w.heap.size (by simp)).trans (Go.heap_alloc_new w _)
    have HX := Go.Lib.hid hx
    have hlt : w.heap.size < w1.heap.size := (Array.getElem?_eq_some_iff.1 hx).1
    obtain ⟨c0, c1, c2, c3, c4, c5, c6, c7, c8, cf⟩ := cells9 hx
    have HB1 := Go.Lib.hid (btr (bal (Below.refl _ _) _) hb1)
    clear hx hb1 hq he
    go_wp2_with fail
    refine ret_txRDec (g := w.heap.size) (e := 160) rfl rfl rfl ((Below.heap_alloc _ _ w.heap.size (by simpa using hlt)).trans (set0_heap HX.out)) ?_
    rw [HD.out]
    exact TxDecP.none (bal (Kp.below HB1.out (kp_set0 _ w.heap.size) fun i h => by omega) _)
  · rw [hq] at hp
    obtain ⟨l, b, its⟩ := x
    simp only [Tree.its] at h9
    obtain ⟨v0, v1, v2, rfl, ht, hb1⟩ := hp
    obtain ⟨a1, a2, a3, a4, a5, rfl, rfl, rfl, _⟩ := ht.parts
    have hx := (hb1.block w.heap.size (by simp)).trans (Go.heap_alloc_new w _)
    have HX := Go.Lib.hid hx
    have hlt : w.heap.size < w1.heap.size := (Array.getElem?_eq_some_iff.1 hx).1
    obtain ⟨c0, c1, c2, c3, c4, c5, c6, c7, c8, cf⟩ := cells9 hx
    have HB1 := Go.Lib.hid (btr (bal (Below.refl _ _) _) hb1)
    have h9' : ((its.length : Int) != 9) = true := by
      rw [bne_iff_ne]
      omega
    clear hx hb1 ht hq
    go_wp2_with fail
    refine ret_txRDec (g := w.heap.size) (e := 160) rfl rfl rfl ((Below.heap_alloc _ _ w.heap.size (by simpa using hlt)).trans (set0_heap HX.out)) ?_
    rw [HD.out]
    exact TxDecP.none (bal (Kp.below HB1.out (kp_set0 _ w.heap.size) fun i h => by omega) _)

set_option maxHeartbeats 16000000 in
theorem ref_Decode_nine (A : Option Addr) (n c : Nat) (xs : List UInt8) (lb : Bool) (bb : List UInt8) (i0 i1 i2 i3 i4 i5 i6 i7 i8 : Tree) (w : World) (hq : pDecode xs = .ok (.mk lb bb [i0, i1, i2, i3, i4, i5, i6, i7, i8])) (hr : Rd w A (bs xs)) (hn : n = xs.length) (hnc : n ≤ c) (hc : c ≤ 9223372036854775807 ∧ n ≤ 140737488355328) :
    Calls Try.prog 16 #[.slice A n c] w (TxDecP (refTx xs) w) := by
  have hm6 : i6.its.length ≤ 16777215 := ((dec_well hq).1.items i6 (by simp)).many
  obtain ⟨ui, hui, huz0, huz1, huz2⟩ := info_parts info_u64
  obtain ⟨t, ht⟩ : ∃ t, t = rawT (.mk lb bb [i0, i1, i2, i3, i4, i5, i6, i7, i8]) := ⟨_, rfl⟩
  have q0 : okW (isWord i0.b) (wval i0.b) = .tuple #[.int .u64 (t.a0 : Int), .bool (isWord i0.b)] := by rw [okW_raw, ht]; rfl
  have q1 : okW (isWord i1.b) (wval i1.b) = .tuple #[.int .u64 (t.a1 : Int), .bool (isWord i1.b)] := by rw [okW_raw, ht]; rfl
  have q2 : okW (isWord i2.b) (wval i2.b) = .tuple #[.int .u64 (t.a2 : Int), .bool (isWord i2.b)] := by rw [okW_raw, ht]; rfl
  have q3 : okW (isWord i3.b) (wval i3.b) = .tuple #[.int .u64 (t.a3 : Int), .bool (isWord i3.b)] := by rw [okW_raw, ht]; rfl
  have q4 : okW (isWord i4.b) (wval i4.b) = .tuple #[.int .u64 (t.a4 : Int), .bool (isWord i4.b)] := by rw [okW_raw, ht]; rfl
  have q5 : okW (isWord i5.b) (wval i5.b) = .tuple #[.int .u64 (t.a5 : Int), .bool (isWord i5.b)] := by rw [okW_raw, ht]; rfl
  have q6 : i6.its.map rawN = t.inp := by rw [ht]; rfl
  have q7 : decide (0 < i7.b.length) = t.mak := by rw [ht]; rfl
  have q8 : i8.b = t.code := by rw [ht]; rfl
  have hok : OkTx t := by rw [ht]; exact raw_ok _
  have href : refTx xs = if rightT t = true ∧ encT (treeT t) = xs then some t else none := by
    unfold refTx
    rw [hq]
    simp only [Tree.its, List.length_cons, List.length_nil, Nat.zero_add, Nat.reduceAdd, true_and]
    rw [ht]
  have Q0 := Go.Lib.hid q0; have Q1 := Go.Lib.hid q1; have Q2 := Go.Lib.hid q2; have Q3 := Go.Lib.hid q3; have Q4 := Go.Lib.hid q4; have Q5 := Go.Lib.hid q5
  have Q6 := Go.Lib.hid q6; have Q7 := Go.Lib.hid q7; have Q8 := Go.Lib.hid q8
  have HOK := Go.Lib.hid hok
  have HREF := Go.Lib.hid href
  have HM6 := Go.Lib.hid hm6
  have HQ := Go.Lib.hid hq
  have HR := Go.Lib.hid hr
  have HN := Go.Lib.hid hn
  clear hq hr hn hm6 ht q0 q1 q2 q3 q4 q5 q6 q7 q8 hok href
  go_enter Try.func16, Try.ntmps16
  go_wp2_with fail
  refine (ref_Decode A n c xs _ (HR.out.alloc _) HN.out hnc hc).mono ?_
  intro r w1 hp
  unfold DecP at hp
  rw [HQ.out] at hp
  obtain ⟨v0, v1, v2, rfl, ht, hb1⟩ := hp
  obtain ⟨a1, a2, B1, d1, cs, rfl, rfl, rfl, _, _, h9d, hdm, _, hrB, hrL⟩ := ht.parts
  simp only [List.length_cons, List.length_nil, Nat.zero_add, Nat.reduceAdd] at h9d ⊢
  obtain ⟨g, off, e6⟩ : ∃ g off, B1 = some ⟨g, off, none⟩ := by
    obtain ⟨g, off, e, _⟩ := hrB (by intro h; have := hrL.len; rw [h] at this; simp at this)
    exact ⟨g, off, e⟩
  subst e6
  have hx := (hb1.block w.heap.size (by simp)).trans (Go.heap_alloc_new w _)
  have hlt : w.heap.size < w1.heap.size := (Array.getElem?_eq_some_iff.1 hx).1
  have hs1 : (w.alloc (.cells #[.int .u64 0, .int .u64 0, .int .u64 0, .int .u64 0, .int .u64 0, .int .u64 0, .slice none 0 0, .bool false, .slice none 0 0] 26)).heap.size = w.heap.size + 1 := by simp
  obtain ⟨wx, hwx⟩ : ∃ x, x = w1.alloc (.cells #[.bool lb, .slice a1 bb.length a2, .slice (some ⟨g, off, none⟩) 9 d1] 45) := ⟨_, rfl⟩
  have hbx : Below w1.heap.size w1 wx := by rw [hwx]; exact bal (Below.refl _ _) _
  have hyx : wx.heap[w1.heap.size]? = some (.cells #[.bool lb, .slice a1 bb.length a2, .slice (some ⟨g, off, none⟩) 9 d1] 45 (0, 0)) := by rw [hwx]; exact Go.heap_alloc_new w1 _
  have hsx : wx.heap.size = w1.heap.size + 1 := by rw [hwx]; simp
  obtain ⟨W0, hW0⟩ : ∃ x, x = wx.alloc (.cells #[.int .u64 0, .int .u64 0, .int .u64 0, .int .u64 0, .int .u64 0, .int .u64 0, .slice none 0 0, .bool false, .slice none 0 0] 26) := ⟨_, rfl⟩
  have hdr : Dr wx (w1.heap.size + 1) W0 #[.int .u64 0, .int .u64 0, .int .u64 0, .int .u64 0, .int .u64 0, .int .u64 0, .slice none 0 0, .bool false, .slice none 0 0] := by
    rw [hW0]
    exact ⟨hsx, by rw [← hsx]; exact Go.heap_alloc_new wx _, by rw [← hsx]; exact bal (Below.refl _ _) _⟩
  have HD0 := Go.Lib.hid hdr
  have HW0 : Hid (W0 = (w1.alloc (.cells #[.bool lb, .slice a1 bb.length a2, .slice (some ⟨g, off, none⟩) 9 d1] 45)).alloc (.cells #[.int .u64 0, .int .u64 0, .int .u64 0, .int .u64 0, .int .u64 0, .int .u64 0, .slice none 0 0, .bool false, .slice none 0 0] 26)) := Go.Lib.hid (by rw [hW0, hwx])
  have HRB := Go.Lib.hid ((hrB.keep hbx.size fun g' _ hg => hbx.block g' hg).mono (Q := fun g => w.heap.size < g ∧ g ≠ w1.heap.size + 1) fun g hg h => by simp at h; omega)
  have HRL := Go.Lib.hid ((hrL.below hbx).mono (Q := fun g => w.heap.size < g ∧ g ≠ w1.heap.size + 1) fun g hg h => by simp at h; omega)
  have HYX := Go.Lib.hid hyx
  have HXX := Go.Lib.hid ((hbx.block _ hlt).trans hx)
  have HBX := Go.Lib.hid (btr (btr (bal (Below.refl w.heap.size w) (.cells #[.int .u64 0, .int .u64 0, .int .u64 0, .int .u64 0, .int .u64 0, .int .u64 0, .slice none 0 0, .bool false, .slice none 0 0] 26)) hb1) hbx)
  have HSX := Go.Lib.hid hsx
  clear hx hb1 ht hrB hrL hyx hbx hsx hW0 hdr hwx
  go_upto_region 5 with (fail)
  rw [← HW0.out]
  clear HW0
  have y2 : W0.cell? ⟨w1.heap.size, 2, none⟩ = some (.slice (some ⟨g, off, none⟩) 9 d1) := (cells3 ((HD0.out.wx.block _ (Array.getElem?_eq_some_iff.1 HYX.out).1).trans HYX.out)).2.2.1
  obtain ⟨g', off', A0, e0, e6, k1, hr1, _, _, _⟩ := item_bytes HRB.out HRL.out HD0.out.wx 0 (by simp)
  injection e6 with e6
  injection e6 with e6 e6'
  subst e6 e6'
  simp only [List.getElem_cons_zero, Nat.zero_mul, Nat.add_zero] at k1 hr1
  have HRI := Go.Lib.hid hr1
  clear hr1
  go_wp2_with fail
  refine (ref_WRead A0 i0.b.length e0 i0.b _ HRI.out.rd rfl).mono ?_
  rintro r v ⟨rfl, hb⟩
  have hdv := HD0.out.below hb
  obtain ⟨c0, c1, c2, c3, c4, c5, c6, c7, c8, cf⟩ := cells9 hdv.row
  have HDV := Go.Lib.hid hdv
  rw [Q0.out]
  clear hdv hb k1 y2 HRI
  go_upto_region 6 with (fail)
  obtain ⟨W1, hW⟩ : ∃ x, x = v.setCell ⟨w1.heap.size + 1, 0, none⟩ (.int .u64 (t.a0 : Int)) := ⟨_, rfl⟩
  rw [← hW]
  have hd : Dr wx (w1.heap.size + 1) W1 #[.int .u64 (t.a0 : Int), .int .u64 0, .int .u64 0, .int .u64 0, .int .u64 0, .int .u64 0, .slice none 0 0, .bool false, .slice none 0 0] := by rw [hW]; exact HDV.out.set 0 _
  have HD1 := Go.Lib.hid hd
  clear hW hd HDV HD0 c0 c1 c2 c3 c4 c5 c6 c7 c8 cf
  have y2 : W1.cell? ⟨w1.heap.size, 2, none⟩ = some (.slice (some ⟨g, off, none⟩) 9 d1) := (cells3 ((HD1.out.wx.block _ (Array.getElem?_eq_some_iff.1 HYX.out).1).trans HYX.out)).2.2.1
  obtain ⟨g', off', A1, e1, e6, k1, hr1, _, _, _⟩ := item_bytes HRB.out HRL.out HD1.out.wx 1 (by simp)
  injection e6 with e6
  injection e6 with e6 e6'
  subst e6 e6'
  simp only [List.getElem_cons_succ, List.getElem_cons_zero, Nat.reduceMul] at k1 hr1
  have HRI := Go.Lib.hid hr1
  clear hr1
  go_wp2_with fail
  refine (ref_WRead A1 i1.b.length e1 i1.b _ HRI.out.rd rfl).mono ?_
  rintro r v ⟨rfl, hb⟩
  have hdv := HD1.out.below hb
  obtain ⟨c0, c1, c2, c3, c4, c5, c6, c7, c8, cf⟩ := cells9 hdv.row
  have HDV := Go.Lib.hid hdv
  rw [Q1.out]
  clear hdv hb k1 y2 HRI
  go_upto_region 7 with (fail)
  obtain ⟨W2, hW⟩ : ∃ x, x = v.setCell ⟨w1.heap.size + 1, 1, none⟩ (.int .u64 (t.a1 : Int)) := ⟨_, rfl⟩
  rw [← hW]
  have hd : Dr wx (w1.heap.size + 1) W2 #[.int .u64 (t.a0 : Int), .int .u64 (t.a1 : Int), .int .u64 0, .int .u64 0, .int .u64 0, .int .u64 0, .slice none 0 0, .bool false, .slice none 0 0] := by rw [hW]; exact HDV.out.set 1 _
  have HD2 := Go.Lib.hid hd
  clear hW hd HDV HD1 c0 c1 c2 c3 c4 c5 c6 c7 c8 cf
  have y2 : W2.cell? ⟨w1.heap.size, 2, none⟩ = some (.slice (some ⟨g, off, none⟩) 9 d1) := (cells3 ((HD2.out.wx.block _ (Array.getElem?_eq_some_iff.1 HYX.out).1).trans HYX.out)).2.2.1
  obtain ⟨g', off', A2, e2, e6, k1, hr1, _, _, _⟩ := item_bytes HRB.out HRL.out HD2.out.wx 2 (by simp)
  injection e6 with e6
  injection e6 with e6 e6'
  subst e6 e6'
  simp only [List.getElem_cons_succ, List.getElem_cons_zero, Nat.reduceMul] at k1 hr1
  have HRI := Go.Lib.hid hr1
  clear hr1
  go_wp2_with fail
  refine (ref_WRead A2 i2.b.length e2 i2.b _ HRI.out.rd rfl).mono ?_
  rintro r v ⟨rfl, hb⟩
  have hdv := HD2.out.below hb
  obtain ⟨c0, c1, c2, c3, c4, c5, c6, c7, c8, cf⟩ := cells9 hdv.row
  have HDV := Go.Lib.hid hdv
  rw [Q2.out]
  clear hdv hb k1 y2 HRI
  go_upto_region 8 with (fail)
  obtain ⟨W3, hW⟩ : ∃ x, x = v.setCell ⟨w1.heap.size + 1, 2, none⟩ (.int .u64 (t.a2 : Int)) := ⟨_, rfl⟩
  rw [← hW]
  have hd : Dr wx (w1.heap.size + 1) W3 #[.int .u64 (t.a0 : Int), .int .u64 (t.a1 : Int), .int .u64 (t.a2 : Int), .int .u64 0, .int .u64 0, .int .u64 0, .slice none 0 0, .bool false, .slice none 0 0] := by rw [hW]; exact HDV.out.set 2 _
  have HD3 := Go.Lib.hid hd
  clear hW hd HDV HD2 c0 c1 c2 c3 c4 c5 c6 c7 c8 cf
  have y2 : W3.cell? ⟨w1.heap.size, 2, none⟩ = some (.slice (some ⟨g, off, none⟩) 9 d1) := (cells3 ((HD3.out.wx.block _ (Array.getElem?_eq_some_iff.1 HYX.out).1).trans HYX.out)).2.2.1
  obtain ⟨g', off', A3, e3, e6, k1, hr1, _, _, _⟩ := item_bytes HRB.out HRL.out HD3.out.wx 3 (by simp)
  injection e6 with e6
  injection e6 with e6 e6'
  subst e6 e6'
  simp only [List.getElem_cons_succ, List.getElem_cons_zero, Nat.reduceMul] at k1 hr1
  have HRI := Go.Lib.hid hr1
  clear hr1
  go_wp2_with fail
  refine (ref_WRead A3 i3.b.length e3 i3.b _ HRI.out.rd rfl).mono ?_
  rintro r v ⟨rfl, hb⟩
  have hdv := HD3.out.below hb
  obtain ⟨c0, c1, c2, c3, c4, c5, c6, c7, c8, cf⟩ := cells9 hdv.row
  have HDV := Go.Lib.hid hdv
  rw [Q3.out]
  clear hdv hb k1 y2 HRI
  go_upto_region 9 with (fail)
  obtain ⟨W4, hW⟩ : ∃ x, x = v.setCell ⟨w1.heap.size + 1, 3, none⟩ (.int .u64 (t.a3 : Int)) := ⟨_, rfl⟩
  rw [← hW]
  have hd : Dr wx (w1.heap.size + 1) W4 #[.int .u64 (t.a0 : Int), .int .u64 (t.a1 : Int), .int .u64 (t.a2 : Int), .int .u64 (t.a3 : Int), .int .u64 0, .int .u64 0, .slice none 0 0, .bool false, .slice none 0 0] := by rw [hW]; exact HDV.out.set 3 _
  have HD4 := Go.Lib.hid hd
  clear hW hd HDV HD3 c0 c1 c2 c3 c4 c5 c6 c7 c8 cf
  have y2 : W4.cell? ⟨w1.heap.size, 2, none⟩ = some (.slice (some ⟨g, off, none⟩) 9 d1) := (cells3 ((HD4.out.wx.block _ (Array.getElem?_eq_some_iff.1 HYX.out).1).trans HYX.out)).2.2.1
  obtain ⟨g', off', A4, e4, e6, k1, hr1, _, _, _⟩ := item_bytes HRB.out HRL.out HD4.out.wx 4 (by simp)
  injection e6 with e6
  injection e6 with e6 e6'
  subst e6 e6'
  simp only [List.getElem_cons_succ, List.getElem_cons_zero, Nat.reduceMul] at k1 hr1
  have HRI := Go.Lib.hid hr1
  clear hr1
  go_wp2_with fail
  refine (ref_WRead A4 i4.b.length e4 i4.b _ HRI.out.rd rfl).mono ?_
  rintro r v ⟨rfl, hb⟩
  have hdv := HD4.out.below hb
  obtain ⟨c0, c1, c2, c3, c4, c5, c6, c7, c8, cf⟩ := cells9 hdv.row
  have HDV := Go.Lib.hid hdv
  rw [Q4.out]
  clear hdv hb k1 y2 HRI
  go_upto_region 10 with (fail)
  obtain ⟨W5, hW⟩ : ∃ x, x = v.setCell ⟨w1.heap.size + 1, 4, none⟩ (.int .u64 (t.a4 : Int)) := ⟨_, rfl⟩
  rw [← hW]
  have hd : Dr wx (w1.heap.size + 1) W5 #[.int .u64 (t.a0 : Int), .int .u64 (t.a1 : Int), .int .u64 (t.a2 : Int), .int .u64 (t.a3 : Int), .int .u64 (t.a4 : Int), .int .u64 0, .slice none 0 0, .bool false, .slice none 0 0] := by rw [hW]; exact HDV.out.set 4 _
  have HD5 := Go.Lib.hid hd
  clear hW hd HDV HD4 c0 c1 c2 c3 c4 c5 c6 c7 c8 cf
  have y2 : W5.cell? ⟨w1.heap.size, 2, none⟩ = some (.slice (some ⟨g, off, none⟩) 9 d1) := (cells3 ((HD5.out.wx.block _ (Array.getElem?_eq_some_iff.1 HYX.out).1).trans HYX.out)).2.2.1
  obtain ⟨g', off', A5, e5, e6, k1, hr1, _, _, _⟩ := item_bytes HRB.out HRL.out HD5.out.wx 5 (by simp)
  injection e6 with e6
  injection e6 with e6 e6'
  subst e6 e6'
  simp only [List.getElem_cons_succ, List.getElem_cons_zero, Nat.reduceMul] at k1 hr1
  have HRI := Go.Lib.hid hr1
  clear hr1
  go_wp2_with fail
  refine (ref_WRead A5 i5.b.length e5 i5.b _ HRI.out.rd rfl).mono ?_
  rintro r v ⟨rfl, hb⟩
  have hdv := HD5.out.below hb
  obtain ⟨c0, c1, c2, c3, c4, c5, c6, c7, c8, cf⟩ := cells9 hdv.row
  have HDV := Go.Lib.hid hdv
  rw [Q5.out]
  clear hdv hb k1 y2 HRI
  go_upto_region 11 with (fail)
  obtain ⟨W6, hW⟩ : ∃ x, x = v.setCell ⟨w1.heap.size + 1, 5, none⟩ (.int .u64 (t.a5 : Int)) := ⟨_, rfl⟩
  rw [← hW]
  have hd : Dr wx (w1.heap.size + 1) W6 #[.int .u64 (t.a0 : Int), .int .u64 (t.a1 : Int), .int .u64 (t.a2 : Int), .int .u64 (t.a3 : Int), .int .u64 (t.a4 : Int), .int .u64 (t.a5 : Int), .slice none 0 0, .bool false, .slice none 0 0] := by rw [hW]; exact HDV.out.set 5 _
  have HD6 := Go.Lib.hid hd
  clear hW hd HDV HD5 c0 c1 c2 c3 c4 c5 c6 c7 c8 cf
  obtain ⟨l6, b6, its6⟩ := i6
  simp only [Tree.its] at Q6 HM6
  have hlen6 : t.inp.length = its6.length := by rw [← Q6.out]; simp
  have HL6 := Go.Lib.hid hlen6
  clear hlen6
  go_wp2_with fail
  go_loopg [7] its6.length (fun gg i wr => ∃ (j : Nat) (A6 : Option Addr) (c6 : Nat), i = .int .i64 j ∧ j ≤ its6.length ∧ gg = its6.length - j ∧ Hid (Dr wx (w1.heap.size + 1) wr #[.int .u64 (t.a0 : Int), .int .u64 (t.a1 : Int), .int .u64 (t.a2 : Int), .int .u64 (t.a3 : Int), .int .u64 (t.a4 : Int), .int .u64 (t.a5 : Int), .slice A6 j c6, .bool false, .slice none 0 0]) ∧ Hid (Own wr (w1.heap.size + 2) 22 1 A6 j c6 (u64s ((its6.take j).map rawN))))
  case atStart => exact ⟨0, none, 0, rfl, Nat.zero_le _, rfl, HD6, Go.Lib.hid (Own.nil _ _ _ _)⟩
  case round =>
    obtain ⟨j, A6, c6, rfl, hj, rfl, HDJ, HOJ⟩ := hrel
    have y2 : wr.cell? ⟨w1.heap.size, 2, none⟩ = some (.slice (some ⟨g, off, none⟩) 9 d1) := (cells3 ((HDJ.out.wx.block _ (Array.getElem?_eq_some_iff.1 HYX.out).1).trans HYX.out)).2.2.1
    obtain ⟨g', off', p0, p1, p2, e6, hp6, _, _, k62⟩ := item_cells HRB.out HRL.out HDJ.out.wx 6 (by simp)
    injection e6 with e6
    injection e6 with e6 e6'
    subst e6 e6'
    simp only [List.getElem_cons_succ, List.getElem_cons_zero, Nat.reduceMul] at k62 hp6
    obtain ⟨A7, c7, B6, d6, cs6, rfl, rfl, rfl, _, _, h6d, h6dm, _, hr6, hrl6⟩ := hp6.parts
    obtain ⟨c0, c1, c2, c3, c4, c5, cc6, c7', c8, cf⟩ := cells9 HDJ.out.row
    by_cases hlt : j < its6.length
    · obtain ⟨g6, o6, A8, e8, eb, k1, hr1, _, _, _⟩ := item_bytes hr6 hrl6 (Below.refl _ _) j hlt
      subst eb
      obtain ⟨T, hT⟩ : ∃ T, T = its6[j] := ⟨_, rfl⟩
      rw [← hT] at k1 hr1
      have htake : its6.take (j + 1) = its6.take j ++ [T] := by rw [hT]; exact List.take_succ_eq_append_getElem hlt
      have HTAKE := Go.Lib.hid htake
      have HRI := Go.Lib.hid hr1
      have hcap := HOJ.out.cap
      have hm6 := HM6.out
      clear hp6 hr6 hrl6 hr1 hT htake
      go_wp2_with fail
      refine (ref_WRead A8 T.b.length e8 T.b _ HRI.out.rd rfl).mono ?_
      rintro r v ⟨rfl, hb⟩
      have hdv := HDJ.out.below hb
      have hov := HOJ.out.below hb
      clear c0 c1 c2 c3 c4 c5 cc6 c7' c8 cf y2 k62 k1
      obtain ⟨c0, c1, c2, c3, c4, c5, cc6, c7', c8, cf⟩ := cells9 hdv.row
      have HDV := Go.Lib.hid hdv
      have HOV := Go.Lib.hid hov
      have hsv := hdv.lt
      rw [okW_raw]
      obtain ⟨u, hu⟩ : ∃ u, u = rawN T := ⟨_, rfl⟩
      rw [← hu]
      have HU := Go.Lib.hid hu
      clear hdv hov hb HRI hu
      go_wp2_with (at_builtin; refine wpList_append_o _ rfl _ _ 23 rfl 22 ui (.int .u64 0) 1 8 Try.underlying23 hui huz0 huz1 huz2 rfl (by decide) (w1.heap.size + 2) A6 j c6 _ rfl (HOV.out.alloc _) (some ⟨v.heap.size, 0, none⟩) 1 1 [.int .u64 (u : Int)] rfl rfl (by have h := rd_new v #[.int .u64 (u : Int)] 22; simpa using h) (by intro u hu; simp only [List.mem_singleton] at hu; subst hu; rfl) (by omega) (by unfold maxLen; omega) (by simp; omega) ?_; intro A3 c3x w3 hown3 hk3 hl3; have HO3 := Go.Lib.hid hown3; have hd3 : Dr wx (w1.heap.size + 1) w3 #[.int .u64 (t.a0 : Int), .int .u64 (t.a1 : Int), .int .u64 (t.a2 : Int), .int .u64 (t.a3 : Int), .int .u64 (t.a4 : Int), .int .u64 (t.a5 : Int), .slice A6 j c6, .bool false, .slice none 0 0] := (HDV.out.below (bal (Below.refl _ _) _)).kp hk3 (fun i h => by have := (HOV.out.block_lt i h.symm).1; omega); have HD3 := Go.Lib.hid hd3; clear c0 c1 c2 c3 c4 c5 cc6 c7' c8 cf; obtain ⟨c0, c1, c2, c3, c4, c5, cc6, c7', c8, cf⟩ := cells9 hd3.row; clear hown3 hk3 hl3 hd3)
      go_roundg (its6.length - (j + 1))
      case measure => omega
      case rel =>
        refine ⟨j + 1, A3, c3x, by go_num, by omega, rfl, Go.Lib.hid ?_, Go.Lib.hid ?_⟩
        · exact HD3.out.set 6 _
        · have e : u64s ((its6.take (j + 1)).map rawN) = u64s ((its6.take j).map rawN) ++ [.int .u64 (u : Int)] := by
            rw [HTAKE.out, List.map_append, HU.out]
            simp [u64s, u64v]
          rw [e]
          exact HO3.out.kp (Kp.setCell (S := fun k => k = w1.heap.size + 1) (p := ⟨w1.heap.size + 1, 6, none⟩) _ rfl _) fun i e h => by have := (HO3.out.block_lt i e).1; omega
    · have hjm : j = its6.length := by omega
      subst hjm
      rw [List.take_of_length_le (Nat.le_refl _), Q6.out] at HOJ
      rw [← HL6.out] at HDJ HOJ k62 ⊢
      have hlt' : ¬ ((t.inp.length : Int) < (t.inp.length : Int)) := by omega
      obtain ⟨g', off', A9, e9, e6, k71, _, _, _, _⟩ := item_bytes HRB.out HRL.out HDJ.out.wx 7 (by simp)
      injection e6 with e6
      injection e6 with e6 e6'
      subst e6 e6'
      simp only [List.getElem_cons_succ, List.getElem_cons_zero, Nat.reduceMul] at k71
      clear hp6 hr6 hrl6
      go_upto_region 17 with (fail)
      rw [Q7.out]
      obtain ⟨W7, hW⟩ : ∃ x, x = wr.setCell ⟨w1.heap.size + 1, 7, none⟩ (.bool t.mak) := ⟨_, rfl⟩
      rw [← hW]
      have hd7 : Dr wx (w1.heap.size + 1) W7 #[.int .u64 (t.a0 : Int), .int .u64 (t.a1 : Int), .int .u64 (t.a2 : Int), .int .u64 (t.a3 : Int), .int .u64 (t.a4 : Int), .int .u64 (t.a5 : Int), .slice A6 t.inp.length c6, .bool t.mak, .slice none 0 0] := by rw [hW]; exact HDJ.out.set 7 _
      have ho7 : Own W7 (w1.heap.size + 2) 22 1 A6 t.inp.length c6 (u64s t.inp) := by
        rw [hW]
        exact HOJ.out.kp (Kp.setCell (S := fun k => k = w1.heap.size + 1) (p := ⟨w1.heap.size + 1, 7, none⟩) _ rfl _) fun i e h => by have := (HOJ.out.block_lt i e).1; omega
      have HD7 := Go.Lib.hid hd7
      have HO7 := Go.Lib.hid ho7
      clear hW hd7 ho7 HDJ HOJ c0 c1 c2 c3 c4 c5 cc6 c7' c8 cf y2 k62 k71
      have y2 : W7.cell? ⟨w1.heap.size, 2, none⟩ = some (.slice (some ⟨g, off, none⟩) 9 d1) := (cells3 ((HD7.out.wx.block _ (Array.getElem?_eq_some_iff.1 HYX.out).1).trans HYX.out)).2.2.1
      obtain ⟨g', off', A8, e8, e6, k81, hr8, h8a, h8b, h8c⟩ := item_bytes HRB.out HRL.out HD7.out.wx 8 (by simp)
      injection e6 with e6
      injection e6 with e6 e6'
      subst e6 e6'
      simp only [List.getElem_cons_succ, List.getElem_cons_zero, Nat.reduceMul] at k81 hr8 h8a h8c
      rw [Q8.out] at k81 hr8 h8a h8c
      obtain ⟨c0, c1, c2, c3, c4, c5, cc6, c7', c8, cf⟩ := cells9 HD7.out.row
      go_upto_region 18 with (fail)
      obtain ⟨W8, hW⟩ : ∃ x, x = W7.setCell ⟨w1.heap.size + 1, 8, none⟩ (.slice A8 t.code.length e8) := ⟨_, rfl⟩
      rw [← hW]
      have hk8 : Kp (fun k => k = w1.heap.size + 1) W7 W8 := by rw [hW]; exact Kp.setCell (S := fun k => k = w1.heap.size + 1) (p := ⟨w1.heap.size + 1, 8, none⟩) _ rfl _
      have hd8 : Dr wx (w1.heap.size + 1) W8 #[.int .u64 (t.a0 : Int), .int .u64 (t.a1 : Int), .int .u64 (t.a2 : Int), .int .u64 (t.a3 : Int), .int .u64 (t.a4 : Int), .int .u64 (t.a5 : Int), .slice A6 t.inp.length c6, .bool t.mak, .slice A8 t.code.length e8] := by rw [hW]; exact HD7.out.set 8 _
      have HD8 := Go.Lib.hid hd8
      have hcap6 := HO7.out.cap
      have ht8 : TxRd W8 (fun g => w.heap.size < g) t A6 c6 A8 e8 :=
        ⟨HOK.out, hcap6.1, hcap6.2, h8a, h8b, h8c, (HO7.out.kp hk8 fun i e h => by have := (HO7.out.block_lt i e).1; omega).rdp _ fun g _ h _ => by omega,
          (hr8.keep hk8.size fun g hp hg => hk8.block g hg hp.2).mono fun g _ h => h.1⟩
      have HT8 := Go.Lib.hid ht8
      have hxx8 : W8.heap[w.heap.size]? = some (.cells #[.int .u64 0, .int .u64 0, .int .u64 0, .int .u64 0, .int .u64 0, .int .u64 0, .slice none 0 0, .bool false, .slice none 0 0] 26 (0, 0)) := (hd8.wx.block _ (Array.getElem?_eq_some_iff.1 HXX.out).1).trans HXX.out
      have HXX8 := Go.Lib.hid hxx8
      have HB8 := Go.Lib.hid (btr HBX.out hd8.wx)
      have HRX := Go.Lib.hid (HR.out.below HB8.out)
      clear hW hd8 HD7 HO7 c0 c1 c2 c3 c4 c5 cc6 c7' c8 cf y2 k81 hr8 ht8 hk8 hxx8
      refine wp_region_held_drew (S := fun _ => True) (by kernel_rfl) trivial (fun hHeld => ?_)
      change wpAnyH _ _ _ _ _ 11 (List.toArray [false, false, false, false, false, false, false, false, false, false, false]) _ _
      refine wpAnyH_and (N := (fun W => Below W8.heap.size W8 W)) ?_
      have hHeld := And.intro hHeld ((show Below W8.heap.size W8 W8.drew from bdr (Below.refl _ _)))
      (try dsimp only at hHeld)
      refine wpAnyH_take (i := 0) (v := ?_) rfl (by kernel_rfl) (by kernel_rfl) (by kernel_rfl) (fun _ _ _ h => h) (Or.inl ⟨by rfl, ?_⟩) (by assumption) ?_
      rotate_left
      focus (intro w hSw; (try dsimp only at hSw); obtain ⟨_, hSb⟩ := hSw; obtain ⟨c0, c1, c2, c3, c4, c5, cc6, c7', c8, cf⟩ := cells9 (HD8.out.below hSb).row; (try simp only [List.getElem_toArray]); (try simp only [List.getElem_cons_succ]); (try simp only [List.getElem_cons_zero]); go_simp; (try with_reducible rfl); done)
      (try simp only [List.getElem_toArray]); (try simp only [List.getElem_cons_succ]); (try simp only [List.getElem_cons_zero]); (try simp only [Act.put]); (try simp only [List.setIfInBounds_toArray]); (try simp only [List.set_cons_succ]); (try simp only [List.set_cons_zero])
      refine wpAnyH_ready (rs := [1]) (by kernel_rfl) (by simp) ?_
      refine AllReadyH.cons rfl (fun Kq hKq => ?_) AllReadyH.nil
      go_simp
      refine (ref_Right _ _ _ _ _ t.a4 _ _ t.inp.length c6 t.code.length e8 t.mak _).mono ?_
      rintro r v1 ⟨rfl, hb1⟩
      have hb8 : Below W8.heap.size W8 v1 := btr (bdr (Below.refl _ _)) hb1
      refine hKq.out _ _ (⟨trivial, hb8⟩) (fun hHeld => ?_)
      clear hKq Kq
      (try simp only [List.getElem_toArray]); (try simp only [List.getElem_cons_succ]); (try simp only [List.getElem_cons_zero]); (try simp only [Act.put]); (try simp only [List.setIfInBounds_toArray]); (try simp only [List.set_cons_succ]); (try simp only [List.set_cons_zero])
      have HB81 := Go.Lib.hid hb8
      clear hb1 hb8
      obtain ⟨rr, hrr⟩ : ∃ r, r = rightB t.a4 t.inp.length t.mak t.code.length := ⟨_, rfl⟩
      rw [← hrr]
      have hrt : rightT t = rr := hrr.symm
      have HRT := Go.Lib.hid hrt
      clear hrr hrt
      cases rr with
      | false =>
        refine wpAnyH_take (i := 2) (v := ?_) rfl (by kernel_rfl) (by kernel_rfl) (by kernel_rfl) (fun _ _ _ h => h) (Or.inl ⟨by rfl, ?_⟩) (by assumption) ?_
        rotate_left
        focus (intro w hSw; (try dsimp only at hSw); (try simp only [List.getElem_toArray]); (try simp only [List.getElem_cons_succ]); (try simp only [List.getElem_cons_zero]); go_simp; (try with_reducible rfl); done)
        (try simp only [List.getElem_toArray]); (try simp only [List.getElem_cons_succ]); (try simp only [List.getElem_cons_zero]); (try simp only [Act.put]); (try simp only [List.setIfInBounds_toArray]); (try simp only [List.set_cons_succ]); (try simp only [List.set_cons_zero])
        refine wpAnyH_take (i := 3) (v := ?_) rfl (by kernel_rfl) (by kernel_rfl) (by kernel_rfl) (fun _ _ _ h => h) (Or.inl ⟨by rfl, ?_⟩) (by assumption) ?_
        rotate_left
        focus (intro w hSw; (try dsimp only at hSw); (try simp only [List.getElem_toArray]); (try simp only [List.getElem_cons_succ]); (try simp only [List.getElem_cons_zero]); go_simp; (try with_reducible rfl); done)
        (try simp only [List.getElem_toArray]); (try simp only [List.getElem_cons_succ]); (try simp only [List.getElem_cons_zero]); (try simp only [Act.put]); (try simp only [List.setIfInBounds_toArray]); (try simp only [List.set_cons_succ]); (try simp only [List.set_cons_zero])
        refine wpAnyH_take (i := 4) (v := undef) rfl (by kernel_rfl) (by kernel_rfl) (by kernel_rfl) (fun _ _ _ h => h) (Or.inr ⟨by rfl, rfl⟩) (by assumption) ?_
        (try simp only [List.getElem_toArray]); (try simp only [List.getElem_cons_succ]); (try simp only [List.getElem_cons_zero]); (try simp only [Act.put]); (try simp only [List.setIfInBounds_toArray]); (try simp only [List.set_cons_succ]); (try simp only [List.set_cons_zero])
        refine wpAnyH_take (i := 5) (v := undef) rfl (by kernel_rfl) (by kernel_rfl) (by kernel_rfl) (fun _ _ _ h => h) (Or.inr ⟨by rfl, rfl⟩) (by assumption) ?_
        (try simp only [List.getElem_toArray]); (try simp only [List.getElem_cons_succ]); (try simp only [List.getElem_cons_zero]); (try simp only [Act.put]); (try simp only [List.setIfInBounds_toArray]); (try simp only [List.set_cons_succ]); (try simp only [List.set_cons_zero])
        refine wpAnyH_take (i := 6) (v := undef) rfl (by kernel_rfl) (by kernel_rfl) (by kernel_rfl) (fun _ _ _ h => h) (Or.inr ⟨by rfl, rfl⟩) (by assumption) ?_
        (try simp only [List.getElem_toArray]); (try simp only [List.getElem_cons_succ]); (try simp only [List.getElem_cons_zero]); (try simp only [Act.put]); (try simp only [List.setIfInBounds_toArray]); (try simp only [List.set_cons_succ]); (try simp only [List.set_cons_zero])
        refine wpAnyH_take (i := 7) (v := undef) rfl (by kernel_rfl) (by kernel_rfl) (by kernel_rfl) (fun _ _ _ h => h) (Or.inr ⟨by rfl, rfl⟩) (by assumption) ?_
        (try simp only [List.getElem_toArray]); (try simp only [List.getElem_cons_succ]); (try simp only [List.getElem_cons_zero]); (try simp only [Act.put]); (try simp only [List.setIfInBounds_toArray]); (try simp only [List.set_cons_succ]); (try simp only [List.set_cons_zero])
        refine wpAnyH_take (i := 8) (v := undef) rfl (by kernel_rfl) (by kernel_rfl) (by kernel_rfl) (fun _ _ _ h => h) (Or.inr ⟨by rfl, rfl⟩) (by assumption) ?_
        (try simp only [List.getElem_toArray]); (try simp only [List.getElem_cons_succ]); (try simp only [List.getElem_cons_zero]); (try simp only [Act.put]); (try simp only [List.setIfInBounds_toArray]); (try simp only [List.set_cons_succ]); (try simp only [List.set_cons_zero])
        refine wpAnyH_take (i := 9) (v := undef) rfl (by kernel_rfl) (by kernel_rfl) (by kernel_rfl) (fun _ _ _ h => h) (Or.inr ⟨by rfl, rfl⟩) (by assumption) ?_
        (try simp only [List.getElem_toArray]); (try simp only [List.getElem_cons_succ]); (try simp only [List.getElem_cons_zero]); (try simp only [Act.put]); (try simp only [List.setIfInBounds_toArray]); (try simp only [List.set_cons_succ]); (try simp only [List.set_cons_zero])
        refine wpAnyH_take (i := 10) (v := ?_) rfl (by kernel_rfl) (by kernel_rfl) (by kernel_rfl) (fun _ _ _ h => h) (Or.inl ⟨by rfl, ?_⟩) (by assumption) ?_
        rotate_left
        focus (intro w hSw; (try dsimp only at hSw); (try simp only [List.getElem_toArray]); (try simp only [List.getElem_cons_succ]); (try simp only [List.getElem_cons_zero]); go_simp; (try with_reducible rfl); done)
        (try simp only [List.getElem_toArray]); (try simp only [List.getElem_cons_succ]); (try simp only [List.getElem_cons_zero]); (try simp only [Act.put]); (try simp only [List.setIfInBounds_toArray]); (try simp only [List.set_cons_succ]); (try simp only [List.set_cons_zero])
        refine wpAnyH_done (by kernel_rfl) ?_ _
        have HXR := Go.Lib.hid (box_keep HXX8.out HB81.out)
        obtain ⟨x0, x1, x2, x3, x4, x5, x6, x7, x8, xf⟩ := cells9 HXR.out
        have hno : refTx xs = none := by
          rw [HREF.out, if_neg]
          rintro ⟨h, _⟩
          rw [HRT.out] at h
          cases h
        have HNO := Go.Lib.hid hno
        clear hno
        go_wp2_with fail
        refine ret_txRDec (g := w.heap.size) (e := 160) rfl rfl rfl (set0_heap HXR.out) ?_
        rw [HNO.out]
        exact TxDecP.none (Kp.below (btr HB8.out HB81.out) (kp_set0 _ w.heap.size) fun i h => by omega)
      | true =>
        obtain ⟨hl1, hl2⟩ := rightB_len HRT.out
        have hcm8 := HT8.out.hcm
        refine wpAnyH_take (i := 2) (v := ?_) rfl (by kernel_rfl) (by kernel_rfl) (by kernel_rfl) (fun _ _ _ h => h) (Or.inl ⟨by rfl, ?_⟩) (by assumption) ?_
        rotate_left
        focus (intro w hSw; (try dsimp only at hSw); (try simp only [List.getElem_toArray]); (try simp only [List.getElem_cons_succ]); (try simp only [List.getElem_cons_zero]); go_simp; (try with_reducible rfl); done)
        (try simp only [List.getElem_toArray]); (try simp only [List.getElem_cons_succ]); (try simp only [List.getElem_cons_zero]); (try simp only [Act.put]); (try simp only [List.setIfInBounds_toArray]); (try simp only [List.set_cons_succ]); (try simp only [List.set_cons_zero])
        refine wpAnyH_take (i := 3) (v := ?_) rfl (by kernel_rfl) (by kernel_rfl) (by kernel_rfl) (fun _ _ _ h => h) (Or.inl ⟨by rfl, ?_⟩) (by assumption) ?_
        rotate_left
        focus (intro w hSw; (try dsimp only at hSw); (try simp only [List.getElem_toArray]); (try simp only [List.getElem_cons_succ]); (try simp only [List.getElem_cons_zero]); go_simp; (try with_reducible rfl); done)
        (try simp only [List.getElem_toArray]); (try simp only [List.getElem_cons_succ]); (try simp only [List.getElem_cons_zero]); (try simp only [Act.put]); (try simp only [List.setIfInBounds_toArray]); (try simp only [List.set_cons_succ]); (try simp only [List.set_cons_zero])
        refine wpAnyH_take (i := 4) (v := ?_) rfl (by kernel_rfl) (by kernel_rfl) (by kernel_rfl) (fun _ _ _ h => h) (Or.inl ⟨by rfl, ?_⟩) (by assumption) ?_
        rotate_left
        focus (intro w hSw; (try dsimp only at hSw); obtain ⟨_, hSb⟩ := hSw; obtain ⟨c0, c1, c2, c3, c4, c5, cc6, c7', c8, cf⟩ := cells9 (HD8.out.below hSb).row; (try simp only [List.getElem_toArray]); (try simp only [List.getElem_cons_succ]); (try simp only [List.getElem_cons_zero]); go_simp; (try with_reducible rfl); done)
        (try simp only [List.getElem_toArray]); (try simp only [List.getElem_cons_succ]); (try simp only [List.getElem_cons_zero]); (try simp only [Act.put]); (try simp only [List.setIfInBounds_toArray]); (try simp only [List.set_cons_succ]); (try simp only [List.set_cons_zero])
        refine wpAnyH_take (i := 7) (v := ?_) rfl (by kernel_rfl) (by kernel_rfl) (by kernel_rfl) (fun _ _ _ h => h) (Or.inl ⟨by rfl, ?_⟩) (by assumption) ?_
        rotate_left
        focus (intro w hSw; (try dsimp only at hSw); (try simp only [List.getElem_toArray]); (try simp only [List.getElem_cons_succ]); (try simp only [List.getElem_cons_zero]); go_simp; (try with_reducible rfl); done)
        (try simp only [List.getElem_toArray]); (try simp only [List.getElem_cons_succ]); (try simp only [List.getElem_cons_zero]); (try simp only [Act.put]); (try simp only [List.setIfInBounds_toArray]); (try simp only [List.set_cons_succ]); (try simp only [List.set_cons_zero])
        refine wpAnyH_take (i := 8) (v := ?_) rfl (by kernel_rfl) (by kernel_rfl) (by kernel_rfl) (fun _ _ _ h => h) (Or.inl ⟨by rfl, ?_⟩) (by assumption) ?_
        rotate_left
        focus (intro w hSw; (try dsimp only at hSw); obtain ⟨_, hSb⟩ := hSw; have kk := conv_bs (P := Try.prog) w 24 5 9 Try.underlying24 Try.underlying5 Try.underlying9 A n c xs (HRX.out.below hSb) HN.out.symm; (try simp only [List.getElem_toArray]); (try simp only [List.getElem_cons_succ]); (try simp only [List.getElem_cons_zero]); go_simp; (try with_reducible rfl); done)
        (try simp only [List.getElem_toArray]); (try simp only [List.getElem_cons_succ]); (try simp only [List.getElem_cons_zero]); (try simp only [Act.put]); (try simp only [List.setIfInBounds_toArray]); (try simp only [List.set_cons_succ]); (try simp only [List.set_cons_zero])
        refine wpAnyH_ready (rs := [5]) (by kernel_rfl) (by simp) ?_
        refine AllReadyH.cons rfl (fun Kq hKq => ?_) AllReadyH.nil
        go_simp
        refine (ref_Bytes16 t hl1 hl2 HOK.out A6 A8 c6 e8 _ (HT8.out.below HB81.out).hA.rd (HT8.out.below HB81.out).hB.rd HT8.out.hd HT8.out.hc HT8.out.hcm).mono ?_
        rintro r v2 ⟨A5, n5, c5, rfl, hown5, hb5⟩
        have hb82 : Below W8.heap.size W8 v2 := btr HB81.out hb5
        refine hKq.out _ _ (⟨trivial, hb82⟩) (fun hHeld => ?_)
        clear hKq Kq
        (try simp only [List.getElem_toArray]); (try simp only [List.getElem_cons_succ]); (try simp only [List.getElem_cons_zero]); (try simp only [Act.put]); (try simp only [List.setIfInBounds_toArray]); (try simp only [List.set_cons_succ]); (try simp only [List.set_cons_zero])
        obtain ⟨eb, heb⟩ : ∃ e, e = encT (treeT t) := ⟨_, rfl⟩
        rw [← heb] at hown5
        have hn5 : eb.length = n5 := by have := hown5.len; simpa using this
        have HR5 := Go.Lib.hid hown5.rd
        have HB82 := Go.Lib.hid hb82
        have HEB := Go.Lib.hid heb
        refine wpAnyH_and (N := (fun W => Below v2.heap.size v2 W)) ?_
        have hHeld := And.intro hHeld ((show Below v2.heap.size v2 v2 from Below.refl _ _))
        (try dsimp only at hHeld)
        clear hown5 hb5 hb82 heb
        refine wpAnyH_take (i := 6) (v := ?_) rfl (by kernel_rfl) (by kernel_rfl) (by kernel_rfl) (fun _ _ _ h => h) (Or.inl ⟨by rfl, ?_⟩) (by assumption) ?_
        rotate_left
        focus (intro w hSw; (try dsimp only at hSw); obtain ⟨_, hSb⟩ := hSw; have kk := conv_bs (P := Try.prog) w 24 5 9 Try.underlying24 Try.underlying5 Try.underlying9 A5 n5 c5 eb (HR5.out.below hSb) hn5; (try simp only [List.getElem_toArray]); (try simp only [List.getElem_cons_succ]); (try simp only [List.getElem_cons_zero]); go_simp; (try with_reducible rfl); done)
        (try simp only [List.getElem_toArray]); (try simp only [List.getElem_cons_succ]); (try simp only [List.getElem_cons_zero]); (try simp only [Act.put]); (try simp only [List.setIfInBounds_toArray]); (try simp only [List.set_cons_succ]); (try simp only [List.set_cons_zero])
        by_cases heq : eb = xs
        · subst heq
          refine wpAnyH_take (i := 9) (v := ?_) rfl (by kernel_rfl) (by kernel_rfl) (by kernel_rfl) (fun _ _ _ h => h) (Or.inl ⟨by rfl, ?_⟩) (by assumption) ?_
          rotate_left
          focus (intro w hSw; (try dsimp only at hSw); (try simp only [List.getElem_toArray]); (try simp only [List.getElem_cons_succ]); (try simp only [List.getElem_cons_zero]); go_simp; (try with_reducible rfl); done)
          (try simp only [List.getElem_toArray]); (try simp only [List.getElem_cons_succ]); (try simp only [List.getElem_cons_zero]); (try simp only [Act.put]); (try simp only [List.setIfInBounds_toArray]); (try simp only [List.set_cons_succ]); (try simp only [List.set_cons_zero])
          refine wpAnyH_take (i := 10) (v := ?_) rfl (by kernel_rfl) (by kernel_rfl) (by kernel_rfl) (fun _ _ _ h => h) (Or.inl ⟨by rfl, ?_⟩) (by assumption) ?_
          rotate_left
          focus (intro w hSw; (try dsimp only at hSw); (try simp only [List.getElem_toArray]); (try simp only [List.getElem_cons_succ]); (try simp only [List.getElem_cons_zero]); go_simp; (try with_reducible rfl); done)
          (try simp only [List.getElem_toArray]); (try simp only [List.getElem_cons_succ]); (try simp only [List.getElem_cons_zero]); (try simp only [Act.put]); (try simp only [List.setIfInBounds_toArray]); (try simp only [List.set_cons_succ]); (try simp only [List.set_cons_zero])
          refine wpAnyH_done (by kernel_rfl) ?_ _
          have HXR := Go.Lib.hid (box_keep HXX8.out HB82.out)
          obtain ⟨x0, x1, x2, x3, x4, x5, x6, x7, x8, xf⟩ := cells9 HXR.out
          obtain ⟨c0, c1, c2, c3, c4, c5, cc6, c7', c8, cf⟩ := cells9 (HD8.out.below HB82.out).row
          have hyes : refTx eb = some t := by
            rw [HREF.out, if_pos ⟨HRT.out, HEB.out.symm⟩]
          have HYES := Go.Lib.hid hyes
          clear hyes
          go_wp2_with fail
          refine ret_txRDec (g := w.heap.size) (e := 0) rfl rfl rfl (set9_heap HXR.out t A6 c6 A8 e8) ?_
          rw [HYES.out]
          refine TxDecP.some ?_ (Kp.below (btr HB8.out HB82.out) (kp_set9 _ w.heap.size t A6 c6 A8 e8) fun i h => by omega)
          exact ((HT8.out.below HB82.out).kp (kp_set9 _ w.heap.size t A6 c6 A8 e8) fun g h e => by omega).mono fun g _ h => Nat.le_of_lt h
        · have q : (eb == xs) = false := beq_eq_false_iff_ne.2 heq
          refine wpAnyH_take (i := 9) (v := ?_) rfl (by kernel_rfl) (by kernel_rfl) (by kernel_rfl) (fun _ _ _ h => h) (Or.inl ⟨by rfl, ?_⟩) (by assumption) ?_
          rotate_left
          focus (intro w hSw; (try dsimp only at hSw); (try simp only [List.getElem_toArray]); (try simp only [List.getElem_cons_succ]); (try simp only [List.getElem_cons_zero]); go_simp; (try with_reducible rfl); done)
          (try simp only [List.getElem_toArray]); (try simp only [List.getElem_cons_succ]); (try simp only [List.getElem_cons_zero]); (try simp only [Act.put]); (try simp only [List.setIfInBounds_toArray]); (try simp only [List.set_cons_succ]); (try simp only [List.set_cons_zero])
          refine wpAnyH_take (i := 10) (v := ?_) rfl (by kernel_rfl) (by kernel_rfl) (by kernel_rfl) (fun _ _ _ h => h) (Or.inl ⟨by rfl, ?_⟩) (by assumption) ?_
          rotate_left
          focus (intro w hSw; (try dsimp only at hSw); (try simp only [List.getElem_toArray]); (try simp only [List.getElem_cons_succ]); (try simp only [List.getElem_cons_zero]); go_simp; (try with_reducible rfl); done)
          (try simp only [List.getElem_toArray]); (try simp only [List.getElem_cons_succ]); (try simp only [List.getElem_cons_zero]); (try simp only [Act.put]); (try simp only [List.setIfInBounds_toArray]); (try simp only [List.set_cons_succ]); (try simp only [List.set_cons_zero])
          refine wpAnyH_done (by kernel_rfl) ?_ _
          have HXR := Go.Lib.hid (box_keep HXX8.out HB82.out)
          obtain ⟨x0, x1, x2, x3, x4, x5, x6, x7, x8, xf⟩ := cells9 HXR.out
          have hno : refTx xs = none := by
            rw [HREF.out, if_neg]
            rintro ⟨_, h⟩
            exact heq (HEB.out.trans h)
          have HNO := Go.Lib.hid hno
          clear hno
          go_wp2_with fail
          refine ret_txRDec (g := w.heap.size) (e := 160) rfl rfl rfl (set0_heap HXR.out) ?_
          rw [HNO.out]
          exact TxDecP.none (Kp.below (btr HB8.out HB82.out) (kp_set0 _ w.heap.size) fun i h => by omega)

theorem ref_Decode16 (A : Option Addr) (n c : Nat) (xs : List UInt8) (w : World) (hr : Rd w A (bs xs)) (hn : n = xs.length) (hnc : n ≤ c) (hc : c ≤ 9223372036854775807 ∧ n ≤ 140737488355328) :
    Calls Try.prog 16 #[.slice A n c] w (TxDecP (decTx xs) w) := by
  rw [← refTx_eq]
  cases hq : pDecode xs with
  | error e => exact ref_Decode_no A n c xs w (.inl ⟨e, hq⟩) hr hn hnc hc
  | ok x =>
    by_cases h9 : x.its.length = 9
    · obtain ⟨l, bb, its⟩ := x
      simp only [Tree.its] at h9
      obtain ⟨i0, i1, i2, i3, i4, i5, i6, i7, i8, rfl⟩ := nine its h9
      exact ref_Decode_nine A n c xs l bb i0 i1 i2 i3 i4 i5 i6 i7 i8 w hq hr hn hnc hc
    · exact ref_Decode_no A n c xs w (.inr ⟨x, hq, h9⟩) hr hn hnc hc

end Go.Proofs.Ytgpaiphjbhkadaa
