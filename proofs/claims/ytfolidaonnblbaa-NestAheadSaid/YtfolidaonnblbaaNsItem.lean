/- The program's reader of items: list and item. -/
import Derived.Test.YtfolidaonnblbaaNsClone
import Derived.Deep.RegionHeld3
import Derived.Deep.RegionLaw
namespace Go.Proofs.Ytfolidaonnblbaa
open Go.ChangeShapes Go.WideShapes Go.RowKit
set_option linter.unusedVariables false

theorem RdrAt.lt {w : World} {rb : Nat} {xs : List UInt8} {e : Int} (h : RdrAt w rb xs e) : rb < w.heap.size := by
  obtain ⟨A, n, c, hb, _⟩ := h
  exact hb.lt
theorem RdrAt.keep {w w' : World} {rb : Nat} {xs : List UInt8} {e : Int} (h : RdrAt w rb xs e) (hk : w'.heap[rb]? = w.heap[rb]?) (hr : ∀ A, Rd w A (bs xs) → Rd w' A (bs xs)) : RdrAt w' rb xs e := by
  obtain ⟨A, n, c, hb, hn, hnc, hc, hr', hap⟩ := h
  exact ⟨A, n, c, hk.trans hb, hn, hnc, hc, hr _ hr', hap⟩
theorem RdrAt.below {w w' : World} {rb : Nat} {xs : List UInt8} {e : Int} (h : RdrAt w rb xs e) (hb : Below w.heap.size w w') : RdrAt w' rb xs e :=
  h.keep (hb.block rb h.lt) fun A hA => hA.below hb
theorem RdrAt.alloc {w : World} {rb : Nat} {xs : List UInt8} {e : Int} (h : RdrAt w rb xs e) (o : Obj) : RdrAt (w.alloc o) rb xs e := h.below (bal (Below.refl _ _) o)
theorem RdrAt.drew {w : World} {rb : Nat} {xs : List UInt8} {e : Int} (h : RdrAt w rb xs e) : RdrAt w.drew rb xs e := h

theorem rd_new (w : World) (cs : Array Value) (t : TypeId) : Rd (w.alloc (.cells cs t)) (some ⟨w.heap.size, 0, none⟩) cs.toList := fun _ =>
  ⟨w.heap.size, 0, rfl, by simp, fun j u hu => by
    rw [cell_of_row _ _ _ cs t (0, 0) (Go.heap_alloc_new w _)]
    simpa using hu⟩
theorem Kp.setNew {S : Nat → Prop} {w w1 : World} (h : Kp S w w1) {p : Addr} (hp : w.heap.size ≤ p.block) (u : Value) : Kp S w (w1.setCell p u) :=
  ⟨h.os, h.tape, h.output, by simpa [World.setCell] using h.size, fun k hk hs => (Below.heap_setCell w1 p u k (by omega)).trans (h.block k hk hs)⟩
theorem heap_set3 {w : World} {g : Nat} {a b c x y z : Value} {t : TypeId} {fr : Nat × Nat} (h : w.heap[g]? = some (.cells #[a, b, c] t fr)) :
    (((w.setCell ⟨g, 0, none⟩ x).setCell ⟨g, 1, none⟩ y).setCell ⟨g, 2, none⟩ z).heap[g]? = some (.cells #[x, y, z] t fr) := by
  rw [heap_set_same (heap_set_same (heap_set_same h 0 x) 1 y) 2 z]
  rfl
theorem kp_set3 (w : World) (g : Nat) (x y z : Value) : Kp (fun k => k = g) w (((w.setCell ⟨g, 0, none⟩ x).setCell ⟨g, 1, none⟩ y).setCell ⟨g, 2, none⟩ z) :=
  ((Kp.setCell (S := fun k => k = g) (p := ⟨g, 0, none⟩) w rfl x).trans (Kp.setCell (S := fun k => k = g) (p := ⟨g, 1, none⟩) _ rfl y)).trans (Kp.setCell (S := fun k => k = g) (p := ⟨g, 2, none⟩) _ rfl z)
/-- A store over blocks that are new: nothing of what was is touched. -/
theorem Kp.thenNew {S T : Nat → Prop} {a b c : World} (h : Kp S a b) (k : Kp T b c) (ht : ∀ i, T i → a.heap.size ≤ i) : Kp S a c :=
  h.then k fun i hi hT => absurd (ht i hT) (by omega)
/-- A reader stays where nothing is written up to its block. -/
theorem RdrAt.kp {S : Nat → Prop} {w w' : World} {rb : Nat} {xs : List UInt8} {e : Int} (h : RdrAt w rb xs e) (hk : Kp S w w') (hs : ∀ g, g ≤ rb → ¬ S g) : RdrAt w' rb xs e := by
  obtain ⟨A, n, c, hb, hn, hnc, hc, hr, hap⟩ := h
  refine ⟨A, n, c, (hk.block rb hb.lt (hs rb (Nat.le_refl _))).trans hb, hn, hnc, hc, ?_, hap⟩
  by_cases hx : xs = []
  · subst hx; exact Rd.nil _ _
  · exact hr.kp hk fun g e => hs g (Nat.le_of_lt (hap hx g e))

/-- What item answers of rb's reader that has xs ahead of it; k: how many bytes are gone that p counts. -/
def ItemP (rb : Nat) (xs : List UInt8) (w : World) (k : Nat) (p : Except Int (Tree × Nat)) (r : Ending) (w' : World) : Prop :=
  match p with
  | .ok (t, m) => ∃ v0 v1 v2, r = .returned (.agg #[v0, v1, v2]) ∧ RdT w' (fun g => w.heap.size ≤ g) t v0 v1 v2 ∧ RdrAt w' rb (xs.drop (m - k)) 0 ∧ Kp (fun k => k = rb) w w'
  | .error e => r = .returned item0 ∧ (∃ A n c, Rdr w' rb A n c e) ∧ Kp (fun k => k = rb) w w'
def ItemSt (d : Nat) : Prop := ∀ (rb : Nat) (xs : List UInt8) (D : Int) (w : World), RdrAt w rb xs 0 → D = ((8 - d : Nat) : Int) → 
    Calls Try.prog 26 #[.pointer (some ⟨rb, 0, none⟩), .int .i64 D] w (ItemP rb xs w 0 (pItem d xs))

theorem below_kp {B : Nat} {S : Nat → Prop} {a b c : World} (h : Below B a b) (k : Kp S b c) (hB : B ≤ a.heap.size) (hs : ∀ i, S i → B ≤ i) : Below B a c :=
  ⟨k.os.trans h.os, k.tape.trans h.tape, k.output.trans h.output, Nat.le_trans h.size k.size, fun i hi => (k.block i (Nat.lt_of_lt_of_le (Nat.lt_of_lt_of_le hi hB) h.size) fun s => by have := hs i s; omega).trans (h.block i hi)⟩
/-- In the midst of a list's loop. -/
def LInv (w2 : World) (ib xb : Nat) (p : List UInt8 → Except Int (Tree × Nat)) (R : Except Int (List Tree)) (g : Nat) (wr : World) : Prop :=
  ∃ (acc : List Tree) (B : Option Addr) (d : Nat) (cs : List Value),
    Below w2.heap.size w2 wr ∧ wr.heap[xb]? = some (.cells #[.bool true, .slice none 0 0, .slice B acc.length d] 25 (0, 0)) ∧ Own wr (xb + 1) 25 3 B acc.length d cs ∧
    RdL wr (fun g => xb < g ∧ some g ≠ B.map (·.block)) acc cs ∧
    ((∃ rest f, RdrAt wr ib rest 0 ∧ rest.length ≤ f ∧ acc.length + rest.length ≤ 16777215 ∧ pThen acc (pLoop p f rest) = R ∧ g = rest.length + 1) ∨ (∃ e A n c, Rdr wr ib A n c e ∧ e ≠ 0 ∧ R = .error e ∧ g = 0))

theorem RdT.one {w : World} {P : Nat → Prop} {t : Tree} {v0 v1 v2 : Value} (h : RdT w P t v0 v1 v2) : ∀ u ∈ [v0, v1, v2], u.oneCell' = true := by
  obtain ⟨A, n, c, B, m, d, rfl, rfl, rfl⟩ := h.shape
  intro u hu
  simp only [List.mem_cons, List.not_mem_nil, or_false] at hu
  rcases hu with rfl | rfl | rfl <;> rfl

/-- An item is put behind those that are there; o: what its making left. -/
theorem LInv.put {wr w5 w6 : World} {ib xb : Nat} {acc : List Tree} {B B' : Option Addr} {d d' : Nat} {cs : List Value} {t : Tree} {v0 v1 v2 : Value} {w2 : World} {o : Obj}
    (hw : Below w2.heap.size w2 wr) (hx : wr.heap[xb]? = some (.cells #[.bool true, .slice none 0 0, .slice B acc.length d] 25 (0, 0)))
    (hown : Own wr (xb + 1) 25 3 B acc.length d cs) (hrl : RdL wr (fun g => xb < g ∧ some g ≠ B.map (·.block)) acc cs)
    (hib : w2.heap.size ≤ ib ∧ ib < xb) (hxl : xb < wr.heap.size) (hk5 : Kp (fun k => k = ib) wr w5) (ht : RdT w5 (fun g => wr.heap.size ≤ g) t v0 v1 v2)
    (hown6 : Own w6 (xb + 1) 25 3 B' (acc.length + 1) d' (cs ++ [v0, v1, v2])) (hk6 : Kp (fun k => some k = B.map (·.block)) (w5.alloc o) w6) (hlie0 : Lie B' B (w5.alloc o).heap.size) :
    Below w2.heap.size w2 (w6.setCell ⟨xb, 2, none⟩ (.slice B' (acc.length + 1) d')) ∧
    (w6.setCell ⟨xb, 2, none⟩ (.slice B' (acc.length + 1) d')).heap[xb]? = some (.cells #[.bool true, .slice none 0 0, .slice B' (acc ++ [t]).length d'] 25 (0, 0)) ∧
    Own (w6.setCell ⟨xb, 2, none⟩ (.slice B' (acc.length + 1) d')) (xb + 1) 25 3 B' (acc ++ [t]).length d' (cs ++ [v0, v1, v2]) ∧
    RdL (w6.setCell ⟨xb, 2, none⟩ (.slice B' (acc.length + 1) d')) (fun g => xb < g ∧ some g ≠ B'.map (·.block)) (acc ++ [t]) (cs ++ [v0, v1, v2]) ∧
    Kp (fun k => k = ib ∨ xb ≤ k) wr (w6.setCell ⟨xb, 2, none⟩ (.slice B' (acc.length + 1) d')) := by
  have hlie : Lie B' B (w5.heap.size + 1) := by simpa using hlie0
  have hbl := hown.block_lt
  have hs5 := hk5.size
  have hs6 : w5.heap.size + 1 ≤ w6.heap.size := by simpa using hk6.size
  have hlt : ∀ g, B.map (·.block) = some g → xb < g := fun g e => by have := (hbl g e).1; omega
  have hxB : ¬ some xb = B.map (·.block) := fun e => by have := hlt xb e.symm; omega
  have hx6 : w6.heap[xb]? = some (.cells #[.bool true, .slice none 0 0, .slice B acc.length d] 25 (0, 0)) :=
    (hk6.block xb (by simp; omega) hxB).trans ((Below.heap_alloc w5 o xb (by omega)).trans ((hk5.block xb hxl (by omega)).trans hx))
  have hkA : Kp (fun k => k = ib ∨ xb ≤ k) wr w5 := hk5.mono fun k _ h => .inl h
  have hkB : Kp (fun k => k = ib ∨ xb ≤ k) wr w6 := (hkA.trans (Kp.alloc _ _ o)).then hk6 fun k _ h => .inr (Nat.le_of_lt (hlt k h.symm))
  have hkC := hkB.trans (Kp.setCell (S := fun k => k = ib ∨ xb ≤ k) (p := ⟨xb, 2, none⟩) w6 (.inr (Nat.le_refl _)) (.slice B' (acc.length + 1) d'))
  refine ⟨below_kp hw hkC (Nat.le_refl _) ?_, ?_, ?_, ?_, hkC⟩
  · rintro k (h | h) <;> omega
  · rw [heap_set_same hx6, List.length_append]
    rfl
  · rw [List.length_append]
    exact hown6.setFar (p := ⟨xb, 2, none⟩) (fun g e => by have := (hown6.block_lt g e).1; show g ≠ xb; omega) _
  · have hne' : ∀ g, xb < g → g < w5.heap.size → some g ≠ B.map (·.block) → some g ≠ B'.map (·.block) := by
      intro g _ hg hB h
      rcases hlie with e | ⟨j, e, hj⟩
      · exact hB (h.trans e)
      · rw [e] at h
        injection h with h
        omega
    have r1 : RdL w5 (fun g => xb < g ∧ some g ≠ B.map (·.block)) acc cs := hrl.kp hk5 fun g hg h => by omega
    have r2 : RdT w5 (fun g => xb < g ∧ some g ≠ B.map (·.block)) t v0 v1 v2 := ht.mono fun g _ hg => ⟨by omega, fun h => by have := (hbl g h.symm).2; omega⟩
    have r3 := r1.snoc r2
    have r4 : RdL w5 (fun g => (xb < g ∧ some g ≠ B.map (·.block)) ∧ some g ≠ B'.map (·.block)) (acc ++ [t]) (cs ++ [v0, v1, v2]) := r3.mono fun g hl hg => ⟨hg, hne' g hg.1 hl hg.2⟩
    have r5 := r4.below (bal (Below.refl _ _) o)
    have r6 := r5.kp hk6 fun g hg h => hg.1.2 h
    have r7 := r6.kp (Kp.setCell (S := fun k => k = xb) (p := ⟨xb, 2, none⟩) w6 rfl (.slice B' (acc.length + 1) d')) fun g hg h => by omega
    exact r7.mono fun g _ hg => ⟨hg.1.1, hg.2⟩

/-- The list that was read, where the result lies. -/
theorem list_done {w w2 wr : World} {rb xb : Nat} {xs : List UInt8} {j : Nat} {acc : List Tree} {B : Option Addr} {d : Nat} {cs : List Value} {m : Nat}
    (hs : w.heap.size < w2.heap.size) (hxb : w2.heap.size < xb) (hbw : Below w2.heap.size w2 wr) (hown : Own wr (xb + 1) 25 3 B acc.length d cs) (hrl : RdL wr (fun g => xb < g ∧ some g ≠ B.map (·.block)) acc cs)
    (hrd : RdrAt w2 rb (xs.drop j) 0) (hrb : rb < w.heap.size) (hk : Kp (fun k => k = rb) w w2) (hm : m - 1 = j) :
    ItemP rb xs w 1 (.ok (.mk true [] acc, m)) (.returned (.agg #[.bool true, .slice none 0 0, .slice B acc.length d])) (((wr.setCell ⟨w.heap.size, 0, none⟩ (.bool true)).setCell ⟨w.heap.size, 1, none⟩ (.slice none 0 0)).setCell ⟨w.heap.size, 2, none⟩ (.slice B acc.length d)) := by
  have hk3 := kp_set3 wr w.heap.size (.bool true) (.slice none 0 0) (.slice B acc.length d)
  have hcap := hown.cap
  refine ⟨_, _, _, rfl, ?_, ?_, ?_⟩
  · refine RdT.list (cs := cs) rfl hcap.1 hcap.2 ?_ ?_
    · exact (hown.rdp (fun g => w.heap.size < g) (fun g _ h _ => by omega)).keep hk3.size (fun g hg hl => hk3.block g hl (by omega)) |>.mono (fun g _ h => by omega)
    · exact (hrl.kp hk3 (fun g hg h => by omega)).mono (fun g _ hg => by omega)
  · rw [hm]
    exact (hrd.below hbw).kp hk3 (fun g hg h => by omega)
  · exact (hk.then (Kp.of_below hbw (fun _ => False)) (fun i _ h => h.elim)).thenNew hk3 (by rintro i rfl; exact Nat.le_refl _)

set_option maxHeartbeats 1000000 in
theorem nest_list (d : Nat) (hd : d < 8) (ih : ItemSt d) (rb : Nat) (xs : List UInt8) (n : Nat) (N D : Int) (w : World) (h : RdrAt w rb xs 0) (hN : N = n) (hn : n ≤ 63) (hD : D = ((8 - (d + 1) : Nat) : Int)) :
    Calls Try.prog 38 #[.pointer (some ⟨rb, 0, none⟩), .int .i64 N, .int .i64 D] w (ItemP rb xs w 1 (pList (fun b => pLoop (pItem d) b.length b) n xs)) := by
  have IH := Go.Lib.hid ih
  clear ih
  subst hN
  have HR := Go.Lib.hid h
  have hrb := h.lt
  clear h
  generalize hP : pList (fun b => pLoop (pItem d) b.length b) n xs = P
  unfold pList at hP
  rcases hps : pSize n xs with e | ⟨m, k⟩
  · rw [hps] at hP
    simp only at hP
    subst hP
    have HS := Go.Lib.hid hps
    clear hps
    go_enter Try.func38, Try.ntmps38
    go_wp2_with fail
    refine (nest_size rb xs n n _ (HR.out.alloc _) rfl (by omega)).mono ?_
    intro r w1 hp
    rw [HS.out] at hp
    obtain ⟨rfl, hr1, hk⟩ := hp
    have hres : w1.heap[w.heap.size]? = some (.cells #[.bool false, .slice none 0 0, .slice none 0 0] 25 (0, 0)) := (hk.block _ (by simp) (by omega)).trans (Go.heap_alloc_new w _)
    have HRES := Go.Lib.hid hres
    obtain ⟨f0, f1, f2, ff⟩ := cells3 hres
    have HK := Go.Lib.hid hk
    have HR1 := Go.Lib.hid hr1
    clear hk hr1 hres
    go_wp2
    refine bodyPost_ret (v := item0) (by simp [results, Try.results38, go_sem, item0, f0, f1, f2]) rfl ?_
    obtain ⟨ys, A, n', c, h1, _⟩ := HR1.out
    have h2 := HK.out.size
    simp at h2
    exact ⟨rfl, ⟨A, n', c, ((kp_set3 _ _ _ _ _).block rb (by omega) (by omega)).trans h1⟩, ((Kp.alloc _ _ _).trans HK.out).thenNew (kp_set3 _ _ _ _ _) (by rintro i rfl; exact Nat.le_refl _)⟩
  · rw [hps] at hP
    simp only at hP
    have hml := pSize_le hps
    have HS := Go.Lib.hid hps
    have HP := Go.Lib.hid hP
    clear hps hP
    go_enter Try.func38, Try.ntmps38
    go_wp2_with fail
    refine (nest_size rb xs n n _ (HR.out.alloc _) rfl (by omega)).mono ?_
    intro r w1 hp
    rw [HS.out] at hp
    obtain ⟨rfl, hr1, hk⟩ := hp
    have hres : w1.heap[w.heap.size]? = some (.cells #[.bool false, .slice none 0 0, .slice none 0 0] 25 (0, 0)) := (hk.block _ (by simp) (by omega)).trans (Go.heap_alloc_new w _)
    have hs1 : w.heap.size < w1.heap.size := by have := hk.size; simp at this; omega
    have HRES := Go.Lib.hid hres
    have HK := Go.Lib.hid hk
    have HR1 := Go.Lib.hid hr1
    clear hk hr1 hres
    by_cases hlt : (xs.drop k).length < m
    · have hP2 : P = .error 22 := by
        rw [← HP.out, if_pos (by simpa using hlt)]
      subst hP2
      clear HP
      go_wp2_with fail
      refine (nest_take_no rb _ m m _ HR1.out rfl hlt).mono ?_
      rintro r w2 ⟨rfl, hr2, hk2⟩
      have hres2 := (hk2.block _ hs1 (by omega)).trans HRES.out
      obtain ⟨f0, f1, f2, ff⟩ := cells3 hres2
      have HK2 := Go.Lib.hid hk2
      have HR2 := Go.Lib.hid hr2
      have HRES2 := Go.Lib.hid hres2
      clear hk2 hr2 hres2
      go_wp2
      refine bodyPost_ret (v := item0) (by simp [results, Try.results38, go_sem, item0, f0, f1, f2]) rfl ?_
      obtain ⟨A, n', c, h1, _⟩ := HR2.out
      have h2 := HK2.out.size
      exact ⟨rfl, ⟨A, n', c, ((kp_set3 _ _ _ _ _).block rb (by omega) (by omega)).trans h1⟩, (((Kp.alloc _ _ _).trans HK.out).trans HK2.out).thenNew (kp_set3 _ _ _ _ _) (by rintro i rfl; exact Nat.le_refl _)⟩
    · go_wp2_with fail
      refine (nest_take rb _ m m _ HR1.out rfl (by omega)).mono ?_
      rintro r w2 ⟨A, c, rfl, hmc, hc, hra, hap, hr2, hk2⟩
      generalize hbody : (xs.drop k).take m = body at *
      have hbl : body.length = m := by rw [← hbody, List.length_take]; omega
      have HBODY := Go.Lib.hid hbody
      have HBL := Go.Lib.hid hbl
      have HRA := Go.Lib.hid hra
      have HAP := Go.Lib.hid hap
      have hres2 := (hk2.block _ hs1 (by omega)).trans HRES.out
      have hs2 : w.heap.size < w2.heap.size := by have := hk2.size; omega
      have HRES2 := Go.Lib.hid hres2
      have HK2 := Go.Lib.hid hk2
      have HR2 := Go.Lib.hid hr2
      clear hbody hbl hra hap hres2 hk2 hr2
      obtain ⟨R, hR⟩ : ∃ R, R = pLoop (pItem d) body.length body := ⟨_, rfl⟩
      have FE : Hid (∀ e, R = .error e → P = .error e) := Go.Lib.hid (by
        intro e he
        rw [hR] at he
        rw [← HP.out, if_neg (by simpa using hlt), he])
      have FO : Hid (∀ l, R = .ok l → P = .ok (.mk true [] l, 1 + k + m)) := Go.Lib.hid (by
        intro l he
        rw [hR] at he
        rw [← HP.out, if_neg (by simpa using hlt), he])
      have FR := Go.Lib.hid hR
      clear hR HP
      go_wp2
      have h0 : LInv w2 w2.heap.size (w2.heap.size + 1) (pItem d) R (body.length + 1) ((w2.alloc (.cells #[.slice A m c, .int .i64 0] 46)).alloc (.cells #[.bool true, .slice none 0 0, .slice none 0 0] 25)) := by
        refine ⟨[], none, 0, [], bal (bal (Below.refl _ _) _) _, ?_, Own.nil _ _ _ _, by simp only [RdL], .inl ⟨body, body.length, ?_, Nat.le_refl _, ?_, ?_, rfl⟩⟩
        · have := Go.heap_alloc_new (w2.alloc (.cells #[.slice A m c, .int .i64 0] 46)) (.cells #[.bool true, .slice none 0 0, .slice none 0 0] 25)
          simpa using this
        · refine RdrAt.alloc ⟨A, m, c, Go.heap_alloc_new w2 _, HBL.out.symm, hmc, hc, HRA.out.alloc _, fun hne g hg => ?_⟩ _
          obtain ⟨g', off, rfl, hg', _⟩ := HRA.out (by simpa [bs] using hne)
          simp at hg
          omega
        · simp only [List.length_nil]
          have := HBL.out
          omega
        · rw [pThen_nil, FR.out]
      have H0 := Go.Lib.hid h0
      clear h0
      go_loopg [] (body.length + 1) (fun g wr => Hid (LInv w2 w2.heap.size (w2.heap.size + 1) (pItem d) R g wr))
      case atStart => exact H0
      case round =>
        obtain ⟨acc, B, dc, cs, hbw, hxb, hown, hrl, hcase⟩ := hrel.out
        obtain ⟨x0, x1, x2, xf⟩ := cells3 hxb
        have hsz := hbw.size
        have hxlt : w2.heap.size + 1 < wr.heap.size := (Array.getElem?_eq_some_iff.1 hxb).1
        have HBW := Go.Lib.hid hbw
        have HXB := Go.Lib.hid hxb
        have HOWN := Go.Lib.hid hown
        have HRL := Go.Lib.hid hrl
        clear hbw hxb hown hrl hrel
        rcases hcase with ⟨rest, f, hrd, hrf, hal, hpt, rfl⟩ | ⟨e, A3, n3, c3, hrd, he, hRe, rfl⟩
        · obtain ⟨A3, n3, c3, hb3, hn3, hnc3, hc3, hr3, hap3⟩ := id hrd
          obtain ⟨i0, i1, iff⟩ := cells2 hb3
          have HRD := Go.Lib.hid hrd
          have HPT := Go.Lib.hid hpt
          clear hb3 hr3 hap3 hrd hpt
          by_cases hz : rest = []
          · subst hz
            have hn0 : n3 = 0 := by simpa using hn3
            subst hn0
            obtain ⟨f0, f1, f2, ff⟩ := cells3 ((HBW.out.block _ hs2).trans HRES2.out)
            have hPo : P = .ok (.mk true [] acc, 1 + k + m) := FO.out acc (by rw [← HPT.out, pLoop_end])
            subst hPo
            clear hn3 hrf
            go_wp2
            refine bodyPost_ret (v := .agg #[.bool true, .slice none 0 0, .slice B acc.length dc]) (by simp [results, Try.results38, go_sem, f0, f1, f2]) rfl ?_
            refine list_done (w2 := w2) (xb := w2.heap.size + 1) (j := k + m) hs2 (by omega) HBW.out HOWN.out HRL.out ?_ hrb (((Kp.alloc _ _ _).trans HK.out).same HK2.out) (by omega)
            have := HR2.out
            rw [List.drop_drop] at this
            exact this
          · have hn0 : 0 < n3 := by
              have := List.length_pos_iff.2 hz
              omega
            have HN3 := Go.Lib.hid hn3
            clear hn3
            rcases hpi : pItem d rest with e | ⟨t, mm⟩
            · have HPI := Go.Lib.hid hpi
              clear hpi
              obtain ⟨ii0, hii, hiz0, hiz1, hiz2⟩ := info_parts info_item
              have hwr : IntKind.i64.wrap (((7 - d : Nat) : Int) + 1) = ((8 - d : Nat) : Int) := by rw [IntKind.wrap_i64]; omega
              go_wp2
              go_region_law (first
                  | (go_simp; go_at_call 26; go_loud (refine (IH.out w2.heap.size rest _ _ (by exact HRD.out) rfl).mono ?_; intro r w5 hp; rw [HPI.out] at hp; obtain ⟨rfl, hrd5, hk5⟩ := hp; unfold item0; have ht := RdT.zero w5 (fun g => wr.drew.heap.size ≤ g); have k5 : w5.cell? ⟨w2.heap.size + 1, 2, none⟩ = some (.slice B acc.length dc) := ((hk5.cell (p := ⟨w2.heap.size + 1, 2, none⟩) (by exact hxlt) (by show ¬ (w2.heap.size + 1 = w2.heap.size); omega)).trans (by exact x2)); have own5 := Own.kp (w := wr.drew) (S := fun k => k = w2.heap.size) HOWN.out hk5 (fun g e h => by have := (HOWN.out.block_lt g e).1; omega); have hs5 := hk5.size; have hx5 : w2.heap.size + 1 < w5.heap.size := (by simp at hs5; omega); have HT := Go.Lib.hid ht; have HK5 := Go.Lib.hid hk5; have HRD5 := Go.Lib.hid hrd5; have OWN5 := Go.Lib.hid own5; clear ht hk5 hrd5 own5))
                  | (revert OWN5; intro OWN5; refine step_append_o _ (by rfl) (.tmp 42) (.tmp 46) 23 (by rfl) 25 ii0 item0 3 56 Try.underlying23 hii hiz0 hiz1 hiz2 (by rfl) (by decide) (w2.heap.size + 1 + 1) B acc.length dc cs (by rfl) (OWN5.out.alloc _) (some ⟨w5.heap.size, 0, none⟩) 1 1 [.bool false, .slice none 0 0, .slice none 0 0] (by rfl) rfl (rd_new _ _ _) HT.out.one (by omega) (by unfold maxLen; omega) (by simp; omega) ?_; intro B' dc' w6 hown6 hkp6 hlie6; have hx6 : w6.heap[w2.heap.size + 1]? = some (.cells #[.bool true, .slice none 0 0, .slice B acc.length dc] 25 (0, 0)) := (hkp6.block (w2.heap.size + 1) (by simp; omega) (by intro e; have := (HOWN.out.block_lt _ e.symm).1; omega)).trans ((Below.heap_alloc w5 _ (w2.heap.size + 1) hx5).trans ((HK5.out.block (w2.heap.size + 1) (by exact hxlt) (by omega)).trans HXB.out)); obtain ⟨j6, l6, k6, fr6⟩ := cells3 hx6; have hs6 : w5.heap.size + 1 ≤ w6.heap.size := (by simpa using hkp6.size); have OWN6 := Go.Lib.hid hown6; have KP6 := Go.Lib.hid hkp6; have LIE6 := Go.Lib.hid hlie6; clear hown6 hkp6 hlie6 hx6))
              all_goals
                go_wp2
                go_roundg 0
                case measure => omega
                case rel =>
                  refine Go.Lib.hid ?_
                  have h1 := pItem_err d rest e HPI.out
                  obtain ⟨q1, q2, q3, q4, q5⟩ := LInv.put (wr := wr.drew) (w2 := w2) (ib := w2.heap.size) HBW.out.drew HXB.out HOWN.out (HRL.out.below (bdr (Below.refl _ _))) ⟨Nat.le_refl _, by omega⟩ hxlt HK5.out HT.out OWN6.out KP6.out LIE6.out
                  obtain ⟨A7, n7, c7, hrd7⟩ := HRD5.out
                  refine ⟨acc ++ [Tree.zero], B', dc', cs ++ [.bool false, .slice none 0 0, .slice none 0 0], q1, q2, q3, q4, .inr ⟨e, A7, n7, c7, ?_, by omega, ?_, rfl⟩⟩
                  · have hbl := HOWN.out.block_lt
                    have h2 := (Below.heap_alloc w5 (.cells #[.bool false, .slice none 0 0, .slice none 0 0] 25) w2.heap.size (by omega)).trans hrd7
                    have h3 := (KP6.out.block w2.heap.size (by simp; omega) (fun h => by have := (hbl w2.heap.size h.symm).1; omega)).trans h2
                    exact (Below.heap_setCell w6 _ _ w2.heap.size (by show w2.heap.size ≠ w2.heap.size + 1; omega)).trans h3
                  · rw [← HPT.out]
                    exact pLoop_fail hz HPI.out hrf acc
            · have HPI := Go.Lib.hid hpi
              clear hpi
              obtain ⟨ii0, hii, hiz0, hiz1, hiz2⟩ := info_parts info_item
              have hwr : IntKind.i64.wrap (((7 - d : Nat) : Int) + 1) = ((8 - d : Nat) : Int) := by rw [IntKind.wrap_i64]; omega
              go_wp2
              go_region_law (first
                  | (go_simp; go_at_call 26; go_loud (refine (IH.out w2.heap.size rest _ _ (by exact HRD.out) rfl).mono ?_; intro r w5 hp; rw [HPI.out] at hp; obtain ⟨v0, v1, v2, rfl, ht, hrd5, hk5⟩ := hp; have k5 : w5.cell? ⟨w2.heap.size + 1, 2, none⟩ = some (.slice B acc.length dc) := ((hk5.cell (p := ⟨w2.heap.size + 1, 2, none⟩) (by exact hxlt) (by show ¬ (w2.heap.size + 1 = w2.heap.size); omega)).trans (by exact x2)); have own5 := Own.kp (w := wr.drew) (S := fun k => k = w2.heap.size) HOWN.out hk5 (fun g e h => by have := (HOWN.out.block_lt g e).1; omega); have hs5 := hk5.size; have hx5 : w2.heap.size + 1 < w5.heap.size := (by simp at hs5; omega); have HT := Go.Lib.hid ht; have HK5 := Go.Lib.hid hk5; have HRD5 := Go.Lib.hid hrd5; have OWN5 := Go.Lib.hid own5; clear ht hk5 hrd5 own5))
                  | (revert OWN5; intro OWN5; refine step_append_o _ (by rfl) (.tmp 42) (.tmp 46) 23 (by rfl) 25 ii0 item0 3 56 Try.underlying23 hii hiz0 hiz1 hiz2 (by rfl) (by decide) (w2.heap.size + 1 + 1) B acc.length dc cs (by rfl) (OWN5.out.alloc _) (some ⟨w5.heap.size, 0, none⟩) 1 1 [v0, v1, v2] (by rfl) rfl (rd_new _ _ _) HT.out.one (by omega) (by unfold maxLen; omega) (by simp; omega) ?_; intro B' dc' w6 hown6 hkp6 hlie6; have hx6 : w6.heap[w2.heap.size + 1]? = some (.cells #[.bool true, .slice none 0 0, .slice B acc.length dc] 25 (0, 0)) := (hkp6.block (w2.heap.size + 1) (by simp; omega) (by intro e; have := (HOWN.out.block_lt _ e.symm).1; omega)).trans ((Below.heap_alloc w5 _ (w2.heap.size + 1) hx5).trans ((HK5.out.block (w2.heap.size + 1) (by exact hxlt) (by omega)).trans HXB.out)); obtain ⟨j6, l6, k6, fr6⟩ := cells3 hx6; have hs6 : w5.heap.size + 1 ≤ w6.heap.size := (by simpa using hkp6.size); have OWN6 := Go.Lib.hid hown6; have KP6 := Go.Lib.hid hkp6; have LIE6 := Go.Lib.hid hlie6; clear hown6 hkp6 hlie6 hx6))
              all_goals
                go_wp2
                go_roundg ((rest.drop mm).length + 1)
                case measure =>
                  have h1 := pItem_ok HPI.out
                  simp only [List.length_drop]
                  omega
                case rel =>
                  refine Go.Lib.hid ?_
                  have h1 := pItem_ok HPI.out
                  obtain ⟨q1, q2, q3, q4, q5⟩ := LInv.put (wr := wr.drew) (w2 := w2) (ib := w2.heap.size) HBW.out.drew HXB.out HOWN.out (HRL.out.below (bdr (Below.refl _ _))) ⟨Nat.le_refl _, by omega⟩ hxlt HK5.out HT.out OWN6.out KP6.out LIE6.out
                  obtain ⟨f', hf', hp'⟩ := pLoop_step hz HPI.out h1 hrf acc
                  refine ⟨acc ++ [t], B', dc', cs ++ [v0, v1, v2], q1, q2, q3, q4, .inl ⟨rest.drop mm, f', ?_, hf', ?_, ?_, rfl⟩⟩
                  · have hbl := HOWN.out.block_lt
                    exact ((HRD5.out.alloc (.cells #[v0, v1, v2] 25)).kp KP6.out (fun g hg h => by have := (hbl g h.symm).1; omega)).kp (Kp.setCell (S := fun k => k = w2.heap.size + 1) (p := ⟨w2.heap.size + 1, 2, none⟩) w6 rfl _) (fun g hg h => by omega)
                  · simp only [List.length_append, List.length_cons, List.length_nil, List.length_drop]
                    omega
                  · rw [← hp']
                    exact HPT.out
        · have HRD := Go.Lib.hid hrd
          obtain ⟨i0, i1, iff⟩ := cells2 hrd
          obtain ⟨f0, f1, f2, ff⟩ := cells3 ((HBW.out.block _ hs2).trans HRES2.out)
          have hPe := FE.out e hRe
          subst hPe
          have hrb2 := HR2.out.below HBW.out
          obtain ⟨A8, n8, c8, hb8, _⟩ := hrb2
          have HB8 := Go.Lib.hid hb8
          have he0 : (e == 0) = false := by simpa using he
          have he1 : (e != 0) = true := by simpa using he
          clear hrd hb8 hRe
          have hwl : w.heap.size < wr.heap.size := by omega
          by_cases hn3 : n3 = 0
          · subst hn3
            go_wp2_with fail
            refine (nest_fail rb A8 n8 c8 e _ (by exact HB8.out)).mono ?_
            rintro r w9 ⟨rfl, h9, hk9⟩
            have hres9 := (hk9.block _ hwl (by omega)).trans ((HBW.out.block _ hs2).trans HRES2.out)
            obtain ⟨p0, p1, p2, pf⟩ := cells3 hres9
            have H9 := Go.Lib.hid h9
            have HK9 := Go.Lib.hid hk9
            clear h9 hk9 hres9
            unfold item0
            go_wp2
            refine bodyPost_ret (v := item0) (by simp [results, Try.results38, go_sem, item0, p0, p1, p2]) rfl ?_
            exact ⟨rfl, ⟨A8, n8, c8, ((kp_set3 _ _ _ _ _).block rb (Nat.lt_trans hrb (Nat.lt_of_lt_of_le hwl HK9.out.size)) (by omega)).trans H9.out⟩,
              (((((Kp.alloc _ _ _).trans HK.out).same HK2.out).then (Kp.of_below HBW.out (fun _ => False)) (fun i _ h => h.elim)).same HK9.out).thenNew (kp_set3 _ _ _ _ _) (by rintro i rfl; exact Nat.le_refl _)⟩
          · have hn4 : 0 < n3 := by omega
            clear hn3
            go_wp2_with fail
            refine (nest_fail rb A8 n8 c8 e _ (by exact HB8.out)).mono ?_
            rintro r w9 ⟨rfl, h9, hk9⟩
            have hres9 := (hk9.block _ hwl (by omega)).trans ((HBW.out.block _ hs2).trans HRES2.out)
            obtain ⟨p0, p1, p2, pf⟩ := cells3 hres9
            have H9 := Go.Lib.hid h9
            have HK9 := Go.Lib.hid hk9
            clear h9 hk9 hres9
            unfold item0
            go_wp2
            refine bodyPost_ret (v := item0) (by simp [results, Try.results38, go_sem, item0, p0, p1, p2]) rfl ?_
            exact ⟨rfl, ⟨A8, n8, c8, ((kp_set3 _ _ _ _ _).block rb (Nat.lt_trans hrb (Nat.lt_of_lt_of_le hwl HK9.out.size)) (by omega)).trans H9.out⟩,
              (((((Kp.alloc _ _ _).trans HK.out).same HK2.out).then (Kp.of_below HBW.out (fun _ => False)) (fun i _ h => h.elim)).same HK9.out).thenNew (kp_set3 _ _ _ _ _) (by rintro i rfl; exact Nat.le_refl _)⟩

end Go.Proofs.Ytfolidaonnblbaa
