/- The reference's reader of items: copied, items. -/
import Derived.Test.YtfolidaonnblbaaNsFirst
namespace Go.Proofs.Ytfolidaonnblbaa
open Go.ChangeShapes Go.WideShapes Go.RowKit
set_option linter.unusedVariables false

set_option maxHeartbeats 400000 in
theorem ref_copied (A : Option Addr) (n c : Nat) (xs : List UInt8) (w : World) (hr : Rd w A (bs xs)) (hn : n = xs.length) (hlen : xs.length ≤ 175921860444160) :
    Calls Try.prog 40 #[.slice A n c] w fun r w' => ∃ A' c', r = .returned (.slice A' n c') ∧ Own w' w.heap.size 5 1 A' n c' (bs xs) ∧ Below w.heap.size w w' := by
  have HR := Go.Lib.hid hr
  have HN := Go.Lib.hid hn
  have hle : n ≤ 175921860444160 := by omega
  obtain ⟨i0, hi, hz0, hz1, hz2⟩ := info_parts info_u8
  clear hr hn
  go_enter Try.func40, Try.ntmps40
  go_wp2_with (at_builtin; refine wpList_append_o _ rfl _ _ 22 rfl 5 i0 (.int .u8 0) 1 1 Try.underlying22 hi hz0 hz1 hz2 rfl (by decide) w.heap.size none 0 0 [] rfl (Own.nil _ _ _ _) A n c (bs xs) rfl (by have := HN.out; simp; omega) HR.out (bs_one _) (by omega) (by unfold maxLen; omega) (by simp) ?_)
  intro A1 n1 w1 hown1 hkp1 hlie1
  have hbel1 : Below w.heap.size w w1 := Kp.below (Below.refl _ _) hkp1 (fun i h => by simp at h)
  have HO := Go.Lib.hid hown1
  have HB := Go.Lib.hid hbel1
  clear hown1 hkp1 hlie1 hbel1
  go_wp2
  go_ret
  exact ⟨A1, n1, by simp, by simpa using HO.out, HB.out⟩

/-- The bytes between two places. -/
def seg (xs : List UInt8) (a en : Nat) : List UInt8 := (xs.take en).drop a
theorem seg_length (xs : List UInt8) (a en : Nat) (h : en ≤ xs.length) : (seg xs a en).length = en - a := by simp [seg]; omega
theorem seg_drop (xs : List UInt8) (a en k : Nat) : (seg xs a en).drop k = seg xs (a + k) en := by simp [seg, List.drop_drop]
theorem seg_take (xs : List UInt8) (a en k : Nat) (h : a + k ≤ en) : (seg xs a en).take k = seg xs a (a + k) := by
  unfold seg
  rw [List.take_drop, List.take_take]
  congr 2
  omega
theorem seg_nil (xs : List UInt8) (a en : Nat) (h : en ≤ xs.length) (ha : en ≤ a) : seg xs a en = [] := List.eq_nil_of_length_eq_zero (by rw [seg_length xs a en h]; omega)
theorem seg_cons (xs : List UInt8) (a en : Nat) (h : en ≤ xs.length) (ha : a < en) : seg xs a en = xs.getD a 0 :: seg xs (a + 1) en := by
  unfold seg
  rw [List.drop_eq_getElem_cons (by rw [List.length_take]; omega)]
  congr 1
  simp [List.getD, show a < xs.length from by omega]

/-- What the reference's first answers: the place behind the item. -/
def RFirP (a : Nat) (w : World) (p : Except Int (Tree × Nat)) (r : Ending) (w' : World) : Prop :=
  match p with
  | .ok (t, m) => ∃ v0 v1 v2, r = .returned (.tuple #[.agg #[v0, v1, v2], .int .i64 ((a + m : Nat) : Int), .int .i64 0]) ∧ RdT w' (fun g => w.heap.size ≤ g) t v0 v1 v2 ∧ Below w.heap.size w w'
  | .error e => r = .returned (.tuple #[item0, .int .i64 0, .int .i64 e]) ∧ Below w.heap.size w w'
def RFirSt (d : Nat) : Prop := ∀ (A : Option Addr) (n c : Nat) (xs : List UInt8) (a en : Nat) (AA EE D : Int) (w : World), Rd w A (bs xs) → n = xs.length → n ≤ c → c ≤ 9223372036854775807 ∧ n ≤ 175921860444160 → a ≤ en → en ≤ n → AA = a → EE = en → D = ((8 - d : Nat) : Int) →
    Calls Try.prog 27 #[.slice A n c, .int .i64 AA, .int .i64 EE, .int .i64 D] w (RFirP a w (pItem d (seg xs a en)))

/-- What items answers. -/
def RItP (en : Nat) (w : World) (p : Except Int (List Tree)) (r : Ending) (w' : World) : Prop :=
  match p with
  | .ok l => ∃ v0 v1 v2, r = .returned (.tuple #[.agg #[v0, v1, v2], .int .i64 en, .int .i64 0]) ∧ RdT w' (fun g => w.heap.size ≤ g) (.mk true [] l) v0 v1 v2 ∧ Below w.heap.size w w'
  | .error e => r = .returned (.tuple #[item0, .int .i64 0, .int .i64 e]) ∧ Below w.heap.size w w'

/-- In the midst of items' loop. -/
def RInv (w : World) (xs : List UInt8) (en : Nat) (p : List UInt8 → Except Int (Tree × Nat)) (R : Except Int (List Tree)) (g a : Nat) (wr : World) : Prop :=
  ∃ (acc : List Tree) (B : Option Addr) (d : Nat) (cs : List Value) (f : Nat),
    Below w.heap.size w wr ∧ wr.heap[w.heap.size + 1]? = some (.cells #[.bool true, .slice none 0 0, .slice B acc.length d] 25 (0, 0)) ∧
    wr.heap[w.heap.size]? = some (.cells #[.bool false, .slice none 0 0, .slice none 0 0] 25 (0, 0)) ∧
    Own wr (w.heap.size + 1 + 1) 25 3 B acc.length d cs ∧ RdL wr (fun g => w.heap.size + 1 < g ∧ some g ≠ B.map (·.block)) acc cs ∧
    a ≤ en ∧ (seg xs a en).length ≤ f ∧ acc.length + (en - a) ≤ 16777215 ∧ pThen acc (pLoop p f (seg xs a en)) = R ∧ g = en - a

set_option maxHeartbeats 1000000 in
set_option maxRecDepth 100000 in
theorem ref_items (d : Nat) (hd : d ≤ 8) (ih : RFirSt d) (A : Option Addr) (n c : Nat) (xs : List UInt8) (a en : Nat) (AA EE D : Int) (w : World) (hr : Rd w A (bs xs)) (hn : n = xs.length) (hnc : n ≤ c) (hc : c ≤ 9223372036854775807 ∧ n ≤ 175921860444160) (hae : a ≤ en) (hen : en ≤ n)
    (hsz : en - a ≤ 16777215) (hA : AA = a) (hE : EE = en) (hD : D = ((8 - d : Nat) : Int)) :
    Calls Try.prog 41 #[.slice A n c, .int .i64 AA, .int .i64 EE, .int .i64 D] w (RItP en w (pLoop (pItem d) (seg xs a en).length (seg xs a en))) := by
  subst hA hE hD
  have HR := Go.Lib.hid hr
  have HN := Go.Lib.hid hn
  have IH := Go.Lib.hid ih
  clear hr hn ih
  obtain ⟨R, hR⟩ : ∃ R, R = pLoop (pItem d) (seg xs a en).length (seg xs a en) := ⟨_, rfl⟩
  rw [← hR]
  have FR := Go.Lib.hid hR
  clear hR
  go_enter Try.func41, Try.ntmps41
  go_wp2
  have h0 : RInv w xs en (pItem d) R (en - a) a ((w.alloc (.cells #[.bool false, .slice none 0 0, .slice none 0 0] 25)).alloc (.cells #[.bool true, .slice none 0 0, .slice none 0 0] 25)) := by
    refine ⟨[], none, 0, [], (seg xs a en).length, bal (bal (Below.refl _ _) _) _, ?_, ?_, Own.nil _ _ _ _, by simp only [RdL], hae, Nat.le_refl _, by simpa using hsz, by rw [pThen_nil, FR.out], rfl⟩
    · have := Go.heap_alloc_new (w.alloc (.cells #[.bool false, .slice none 0 0, .slice none 0 0] 25)) (.cells #[.bool true, .slice none 0 0, .slice none 0 0] 25)
      simpa using this
    · exact (Below.heap_alloc _ _ w.heap.size (by simp)).trans (Go.heap_alloc_new w _)
  have H0 := Go.Lib.hid h0
  clear h0
  go_loopg [1] (en - a) (fun g v wr => ∃ k, v = .int .i64 ((k : Nat) : Int) ∧ Hid (RInv w xs en (pItem d) R g k wr))
  case atStart => exact ⟨a, rfl, H0⟩
  case round =>
    obtain ⟨k, rfl, hrel⟩ := hrel
    obtain ⟨acc, B, dc, cs, f, hbw, hxb, hres, hown, hrl, hke, hf, hal, hpt, rfl⟩ := hrel.out
    obtain ⟨x0, x1, x2, xf⟩ := cells3 hxb
    obtain ⟨p0, p1, p2, pf⟩ := cells3 hres
    have hxlt : w.heap.size + 1 < wr.heap.size := (Array.getElem?_eq_some_iff.1 hxb).1
    have HBW := Go.Lib.hid hbw
    have HXB := Go.Lib.hid hxb
    have HRES := Go.Lib.hid hres
    have HOWN := Go.Lib.hid hown
    have HRL := Go.Lib.hid hrl
    have HPT := Go.Lib.hid hpt
    have HF := Go.Lib.hid hf
    clear hbw hxb hres hown hrl hrel hpt hf
    by_cases hlt : k < en
    · have hsn : seg xs k en ≠ [] := by
        intro h
        have := seg_length xs k en (by have := HN.out; omega)
        rw [h] at this
        simp at this
        omega
      go_wp2_with fail
      refine (IH.out A n c xs k en k en _ _ (HR.out.below HBW.out) HN.out hnc hc hke hen rfl rfl rfl).mono ?_
      intro r w5 hp
      rcases hpi : pItem d (seg xs k en) with e | ⟨t, m⟩
      · rw [hpi] at hp
        obtain ⟨rfl, hb5⟩ := hp
        have he := pItem_err d _ e hpi
        have he1 : (e != 0) = true := by rw [bne_iff_ne]; omega
        have hRe : R = .error e := by rw [← HPT.out]; exact pLoop_fail hsn hpi HF.out acc
        subst hRe
        obtain ⟨q0, q1, q2, qf⟩ := cells3 ((hb5.block w.heap.size (by omega)).trans HRES.out)
        have hs5 : w.heap.size < w5.heap.size := by have := hb5.size; omega
        have HB5 := Go.Lib.hid hb5
        clear hb5 hpi
        unfold item0
        go_wp2
        refine bodyPost_ret (v := .tuple #[item0, .int .i64 0, .int .i64 e]) (by simp [results, Try.results41, go_sem, item0, q0, q1, q2, hs5]) rfl ⟨rfl, ?_⟩
        exact bal (below_set3 (btr HBW.out HB5.out) (Nat.le_refl _) _ _ _) _
      · rw [hpi] at hp
        obtain ⟨v0, v1, v2, rfl, ht5, hb5⟩ := hp
        have hm := pItem_ok hpi
        rw [seg_length xs k en (by have := HN.out; omega)] at hm
        have hs5 := hb5.size
        have hx5 := (hb5.block (w.heap.size + 1) hxlt).trans HXB.out
        obtain ⟨y0, y1, y2, yf⟩ := cells3 hx5
        obtain ⟨a1, a2, a3, a4, a5, a6, rfl, rfl, rfl⟩ := ht5.shape
        obtain ⟨ii0, hii, hiz0, hiz1, hiz2⟩ := info_parts info_item
        have own5 : Own (w5.alloc (.cells #[.bool t.l, .slice a1 a2 a3, .slice a4 a5 a6] 25)) (w.heap.size + 1 + 1) 25 3 B acc.length dc cs := (Own.below HOWN.out hb5).alloc _
        have ht6 := ht5.below (bal (Below.refl _ _) (.cells #[.bool t.l, .slice a1 a2 a3, .slice a4 a5 a6] 25))
        have hk5 : Kp (fun k => k = w.heap.size) wr (w5.alloc (.cells #[.bool t.l, .slice a1 a2 a3, .slice a4 a5 a6] 25)) := (Kp.of_below hb5 _).trans (Kp.alloc _ _ _)
        have hx6 : w.heap.size + 1 < w5.heap.size := by omega
        have hres5 := (hb5.block w.heap.size (by omega)).trans HRES.out
        have OWN5 := Go.Lib.hid own5
        have HT := Go.Lib.hid ht6
        have HK5 := Go.Lib.hid hk5
        have HPI := Go.Lib.hid hpi
        have HX5 := Go.Lib.hid hx5
        have HRES5 := Go.Lib.hid hres5
        have HB5 := Go.Lib.hid hb5
        have hone := ht5.one
        have HONE := Go.Lib.hid hone
        clear own5 ht5 ht6 hk5 hpi hx5 hres5 hb5 hone
        go_wp2_with (at_builtin; refine wpList_append_o _ rfl _ _ 23 rfl 25 ii0 item0 3 56 Try.underlying23 hii hiz0 hiz1 hiz2 rfl (by decide) (w.heap.size + 1 + 1) B acc.length dc cs rfl (OWN5.out.alloc _) _ 1 1 [.bool t.l, .slice a1 a2 a3, .slice a4 a5 a6] rfl rfl (by have := rd_new (w5.alloc (.cells #[.bool t.l, .slice a1 a2 a3, .slice a4 a5 a6] 25)) #[.bool t.l, .slice a1 a2 a3, .slice a4 a5 a6] 25; simpa using this) HONE.out (by omega) (by unfold maxLen; omega) (by simp; omega) ?_)
        intro B' dc' w6 hown6 hkp6 hlie6
        have hs6 : w5.heap.size + 1 + 1 ≤ w6.heap.size := by simpa using hkp6.size
        have hbl := HOWN.out.block_lt
        have hBx : ∀ j, j ≤ w.heap.size + 1 → ¬ some j = B.map (·.block) := fun j hj h => by have := (hbl j h.symm).1; omega
        have hx7 : w6.heap[w.heap.size + 1]? = some (.cells #[.bool true, .slice none 0 0, .slice B acc.length dc] 25 (0, 0)) :=
          (hkp6.block (w.heap.size + 1) (by simp; omega) (hBx _ (Nat.le_refl _))).trans ((Below.heap_alloc _ _ (w.heap.size + 1) (by simp; omega)).trans ((Below.heap_alloc _ _ (w.heap.size + 1) hx6).trans HX5.out))
        have hres7 := (hkp6.block w.heap.size (by simp; omega) (hBx _ (by omega))).trans ((Below.heap_alloc _ _ w.heap.size (by simp; omega)).trans ((Below.heap_alloc _ _ w.heap.size (by omega)).trans HRES5.out))
        obtain ⟨z0, z1, z2, zf⟩ := cells3 hx7
        have HX7 := Go.Lib.hid hx7
        have HRES7 := Go.Lib.hid hres7
        have HO6 := Go.Lib.hid hown6
        have HK6 := Go.Lib.hid hkp6
        have HL6 := Go.Lib.hid hlie6
        clear hx7 hres7 hown6 hkp6 hlie6 hbl hBx
        go_wp2
        go_roundg (en - (k + m))
        case measure => omega
        case rel =>
          refine ⟨k + m, rfl, Go.Lib.hid ?_⟩
          obtain ⟨q1, q2, q3, q4, q5⟩ := LInv.put (wr := wr) (w5 := w5.alloc (.cells #[.bool t.l, .slice a1 a2 a3, .slice a4 a5 a6] 25)) (w2 := w) (ib := w.heap.size) HBW.out HXB.out HOWN.out HRL.out ⟨Nat.le_refl _, by omega⟩ hxlt HK5.out HT.out HO6.out HK6.out (by simpa using HL6.out)
          obtain ⟨f', hf', hp'⟩ := pLoop_step hsn HPI.out (by rw [seg_length xs k en (by have := HN.out; omega)]; exact hm) HF.out acc
          rw [seg_drop] at hf' hp'
          refine ⟨acc ++ [t], B', dc', cs ++ [.bool t.l, .slice a1 a2 a3, .slice a4 a5 a6], f', q1, q2, ?_, q3, q4, by omega, hf', ?_, ?_, rfl⟩
          · exact (Below.heap_setCell w6 _ _ w.heap.size (by show w.heap.size ≠ w.heap.size + 1; omega)).trans HRES7.out
          · simp only [List.length_append, List.length_cons, List.length_nil]
            omega
          · rw [← hp']
            exact HPT.out
    · obtain rfl : k = en := by omega
      have hRo : R = .ok acc := by
        rw [← HPT.out, seg_nil xs k k (by have := HN.out; omega) (Nat.le_refl _), pLoop_end]
      subst hRo
      clear hlt
      go_wp2
      have hcap := HOWN.out.cap
      refine bodyPost_ret (v := .tuple #[.agg #[.bool true, .slice none 0 0, .slice B acc.length dc], .int .i64 k, .int .i64 0]) (by simp [results, Try.results41, go_sem, p0, p1, p2]) rfl ⟨_, _, _, rfl, ?_, ?_⟩
      · have hk3 := kp_set3 wr w.heap.size (.bool true) (.slice none 0 0) (.slice B acc.length dc)
        refine RdT.list (cs := cs) rfl hcap.1 hcap.2 ?_ ?_
        · exact ((HOWN.out.rdp (fun g => w.heap.size < g) (fun g _ h _ => by omega)).keep hk3.size (fun g hg hl => hk3.block g hl (by omega))).mono (fun g _ h => by omega)
        · exact (HRL.out.kp hk3 (fun g hg h => by omega)).mono (fun g _ hg => by omega)
      · exact below_set3 HBW.out (Nat.le_refl _) _ _ _

end Go.Proofs.Ytfolidaonnblbaa
