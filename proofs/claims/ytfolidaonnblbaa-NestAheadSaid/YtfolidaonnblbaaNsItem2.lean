/- The program's reader of items: item, First, Decode. -/
import Derived.Test.YtfolidaonnblbaaNsItem
namespace Go.Proofs.Ytfolidaonnblbaa
open Go.ChangeShapes Go.WideShapes Go.RowKit
set_option linter.unusedVariables false

theorem pHead_byte (lst : Option (List UInt8 → Except Int (List Tree))) (x : UInt8) (r : List UInt8) (h : x.toNat < 128) : pHead lst (x :: r) = .ok (.mk false [x] [], 1) := by
  unfold pHead
  exact if_pos (by rw [UInt8.lt_iff_toNat_lt]; exact h)
theorem pHead_list (lst : Option (List UInt8 → Except Int (List Tree))) (x : UInt8) (r : List UInt8) (h1 : ¬ x.toNat < 128) (h2 : 192 ≤ x.toNat) : pHead lst (x :: r) = match lst with | none => .error 21 | some f => pList f (x.toNat - 192) r := by
  unfold pHead
  simp only
  rw [if_neg (by rw [UInt8.lt_iff_toNat_lt]; exact h1), if_pos (by rw [UInt8.le_iff_toNat_le]; exact h2)]
  cases lst <;> rfl
theorem pHead_text (lst : Option (List UInt8 → Except Int (List Tree))) (x : UInt8) (r : List UInt8) (h1 : ¬ x.toNat < 128) (h2 : ¬ 192 ≤ x.toNat) : pHead lst (x :: r) = pText (x.toNat - 128) r := by
  unfold pHead
  simp only
  rw [if_neg (by rw [UInt8.lt_iff_toNat_lt]; exact h1), if_neg (by rw [UInt8.le_iff_toNat_le]; exact h2)]

/-- A reader that has failed. -/
theorem item_fail {w w1 w2 : World} {rb : Nat} {xs : List UInt8} {k : Nat} {e : Int} (hrb : rb < w.heap.size) (hk1 : Kp (fun k => k = rb) (w.alloc (.cells #[.bool false, .slice none 0 0, .slice none 0 0] 25)) w1)
    (hr : ∃ A n c, Rdr w1 rb A n c e) (hs : w.heap.size < w1.heap.size) :
    ItemP rb xs w k (.error e) (.returned item0) (((w1.setCell ⟨w.heap.size, 0, none⟩ (.bool false)).setCell ⟨w.heap.size, 1, none⟩ (.slice none 0 0)).setCell ⟨w.heap.size, 2, none⟩ (.slice none 0 0)) := by
  obtain ⟨A, n, c, h1⟩ := hr
  exact ⟨rfl, ⟨A, n, c, ((kp_set3 _ _ _ _ _).block rb (by omega) (by omega)).trans h1⟩, ((Kp.alloc _ _ _).trans hk1).thenNew (kp_set3 _ _ _ _ _) (by rintro i rfl; exact Nat.le_refl _)⟩

theorem RdrAt.rdr {w : World} {rb : Nat} {xs : List UInt8} {e : Int} (h : RdrAt w rb xs e) : ∃ A n c, Rdr w rb A n c e := by
  obtain ⟨A, n, c, h1, _⟩ := h
  exact ⟨A, n, c, h1⟩

set_option maxHeartbeats 1000000 in
set_option maxRecDepth 100000 in
theorem nest_item0 (d : Nat) (hd : d ≤ 8) (lst : Option (List UInt8 → Except Int (List Tree)))
    (hl : (d = 0 ∧ lst = none) ∨ ∃ f, lst = some f ∧ 0 < d ∧ ∀ (rb : Nat) (xs : List UInt8) (n : Nat) (N D : Int) (w : World), RdrAt w rb xs 0 → N = n → n ≤ 63 → D = ((8 - d : Nat) : Int) →
      Calls Try.prog 38 #[.pointer (some ⟨rb, 0, none⟩), .int .i64 N, .int .i64 D] w (ItemP rb xs w 1 (pList f n xs)))
    (rb : Nat) (xs : List UInt8) (D : Int) (w : World) (h : RdrAt w rb xs 0) (hD : D = ((8 - d : Nat) : Int)) :
    Calls Try.prog 26 #[.pointer (some ⟨rb, 0, none⟩), .int .i64 D] w (ItemP rb xs w 0 (pHead lst xs)) := by
  subst hD
  have HR := Go.Lib.hid h
  have HL := Go.Lib.hid hl
  have hrb := h.lt
  clear h hl
  generalize hP : pHead lst xs = P
  cases xs with
  | nil =>
    simp only [pHead] at hP
    subst hP
    go_enter Try.func26, Try.ntmps26
    go_wp2_with fail
    refine (nest_take_no rb [] 1 1 _ (HR.out.alloc _) rfl (by simp)).mono ?_
    rintro r w1 ⟨rfl, hr1, hk1⟩
    have hres : w1.heap[w.heap.size]? = some (.cells #[.bool false, .slice none 0 0, .slice none 0 0] 25 (0, 0)) := (hk1.block _ (by simp) (by omega)).trans (Go.heap_alloc_new w _)
    have hs1 : w.heap.size < w1.heap.size := by have := hk1.size; simp at this; omega
    obtain ⟨f0, f1, f2, ff⟩ := cells3 hres
    have HK := Go.Lib.hid hk1
    have HR1 := Go.Lib.hid hr1
    clear hk1 hr1 hres
    go_wp2
    refine bodyPost_ret (v := item0) (by simp [results, Try.results26, go_sem, item0, f0, f1, f2]) rfl ?_
    exact item_fail (w2 := w) hrb HK.out HR1.out.rdr hs1
  | cons x r =>
    have hx := x.toNat_lt
    have HP := Go.Lib.hid hP
    clear hP
    go_enter Try.func26, Try.ntmps26
    go_wp2_with fail
    refine (nest_take rb (x :: r) 1 1 _ (HR.out.alloc _) rfl (by simp)).mono ?_
    rintro r w1 ⟨A, c, rfl, hmc, hc, hra, hap, hr1, hk1⟩
    have hres : w1.heap[w.heap.size]? = some (.cells #[.bool false, .slice none 0 0, .slice none 0 0] 25 (0, 0)) := (hk1.block _ (by simp) (by omega)).trans (Go.heap_alloc_new w _)
    have hs1 : w.heap.size < w1.heap.size := by have := hk1.size; simp at this; omega
    obtain ⟨f0, f1, f2, ff⟩ := cells3 hres
    obtain ⟨g, off, rfl, hg, hcell⟩ := hra.at_ (by simp)
    have hc0 := hcell 0 (.int .u8 (x.toNat : Int)) (by simp [bs, bv])
    rw [Nat.add_zero] at hc0
    have HK := Go.Lib.hid hk1
    have HR1 := Go.Lib.hid hr1
    have HRES := Go.Lib.hid hres
    clear hk1 hr1 hres hcell hap hra
    by_cases h1 : x.toNat < 128
    · have hPo : P = .ok (.mk false [x] [], 1) := by
        rw [← HP.out, pHead_byte _ _ _ h1]
      subst hPo
      have t1 : decide ((x.toNat : Int) < 128) = true := by simp; omega
      have hwr : IntKind.u8.wrap (x.toNat : Int) = x.toNat := by rw [IntKind.wrap_u8]; omega
      go_wp2
      have hr2 := HR1.out
      simp only [List.drop_succ_cons, List.drop_zero] at hr2
      have HR2 := Go.Lib.hid hr2
      clear hr2
      have hk3 := kp_set3 w1 w.heap.size (.bool false) (.slice (some ⟨w1.heap.size, 0, none⟩) 1 1) (.slice none 0 0)
      refine bodyPost_ret (v := .agg #[.bool false, .slice (some ⟨w1.heap.size, 0, none⟩) 1 1, .slice none 0 0]) (by simp [results, Try.results26, go_sem, f0, f1, f2, hs1]) rfl ⟨_, _, _, rfl, ?_, ?_, ?_⟩
      · refine RdT.text rfl (by simp) (by simp) (by simp) (RdP.of_rdU ?_ (fun g hg _ => by simp at hg; omega) (fun g hg j => by simp at hg; subst hg; have h := frozen_new (((w1.setCell ⟨w.heap.size, 0, none⟩ (.bool false)).setCell ⟨w.heap.size, 1, none⟩ (.slice (some ⟨w1.heap.size, 0, none⟩) 1 1)).setCell ⟨w.heap.size, 2, none⟩ (.slice none 0 0)) #[.int .u8 x.toNat] 5 j; simpa using h))
        have h2 := rd_new (((w1.setCell ⟨w.heap.size, 0, none⟩ (.bool false)).setCell ⟨w.heap.size, 1, none⟩ (.slice (some ⟨w1.heap.size, 0, none⟩) 1 1)).setCell ⟨w.heap.size, 2, none⟩ (.slice none 0 0)) #[.int .u8 x.toNat] 5
        rw [show bs [x] = [Value.int .u8 x.toNat] from rfl]
        simpa using h2
      · exact (HR2.out.kp hk3 (fun g hg h => by omega)).alloc _
      · exact (((Kp.alloc _ _ _).trans HK.out).thenNew hk3 (by rintro i rfl; exact Nat.le_refl _)).trans (Kp.alloc _ _ _)
    · have t1 : decide ((x.toNat : Int) < 128) = false := by simp; omega
      by_cases h2 : 192 ≤ x.toNat
      · have t2 : decide (192 ≤ (x.toNat : Int)) = true := by simp; omega
        have e2 : ((x.toNat : Int) - 192) = ((x.toNat - 192 : Nat) : Int) := by omega
        rcases HL.out with ⟨rfl, rfl⟩ | ⟨f, rfl, hd0, hlist⟩
        · have hPo : P = .error 21 := by
            rw [← HP.out, pHead_list _ _ _ h1 h2]
          subst hPo
          obtain ⟨A2, n2, c2, hb2, _⟩ := HR1.out
          have HB2 := Go.Lib.hid hb2
          clear hb2 e2
          go_wp2_with fail
          refine (nest_fail rb A2 n2 c2 21 _ (by exact HB2.out)).mono ?_
          rintro r w9 ⟨rfl, h9, hk9⟩
          obtain ⟨p0, p1, p2, pf⟩ := cells3 ((hk9.block _ hs1 (by omega)).trans HRES.out)
          have hs9 : w.heap.size < w9.heap.size := by have := hk9.size; omega
          have H9 := Go.Lib.hid h9
          have HK9 := Go.Lib.hid hk9
          clear h9 hk9
          unfold item0
          go_wp2
          refine bodyPost_ret (v := item0) (by simp [results, Try.results26, go_sem, item0, p0, p1, p2]) rfl ?_
          exact item_fail (w2 := w) hrb (HK.out.same HK9.out) ⟨_, _, _, H9.out⟩ hs9
        · have hPo : P = pList f (x.toNat - 192) r := by
            rw [← HP.out, pHead_list _ _ _ h1 h2]
          have HPO := Go.Lib.hid hPo
          have HLI := Go.Lib.hid hlist
          have E2 := Go.Lib.hid e2
          have t3 : (((8 - d : Nat) : Int) == 8) = false := by rw [beq_eq_false_iff_ne]; omega
          clear hPo hlist e2
          go_wp2_with fail
          refine (HLI.out rb r (x.toNat - 192) _ _ _ (by have := HR1.out; simpa using this) E2.out (by omega) rfl).mono ?_
          intro r9 w9 hp
          rcases hpl : pList f (x.toNat - 192) r with e | ⟨t, m⟩
          · rw [hpl] at hp
            obtain ⟨rfl, h9, hk9⟩ := hp
            rw [hpl] at HPO
            obtain rfl := HPO.out
            obtain ⟨p0, p1, p2, pf⟩ := cells3 ((hk9.block _ hs1 (by omega)).trans HRES.out)
            have hs9 : w.heap.size < w9.heap.size := by have := hk9.size; omega
            have H9 := Go.Lib.hid h9
            have HK9 := Go.Lib.hid hk9
            clear h9 hk9 hpl
            unfold item0
            go_wp2
            refine bodyPost_ret (v := item0) (by simp [results, Try.results26, go_sem, item0, p0, p1, p2]) rfl ?_
            exact item_fail (w2 := w) hrb (HK.out.same HK9.out) H9.out hs9
          · have hpm := pList_ok hpl
            rw [hpl] at hp
            obtain ⟨v0, v1, v2, rfl, ht9, hr9, hk9⟩ := hp
            rw [hpl] at HPO
            obtain rfl := HPO.out
            obtain ⟨p0, p1, p2, pf⟩ := cells3 ((hk9.block _ hs1 (by omega)).trans HRES.out)
            obtain ⟨a1, a2, a3, a4, a5, a6, rfl, rfl, rfl⟩ := ht9.shape
            have HT9 := Go.Lib.hid ht9
            have HR9 := Go.Lib.hid hr9
            have HK9 := Go.Lib.hid hk9
            clear ht9 hr9 hk9 hpl
            go_wp2
            have hk3 := kp_set3 w9 w.heap.size (.bool t.l) (.slice a1 a2 a3) (.slice a4 a5 a6)
            refine bodyPost_ret (v := .agg #[.bool t.l, .slice a1 a2 a3, .slice a4 a5 a6]) (by simp [results, Try.results26, go_sem, p0, p1, p2]) rfl ⟨_, _, _, rfl, ?_, ?_, ?_⟩
            · exact (HT9.out.kp hk3 (fun g hg h => by omega)).mono (fun g _ h => by omega)
            · have h5 := HR9.out.kp hk3 (fun g hg h => by omega)
              have e5 : m - 0 = (m - 1) + 1 := by omega
              rw [e5, List.drop_succ_cons]
              exact h5
            · exact (((Kp.alloc _ _ _).trans HK.out).same HK9.out).thenNew hk3 (by rintro i rfl; exact Nat.le_refl _)
      · have t2 : decide (192 ≤ (x.toNat : Int)) = false := by simp; omega
        have e2 : ((x.toNat : Int) - 128) = ((x.toNat - 128 : Nat) : Int) := by omega
        have hPo : P = pText (x.toNat - 128) r := by
          rw [← HP.out, pHead_text _ _ _ h1 h2]
        have HPO := Go.Lib.hid hPo
        have E2 := Go.Lib.hid e2
        clear hPo e2
        go_wp2_with fail
        refine (nest_size rb r (x.toNat - 128) _ _ (by have := HR1.out; simpa using this) E2.out (by omega)).mono ?_
        intro r9 w9 hp
        rcases hpl : pSize (x.toNat - 128) r with e | ⟨m, k⟩
        · rw [hpl] at hp
          obtain ⟨rfl, hr9, hk9⟩ := hp
          have hPe : P = .error e := by rw [HPO.out, pText, hpl]
          subst hPe
          obtain ⟨p0, p1, p2, pf⟩ := cells3 ((hk9.block _ hs1 (by omega)).trans HRES.out)
          have hs9 : w.heap.size < w9.heap.size := by have := hk9.size; omega
          obtain ⟨ys, hr9⟩ := hr9
          have HR9 := Go.Lib.hid hr9
          have HK9 := Go.Lib.hid hk9
          clear hr9 hk9 hpl
          go_wp2
          refine bodyPost_ret (v := item0) (by simp [results, Try.results26, go_sem, item0, p0, p1, p2]) rfl ?_
          exact item_fail (w2 := w) hrb (HK.out.same HK9.out) HR9.out.rdr hs9
        · rw [hpl] at hp
          obtain ⟨rfl, hr9, hk9⟩ := hp
          have hml := pSize_le hpl
          have hPe : P = if r.length - k < m then .error 22 else if m = 1 ∧ (r.drop k).headD 0 < 128 then .error 23 else .ok (.mk false ((r.drop k).take m) [], 1 + k + m) := by rw [HPO.out, pText, hpl]
          have HPE := Go.Lib.hid hPe
          have hres9 := (hk9.block _ hs1 (by omega)).trans HRES.out
          have hs9 : w.heap.size < w9.heap.size := by have := hk9.size; omega
          have HR9 := Go.Lib.hid hr9
          have HK9 := Go.Lib.hid (HK.out.same hk9)
          have HRES9 := Go.Lib.hid hres9
          clear hr9 hk9 hpl hres9 hPe
          by_cases hlt : (r.drop k).length < m
          · have hPo : P = .error 22 := by rw [HPE.out, if_pos (by simpa using hlt)]
            subst hPo
            go_wp2_with fail
            refine (nest_take_no rb _ m m _ HR9.out rfl hlt).mono ?_
            rintro r2 w2 ⟨rfl, hr2, hk2⟩
            obtain ⟨p0, p1, p2, pf⟩ := cells3 ((hk2.block _ hs9 (by omega)).trans HRES9.out)
            have hs2 : w.heap.size < w2.heap.size := by have := hk2.size; omega
            have HR2 := Go.Lib.hid hr2
            have HK2 := Go.Lib.hid hk2
            clear hr2 hk2
            go_wp2_with fail
            refine (clone_nil 0 _).mono ?_
            rintro r3 w3 ⟨rfl, rfl⟩
            go_wp2
            refine bodyPost_ret (v := item0) (by simp [results, Try.results26, go_sem, item0, p0, p1, p2]) rfl ?_
            exact item_fail (w2 := w) hrb (HK9.out.same HK2.out) HR2.out.rdr hs2
          · have hle : m ≤ (r.drop k).length := by omega
            have hle2 : ¬ r.length - k < m := by simpa using hlt
            go_wp2_with fail
            refine (nest_take rb _ m m _ HR9.out rfl hle).mono ?_
            rintro r2 w2 ⟨A2, c2, rfl, hmc2, hc2, hra2, hap2, hr2, hk2⟩
            have hres2 := (hk2.block _ hs9 (by omega)).trans HRES9.out
            have hs2 : w.heap.size < w2.heap.size := by have := hk2.size; omega
            have htl : ((r.drop k).take m).length = m := by rw [List.length_take]; omega
            have HRA2 := Go.Lib.hid hra2
            have HR2 := Go.Lib.hid hr2
            have HK2 := Go.Lib.hid (HK9.out.same hk2)
            have HRES2 := Go.Lib.hid hres2
            have HTL := Go.Lib.hid htl
            clear hra2 hap2 hr2 hk2 hres2 htl
            have last : ∀ (A3 : Option Addr) (c3 : Nat) (w3 : World), Own w3 w2.heap.size 5 1 A3 m c3 (bs ((r.drop k).take m)) → Below w2.heap.size w2 w3 → P = .ok (.mk false ((r.drop k).take m) [], 1 + k + m) →
                ItemP rb (x :: r) w 0 P (.returned (.agg #[.bool false, .slice A3 m c3, .slice none 0 0])) (((w3.setCell ⟨w.heap.size, 0, none⟩ (.bool false)).setCell ⟨w.heap.size, 1, none⟩ (.slice A3 m c3)).setCell ⟨w.heap.size, 2, none⟩ (.slice none 0 0)) := by
              intro A3 c3 w3 ho3 hb3 hP3
              subst hP3
              have hk3 := kp_set3 w3 w.heap.size (.bool false) (.slice A3 m c3) (.slice none 0 0)
              have hcap := ho3.cap
              refine ⟨_, _, _, rfl, ?_, ?_, ?_⟩
              · refine RdT.text HTL.out.symm hcap.1 hcap.2 (by omega) ?_
                exact ((ho3.rdp (fun g => w.heap.size < g) (fun g _ h _ => by omega)).keep hk3.size (fun g hg hl => hk3.block g hl (by omega))).mono (fun g _ h => by omega)
              · have h5 := (HR2.out.below hb3).kp hk3 (fun g hg h => by omega)
                have e5 : 1 + k + m - 0 = (k + m) + 1 := by omega
                rw [e5, List.drop_succ_cons, ← List.drop_drop]
                exact h5
              · exact (((Kp.alloc _ _ _).trans HK2.out).then (Kp.of_below hb3 (fun _ => False)) (fun i _ h => h.elim)).thenNew hk3 (by rintro i rfl; exact Nat.le_refl _)
            have LAST := Go.Lib.hid last
            clear last
            by_cases hm1 : m = 1
            · subst hm1
              obtain ⟨g2, off2, rfl, hg2, hcell2⟩ := HRA2.out.at_ (by simp; omega)
              have hh : ((r.drop k).take 1)[0]? = some ((r.drop k).headD 0) := by
                cases hrk : r.drop k with
                | nil => rw [hrk] at hle; simp at hle
                | cons y ys => rfl
              have hc2 := hcell2 0 (.int .u8 (((r.drop k).headD 0).toNat : Int)) (by rw [bs, List.getElem?_map, hh]; rfl)
              rw [Nat.add_zero] at hc2
              have hy := ((r.drop k).headD 0).toNat_lt
              generalize hgy : (r.drop k).headD 0 = y at *
              have HGY := Go.Lib.hid hgy
              clear hh hcell2 hgy
              by_cases hy1 : y.toNat < 128
              · have hPo : P = .error 23 := by rw [HPE.out, if_neg hle2, if_pos ⟨rfl, by rw [UInt8.lt_iff_toNat_lt]; exact hy1⟩]
                subst hPo
                have t5 : decide ((y.toNat : Int) < 128) = true := by simp; omega
                obtain ⟨A5, n5, c5, hb5, _⟩ := HR2.out
                have HB5 := Go.Lib.hid hb5
                clear hb5
                go_wp2_with fail
                refine (nest_fail rb A5 n5 c5 23 _ (by exact HB5.out)).mono ?_
                rintro r6 w6 ⟨rfl, h6, hk6⟩
                obtain ⟨p0, p1, p2, pf⟩ := cells3 ((hk6.block _ hs2 (by omega)).trans HRES2.out)
                have hs6 : w.heap.size < w6.heap.size := by have := hk6.size; omega
                have H6 := Go.Lib.hid h6
                have HK6 := Go.Lib.hid hk6
                clear h6 hk6
                unfold item0
                go_wp2
                refine bodyPost_ret (v := item0) (by simp [results, Try.results26, go_sem, item0, p0, p1, p2]) rfl ?_
                exact item_fail (w2 := w) hrb (HK2.out.same HK6.out) ⟨_, _, _, H6.out⟩ hs6
              · have hPo : P = .ok (.mk false ((r.drop k).take 1) [], 1 + k + 1) := by rw [HPE.out, if_neg hle2, if_neg (by rw [UInt8.lt_iff_toNat_lt]; intro h; exact hy1 h.2)]
                have t5 : decide ((y.toNat : Int) < 128) = false := by simp; omega
                have HPO2 := Go.Lib.hid hPo
                clear hPo
                go_wp2_with fail
                refine (clone_bytes _ 1 c2 _ _ HRA2.out HTL.out.symm (by omega) (by rw [HTL.out]; decide)).mono ?_
                rintro r3 w3 ⟨A3, c3, rfl, ho3, hb3⟩
                obtain ⟨p0, p1, p2, pf⟩ := cells3 ((hb3.block _ hs2).trans HRES2.out)
                have HO3 := Go.Lib.hid ho3
                have HB3 := Go.Lib.hid hb3
                clear ho3 hb3
                go_wp2
                refine bodyPost_ret (v := .agg #[.bool false, .slice A3 1 c3, .slice none 0 0]) (by simp [results, Try.results26, go_sem, p0, p1, p2]) rfl ?_
                exact LAST.out A3 c3 w3 HO3.out HB3.out HPO2.out
            · have hPo : P = .ok (.mk false ((r.drop k).take m) [], 1 + k + m) := by rw [HPE.out, if_neg hle2, if_neg (fun h => hm1 h.1)]
              have t5 : ((m : Int) == 1) = false := by rw [beq_eq_false_iff_ne]; omega
              have HPO2 := Go.Lib.hid hPo
              clear hPo
              go_wp2_with fail
              refine (clone_bytes A2 m c2 _ _ HRA2.out HTL.out.symm hmc2 (by rw [HTL.out]; omega)).mono ?_
              rintro r3 w3 ⟨A3, c3, rfl, ho3, hb3⟩
              obtain ⟨p0, p1, p2, pf⟩ := cells3 ((hb3.block _ hs2).trans HRES2.out)
              have HO3 := Go.Lib.hid ho3
              have HB3 := Go.Lib.hid hb3
              clear ho3 hb3
              go_wp2
              refine bodyPost_ret (v := .agg #[.bool false, .slice A3 m c3, .slice none 0 0]) (by simp [results, Try.results26, go_sem, p0, p1, p2]) rfl ?_
              exact LAST.out A3 c3 w3 HO3.out HB3.out HPO2.out

theorem nest_item : ∀ d, d ≤ 8 → ItemSt d
  | 0, hd => fun rb xs D w h hD => nest_item0 0 hd none (.inl ⟨rfl, rfl⟩) rb xs D w h hD
  | d + 1, hd => fun rb xs D w h hD => nest_item0 (d + 1) hd (some fun b => pLoop (pItem d) b.length b)
      (.inr ⟨_, rfl, by omega, fun rb xs n N D w h hN hn hD => nest_list d (by omega) (nest_item d (by omega)) rb xs n N D w h hN hn hD⟩) rb xs D w h hD

end Go.Proofs.Ytfolidaonnblbaa
