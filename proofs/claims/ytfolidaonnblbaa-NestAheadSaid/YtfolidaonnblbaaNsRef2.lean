/- The reference's reader of items: first, First, Decode. -/
import Derived.Test.YtfolidaonnblbaaNsRef
import Derived.WalkSpells
namespace Go.Proofs.Ytfolidaonnblbaa
open Go.ChangeShapes Go.WideShapes Go.RowKit
set_option linter.unusedVariables false

theorem seg_getD (xs : List UInt8) (a en j : Nat) (h : a + j < en) (he : en ≤ xs.length) : (seg xs a en).getD j 0 = xs.getD (a + j) 0 := by
  simp only [seg, List.getD, List.getElem?_drop, List.getElem?_take, if_pos h]
theorem seg_byteF (xs : List UInt8) (a en j : Nat) (h : a + j < en) (he : en ≤ xs.length) : byteF xs (a + j) = byteF (seg xs a en) j := by
  unfold byteF
  rw [seg_getD xs a en j h he]

/-- 's[l:h]' of a slice of one-cell elements: the address under a name. -/
theorem slice_seg {P : Program} (t : TypeId) (ht : P.underlying t = some (.slice (P.elem t))) (hs : ∀ w, (sizeOf (P.elem t)).run P w = .ok 1 w) (A : Option Addr) (n c l h : Nat) (L H : Int) (hL : L = (l : Int)) (hH : H = (h : Int)) (hl : l ≤ h) (hh : h ≤ n) (hn : n ≤ c) :
    ∃ A2, Hid (A2 = if c = l then A else A.map (·.add l)) ∧ ∀ w, (Instr.slice t (.slice A n c) (some (.int .i64 L)) (some (.int .i64 H)) none).run P w = .ok (.slice A2 (h - l) (c - l)) w := by
  subst hL hH
  refine ⟨_, Go.Lib.hid rfl, fun w => ?_⟩
  rw [run_slice_lh w t A n c ht .i64 .i64 l h (by omega) (by omega) (by omega), hs]
  simp [Result.andThen, sliced]
theorem seg_rd {w : World} {A A2 : Option Addr} {c l h : Nat} {xs : List UInt8} (hr : Rd w A (bs xs)) (hA : A2 = if c = l then A else A.map (·.add l)) (hc : xs.length ≤ c) (hh : l ≤ h) : Rd w A2 (bs (seg xs l h)) := by
  have h1 := (hr.take h).cut l c (by rw [List.length_take, bs_length]; omega)
  rw [← hA, ← bs_take, ← bs_drop] at h1
  exact h1

theorem rfail {a : Nat} {w : World} {e : Int} : RFirP a w (.error e) (.returned (.tuple #[item0, .int .i64 0, .int .i64 e])) ((((w.alloc (.cells #[.bool false, .slice none 0 0, .slice none 0 0] 25)).setCell ⟨w.heap.size, 0, none⟩ (.bool false)).setCell ⟨w.heap.size, 1, none⟩ (.slice none 0 0)).setCell ⟨w.heap.size, 2, none⟩ (.slice none 0 0)) :=
  ⟨rfl, below_set3 (bal (Below.refl _ _) _) (Nat.le_refl _) _ _ _⟩
theorem rfail' {a : Nat} {w : World} {e : Int} : RFirP a w (.error e) (.returned (.tuple #[item0, .int .i64 0, .int .i64 e])) (w.alloc (.cells #[.bool false, .slice none 0 0, .slice none 0 0] 25)) :=
  ⟨rfl, bal (Below.refl _ _) _⟩

set_option maxHeartbeats 1000000 in
set_option maxRecDepth 100000 in
theorem ref_first_text (d : Nat) (hd : d ≤ 8) (n c : Nat) (xs : List UInt8) (a en : Nat) (w : World) (hnc : n ≤ c) (hc : c ≤ 9223372036854775807 ∧ n ≤ 175921860444160) (hae : a ≤ en) (hen : en ≤ n) (HN : Hid (n = xs.length)) (P : Except Int (Tree × Nat)) (hlt : a < en) (x : UInt8) (r : List UInt8) (g off : Nat)
    (HR : Hid (Rd w (some ⟨g, off, none⟩) (bs xs))) (hg : g < w.heap.size) (hc0 : w.cell? ⟨g, off + a, none⟩ = some (.int .u8 (x.toNat : Int))) (hxb : x.toNat < 256) (HRR : Hid (seg xs (a + 1) en = r)) (HRL : Hid (r.length = en - (a + 1)))
    (HC : Hid (∀ j u, (bs xs)[j]? = some u → w.cell? ⟨g, off + j, none⟩ = some u)) (hne : a < n) (hne2 : a ≤ 175921860444160) (hnb : n ≤ 175921860444160) (heb : en ≤ 175921860444160)
    (h1 : ¬ x.toNat < 128) (h2 : ¬ 192 ≤ x.toNat) (hPo : P = pText (x.toNat - 128) r) :
    Calls Try.prog 27 #[.slice (some ⟨g, off, none⟩) n c, .int .i64 a, .int .i64 en, .int .i64 ((8 - d : Nat) : Int)] w (RFirP a w P) := by
  have HPO := Go.Lib.hid hPo
  obtain ⟨bn, hbn⟩ : ∃ bn, x.toNat = 128 + bn := ⟨x.toNat - 128, by omega⟩
  have hbb : bn ≤ 63 := by omega
  have hc1 : w.cell? ⟨g, off + a, none⟩ = some (.int .u8 (128 + (bn : Int))) := by rw [hc0, hbn]; simp
  have hPo2 : P = pText bn r := by rw [hPo, hbn]; congr 1; omega
  have HPO := Go.Lib.hid hPo2
  clear hPo hc0 hbn hPo2 h1 h2 hxb
  have s1 : decide (192 ≤ 128 + (bn : Int)) = false := by simp; omega
  have s2 : decide (128 + (bn : Int) < 128) = false := by simp; omega
  have hsb : (128 + (bn : Int)) - 128 = (bn : Int) := by omega
  go_enter Try.func27, Try.ntmps27
  by_cases h58 : 58 < bn
  · have hPe : P = .error 23 := by rw [HPO.out, pText, pSize, if_neg (by omega), if_pos h58]
    subst hPe
    go_wp2
    refine bodyPost_ret (v := .tuple #[item0, .int .i64 0, .int .i64 23]) (by simp [results, Try.results27, go_sem, item0]) rfl ?_
    exact rfail'
  go_upto_if 54 with (fail)
  go_cut [1, 13] (fun s1 s13 wx => ∃ m k : Nat, s1 = .int .i64 ((a + 1 + k : Nat) : Int) ∧ s13 = .int .i64 ((m : Nat) : Int) ∧ Hid (pSize bn r = .ok (m, k)) ∧ wx = w.alloc (.cells #[.bool false, .slice none 0 0, .slice none 0 0] 25))
  case first =>
    by_cases h55 : bn ≤ 55
    · go_wp2_with fail
      go_meet
      exact ⟨bn, 0, by simp, rfl, Go.Lib.hid (by rw [pSize, if_pos h55]), rfl⟩
    · clear hsb
      obtain ⟨k, hk⟩ : ∃ k, k = bn - 55 := ⟨_, rfl⟩
      have hk1 : 1 ≤ k := by omega
      have hk3 : k ≤ 3 := by omega
      have hbk : bn = 55 + k := by omega
      clear hk
      subst hbk
      have hwk : (55 + (k : Int)) - 55 = (k : Int) := by omega
      by_cases hsh : r.length < k
      · have hPe : P = .error 22 := by
          rw [HPO.out, pText, pSize, if_neg (by omega), if_neg (by omega), if_pos (by omega)]
        subst hPe
        have hsh2 : en - (a + 1) < k := by have := HRL.out; omega
        have hshb : decide ((en : Int) - ((a : Int) + 1) < (k : Int)) = true := by simp; omega
        go_wp2
        refine bodyPost_ret (v := .tuple #[item0, .int .i64 0, .int .i64 22]) (by simp [results, Try.results27, go_sem, item0]) rfl ?_
        exact rfail'
      · have hsh2 : a + 1 + k ≤ en := by have := HRL.out; omega
        have hshb : decide ((en : Int) - ((a : Int) + 1) < (k : Int)) = false := by simp; omega
        clear hsh
        go_wp2
        go_loop [13, 15] (fun t i => ∃ j : Nat, j ≤ k ∧ i = .int .i64 j ∧ t = .int .i64 ((beL 0 (r.take j) : Nat) : Int)) (fun _ i => k - (intOf i).toNat)
        case atStart => exact ⟨0, by omega, rfl, rfl⟩
        case round =>
          obtain ⟨j, hj, rfl, rfl⟩ := hrel
          have hbd := beL_small (r.take j) (by rw [List.length_take]; omega)
          by_cases hlt2 : j < k
          · have hcj := HC.out (a + 1 + j) _ (bs_at xs _ (by have := HN.out; omega))
            rw [seg_byteF xs (a + 1) en j (by omega) (by have := HN.out; omega), HRR.out] at hcj
            have hb1 := byteF_bd r j
            have hbd2 := beL_small2 (r.take j) (by rw [List.length_take]; omega)
            go_wp2
            go_round
            case rel =>
              refine ⟨j + 1, by omega, by go_num, ?_⟩
              rw [take_snoc _ _ (by have := HRL.out; omega), beL_append]
              congr 1
              simp [byteF, Int.mul_comm]
            case measure => simp [intOf]; omega
          · obtain rfl : j = k := by omega
            have hcj := HC.out (a + 1) _ (bs_at xs _ (by have := HN.out; omega))
            have e0 : byteF xs (a + 1) = ((r.headD 0).toNat : Int) := by
              have h5 := seg_byteF xs (a + 1) en 0 (by omega) (by have := HN.out; omega)
              rw [Nat.add_zero, HRR.out] at h5
              rw [h5]
              cases r with
              | nil => rfl
              | cons y ys => rfl
            rw [e0] at hcj
            have hyb := (r.headD 0).toNat_lt
            generalize hy : r.headD 0 = y at *
            have HY := Go.Lib.hid hy
            clear hy e0 hlt2
            by_cases hz : y = 0
            · have hPe : P = .error 23 := by
                rw [HPO.out, pText, pSize, if_neg (by omega), if_neg (by omega), if_neg (by have := HRL.out; omega), if_pos (.inl (by rw [HY.out, hz]))]
              subst hPe
              have hzb : ((y.toNat : Int) == 0) = true := by rw [hz]; rfl
              clear hz
              go_wp2
              refine bodyPost_ret (v := .tuple #[item0, .int .i64 0, .int .i64 23]) (by simp [results, Try.results27, go_sem, item0]) rfl ?_
              exact rfail'
            · have hzb : ((y.toNat : Int) == 0) = false := by
                rw [beq_eq_false_iff_ne]
                intro h
                exact hz (UInt8.toNat_inj.1 (by simpa using h))
              have hz2 : ¬ r.headD 0 = 0 := by rw [HY.out]; exact hz
              have HZ2 := Go.Lib.hid hz2
              clear hz hz2
              by_cases hle : beL 0 (r.take j) ≤ 55
              · have hPe : P = .error 23 := by
                  rw [HPO.out, pText, pSize, if_neg (by omega), if_neg (by omega), if_neg (by have := HRL.out; omega), if_pos (.inr (by rw [show 55 + j - 55 = j from by omega]; exact hle))]
                subst hPe
                have hleb : decide (((beL 0 (r.take j) : Nat) : Int) < 56) = true := by simp; omega
                go_wp2
                refine bodyPost_ret (v := .tuple #[item0, .int .i64 0, .int .i64 23]) (by simp [results, Try.results27, go_sem, item0]) rfl ?_
                exact rfail'
              · have hleb : decide (((beL 0 (r.take j) : Nat) : Int) < 56) = false := by simp; omega
                have hps : pSize (55 + j) r = .ok (beL 0 (r.take j), j) := by
                  rw [pSize, if_neg (by omega), if_neg (by omega), if_neg (by have := HRL.out; omega), if_neg, show 55 + j - 55 = j from by omega]
                  rintro (h | h)
                  · exact HZ2.out h
                  · rw [show 55 + j - 55 = j from by omega] at h; exact hle h
                have HPS := Go.Lib.hid hps
                clear hps
                go_wp2_with fail
                go_meet
                exact ⟨beL 0 (r.take j), j, by simp, rfl, HPS, rfl⟩
  case rest =>
    obtain ⟨m, k, rfl, rfl, HPS, rfl⟩ := hcut
    have hml := pSize_le HPS.out
    have hkl := pSize_ok HPS.out
    have hk3 := hkl.1
    have hkr := hkl.2.1
    clear hkl
    rw [HRL.out] at hkr
    have hPe : P = if r.length - k < m then .error 22 else if m = 1 ∧ (r.drop k).headD 0 < 128 then .error 23 else .ok (.mk false ((r.drop k).take m) [], 1 + k + m) := by rw [HPO.out, pText, HPS.out]
    have HPE := Go.Lib.hid hPe
    clear hPe
    by_cases hsh : en - (a + 1 + k) < m
    · have hPe : P = .error 22 := by rw [HPE.out, if_pos (by rw [HRL.out]; omega)]
      subst hPe
      have hshb : decide ((en : Int) - ((a : Int) + 1 + (k : Int)) < (m : Int)) = true := by simp; omega
      go_wp2
      refine bodyPost_ret (v := .tuple #[item0, .int .i64 0, .int .i64 22]) (by simp [results, Try.results27, go_sem, item0]) rfl ?_
      exact rfail'
    · have hshb : decide ((en : Int) - ((a : Int) + 1 + (k : Int)) < (m : Int)) = false := by simp; omega
      have hfit : a + 1 + k + m ≤ en := by omega
      have hif : ¬ r.length - k < m := by rw [HRL.out]; omega
      have hrd : r.drop k = seg xs (a + 1 + k) en := by rw [← HRR.out, seg_drop]
      have hrt : (r.drop k).take m = seg xs (a + 1 + k) (a + 1 + k + m) := by rw [hrd]; exact seg_take _ _ _ _ hfit
      have HRT := Go.Lib.hid hrt
      have HRD := Go.Lib.hid hrd
      clear hrt hrd hsh
      have hyb := ((r.drop k).headD 0).toNat_lt
      have hcy : 1 ≤ m → w.cell? ⟨g, off + (a + 1 + k), none⟩ = some (.int .u8 (((r.drop k).headD 0).toNat : Int)) := by
        intro h1m
        have h5 := HC.out (a + 1 + k) _ (bs_at xs _ (by have := HN.out; omega))
        rw [h5]
        have h6 := seg_byteF xs (a + 1 + k) en 0 (by omega) (by have := HN.out; omega)
        rw [Nat.add_zero, ← HRD.out] at h6
        rw [h6]
        cases r.drop k <;> rfl
      generalize hy : (r.drop k).headD 0 = y at *
      have HY := Go.Lib.hid hy
      clear hy
      obtain ⟨A2, hA2, hsl⟩ := slice_seg (P := Try.prog) 22 Try.underlying22 Try.sizeOf5 (some ⟨g, off, none⟩) n c (a + 1 + k) (a + 1 + k + m) ((a : Int) + 1 + (k : Int)) ((a : Int) + 1 + (k : Int) + (m : Int)) (by omega) (by omega) (by omega) (by omega) hnc
      rw [show a + 1 + k + m - (a + 1 + k) = m from by omega] at hsl
      have last : P = .ok (.mk false ((r.drop k).take m) [], 1 + k + m) → ∀ (A3 : Option Addr) (c3 : Nat) (w3 : World), Own w3 (w.heap.size + 1) 5 1 A3 m c3 (bs (seg xs (a + 1 + k) (a + 1 + k + m))) → Below (w.heap.size + 1) (w.alloc (.cells #[.bool false, .slice none 0 0, .slice none 0 0] 25)) w3 →
          RFirP a w P (.returned (.tuple #[.agg #[.bool false, .slice A3 m c3, .slice none 0 0], .int .i64 ((a + (1 + k + m) : Nat) : Int), .int .i64 0])) (((w3.setCell ⟨w.heap.size, 0, none⟩ (.bool false)).setCell ⟨w.heap.size, 1, none⟩ (.slice A3 m c3)).setCell ⟨w.heap.size, 2, none⟩ (.slice none 0 0)) := by
        intro hP3 A3 c3 w3 ho3 hb3
        subst hP3
        have hk3 := kp_set3 w3 w.heap.size (.bool false) (.slice A3 m c3) (.slice none 0 0)
        have hcap := ho3.cap
        have hb4 : Below w.heap.size w w3 := (bal (Below.refl _ w) _).trans (hb3.mono (by omega))
        refine ⟨_, _, _, rfl, ?_, below_set3 hb4 (Nat.le_refl _) _ _ _⟩
        refine RdT.text ?_ hcap.1 hcap.2 (by omega) ?_
        · rw [HRT.out, seg_length _ _ _ (by have := HN.out; omega)]
          omega
        · rw [HRT.out]
          exact ((ho3.rdp (fun g => w.heap.size < g) (fun g _ h _ => by omega)).keep hk3.size (fun g hg hl => hk3.block g hl (by omega))).mono (fun g _ h => by omega)
      have LAST := Go.Lib.hid last
      clear last hsb
      have hcop : ∀ w3 : World, Rd w3 (some ⟨g, off, none⟩) (bs xs) → Rd w3 A2 (bs (seg xs (a + 1 + k) (a + 1 + k + m))) := fun w3 h => seg_rd h hA2.out (by have := HN.out; omega) (by omega)
      have HCOP := Go.Lib.hid hcop
      have hsegl : (seg xs (a + 1 + k) (a + 1 + k + m)).length = m := by rw [seg_length _ _ _ (by have := HN.out; omega)]; omega
      have HSL := Go.Lib.hid hsegl
      clear hcop hsegl
      have hmb : m ≤ 175921860444160 := by omega
      by_cases hm1 : m = 1
      · have hcy := hcy (by omega)
        have t6 : ((m : Int) == 1) = true := by rw [beq_iff_eq]; omega
        have hb1 : a + 1 + k < n := by omega
        by_cases hy1 : y.toNat < 128
        · have hPo : P = .error 23 := by rw [HPE.out, if_neg hif, if_pos ⟨hm1, by rw [UInt8.lt_iff_toNat_lt]; exact hy1⟩]
          subst hPo
          clear hm1
          have t5 : decide ((y.toNat : Int) < 128) = true := by simp; omega
          go_wp2
          refine bodyPost_ret (v := .tuple #[item0, .int .i64 0, .int .i64 23]) (by simp [results, Try.results27, go_sem, item0]) rfl ?_
          exact rfail'
        · have hPo : P = .ok (.mk false ((r.drop k).take m) [], 1 + k + m) := by rw [HPE.out, if_neg hif, if_neg (by rw [UInt8.lt_iff_toNat_lt]; intro h; exact hy1 h.2)]
          have t5 : decide ((y.toNat : Int) < 128) = false := by simp; omega
          have HPO2 := Go.Lib.hid hPo
          clear hPo hm1
          go_wp2_with (go_at_call 40; refine (ref_copied A2 m _ _ _ (by exact HCOP.out _ (HR.out.alloc _)) HSL.out.symm (by rw [HSL.out]; omega)).mono ?_; rintro r3 w3 ⟨A3, c3, rfl, ho3, hb3⟩; have hs3 : w.heap.size < w3.heap.size := (by have := hb3.size; simp at this; omega); obtain ⟨p0, p1, p2, pf⟩ := cells3 ((hb3.block w.heap.size (by simp)).trans (Go.heap_alloc_new w _)); have HO3 := Go.Lib.hid ho3; have HB3 := Go.Lib.hid hb3; clear ho3 hb3)
          refine bodyPost_ret (v := .tuple #[.agg #[.bool false, .slice A3 m c3, .slice none 0 0], .int .i64 ((a + (1 + k + m) : Nat) : Int), .int .i64 0]) (by simp [results, Try.results27, go_sem, p0, p1, p2]; try omega) rfl ?_
          exact LAST.out HPO2.out A3 c3 w3 (by simpa using HO3.out) (by simpa using HB3.out)
      · have hPo : P = .ok (.mk false ((r.drop k).take m) [], 1 + k + m) := by rw [HPE.out, if_neg hif, if_neg (fun h => hm1 h.1)]
        have t5 : ((m : Int) == 1) = false := by rw [beq_eq_false_iff_ne]; omega
        have HPO2 := Go.Lib.hid hPo
        clear hPo hcy
        go_wp2_with (go_at_call 40; refine (ref_copied A2 m _ _ _ (by exact HCOP.out _ (HR.out.alloc _)) HSL.out.symm (by rw [HSL.out]; omega)).mono ?_; rintro r3 w3 ⟨A3, c3, rfl, ho3, hb3⟩; have hs3 : w.heap.size < w3.heap.size := (by have := hb3.size; simp at this; omega); obtain ⟨p0, p1, p2, pf⟩ := cells3 ((hb3.block w.heap.size (by simp)).trans (Go.heap_alloc_new w _)); have HO3 := Go.Lib.hid ho3; have HB3 := Go.Lib.hid hb3; clear ho3 hb3)
        refine bodyPost_ret (v := .tuple #[.agg #[.bool false, .slice A3 m c3, .slice none 0 0], .int .i64 ((a + (1 + k + m) : Nat) : Int), .int .i64 0]) (by simp [results, Try.results27, go_sem, p0, p1, p2]; try omega) rfl ?_
        exact LAST.out HPO2.out A3 c3 w3 (by simpa using HO3.out) (by simpa using HB3.out)

set_option maxHeartbeats 1000000 in
set_option maxRecDepth 100000 in
theorem ref_first_list (d : Nat) (hd : d ≤ 8) (f : List UInt8 → Except Int (List Tree)) (hd0 : 0 < d)
    (HLI : Hid (∀ (A : Option Addr) (n c : Nat) (xs : List UInt8) (a en : Nat) (AA EE D : Int) (w : World), Rd w A (bs xs) → n = xs.length → n ≤ c → c ≤ 9223372036854775807 ∧ n ≤ 175921860444160 → a ≤ en → en ≤ n →
      en - a ≤ 16777215 → AA = a → EE = en → D = ((8 - (d - 1) : Nat) : Int) →
      Calls Try.prog 41 #[.slice A n c, .int .i64 AA, .int .i64 EE, .int .i64 D] w (RItP en w (f (seg xs a en)))))
    (n c : Nat) (xs : List UInt8) (a en : Nat) (w : World) (hnc : n ≤ c) (hc : c ≤ 9223372036854775807 ∧ n ≤ 175921860444160) (hae : a ≤ en) (hen : en ≤ n) (HN : Hid (n = xs.length)) (P : Except Int (Tree × Nat)) (hlt : a < en) (x : UInt8) (r : List UInt8) (g off : Nat)
    (HR : Hid (Rd w (some ⟨g, off, none⟩) (bs xs))) (hg : g < w.heap.size) (hc0 : w.cell? ⟨g, off + a, none⟩ = some (.int .u8 (x.toNat : Int))) (hxb : x.toNat < 256) (HRR : Hid (seg xs (a + 1) en = r)) (HRL : Hid (r.length = en - (a + 1)))
    (HC : Hid (∀ j u, (bs xs)[j]? = some u → w.cell? ⟨g, off + j, none⟩ = some u)) (hne : a < n) (hne2 : a ≤ 175921860444160) (hnb : n ≤ 175921860444160) (heb : en ≤ 175921860444160)
    (h2 : 192 ≤ x.toNat) (hPo : P = pList f (x.toNat - 192) r) :
    Calls Try.prog 27 #[.slice (some ⟨g, off, none⟩) n c, .int .i64 a, .int .i64 en, .int .i64 ((8 - d : Nat) : Int)] w (RFirP a w P) := by
  have HPO := Go.Lib.hid hPo
  obtain ⟨bn, hbn⟩ : ∃ bn, x.toNat = 192 + bn := ⟨x.toNat - 192, by omega⟩
  have hbb : bn ≤ 63 := by omega
  have hc1 : w.cell? ⟨g, off + a, none⟩ = some (.int .u8 (192 + (bn : Int))) := by rw [hc0, hbn]; simp
  have hPo2 : P = pList f bn r := by rw [hPo, hbn]; congr 1; omega
  have HPO := Go.Lib.hid hPo2
  clear hPo hc0 hbn hPo2 h2 hxb
  have s1 : decide (192 ≤ 192 + (bn : Int)) = true := by simp; omega
  have s5 : decide (8 ≤ ((8 - d : Nat) : Int)) = false := by simp; omega
  have s6 : decide (8 ≤ 8 - d) = false := by simp; omega
  have s2 : decide (192 + (bn : Int) < 128) = false := by simp; omega
  have hsb : (192 + (bn : Int)) - 192 = (bn : Int) := by omega
  go_enter Try.func27, Try.ntmps27
  by_cases h58 : 58 < bn
  · have hPe : P = .error 23 := by rw [HPO.out, pList, pSize, if_neg (by omega), if_pos h58]
    subst hPe
    go_wp2
    refine bodyPost_ret (v := .tuple #[item0, .int .i64 0, .int .i64 23]) (by simp [results, Try.results27, go_sem, item0]) rfl ?_
    exact rfail'
  go_upto_if 54 with (fail)
  go_cut [1, 13] (fun s1 s13 wx => ∃ m k : Nat, s1 = .int .i64 ((a + 1 + k : Nat) : Int) ∧ s13 = .int .i64 ((m : Nat) : Int) ∧ Hid (pSize bn r = .ok (m, k)) ∧ wx = w.alloc (.cells #[.bool false, .slice none 0 0, .slice none 0 0] 25))
  case first =>
    by_cases h55 : bn ≤ 55
    · go_wp2_with fail
      go_meet
      exact ⟨bn, 0, by simp, rfl, Go.Lib.hid (by rw [pSize, if_pos h55]), rfl⟩
    · clear hsb
      obtain ⟨k, hk⟩ : ∃ k, k = bn - 55 := ⟨_, rfl⟩
      have hk1 : 1 ≤ k := by omega
      have hk3 : k ≤ 3 := by omega
      have hbk : bn = 55 + k := by omega
      clear hk
      subst hbk
      have hwk : (55 + (k : Int)) - 55 = (k : Int) := by omega
      by_cases hsh : r.length < k
      · have hPe : P = .error 22 := by
          rw [HPO.out, pList, pSize, if_neg (by omega), if_neg (by omega), if_pos (by omega)]
        subst hPe
        have hsh2 : en - (a + 1) < k := by have := HRL.out; omega
        have hshb : decide ((en : Int) - ((a : Int) + 1) < (k : Int)) = true := by simp; omega
        go_wp2
        refine bodyPost_ret (v := .tuple #[item0, .int .i64 0, .int .i64 22]) (by simp [results, Try.results27, go_sem, item0]) rfl ?_
        exact rfail'
      · have hsh2 : a + 1 + k ≤ en := by have := HRL.out; omega
        have hshb : decide ((en : Int) - ((a : Int) + 1) < (k : Int)) = false := by simp; omega
        clear hsh
        go_wp2
        go_loop [13, 15] (fun t i => ∃ j : Nat, j ≤ k ∧ i = .int .i64 j ∧ t = .int .i64 ((beL 0 (r.take j) : Nat) : Int)) (fun _ i => k - (intOf i).toNat)
        case atStart => exact ⟨0, by omega, rfl, rfl⟩
        case round =>
          obtain ⟨j, hj, rfl, rfl⟩ := hrel
          have hbd := beL_small (r.take j) (by rw [List.length_take]; omega)
          by_cases hlt2 : j < k
          · have hcj := HC.out (a + 1 + j) _ (bs_at xs _ (by have := HN.out; omega))
            rw [seg_byteF xs (a + 1) en j (by omega) (by have := HN.out; omega), HRR.out] at hcj
            have hb1 := byteF_bd r j
            have hbd2 := beL_small2 (r.take j) (by rw [List.length_take]; omega)
            go_wp2
            go_round
            case rel =>
              refine ⟨j + 1, by omega, by go_num, ?_⟩
              rw [take_snoc _ _ (by have := HRL.out; omega), beL_append]
              congr 1
              simp [byteF, Int.mul_comm]
            case measure => simp [intOf]; omega
          · obtain rfl : j = k := by omega
            have hcj := HC.out (a + 1) _ (bs_at xs _ (by have := HN.out; omega))
            have e0 : byteF xs (a + 1) = ((r.headD 0).toNat : Int) := by
              have h5 := seg_byteF xs (a + 1) en 0 (by omega) (by have := HN.out; omega)
              rw [Nat.add_zero, HRR.out] at h5
              rw [h5]
              cases r with
              | nil => rfl
              | cons y ys => rfl
            rw [e0] at hcj
            have hyb := (r.headD 0).toNat_lt
            generalize hy : r.headD 0 = y at *
            have HY := Go.Lib.hid hy
            clear hy e0 hlt2
            by_cases hz : y = 0
            · have hPe : P = .error 23 := by
                rw [HPO.out, pList, pSize, if_neg (by omega), if_neg (by omega), if_neg (by have := HRL.out; omega), if_pos (.inl (by rw [HY.out, hz]))]
              subst hPe
              have hzb : ((y.toNat : Int) == 0) = true := by rw [hz]; rfl
              clear hz
              go_wp2
              refine bodyPost_ret (v := .tuple #[item0, .int .i64 0, .int .i64 23]) (by simp [results, Try.results27, go_sem, item0]) rfl ?_
              exact rfail'
            · have hzb : ((y.toNat : Int) == 0) = false := by
                rw [beq_eq_false_iff_ne]
                intro h
                exact hz (UInt8.toNat_inj.1 (by simpa using h))
              have hz2 : ¬ r.headD 0 = 0 := by rw [HY.out]; exact hz
              have HZ2 := Go.Lib.hid hz2
              clear hz hz2
              by_cases hle : beL 0 (r.take j) ≤ 55
              · have hPe : P = .error 23 := by
                  rw [HPO.out, pList, pSize, if_neg (by omega), if_neg (by omega), if_neg (by have := HRL.out; omega), if_pos (.inr (by rw [show 55 + j - 55 = j from by omega]; exact hle))]
                subst hPe
                have hleb : decide (((beL 0 (r.take j) : Nat) : Int) < 56) = true := by simp; omega
                go_wp2
                refine bodyPost_ret (v := .tuple #[item0, .int .i64 0, .int .i64 23]) (by simp [results, Try.results27, go_sem, item0]) rfl ?_
                exact rfail'
              · have hleb : decide (((beL 0 (r.take j) : Nat) : Int) < 56) = false := by simp; omega
                have hps : pSize (55 + j) r = .ok (beL 0 (r.take j), j) := by
                  rw [pSize, if_neg (by omega), if_neg (by omega), if_neg (by have := HRL.out; omega), if_neg, show 55 + j - 55 = j from by omega]
                  rintro (h | h)
                  · exact HZ2.out h
                  · rw [show 55 + j - 55 = j from by omega] at h; exact hle h
                have HPS := Go.Lib.hid hps
                clear hps
                go_wp2_with fail
                go_meet
                exact ⟨beL 0 (r.take j), j, by simp, rfl, HPS, rfl⟩
  case rest =>
    obtain ⟨m, k, rfl, rfl, HPS, rfl⟩ := hcut
    have hml := pSize_le HPS.out
    have hkl := pSize_ok HPS.out
    have hk3 := hkl.1
    have hkr := hkl.2.1
    clear hkl
    rw [HRL.out] at hkr
    have hPe : P = if r.length - k < m then .error 22 else match f ((r.drop k).take m) with | .error e => .error e | .ok l => .ok (.mk true [] l, 1 + k + m) := by
      rw [HPO.out, pList, HPS.out]
      rfl
    have HPE := Go.Lib.hid hPe
    clear hPe
    by_cases hsh : en - (a + 1 + k) < m
    · have hPe : P = .error 22 := by rw [HPE.out, if_pos (by rw [HRL.out]; omega)]
      subst hPe
      have hshb : decide ((en : Int) - ((a : Int) + 1 + (k : Int)) < (m : Int)) = true := by simp; omega
      go_wp2
      refine bodyPost_ret (v := .tuple #[item0, .int .i64 0, .int .i64 22]) (by simp [results, Try.results27, go_sem, item0]) rfl ?_
      exact rfail'
    · have hshb : decide ((en : Int) - ((a : Int) + 1 + (k : Int)) < (m : Int)) = false := by simp; omega
      have hfit : a + 1 + k + m ≤ en := by omega
      have hif : ¬ r.length - k < m := by rw [HRL.out]; omega
      have hrd : r.drop k = seg xs (a + 1 + k) en := by rw [← HRR.out, seg_drop]
      have hrt : (r.drop k).take m = seg xs (a + 1 + k) (a + 1 + k + m) := by rw [hrd]; exact seg_take _ _ _ _ hfit
      have HRT := Go.Lib.hid hrt
      have HRD := Go.Lib.hid hrd
      clear hrt hrd hsh
      clear hsb
      have hdd : IntKind.i64.wrap (((8 - d : Nat) : Int) + 1) = ((8 - (d - 1) : Nat) : Int) := by rw [IntKind.wrap_i64]; omega
      have hdd2 : ((8 - d : Nat) : Int) + 1 = ((8 - (d - 1) : Nat) : Int) := by omega
      have HDD := Go.Lib.hid hdd2
      clear hdd hdd2
      go_wp2_with fail
      refine (HLI.out (some ⟨g, off, none⟩) n c xs (a + 1 + k) (a + 1 + k + m) _ _ _ _ (HR.out.alloc _) HN.out hnc hc (by omega) (by omega) (by omega) (by omega) (by omega) (by have := HDD.out; omega)).mono ?_
      intro r3 w3 hp
      rw [HRT.out] at HPE
      rcases hfl : f (seg xs (a + 1 + k) (a + 1 + k + m)) with e | l
      · rw [hfl] at hp HPE
        obtain ⟨rfl, hb3⟩ := hp
        have hPe : P = .error e := by rw [HPE.out, if_neg hif]
        subst hPe
        obtain ⟨p0, p1, p2, pf⟩ := cells3 ((hb3.block w.heap.size (by simp)).trans (Go.heap_alloc_new w _))
        have HB3 := Go.Lib.hid hb3
        clear hb3 hfl
        unfold item0
        go_wp2
        refine bodyPost_ret (v := .tuple #[item0, .int .i64 0, .int .i64 e]) (by simp [results, Try.results27, go_sem, item0, p0, p1, p2]) rfl ⟨rfl, ?_⟩
        exact below_set3 (btr (bal (Below.refl _ _) _) HB3.out) (Nat.le_refl _) _ _ _
      · rw [hfl] at hp HPE
        obtain ⟨v0, v1, v2, rfl, ht, hb3⟩ := hp
        have hPe : P = .ok (.mk true [] l, 1 + k + m) := by rw [HPE.out, if_neg hif]
        subst hPe
        obtain ⟨p0, p1, p2, pf⟩ := cells3 ((hb3.block w.heap.size (by simp)).trans (Go.heap_alloc_new w _))
        obtain ⟨a1, a2, a3, a4, a5, a6, e1, rfl, rfl⟩ := ht.shape
        subst e1
        have HB3 := Go.Lib.hid hb3
        have HT := Go.Lib.hid ht
        clear hb3 hfl ht
        go_wp2
        refine bodyPost_ret (v := .tuple #[.agg #[.bool true, .slice a1 a2 a3, .slice a4 a5 a6], .int .i64 ((a + (1 + k + m) : Nat) : Int), .int .i64 0]) (by simp [results, Try.results27, go_sem, p0, p1, p2, Tree.l]; try omega) rfl ⟨_, _, _, rfl, ?_, ?_⟩
        · exact (HT.out.kp (kp_set3 w3 w.heap.size (.bool true) (.slice a1 a2 a3) (.slice a4 a5 a6)) (fun g hg h => by simp at hg; omega)).mono (fun g _ h => by simp at h; omega)
        · exact below_set3 (btr (bal (Below.refl _ _) _) HB3.out) (Nat.le_refl _) _ _ _

set_option maxHeartbeats 1000000 in
set_option maxRecDepth 100000 in
theorem ref_first0 (d : Nat) (hd : d ≤ 8) (lst : Option (List UInt8 → Except Int (List Tree)))
    (hl : (d = 0 ∧ lst = none) ∨ ∃ f, lst = some f ∧ 0 < d ∧ ∀ (A : Option Addr) (n c : Nat) (xs : List UInt8) (a en : Nat) (AA EE D : Int) (w : World), Rd w A (bs xs) → n = xs.length → n ≤ c → c ≤ 9223372036854775807 ∧ n ≤ 175921860444160 → a ≤ en → en ≤ n →
      en - a ≤ 16777215 → AA = a → EE = en → D = ((8 - (d - 1) : Nat) : Int) →
      Calls Try.prog 41 #[.slice A n c, .int .i64 AA, .int .i64 EE, .int .i64 D] w (RItP en w (f (seg xs a en))))
    (A : Option Addr) (n c : Nat) (xs : List UInt8) (a en : Nat) (AA EE D : Int) (w : World) (hr : Rd w A (bs xs)) (hn : n = xs.length) (hnc : n ≤ c) (hc : c ≤ 9223372036854775807 ∧ n ≤ 175921860444160) (hae : a ≤ en) (hen : en ≤ n)
    (hA : AA = a) (hE : EE = en) (hD : D = ((8 - d : Nat) : Int)) :
    Calls Try.prog 27 #[.slice A n c, .int .i64 AA, .int .i64 EE, .int .i64 D] w (RFirP a w (pHead lst (seg xs a en))) := by
  subst hA hE hD
  have HR := Go.Lib.hid hr
  have HN := Go.Lib.hid hn
  have HL := Go.Lib.hid hl
  clear hl
  generalize hP : pHead lst (seg xs a en) = P
  by_cases hlt : a < en
  · rw [seg_cons xs a en (by omega) hlt] at hP
    generalize hx : xs.getD a 0 = x at hP
    generalize hrr : seg xs (a + 1) en = r at hP
    have hrl : r.length = en - (a + 1) := by rw [← hrr]; exact seg_length _ _ _ (by omega)
    obtain ⟨g, off, rfl, hg, hcell⟩ := hr.at_ (by simp; omega)
    have hc0 := hcell a _ (bs_at xs a (by omega))
    have hx2 : byteF xs a = (x.toNat : Int) := by rw [← hx]; rfl
    rw [hx2] at hc0
    have hxb := x.toNat_lt
    have HP := Go.Lib.hid hP
    have HX := Go.Lib.hid hx
    have HRR := Go.Lib.hid hrr
    have HRL := Go.Lib.hid hrl
    have HC := Go.Lib.hid hcell
    clear hr hn hP hx hrr hrl hcell hx2
    by_cases h1 : x.toNat < 128
    · have hPo : P = .ok (.mk false [x] [], 1) := by rw [← HP.out, pHead_byte _ _ _ h1]
      subst hPo
      have t1 : decide ((x.toNat : Int) < 128) = true := by simp; omega
      have t2 : decide (192 ≤ (x.toNat : Int)) = false := by simp; omega
      have hne : a < n := by omega
      go_enter Try.func27, Try.ntmps27
      go_wp2
      refine bodyPost_ret (v := .tuple #[.agg #[.bool false, .slice (some ⟨w.heap.size + 1, 0, none⟩) 1 1, .slice none 0 0], .int .i64 ((a + 1 : Nat) : Int), .int .i64 0]) (by simp [results, Try.results27, go_sem]) rfl ⟨_, _, _, rfl, ?_, ?_⟩
      · refine RdT.text rfl (by simp) (by simp) (by simp) (RdP.of_rdU ?_ (fun g hg _ => by simp at hg; omega) (fun g hg j => by simp at hg; subst hg; simp))
        have h2 := rd_new (w.alloc (.cells #[.bool false, .slice (some ⟨w.heap.size + 1, 0, none⟩) 1 1, .slice none 0 0] 25)) #[.int .u8 x.toNat] 5
        rw [show bs [x] = [Value.int .u8 x.toNat] from rfl]
        simpa using h2
      · exact bal (bal (Below.refl _ _) _) _
    · have t1 : decide ((x.toNat : Int) < 128) = false := by simp; omega
      have hne : a < n := by omega
      have hne2 : a ≤ 175921860444160 := by omega
      have hnb : n ≤ 175921860444160 := by omega
      have heb : en ≤ 175921860444160 := by omega
      by_cases h2 : 192 ≤ x.toNat
      · have t2 : decide (192 ≤ (x.toNat : Int)) = true := by simp; omega
        rcases HL.out with ⟨rfl, rfl⟩ | ⟨f, rfl, hd0, hlist⟩
        · have hPo : P = .error 21 := by rw [← HP.out, pHead_list _ _ _ h1 h2]
          subst hPo
          go_enter Try.func27, Try.ntmps27
          go_wp2
          refine bodyPost_ret (v := .tuple #[item0, .int .i64 0, .int .i64 21]) (by simp [results, Try.results27, go_sem, item0]) rfl ?_
          exact rfail'
        · exact ref_first_list d hd f hd0 (Go.Lib.hid hlist) n c xs a en w hnc hc hae hen HN P hlt x r g off HR hg hc0 (by omega) HRR HRL HC hne hne2 hnb heb h2 (by rw [← HP.out, pHead_list _ _ _ h1 h2])
      · have t2 : decide (192 ≤ (x.toNat : Int)) = false := by simp; omega
        exact ref_first_text d hd n c xs a en w hnc hc hae hen HN P hlt x r g off HR hg hc0 (by omega) HRR HRL HC hne hne2 hnb heb h1 h2 (by rw [← HP.out, pHead_text _ _ _ h1 h2])
  · have hPo : P = .error 22 := by rw [← hP, seg_nil xs a en (by omega) (by omega)]; rfl
    subst hPo
    clear hr hn hP
    have t1 : decide ((en : Int) ≤ (a : Int)) = true := by simp; omega
    go_enter Try.func27, Try.ntmps27
    go_wp2
    refine bodyPost_ret (v := .tuple #[item0, .int .i64 0, .int .i64 22]) (by simp [results, Try.results27, go_sem, item0]) rfl ?_
    exact rfail'

end Go.Proofs.Ytfolidaonnblbaa
