/- NestBack, NestShorter, NestAhead: the walks. -/
import Derived.Test.YtfolidaonnblbaaNsLaws2
import Derived.Test.YtfolidaonnblbaaNsOpen
namespace Go.Proofs.Ytfolidaonnblbaa
open Go.ChangeShapes Go.WideShapes Go.RowKit
set_option linter.unusedVariables false

/-! ### What is written is read -/
theorem encode_ok {t : Tree} {b : List UInt8} (h : pEncode t = .ok b) : ∃ n, lookT 0 0 t = .ok n ∧ (bodyT t).length ≤ 16777215 ∧ b = encT t ∧ b.length ≤ 83886080 := by
  unfold pEncode at h
  split at h
  · cases h
  · rename_i n hl
    split at h
    · cases h
    · rename_i hb
      cases h
      exact ⟨n, hl, by omega, rfl, look_small hl⟩
theorem encode_err {t : Tree} {e : Int} (h : pEncode t = .error e) : e = 20 ∨ e = 21 ∨ e = 23 := by
  unfold pEncode at h
  split at h
  · rename_i h2
    cases h
    exact lookT_err _ _ _ _ h2
  · split at h <;> cases h
    omega
theorem encode_first {t : Tree} {b : List UInt8} (h : pEncode t = .ok b) (more : List UInt8) : pFirst (b ++ more) = .ok (t, b.length) := by
  obtain ⟨n, h1, h2, rfl, _⟩ := encode_ok h
  exact encT_parse t 0 0 n more (by omega) h1 h2
theorem encode_decode {t : Tree} {b : List UInt8} (h : pEncode t = .ok b) : pDecode b = .ok t := by
  have h1 := encode_first h []
  rw [List.append_nil] at h1
  rw [pDecode, h1]
  simp
theorem encode_short {t : Tree} {b : List UInt8} (h : pEncode t = .ok b) (k : Nat) (hk : k < b.length) : pFirst (b.take k) = .error 22 := by
  obtain ⟨n, h1, h2, rfl, _⟩ := encode_ok h
  obtain ⟨l, b, its⟩ := t
  cases k with
  | zero => rfl
  | succ k =>
    cases hp : plainT (.mk l b its) with
    | true =>
      have he : encT (.mk l b its) = b := by rw [encT, if_pos hp]
      simp only [plainT, Bool.and_eq_true, beq_iff_eq] at hp
      rw [he, hp.1.2] at hk
      omega
    | false =>
      have he : encT (.mk l b its) = headB l (b ++ encL its).length ++ (b ++ encL its) := by rw [encT, if_neg (by rw [hp]; decide)]
      have hq : (b ++ encL its).length ≤ 16777215 := h2
      obtain ⟨c, nn, ks, hh, hc, hn58, hks, hsz, hsh⟩ := head_read l _ hq
      rw [he, hh] at hk ⊢
      generalize hB : b ++ encL its = body at *
      generalize hQ : body.length = q at *
      have hc1 : ¬ c.toNat < 128 := by rw [hc]; split <;> omega
      simp only [List.cons_append, List.length_cons, List.length_append] at hk ⊢
      rw [hQ] at hk
      rw [List.take_succ_cons]
      show pItem 8 _ = _
      have key : (if k < ks.length then pSize nn ((ks ++ body).take k) = .error 22 else pSize nn ((ks ++ body).take k) = .ok (q, ks.length) ∧ ((ks ++ body).take k).length - ks.length < q) := by
        split
        · rename_i h5
          rw [List.take_append_of_le_length (by omega)]
          exact hsh k h5
        · rename_i h5
          have e : (ks ++ body).take k = ks ++ body.take (k - ks.length) := by
            rw [List.take_append]
            rw [List.take_of_length_le (by omega)]
          rw [e]
          refine ⟨hsz _, ?_⟩
          rw [List.length_append, List.length_take]
          omega
      have hpi : pItem 8 = pHead (some fun b => pLoop (pItem 7) b.length b) := rfl
      rw [hpi]
      cases l with
      | false =>
        have hc2 : ¬ 192 ≤ c.toNat := by rw [hc]; simp only [Bool.false_eq_true, if_false]; omega
        rw [pHead_text _ c _ hc1 hc2, show c.toNat - 128 = nn from by rw [hc]; simp, pText]
        split at key
        · rw [key]
        · rw [key.1]
          simp only
          rw [if_pos key.2]
      | true =>
        have hc2 : 192 ≤ c.toNat := by rw [hc]; simp only [if_true]; omega
        rw [pHead_list _ c _ hc1 hc2, show c.toNat - 192 = nn from by rw [hc]; simp]
        simp only
        rw [pList]
        split at key
        · rw [key]
        · rw [key.1]
          simp only
          rw [if_pos key.2]

set_option maxHeartbeats 1000000 in
set_option maxRecDepth 100000 in
theorem back_walk (w : World) (t : Tree) (v0 v1 v2 : Value) (ht : RdT w (fun _ => True) t v0 v1 v2) :
    Calls Try.prog 11 #[.agg #[v0, v1, v2]] w fun r w' => r = .returned (.bool true) ∧ Below w.heap.size w w' := by
  obtain ⟨a1, a2, a3, a4, a5, a6, rfl, rfl, rfl⟩ := ht.shape
  have HT := Go.Lib.hid ht
  clear ht
  go_enter Try.func11, Try.ntmps11
  go_wp2_with fail
  refine (nest_Encode t _ _ _ _ _ (HT.out.below (bal (Below.refl _ _) _))).mono ?_
  intro r w1 hp
  unfold EncP at hp
  cases hq : pEncode t with
  | error e =>
    rw [hq] at hp
    obtain ⟨rfl, hb1⟩ := hp
    have he := encode_err hq
    have hok : okE t = false := by rw [okE, hq]
    have he1 : (e != 0) = true := by rw [bne_iff_ne]; omega
    have hx1 := box_keep (Go.heap_alloc_new w (.cells #[.bool t.l, .slice a1 a2 a3, .slice a4 a5 a6] 25)) hb1
    have HX1 := Go.Lib.hid hx1
    have HB1 := Go.Lib.hid (btr (bal (Below.refl _ _) _) hb1)
    have HOK := Go.Lib.hid hok
    clear hq hb1 hx1 hok
    go_wp2_with fail
    refine (law_alive _).mono ?_
    rintro r w2 ⟨rfl, hb2⟩
    obtain ⟨x0, x1, x2, xf⟩ := cells3 (box_keep HX1.out hb2)
    have HB2 := Go.Lib.hid (btr HB1.out hb2)
    clear hb2
    go_wp2_with fail
    refine (nest_Right t _ _ _ _ _ (HT.out.below HB2.out)).mono ?_
    rintro r w3 ⟨rfl, hb3⟩
    rw [HOK.out]
    go_wp2_with fail
    go_ret
    exact ⟨rfl, btr HB2.out hb3⟩
  | ok b =>
    rw [hq] at hp
    obtain ⟨A1, n1, c1, rfl, hown1, hb1⟩ := hp
    have hdec := encode_decode hq
    obtain ⟨_, _, _, _, hsm⟩ := encode_ok hq
    have hn1 : n1 = b.length := by have := hown1.len; simpa using this.symm
    have hcap := hown1.cap
    have hx1 := box_keep (Go.heap_alloc_new w (.cells #[.bool t.l, .slice a1 a2 a3, .slice a4 a5 a6] 25)) hb1
    have HX1 := Go.Lib.hid hx1
    have HB1 := Go.Lib.hid (btr (bal (Below.refl _ _) _) hb1)
    have HO1 := Go.Lib.hid hown1
    have HN1 := Go.Lib.hid hn1
    have HD := Go.Lib.hid hdec
    clear hq hb1 hx1 hown1 hn1 hdec
    go_wp2_with fail
    refine (nest_Decode A1 n1 c1 b _ HO1.out.rd HN1.out (by omega) (by have := HN1.out; omega)).mono ?_
    intro r w2 hp
    rw [HD.out] at hp
    obtain ⟨u0, u1, u2, rfl, ht2, hb2⟩ := hp
    obtain ⟨b1, b2, b3, b4, b5, b6, rfl, rfl, rfl⟩ := ht2.shape
    have HX2 := Go.Lib.hid (box_keep HX1.out hb2)
    have HB2 := Go.Lib.hid (btr HB1.out hb2)
    have HT2 := Go.Lib.hid ht2
    clear hb2 ht2
    go_wp2_with fail
    refine (law_alive _).mono ?_
    rintro r w3 ⟨rfl, hb3⟩
    have hb3' : Below w2.heap.size w2 w3 := btr (bal (Below.refl _ _) _) hb3
    obtain ⟨x0, x1, x2, xf⟩ := cells3 (box_keep HX2.out hb3')
    obtain ⟨y0, y1, y2, yf⟩ := cells3 ((hb3.block w2.heap.size (by simp)).trans (Go.heap_alloc_new w2 (.cells #[.bool t.l, .slice b1 b2 b3, .slice b4 b5 b6] 25)))
    have HB3 := Go.Lib.hid (btr HB2.out hb3')
    have HT3 := Go.Lib.hid (HT2.out.below hb3')
    clear hb3 hb3'
    go_wp2_with fail
    refine (ref_Same t t _ _ _ _ _ _ _ _ _ (HT.out.below HB3.out) HT3.out).mono ?_
    rintro r w4 ⟨rfl, hb4⟩
    rw [sameT_refl]
    go_wp2_with fail
    go_ret
    exact ⟨rfl, btr HB3.out hb4⟩

set_option maxHeartbeats 1000000 in
set_option maxRecDepth 100000 in
theorem shorter_walk (w : World) (t : Tree) (v0 v1 v2 : Value) (ht : RdT w (fun _ => True) t v0 v1 v2) (z : Int) (hz : (Lit.int .i64 z).wf = true) :
    Calls Try.prog 7 #[.agg #[v0, v1, v2], .int .i64 z] w fun r w' => r = .returned (.bool true) ∧ Below w.heap.size w w' := by
  obtain ⟨a1, a2, a3, a4, a5, a6, rfl, rfl, rfl⟩ := ht.shape
  have HT := Go.Lib.hid ht
  clear ht hz
  go_enter Try.func7, Try.ntmps7
  go_wp2_with fail
  refine (nest_Encode t _ _ _ _ _ (HT.out.below (bal (Below.refl _ _) _))).mono ?_
  intro r w1 hp
  unfold EncP at hp
  cases hq : pEncode t with
  | error e =>
    rw [hq] at hp
    obtain ⟨rfl, hb1⟩ := hp
    have he := encode_err hq
    have he1 : (e != 0) = true := by rw [bne_iff_ne]; omega
    have HB1 := Go.Lib.hid (btr (bal (Below.refl _ _) _) hb1)
    clear hq hb1
    go_wp2_with fail
    refine (law_alive _).mono ?_
    rintro r w2 ⟨rfl, hb2⟩
    go_wp2_with fail
    go_ret
    exact ⟨rfl, btr HB1.out hb2⟩
  | ok b =>
    rw [hq] at hp
    obtain ⟨A1, n1, c1, rfl, hown1, hb1⟩ := hp
    obtain ⟨_, _, _, _, hsm⟩ := encode_ok hq
    have hn1 : n1 = b.length := by have := hown1.len; simpa using this.symm
    have hcap := hown1.cap
    have HB1 := Go.Lib.hid (btr (bal (Below.refl _ _) _) hb1)
    have HO1 := Go.Lib.hid hown1
    have HN1 := Go.Lib.hid hn1
    have HQ := Go.Lib.hid hq
    clear hq hb1 hown1 hn1
    by_cases hneg : z < 0
    · go_wp2_with fail
      refine (law_alive _).mono ?_
      rintro r w2 ⟨rfl, hb2⟩
      go_wp2_with fail
      go_ret
      exact ⟨rfl, btr HB1.out hb2⟩
    · obtain ⟨k, rfl⟩ := Int.eq_ofNat_of_zero_le (show 0 ≤ z by omega)
      by_cases hge : n1 ≤ k
      · go_wp2_with fail
        refine (law_alive _).mono ?_
        rintro r w2 ⟨rfl, hb2⟩
        go_wp2_with fail
        go_ret
        exact ⟨rfl, btr HB1.out hb2⟩
      · have hlt : k < n1 := by omega
        have hsh := encode_short HQ.out k (by have := HN1.out; omega)
        have HS := Go.Lib.hid hsh
        clear hsh hge hneg
        go_wp2_with fail
        refine (nest_First A1 k c1 (b.take k) _ (by rw [bs_take]; exact HO1.out.rd.take k) (by have := HN1.out; rw [List.length_take]; omega) (by omega) (by have := HN1.out; omega)).mono ?_
        intro r w2 hp
        rw [HS.out] at hp
        obtain ⟨rfl, hb2⟩ := hp
        have HB2 := Go.Lib.hid (btr HB1.out hb2)
        clear hb2
        unfold item0
        go_wp2_with fail
        refine (law_alive _).mono ?_
        rintro r w3 ⟨rfl, hb3⟩
        obtain ⟨y0, y1, y2, yf⟩ := cells3 ((hb3.block w2.heap.size (by simp)).trans (Go.heap_alloc_new w2 (.cells #[.bool false, .slice none 0 0, .slice none 0 0] 25)))
        have HB3 := Go.Lib.hid (btr (bal HB2.out _) hb3)
        clear hb3
        go_wp2_with fail
        refine (ref_Same Tree.zero Tree.zero (fun _ => True) (fun _ => True) _ _ _ _ _ _ _ (RdT.zero _ _) (RdT.zero _ _)).mono ?_
        rintro r w4 ⟨rfl, hb4⟩
        rw [sameT_refl]
        go_wp2_with fail
        go_ret
        exact ⟨rfl, btr HB3.out hb4⟩

end Go.Proofs.Ytfolidaonnblbaa
