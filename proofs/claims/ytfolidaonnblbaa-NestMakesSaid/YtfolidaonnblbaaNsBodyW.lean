/- NestBody: the walk. -/
import Derived.Test.YtfolidaonnblbaaNsBody
namespace Go.Proofs.Ytfolidaonnblbaa
open Go.ChangeShapes Go.WideShapes Go.RowKit
set_option linter.unusedVariables false

theorem rd_drop_one {w : World} {A : Option Addr} {c : Nat} {hd tl : List UInt8} (h : Rd w A (bs (hd ++ tl))) (hc : (hd ++ tl).length ≤ c) : Rd w (if c = hd.length then A else A.map (·.add hd.length)) (bs tl) := by
  have := h.cut hd.length c (by simpa using hc)
  rw [bs_append, List.drop_left' (by simp)] at this
  exact this

set_option maxHeartbeats 2000000 in
set_option maxRecDepth 100000 in
theorem body_walk (w : World) (B : Option Addr) (m d : Nat) (its : List Tree) (cl : List Value) (hm : its.length = m) (hmd : m ≤ d) (hz : d * 56 ≤ 140737488351232) (hr : Rd w B cl) (hl : RdL w (fun _ => True) its cl) :
    Calls Try.prog 6 #[.slice B m d] w fun r w' => r = .returned (.bool true) ∧ Below w.heap.size w w' := by
  subst hm
  have HB := Go.Lib.hid (RdP.of_rd hr (P := fun _ => True) (fun _ _ _ => trivial))
  have HL := Go.Lib.hid hl
  obtain ⟨i0, hi, hz0, hz1, hz2⟩ := info_parts info_u8
  clear hr hl
  go_enter Try.func6, Try.ntmps6
  go_wp2_with fail
  go_loopg [3, 12] its.length (fun g s3 i wr => ∃ (j : Nat) (A1 : Option Addr) (n1 c1 : Nat), i = .int .i64 j ∧ j ≤ its.length ∧ g = its.length - j ∧ s3 = .slice A1 n1 c1 ∧ n1 ≤ 65536 ∧ Hid (Own wr w.heap.size 5 1 A1 n1 c1 (bs (encL (its.take j)))) ∧ Hid (Below w.heap.size w wr) ∧ Hid (∀ t ∈ its.take j, ∃ b, pEncode t = .ok b))
  case atStart =>
    exact ⟨0, none, 0, 0, rfl, Nat.zero_le _, rfl, rfl, by omega, Go.Lib.hid (by simpa [encL, bs] using Own.nil _ _ _ _), Go.Lib.hid (Below.refl _ _), Go.Lib.hid (by simp)⟩
  case round =>
    obtain ⟨j, A1, n1, c1, rfl, hj, rfl, rfl, hn1, HO, HBJ, HAJ⟩ := hrel
    by_cases hlt : j < its.length
    · obtain ⟨g, off, p0, p1, p2, rfl, hp, c0, c1', c2⟩ := item_cells HB.out HL.out HBJ.out j hlt
      obtain ⟨a1, a2, a3, a4, a5, a6, rfl, rfl, rfl⟩ := hp.shape
      have HP := Go.Lib.hid hp
      clear hp
      go_wp2_with fail
      refine (nest_Encode its[j] _ _ _ _ _ (HP.out.below (bal (Below.refl _ _) _))).mono ?_
      intro r w2 hp
      unfold EncP at hp
      cases hq : pEncode its[j] with
      | error e =>
        rw [hq] at hp
        obtain ⟨rfl, hb2⟩ := hp
        have he := encode_err hq
        have he1 : (e != 0) = true := by rw [bne_iff_ne]; omega
        have HB2 := Go.Lib.hid (btr (bal HBJ.out _) hb2)
        clear hq hb2 c0 c1' c2
        go_wp2_with fail
        refine (law_alive _).mono ?_
        rintro r w3 ⟨rfl, hb3⟩
        go_wp2_with fail
        go_ret
        exact ⟨rfl, btr HB2.out hb3⟩
      | ok b =>
        rw [hq] at hp
        obtain ⟨A2, n2, c2', rfl, hown2, hb2⟩ := hp
        have hsm : b.length ≤ 83886080 := by obtain ⟨_, _, _, _, h⟩ := encode_ok hq; exact h
        have hbe : b = encT its[j] := by obtain ⟨_, _, _, h, _⟩ := encode_ok hq; exact h
        obtain rfl : n2 = b.length := by have := hown2.len; simpa using this.symm
        have hO1 : Own w2 w.heap.size 5 1 A1 n1 c1 (bs (encL (its.take j))) := (HO.out.alloc _).below hb2
        have HO1 := Go.Lib.hid hO1
        have HR2 := Go.Lib.hid hown2.rd
        have HB2 := Go.Lib.hid (btr (bal HBJ.out _) hb2)
        have HQ := Go.Lib.hid hq
        have HBE := Go.Lib.hid hbe
        clear hq hb2 hown2 hO1 hbe c0 c1' c2
        go_wp2_with (at_builtin; refine wpList_append_o _ rfl _ _ 22 rfl 5 i0 (.int .u8 0) 1 1 Try.underlying22 hi hz0 hz1 hz2 rfl (by decide) w.heap.size A1 n1 c1 _ rfl HO1.out A2 b.length c2' (bs b) rfl (by simp) HR2.out (bs_one _) (by omega) (by unfold maxLen; omega) (by exact HB2.out.size) ?_)
        intro A4 c4 w4 hown4 hk4 hl4
        have hb4 : Below w.heap.size w w4 := Kp.below HB2.out hk4 (fun i h => (HO1.out.block_lt i h.symm).1)
        rw [← bs_append, HBE.out, ← encL_take_succ its j hlt, ← HBE.out] at hown4
        have hall : ∀ t ∈ its.take (j + 1), ∃ b, pEncode t = .ok b := by
          intro t ht
          rw [List.take_succ_eq_append_getElem hlt, List.mem_append, List.mem_singleton] at ht
          rcases ht with ht | rfl
          · exact HAJ.out t ht
          · exact ⟨b, HQ.out⟩
        have HO4 := Go.Lib.hid hown4
        have HB4 := Go.Lib.hid hb4
        have HALL := Go.Lib.hid hall
        clear hown4 hk4 hl4 hb4 hall
        by_cases hbig : 65536 < n1 + b.length
        · go_wp2_with fail
          refine (law_alive _).mono ?_
          rintro r w3 ⟨rfl, hb3⟩
          go_wp2_with fail
          go_ret
          exact ⟨rfl, btr HB4.out hb3⟩
        · go_wp2_with fail
          go_roundg (its.length - (j + 1))
          case measure => omega
          case rel =>
            exact ⟨j + 1, A4, n1 + b.length, c4, by go_num, by omega, rfl, rfl, by omega, HO4, HB4, HALL⟩
    · obtain rfl : j = its.length := by omega
      clear hlt
      have hall := HAJ.out
      have hown := HO.out
      rw [List.take_length] at hall hown
      obtain rfl : n1 = (encL its).length := by have := hown.len; simpa using this.symm
      have hT : RdT wr (fun _ => True) (.mk true [] its) (.bool true) (.slice none 0 0) (.slice B its.length d) := by
        refine RdT.list rfl hmd (by omega) (cs := cl) ?_ (HL.out.below HBJ.out)
        exact RdP.of_rd (HB.out.rd.below HBJ.out) (fun _ _ _ => trivial)
      have HT := Go.Lib.hid hT
      have HOW := Go.Lib.hid hown
      have HLAW := Go.Lib.hid (body_law hall hn1)
      clear hall hown hT HO HAJ
      go_wp2_with fail
      refine (nest_Encode _ _ _ _ _ _ HT.out).mono ?_
      intro r w2 hp
      unfold EncP at hp
      rcases HLAW.out with hq | ⟨hd, hq, hd1, hd4, hd192⟩
      · rw [hq] at hp
        obtain ⟨rfl, hb2⟩ := hp
        have HB2 := Go.Lib.hid (btr HBJ.out hb2)
        clear hb2 hq
        go_wp2_with fail
        refine (law_alive _).mono ?_
        rintro r w3 ⟨rfl, hb3⟩
        go_wp2_with fail
        go_ret
        exact ⟨rfl, btr HB2.out hb3⟩
      · rw [hq] at hp
        obtain ⟨A2, n2, c2, rfl, hown2, hb2⟩ := hp
        clear hq
        obtain rfl : n2 = hd.length + (encL its).length := by have := hown2.len; simpa using this.symm
        have hcap2 := hown2.cap
        have HB2 := Go.Lib.hid (btr HBJ.out hb2)
        have HOW2 := Go.Lib.hid (hown2.rd)
        have HR1 := Go.Lib.hid (HOW.out.rd.below hb2)
        clear hb2 hown2 HLAW
        obtain ⟨h, tl, rfl⟩ : ∃ h tl, hd = h :: tl := by
          cases hd with
          | nil => simp at hd1
          | cons h tl => exact ⟨h, tl, rfl⟩
        simp only [List.headD_cons] at hd192
        generalize hE : encL its = E at *
        have HE := Go.Lib.hid hE
        clear hE
        go_wp2_with fail
        refine (law_alive _).mono ?_
        rintro r w3 ⟨rfl, hb3⟩
        have HB3 := Go.Lib.hid (btr HB2.out hb3)
        have HOW3 := Go.Lib.hid (HOW2.out.below hb3)
        have HR3 := Go.Lib.hid (HR1.out.below hb3)
        clear hb3
        simp only [List.length_cons] at hd1 hd4 hcap2
        obtain ⟨k, hk⟩ : ∃ k, k = tl.length + 1 := ⟨_, rfl⟩
        rw [← hk] at hd1 hd4 hcap2 ⊢
        have HK := Go.Lib.hid hk
        clear hk
        obtain ⟨g, off, rfl, hg, hcell⟩ := HOW3.out (by simp [bs])
        have hc0 : w3.cell? ⟨g, off, none⟩ = some (.int .u8 h.toNat) := by
          have := hcell 0 (.int .u8 h.toNat) (by simp [bs, bv])
          simpa using this
        have h192 : decide (192 ≤ (h.toNat : Int)) = true := by simp; omega
        have hrE : Rd w3 (if c2 = k then some ⟨g, off, none⟩ else some ⟨g, off + k, none⟩) (bs E) := by
          have := rd_drop_one (hd := h :: tl) (c := c2) HOW3.out (by simp; have := HK.out; omega)
          simp only [List.length_cons, ← HK.out, Option.map_some, Addr.add_lit] at this
          exact this
        have HRE := Go.Lib.hid hrE
        clear hcell hrE
        by_cases hc : c2 = k
        · subst hc
          have hrE := HRE.out
          rw [if_pos rfl] at hrE
          have HRE2 := Go.Lib.hid hrE
          clear hrE
          go_wp2_with fail
          refine (law_same (some ⟨g, off, none⟩) A1 0 0 E.length c1 E E w3 HRE2.out HR3.out (by omega) rfl).mono ?_
          rintro r w4 ⟨rfl, rfl⟩
          simp only [beq_self_eq_true]
          go_wp2_with fail
          go_ret
          exact ⟨rfl, HB3.out⟩
        · have hrE := HRE.out
          rw [if_neg hc] at hrE
          have HRE2 := Go.Lib.hid hrE
          clear hrE
          go_wp2_with fail
          refine (law_same (some ⟨g, off + k, none⟩) A1 E.length (c2 - k) E.length c1 E E w3 HRE2.out HR3.out rfl rfl).mono ?_
          rintro r w4 ⟨rfl, rfl⟩
          simp only [beq_self_eq_true]
          go_wp2_with fail
          go_ret
          exact ⟨rfl, HB3.out⟩

end Go.Proofs.Ytfolidaonnblbaa
