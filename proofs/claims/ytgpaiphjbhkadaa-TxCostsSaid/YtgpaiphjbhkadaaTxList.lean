/- tx.list: words as items. -/
import Derived.Test.YtgpaiphjbhkadaaTxKit
import Derived.Deep.LoopGhost
namespace Go.Proofs.Ytgpaiphjbhkadaa
open Go.ChangeShapes Go.WideShapes Go.ChangeAt Go.RowKit
set_option linter.unusedVariables false
set_option maxRecDepth 100000

set_option maxHeartbeats 2000000 in
theorem tx_list (A : Option Addr) (m d : Nat) (ns : List Nat) (w : World) (hr : Rd w A (u64s ns)) (hm : m = ns.length) (h8 : m ≤ 8) (hn : ∀ n ∈ ns, n < 18446744073709551616) :
    Calls Try.prog 24 #[.slice A m d] w fun r w' => ∃ B c cs, r = .returned (.slice B m c) ∧ m ≤ c ∧ Own w' w.heap.size 45 3 B m c cs ∧ RdL w' (fun g => w.heap.size ≤ g) (ns.map wordT) cs ∧ Below w.heap.size w w' := by
  have HR := Go.Lib.hid hr
  have HM := Go.Lib.hid hm
  have HN := Go.Lib.hid hn
  obtain ⟨ii0, hii, hiz0, hiz1, hiz2⟩ := info_parts info_item
  clear hr hm hn
  go_enter Try.func24, Try.ntmps24
  go_wp2
  go_loopg [3, 5, 8] m (fun g v x i wr => ∃ (j : Nat) (B : Option Addr) (c : Nat) (cs : List Value), i = .int .i64 j ∧ j ≤ m ∧ g = m - j ∧ v = .slice B j c ∧ Hid (Own wr w.heap.size 45 3 B j c cs) ∧
    Hid (RdL wr (fun g => w.heap.size ≤ g ∧ some g ≠ B.map (·.block)) ((ns.take j).map wordT) cs) ∧ Hid (Below w.heap.size w wr))
  case atStart => exact ⟨0, none, 0, [], rfl, Nat.zero_le _, rfl, rfl, Go.Lib.hid (Own.nil _ _ _ _), Go.Lib.hid (by simpa using RdL.nil _ _), Go.Lib.hid (Below.refl _ _)⟩
  case round =>
    obtain ⟨j, B, c, cs, rfl, hj, rfl, rfl, HO, HL, HB⟩ := hrel
    have hcap := HO.out.cap
    by_cases hlt : j < m
    · obtain ⟨g, off, rfl, hg, hc⟩ := HR.out.at_ (by have := HM.out; simp; omega)
      have hcj := hc j _ (u64s_at ns j (by have := HM.out; omega))
      rw [← HB.out.cell (p := ⟨g, off + j, none⟩) hg] at hcj
      obtain ⟨n, hn⟩ : ∃ n, n = ns.getD j 0 := ⟨_, rfl⟩
      rw [← hn] at hcj
      have HNJ := Go.Lib.hid hn
      have hsz := HB.out.size
      clear hc hn
      go_wp2_with fail
      refine (words_Bytes n _).mono ?_
      rintro r w1 ⟨A1, m1, c1, rfl, hm1, hown1, hb1⟩
      have HM1 := Go.Lib.hid hm1
      have HO1 := Go.Lib.hid hown1
      have HB1 := Go.Lib.hid hb1
      have hcap1 := hown1.cap
      clear hm1 hown1 hb1
      go_wp2_with fail
      refine (nest_Text A1 m1 c1 (wbytes n) _ HO1.out.rd HM1.out hcap1.1 (by have := wbytes_len n; omega)).mono ?_
      rintro r w2 ⟨A2, c2, rfl, hc2, hown2, hb2⟩
      have HB2 := Go.Lib.hid (btr HB1.out hb2)
      have hs1 := HB1.out.size
      have ht := word_rd (base := w1.heap.size) hown2 HM1.out (fun g => wr.heap.size ≤ g) (fun g h _ => by omega)
      have HT := Go.Lib.hid ht
      have hs2 := HB2.out.size
      have HOB := Go.Lib.hid (HO.out.below HB2.out)
      clear hown2 hb2 ht
      go_wp2_with (at_builtin; refine wpList_append_o _ rfl _ _ 42 rfl 45 ii0 item0 3 56 Try.underlying42 hii hiz0 hiz1 hiz2 rfl (by decide) w.heap.size B j c cs rfl (HOB.out.alloc _) (some ⟨w2.heap.size, 0, none⟩) 1 1 [.bool false, .slice A2 m1 c2, .slice none 0 0] rfl rfl (rd_new _ _ _) HT.out.one (by omega) (by unfold maxLen; omega) (by simp; omega) ?_; intro B3 c3 w3 hown3 hk3 hl3; have HO3 := Go.Lib.hid hown3; have HK3 := Go.Lib.hid hk3; have HL3 := Go.Lib.hid hl3; clear hown3 hk3 hl3)
      go_roundg (m - (j + 1))
      case measure => omega
      case rel =>
        refine ⟨j + 1, B3, c3, cs ++ [.bool false, .slice A2 m1 c2, .slice none 0 0], by go_num, by omega, rfl, rfl, HO3, Go.Lib.hid ?_, Go.Lib.hid ?_⟩
        · have h := list_put (c' := 0) HO.out HL.out HB2.out HT.out HK3.out HL3.out hsz
          have e : (ns.take (j + 1)).map wordT = (ns.take j).map wordT ++ [wordT n] := by
            have hjl : j < ns.length := by have := HM.out; omega
            rw [List.take_succ_eq_append_getElem hjl, List.map_append, HNJ.out]
            simp [List.getD, hjl]
          rw [e]
          exact h
        · exact Kp.below (bal (btr HB.out HB2.out) _) HK3.out (fun i h => (HO.out.block_lt i h.symm).1)
    · have e : ns.take j = ns := List.take_of_length_le (by have := HM.out; omega)
      have hjm : j = m := by omega
      have HJ := Go.Lib.hid hjm
      have HE := Go.Lib.hid e
      clear e hjm
      go_wp2
      go_ret
      refine ⟨B, c, cs, by rw [← HJ.out]; rfl, by have := HJ.out; omega, by rw [← HJ.out]; exact HO.out, ?_, HB.out⟩
      have h := HL.out
      rw [HE.out] at h
      exact h.mono fun g _ hg => hg.1

end Go.Proofs.Ytgpaiphjbhkadaa
