/- The reference's Of: the same digest. -/
import Derived.Test.YtkjdmjflppcofaaDgPad
import Derived.Test.YtkjdmjflppcofaaDgOf
import Derived.BigQuiet
import Derived.Deep.QuietTactic
namespace Go.Proofs.Ytkjdmjflppcofaa
open Go.ChangeShapes Go.WideShapes Go.ChangeAt Go.RowKit
set_option linter.unusedVariables false

theorem info_u64 : (Try.prog.info? 22).map (fun i => (i.zero, i.size, i.bytes)) = some (some (.int .u64 0), 1, 8) := by kernel_rfl

/-- The round's own word, as the reference adds it up. -/
def kR : Nat → Int
  | 0 => 0
  | r + 1 => addI (kR r) goldI
theorem kR_succ : ∀ r, kR (r + 1) = kI r
  | 0 => by simp only [kR, kI, addI, goldI, IntKind.wrap_u64]; rfl
  | r + 1 => by rw [kR, kR_succ r]; rfl

theorem ref_word_at (g off n c : Nat) (a : Int) (p : Nat) (ha : a = (p : Int)) (f : Nat → Int) (hf : ∀ i, 0 ≤ f i ∧ f i ≤ 255) (hn : p + 8 ≤ n) (hm : n ≤ 9223372036854775807) (w : World)
    (hcell : ∀ i, i < 8 → w.cell? ⟨g, off + (p + i), none⟩ = some (.int .u8 (f i))) :
    Calls Try.prog 34 #[.slice (some ⟨g, off, none⟩) n c, .int .i64 a] w fun e w' => e = .returned (.int .u64 (beN f 8)) ∧ w = w' := by
  subst ha
  exact ref_word g off n c p f hf hn hm w hcell

/-- The word of a piece, as the reference reads it. -/
theorem ref_word_P {w : World} {base : Nat} {g off n c : Nat} {P : List UInt8} (h : Own w base 5 1 (some ⟨g, off, none⟩) n c (bs P)) (a : Int) (p j : Nat) (ha : a = ((p + 8 * j : Nat) : Int)) (hp : p + 8 * j + 8 ≤ P.length) :
    Calls Try.prog 34 #[.slice (some ⟨g, off, none⟩) n c, .int .i64 a] w fun e w' => e = .returned (.int .u64 (mAt (byteF P) p j)) ∧ w = w' := by
  have hl := h.len
  have hcap := h.cap
  rw [bs_length, Nat.mul_one] at hl
  refine ref_word_at g off n c a (p + 8 * j) ha (fun i => byteF P (p + 8 * j + i)) (fun i => byteF_bd P _) (by omega) (by omega) w ?_
  intro i hi
  exact h.cells rfl _ _ (bs_at P _ (by omega))

theorem rnds_step' (m : Nat → Int) (s0 s : St) (j : Nat) (d1 b1 d2 b2 : Int) (hs : s = rnds m s0 j)
    (h1 : d1 = rotC (xorI s.d (addI (addI (addI s.a s.b) (m (j % 4))) (addI (kR j) goldI))) 32) (h2 : b1 = rotC (xorI s.b (addI s.c d1)) 24)
    (h3 : d2 = rotC (xorI d1 (addI (addI (addI (addI s.a s.b) (m (j % 4))) (addI (kR j) goldI)) b1)) 16) (h4 : b2 = rotC (xorI b1 (addI (addI s.c d1) d2)) 63) :
    (⟨b2, addI (addI s.c d1) d2, d2, addI (addI (addI (addI s.a s.b) (m (j % 4))) (addI (kR j) goldI)) b1⟩ : St) = rnds m s0 (j + 1) := by
  have hk : addI (kR j) goldI = kI j := kR_succ j
  rw [hk] at h1 h3 ⊢
  subst h1 h2 h3 h4
  simp only [rnds, ← hs, rnd]

def u4 (s : St) : List Value := [.int .u64 s.a, .int .u64 s.b, .int .u64 s.c, .int .u64 s.d]

set_option maxHeartbeats 1000000 in
set_option maxRecDepth 100000 in
theorem ref_Of (B : Option Addr) (n c : Nat) (xs : List UInt8) (w : World) (hn : n = xs.length) (hr : Rd w B (bs xs)) (hlen : xs.length + 64 ≤ 140737488355328) :
    Calls Try.prog 18 #[.slice B n c] w fun e w' => e = .returned (digV (digB xs)) ∧ Below w.heap.size w w' := by
  subst hn
  have HR := Go.Lib.hid hr
  clear hr
  obtain ⟨i0, hi, hz0, hz1, hz2⟩ := info_parts info_u64
  go_enter Try.func18, Try.ntmps18
  go_wp2_with fail
  refine (ref_Padded B xs.length c xs _ rfl (HR.out.alloc z28) hlen).mono ?_
  rintro e w1 ⟨A1, c1, rfl, hown1, hbel1⟩
  obtain ⟨P, hP⟩ : ∃ P, P = paddedOf xs := ⟨_, rfl⟩
  rw [← hP] at hown1 ⊢
  have hPl : P.length % 32 = 0 ∧ P.length ≤ xs.length + 64 := by
    have h1 := padOf_length xs.length
    have h2 := padded_32 xs.length
    rw [hP]
    unfold paddedOf
    rw [List.length_append, h1]
    have h3 : zerosOf xs.length ≤ 31 := by unfold zerosOf; omega
    omega
  have hpos : 0 < P.length := by rw [hP]; unfold paddedOf; rw [List.length_append, padOf_length]; omega
  obtain ⟨g1, off1, rfl, _, _, _, _⟩ := hown1.shape hpos
  have HP := Go.Lib.hid hP
  have HPL := Go.Lib.hid hPl
  clear hpos
  have HO1 := Go.Lib.hid hown1
  have HL1 : Hid (Below (w.alloc z28).heap.size (w.alloc z28) w1) := Go.Lib.hid hbel1
  clear hP hPl hown1 hbel1
  have e1 : IntKind.u64.wrap 22801429638646396970 = 4354685564936845354 := by decide
  have e3 : IntKind.u64.wrap 27156115203583242324 = 8709371129873690708 := by decide
  go_wp2
  go_loopg [5, 6] P.length (fun gk v av wr => ∃ (k q gs : Nat) (s : St), gk = P.length - q ∧ v = .slice (some ⟨gs, 0, none⟩) 4 4 ∧ av = .int .i64 q ∧ q ≤ P.length ∧ Hid (q = 32 * k) ∧ Hid (s = stN (byteF P) k) ∧
    Hid (wr.heap[gs]? = some (.cells #[.int .u64 s.a, .int .u64 s.b, .int .u64 s.c, .int .u64 s.d] 22 (0, 0))) ∧ Hid (Own wr (w.alloc z28).heap.size 5 1 (some ⟨g1, off1, none⟩) P.length c1 (bs P)) ∧ Hid (Below (w.alloc z28).heap.size (w.alloc z28) wr))
  case atStart =>
    exact ⟨0, 0, w1.heap.size, initS, rfl, rfl, rfl, by omega, Go.Lib.hid rfl, Go.Lib.hid rfl, Go.Lib.hid (Go.heap_alloc_new w1 _), Go.Lib.hid (HO1.out.alloc _), Go.Lib.hid (bal HL1.out _)⟩
  case round =>
    obtain ⟨k, q, gs, s, rfl, rfl, rfl, hq, HQ, HS, HG, HOr, HLr⟩ := hrel
    by_cases hlt : q < P.length
    · have hgs : gs < wr.heap.size := (Array.getElem?_eq_some_iff.1 HG.out).1
      go_wp2_with (at_builtin; refine wpList_append_o _ rfl _ _ 51 rfl 22 i0 (.int .u64 0) 1 8 Try.underlying51 hi hz0 hz1 hz2 rfl (by decide) wr.heap.size _ 0 0 [] rfl (own_empty _ _ _ (Nat.le_refl _)) (some ⟨gs, 0, none⟩) 4 4 (u4 s) rfl rfl (by exact (Rd.alloc (fun _ => ⟨gs, 0, rfl, hgs, fun i u hu => by rw [cell_of_row _ _ _ _ _ _ HG.out]; simpa [u4] using hu⟩) _)) (by simp [u4, Value.oneCell']) (by omega) (by unfold maxLen; omega) (by simp) ?_)
      intro Ap cp w2 hownp hkpp hliep
      have hB2 : Below wr.heap.size wr w2 := Kp.below (bal (Below.refl _ _) _) hkpp (fun i h => by first | omega | (simp at h; omega))
      have HOp : Own w2 wr.heap.size 22 1 Ap 4 cp (u4 s) := hownp
      obtain ⟨gp, offp, rfl, hbp, hgp, hcp, _⟩ := HOp.shape (by decide)
      have hp0 : w2.cell? ⟨gp, offp, none⟩ = some (.int .u64 s.a) := hcp 0 _ rfl
      have hp1 : w2.cell? ⟨gp, offp + 1, none⟩ = some (.int .u64 s.b) := hcp 1 _ rfl
      have hp2 : w2.cell? ⟨gp, offp + 2, none⟩ = some (.int .u64 s.c) := hcp 2 _ rfl
      have hp3 : w2.cell? ⟨gp, offp + 3, none⟩ = some (.int .u64 s.d) := hcp 3 _ rfl
      obtain ⟨s0, s1, s2, s3, _⟩ := cells4 ((hB2.block gs hgs).trans HG.out)
      have hgs2 : gs < w2.heap.size := Nat.lt_of_lt_of_le hgs hB2.size
      have HO2 := Go.Lib.hid (HOr.out.below hB2)
      have HB2 := Go.Lib.hid hB2
      have hq32 : q + 32 ≤ P.length := by have h1 := HQ.out; have h2 := HPL.out.1; omega
      have hPm : P.length ≤ 140737488355328 := by have := HPL.out.2; omega
      clear hownp hkpp hliep HOp hcp hbp hB2
      go_wp2_with fail
      refine (ref_word_P HO2.out _ q 0 (by simp) (by omega)).mono ?_
      rintro e w' ⟨rfl, rfl⟩
      go_wp2_with fail
      refine (ref_word_P HO2.out _ q 1 (by simp) (by omega)).mono ?_
      rintro e w' ⟨rfl, rfl⟩
      go_wp2_with fail
      refine (ref_word_P HO2.out _ q 2 (by simp) (by omega)).mono ?_
      rintro e w' ⟨rfl, rfl⟩
      go_wp2_with fail
      refine (ref_word_P HO2.out _ q 3 (by simp) (by omega)).mono ?_
      rintro e w' ⟨rfl, rfl⟩
      obtain ⟨m, hm⟩ : ∃ m, m = mAt (byteF P) q := ⟨_, rfl⟩
      rw [← hm]
      have HM := Go.Lib.hid hm
      clear hm
      go_wp2
      go_region
      go_wp2
      go_region
      go_wp2
      go_region
      go_wp2
      go_region
      go_wp2
      go_loopg [9, 10, 11, 12, 13, 14, 15] 8 (fun gk va vb vc vd vk vj _ wx => ∃ (t : St) (j nd : Nat), j ≤ 8 ∧ gk = 8 - j ∧ va = .int .u64 t.a ∧ vb = .int .u64 t.b ∧ vc = .int .u64 t.c ∧ vd = .int .u64 t.d ∧ vk = .int .u64 (kR j) ∧ vj = .int .i64 j ∧
        Hid (t = rnds m (xor4 s ⟨m 0, m 1, m 2, m 3⟩) j) ∧ wx = (w2.alloc (.cells #[.int .u64 (m 0), .int .u64 (m 1), .int .u64 (m 2), .int .u64 (m 3)] 22)).drewN nd)
      case atStart => exact ⟨_, 0, 4, by omega, rfl, rfl, rfl, rfl, rfl, rfl, rfl, Go.Lib.hid rfl, rfl⟩
      case round =>
        obtain ⟨t, j, nd, hj, rfl, rfl, rfl, rfl, rfl, rfl, rfl, HT, rfl⟩ := hrel
        have hml : (#[Value.int .u64 (m 0), Value.int .u64 (m 1), Value.int .u64 (m 2), Value.int .u64 (m 3)] : Array Value)[j % 4]? = some (.int .u64 (m (j % 4))) := by
          rcases (by omega : j % 4 = 0 ∨ j % 4 = 1 ∨ j % 4 = 2 ∨ j % 4 = 3) with h | h | h | h <;> rw [h] <;> rfl
        by_cases hj8 : j < 8
        · go_wp2_with fail
          refine (ref_rot_named _ _ (by omega) _).mono ?_
          rintro e w' ⟨d1, hd1, rfl, n1, rfl⟩
          go_wp2_with fail
          refine (ref_rot_named _ _ (by omega) _).mono ?_
          rintro e w' ⟨b1, hb1, rfl, n2, rfl⟩
          go_wp2_with fail
          refine (ref_rot_named _ _ (by omega) _).mono ?_
          rintro e w' ⟨d2, hd2, rfl, n3, rfl⟩
          go_wp2_with fail
          refine (ref_rot_named _ _ (by omega) _).mono ?_
          rintro e w' ⟨b2, hb2, rfl, n4, rfl⟩
          go_wp2
          go_roundg (8 - (j + 1))
          case measure => omega
          case rel =>
            exact ⟨_, j + 1, _, by omega, rfl, rfl, rfl, rfl, rfl, rfl, by go_num, Go.Lib.hid (rnds_step' m _ t j d1 b1 d2 b2 HT.out hd1.out hb1.out hd2.out hb2.out), rfl⟩
        · obtain rfl : j = 8 := by omega
          go_wp2
          go_region
          go_wp2
          go_roundg (P.length - (q + 32))
          case measure => omega
          case rel =>
            refine ⟨k + 1, q + 32, w2.heap.size + 1, xor4 t s, rfl, rfl, by go_num, hq32, Go.Lib.hid (by have := HQ.out; omega), Go.Lib.hid ?_, Go.Lib.hid ?_, Go.Lib.hid ?_, Go.Lib.hid ?_⟩
            · rw [HT.out, stN, ← HQ.out, ← HS.out, ← HM.out]
              rfl
            · exact heap_alloc2_new _ _ _
            · exact (HO2.out.alloc _).alloc _
            · exact bdn (bal (bal (btr HLr.out HB2.out) _) _) _
    · obtain rfl : q = P.length := by omega
      obtain ⟨s0, s1, s2, s3, _⟩ := cells4 HG.out
      have hgs : gs < wr.heap.size := (Array.getElem?_eq_some_iff.1 HG.out).1
      go_wp2
      have hres : wr.heap[w.heap.size]? = some z28 := (HLr.out.block w.heap.size (by simp)).trans (Go.heap_alloc_new w z28)
      have hwlt : w.heap.size < wr.heap.size := (Array.getElem?_eq_some_iff.1 hres).1
      have HRES := Go.Lib.hid hres
      have HF := Go.Lib.hid hwlt
      clear hres hwlt
      refine wp_loop_rounds 33 ?_
      rw [rounds_succ]
      go_wp2
      rw [rounds_succ]
      go_wp2
      rw [rounds_succ]
      go_wp2
      rw [rounds_succ]
      go_wp2
      rw [rounds_succ]
      go_wp2
      rw [rounds_succ]
      go_wp2
      rw [rounds_succ]
      go_wp2
      rw [rounds_succ]
      go_wp2
      rw [rounds_succ]
      go_wp2
      rw [rounds_succ]
      go_wp2
      rw [rounds_succ]
      go_wp2
      rw [rounds_succ]
      go_wp2
      rw [rounds_succ]
      go_wp2
      rw [rounds_succ]
      go_wp2
      rw [rounds_succ]
      go_wp2
      rw [rounds_succ]
      go_wp2
      rw [rounds_succ]
      go_wp2
      rw [rounds_succ]
      go_wp2
      rw [rounds_succ]
      go_wp2
      rw [rounds_succ]
      go_wp2
      rw [rounds_succ]
      go_wp2
      rw [rounds_succ]
      go_wp2
      rw [rounds_succ]
      go_wp2
      rw [rounds_succ]
      go_wp2
      rw [rounds_succ]
      go_wp2
      rw [rounds_succ]
      go_wp2
      rw [rounds_succ]
      go_wp2
      rw [rounds_succ]
      go_wp2
      rw [rounds_succ]
      go_wp2
      rw [rounds_succ]
      go_wp2
      rw [rounds_succ]
      go_wp2
      rw [rounds_succ]
      go_wp2
      rw [rounds_succ]
      go_wp2_with (first | (refine wpList_load_row rfl 28 (.tmp 16) rfl wr.heap.size rfl 28 _ (0, 0) _ (Go.heap_alloc_new wr _) Try.underlying28 rfl size28 ?_) | refine wpList_store_row rfl 28 (.tmp 2) (.tmp 176) rfl w.heap.size _ rfl rfl 28 _ ((Below.heap_alloc _ _ _ HF.out).trans HRES.out) size28 (by as_aux_lemma => rfl) (by as_aux_lemma => simp [Value.oneCell']) ?_)
      refine bodyPost_ret (results_cell_row rfl _ _ w.heap.size 28 _ (0, 0) _ rfl (setRow_heap _ _ _ _ _ _ ((Below.heap_alloc _ _ _ HF.out).trans HRES.out)) Try.underlying28 rfl size28) rfl ?_
      have hk : k = (paddedOf xs).length / 32 := by rw [← HP.out]; have h1 := HQ.out; omega
      have hdig : digB xs = outB s := by
        funext i
        rw [digB, HS.out, ← hk, HP.out]
      refine ⟨?_, below_row (bal ((bal (Below.refl _ _) _).trans (HLr.out.mono (by simp))) _) (Nat.le_refl _) _⟩
      rw [hdig, digV_out]
      simp only [lb, Nat.reduceMul, Nat.reduceSub, Int.reducePow, Int.ediv_one]

end Go.Proofs.Ytkjdmjflppcofaa
