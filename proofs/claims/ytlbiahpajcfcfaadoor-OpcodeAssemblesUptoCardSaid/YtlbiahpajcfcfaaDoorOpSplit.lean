/- opcode.split. -/
import Derived.Test.YtlbiahpajcfcfaaDoorOpNum
import Derived.Test.YtlbiahpajcfcfaaDoorOpSplitP
import Derived.Lib.OthersKept
namespace Go.Proofs.YtlbiahpajcfcfaaDoor
open Go.ChangeShapes Go.WideShapes Go.ChangeAt Go.RowKit
set_option linter.unusedVariables false
set_option maxRecDepth 100000
attribute [local go_sem ↓] Go.wp_at_zero Go.wp_at_succ

theorem wd_word : (Tryd.prog.info? 57).map (fun i => (i.zero, i.size, i.bytes)) = some (some (.agg #[.string ⟨#[]⟩, .int .i64 0]), 2, 24) := by kernel_rfl
/-- A word in memory. -/
def wordC (p : List UInt8 × Nat) : List Value := [.string ⟨List.toArray p.1⟩, .int .i64 (p.2 : Int)]
def wordsC (l : List (List UInt8 × Nat)) : List Value := l.flatMap wordC
theorem wordsC_length : ∀ l, (wordsC l).length = l.length * 2
  | [] => rfl
  | p :: l => by
    have := wordsC_length l
    simp only [wordsC, List.flatMap_cons, List.length_append, List.length_cons] at *
    rw [this]
    simp [wordC]
    omega
theorem wordsC_snoc (l : List (List UInt8 × Nat)) (p : List UInt8 × Nat) : wordsC (l ++ [p]) = wordsC l ++ wordC p := by simp [wordsC]
theorem wordC_one (p : List UInt8 × Nat) : ∀ u ∈ wordC p, u.oneCell' = true := by
  intro u hu
  simp only [wordC, List.mem_cons, List.not_mem_nil, or_false] at hu
  rcases hu with rfl | rfl <;> rfl
def fromZ : Option Nat → Int
  | none => -1
  | some f => (f : Int)

/-- What split's loop holds at a place of the text. -/
structure SplitI (w : World) (l : List UInt8) (T : ByteArray) (pos : Nat) (o : Option Nat) (done : List (List UInt8 × Nat)) (A : Option Addr) (c : Nat) (wr : World) : Prop where
  le : pos ≤ T.size
  it : wr.heap[w.heap.size]? = some (.stringIter T pos)
  bel : Below w.heap.size w wr
  own : Own wr (w.heap.size + 1) 57 2 A done.length c (wordsC done)
  scan : done ++ scanW pos (stO (l ++ [32]) pos o) ((l ++ [32]).drop pos) = wordsL l
  fr : ∀ f, o = some f → f < pos
  few : done.length ≤ pos
  fin : pos = T.size → o = none

theorem SplitI.step {w : World} {l : List UInt8} {T : ByteArray} {pos wd : Nat} {o o' : Option Nat} {done done' : List (List UInt8 × Nat)} {A A' : Option Addr} {c c' : Nat} {wr wr' : World} (h : SplitI w l T pos o done A c wr)
    (hwd : 1 ≤ wd) (hle : pos + wd ≤ T.size) (it : wr'.heap[w.heap.size]? = some (.stringIter T (pos + wd))) (bel : Below w.heap.size w wr') (own : Own wr' (w.heap.size + 1) 57 2 A' done'.length c' (wordsC done'))
    (hs : done' ++ scanW (pos + wd) (stO (l ++ [32]) (pos + wd) o') ((l ++ [32]).drop (pos + wd)) = done ++ scanW pos (stO (l ++ [32]) pos o) ((l ++ [32]).drop pos)) (hfr : ∀ f, o' = some f → f < pos + wd) (hd : done'.length ≤ done.length + 1) (hfin : pos + wd = T.size → o' = none) :
    SplitI w l T (pos + wd) o' done' A' c' wr' := ⟨hle, it, bel, own, hs.trans h.scan, hfr, by have := h.few; omega, hfin⟩

def SplitP (l : List UInt8) (w : World) (r : Ending) (w' : World) : Prop := ∃ A c, r = .returned (.slice A (wordsL l).length c) ∧ Own w' w.heap.size 57 2 A (wordsL l).length c (wordsC (wordsL l)) ∧ Below w.heap.size w w'

set_option maxHeartbeats 4000000 in
theorem op_split (l : List UInt8) (hz : l.length ≤ 1099511627776) (w : World) : Calls Tryd.prog 27 #[.string ⟨l.toArray⟩] w (SplitP l w) := by
  have hsz : (ByteArray.mk l.toArray).size = l.length := by simp [ByteArray.size]
  obtain ⟨i0, hi, hz0, hz1, hz2⟩ := info_parts wd_word
  obtain ⟨T, hT⟩ : ∃ T, T = (ByteArray.mk l.toArray) ++ (ByteArray.mk #[32]) := ⟨_, rfl⟩
  have hTs : T.size = l.length + 1 := by rw [hT, ByteArray.size_append, hsz]; rfl
  have hTl : T.data.toList = l ++ [32] := by rw [hT]; simp
  obtain ⟨w2, hw2⟩ : ∃ x, x = w.iter T 0 := ⟨_, rfl⟩
  have hI : SplitI w l T 0 none [] none 0 w2 := by
    refine ⟨Nat.zero_le _, by rw [hw2]; exact World.iter_heap w T 0, by rw [hw2]; exact bal (Below.refl _ _) _, Own.nil _ _ _ _, ?_, by simp, Nat.le_refl _, by omega⟩
    simp only [List.nil_append, List.drop_zero]
    exact scanW_tail l 0 none
  have HTL := Go.Lib.hid hTl
  have HI := Go.Lib.hid hI
  have HT := Go.Lib.hid hT
  have HW2 := Go.Lib.hid hw2
  have HTS := Go.Lib.hid hTs
  clear hTl hI hT hw2 hTs
  go_enter Tryd.func27, Tryd.ntmps27
  go_wp2_with fail
  rw [← HT.out, ← HW2.out]
  go_loopg [3, 4] (T.size + 1) (fun g v3 v4 wr => ∃ (pos : Nat) (o : Option Nat) (done : List (List UInt8 × Nat)) (A : Option Addr) (c : Nat), v3 = .slice A done.length c ∧ v4 = .int .i64 (fromZ o) ∧ g = T.size + 1 - pos ∧ Hid (SplitI w l T pos o done A c wr))
  case atStart => exact ⟨0, none, [], none, 0, rfl, rfl, rfl, HI⟩
  case round =>
    obtain ⟨pos, o, done, A, c, rfl, rfl, rfl, H⟩ := hrel
    have hple := H.out.le
    have hks : w.heap.size < wr.heap.size := (Array.getElem?_eq_some_iff.1 H.out.it).1
    by_cases hp : pos < T.size
    · obtain ⟨cp, wd, hcp, hwdd, ⟨hwd, hpw, hbl, hnb⟩, hd1⟩ : ∃ cp wd, (Utf8.decode T pos).1 = cp ∧ (Utf8.decode T pos).2 = wd ∧ (1 ≤ wd ∧ pos + wd ≤ T.size ∧ (cp = 32 ∨ cp = 10 → wd = 1 ∧ ∃ c, T.data.toList[pos]? = some c ∧ isBl c = true) ∧ (¬ (cp = 32 ∨ cp = 10) → ∀ k, k < wd → ∃ c, T.data.toList[pos + k]? = some c ∧ isBl c = false)) ∧ cp ≤ 2147483647 := ⟨_, _, rfl, rfl, decode_bl T pos hp, decode_le T pos⟩
      obtain ⟨wr2, hwr2⟩ : ∃ x, x = wr.iterAt w.heap.size T (pos + wd) := ⟨_, rfl⟩
      have hnx : ∀ ty, (Instr.next (.pointer (some ⟨w.heap.size, 0, none⟩)) true ty).run Tryd.prog wr = .ok (.tuple #[.bool true, .int .i64 pos, .int .i32 (cp : Int)]) wr2 := fun ty => by
        have h := Lib.run_next_any_at (P := Tryd.prog) wr w.heap.size T pos ty H.out.it hp
        rw [hcp, hwdd] at h
        rw [hwr2]
        exact h
      have hit2 : wr2.heap[w.heap.size]? = some (.stringIter T (pos + wd)) := by rw [hwr2]; exact Lib.iterAt_heap wr _ T pos _ H.out.it
      have hbw2 : Below w.heap.size w wr2 := by rw [hwr2]; exact Lib.below_iterAt H.out.bel (Nat.le_refl _) T _
      have hown2 : Own wr2 (w.heap.size + 1) 57 2 A done.length c (wordsC done) := by
        rw [hwr2]
        exact H.out.own.keep (fun g e => Lib.iterAt_other wr _ g T _ (by have := (H.out.own.block_lt g e).1; omega))
      have hs2 : w.heap.size + 1 ≤ wr2.heap.size := by rw [hwr2, Lib.iterAt_size]; omega
      have HIT := Go.Lib.hid hit2
      have HBW := Go.Lib.hid hbw2
      have HOWN := Go.Lib.hid hown2
      have hTs := HTS.out
      have HBL := Go.Lib.hid hbl
      have HNB := Go.Lib.hid hnb
      rw [HTL.out] at HBL HNB
      clear hit2 hbw2 hown2 hbl hnb hwr2 hcp hwdd
      have hpl : (pos : Int) ≤ (l.length : Int) := by omega
      clear hTs
      have hple2 : pos ≤ l.length := by omega
      have HPW := Go.Lib.hid hpw
      by_cases hb : cp = 32 ∨ cp = 10
      · have HB := Go.Lib.hid (HBL.out hb)
        have hw1 : wd = 1 := HB.out.1
        subst hw1
        obtain ⟨cB, hcB, hcb⟩ := HB.out.2
        obtain ⟨hsc1, hsc2⟩ := scan_blank hcB hcb
        have HSC := Go.Lib.hid (And.intro hsc1 hsc2)
        clear hcB hcb hsc1 hsc2 HB HBL HNB
        cases o with
        | none =>
          rcases hb with rfl | rfl
          all_goals
            simp only [fromZ]
            go_wp2_with fail
            go_roundg (T.size + 1 - (pos + 1))
            case measure => omega
            case rel =>
              refine ⟨pos + 1, none, done, A, c, rfl, rfl, rfl, Go.Lib.hid (H.out.step (Nat.le_refl _) HPW.out HIT.out HBW.out HOWN.out ?_ (by simp) (by omega) (fun _ => rfl))⟩
              have e := HSC.out.1
              simp only [stO, Option.map_none]
              rw [e]
        | some f =>
          have hfp := H.out.fr f rfl
          have hf0 : (0 : Int) ≤ (f : Int) := by omega
          have hfp2 : (f : Int) ≤ (pos : Int) := by omega
          obtain ⟨wo, hwo⟩ : ∃ x, x = ((l ++ [32]).drop f).take (pos - f) := ⟨_, rfl⟩
          have hex : (ByteArray.mk l.toArray).extract f pos = ⟨wo.toArray⟩ := by
            rw [hwo]
            apply ByteArray.ext
            rw [ByteArray.data_extract]
            simp [List.drop_append_of_le_length (show f ≤ l.length by omega), List.take_append_of_le_length (show pos - f ≤ (l.drop f).length by simp; omega)]
          have HWO := Go.Lib.hid hwo
          have HFP := Go.Lib.hid hfp
          have hfew := H.out.few
          have hfew2 : (done.length + 1) * 24 ≤ 140737488355328 := by omega
          have hfew3 : done.length + 1 ≤ 1099511627777 := by omega
          have HR := Go.Lib.hid (show Rd (wr2.alloc (.cells #[.string ⟨wo.toArray⟩, .int .i64 (f : Int)] 57)) (some ⟨wr2.heap.size, 0, none⟩) (wordC (wo, f)) from rd_new wr2 _ _)
          clear hwo
          rcases hb with rfl | rfl
          all_goals
            simp only [fromZ]
            go_wp2_with (at_builtin; go_loud (refine wpList_append_o _ rfl _ _ 54 rfl 57 i0 (.agg #[.string ⟨#[]⟩, .int .i64 0]) 2 24 Tryd.underlying54 hi hz0 hz1 hz2 rfl (by decide) (w.heap.size + 1) A done.length c (wordsC done) rfl (HOWN.out.alloc _) (some ⟨wr2.heap.size, 0, none⟩) 1 1 (wordC (wo, f)) rfl rfl HR.out (wordC_one _) hfew2 (by unfold maxLen; omega) (by simp; omega) ?_))
            intro A6 c6 w6 hown6 hkp6 hlie6
            have hk6 : Below w.heap.size w w6 := Kp.below (bal HBW.out _) hkp6 (fun i h => by have := HOWN.out.block_lt i h.symm; omega)
            have hit6 : w6.heap[w.heap.size]? = some (.stringIter T (pos + 1)) := (hkp6.block w.heap.size (by simp; omega) (fun h => by have := HOWN.out.block_lt _ h.symm; omega)).trans ((Below.heap_alloc wr2 _ w.heap.size (by omega)).trans HIT.out)
            have HO6 := Go.Lib.hid hown6
            have HK6 := Go.Lib.hid hk6
            have HIT6 := Go.Lib.hid hit6
            clear hown6 hkp6 hlie6 hk6 hit6
            go_wp2_with fail
            go_roundg (T.size + 1 - (pos + 1))
            case measure => omega
            case rel =>
              refine ⟨pos + 1, none, done ++ [(wo, f)], A6, c6, by simp, rfl, rfl, Go.Lib.hid (H.out.step (Nat.le_refl _) HPW.out HIT6.out HK6.out ?_ ?_ (by simp) (by simp) (fun _ => rfl))⟩
              · rw [wordsC_snoc]
                have := HO6.out
                simpa using this
              · have e := HSC.out.2 f wo
                simp only [stO, Option.map_none, Option.map_some]
                rw [← HWO.out, e, List.append_assoc]
                rfl
      · have HN := Go.Lib.hid (HNB.out hb)
        have hq1 : ((cp : Int) == 32) = false := beq_eq_false_iff_ne.2 (by omega)
        have hq2 : ((cp : Int) == 10) = false := beq_eq_false_iff_ne.2 (by omega)
        clear hb HNB HBL
        obtain ⟨hsc1, hsc2⟩ := scan_word (L := l ++ [32]) hwd (by have := HTS.out; have := HPW.out; simp; omega) HN.out
        have HSC := Go.Lib.hid (And.intro hsc1 hsc2)
        have hfin : ¬ (pos + wd = T.size) := by
          intro h
          have hTs := HTS.out
          obtain ⟨c9, hc9, hb9⟩ := HN.out (wd - 1) (by omega)
          have : (l ++ [32])[pos + (wd - 1)]? = some 32 := by
            rw [List.getElem?_append_right (by omega), show pos + (wd - 1) - l.length = 0 by omega]
            rfl
          rw [this] at hc9
          injection hc9 with hc9
          subst hc9
          simp [isBl] at hb9
        have HFIN := Go.Lib.hid hfin
        clear hsc1 hsc2 hfin
        cases o with
        | none =>
          simp only [fromZ]
          go_wp2_with fail
          go_roundg (T.size + 1 - (pos + wd))
          case measure => omega
          case rel =>
            refine ⟨pos + wd, some pos, done, A, c, rfl, rfl, rfl, Go.Lib.hid (H.out.step hwd HPW.out HIT.out HBW.out HOWN.out ?_ (by intro f h; injection h with h; omega) (by omega) (fun h => absurd h HFIN.out))⟩
            rw [← HSC.out.1]
            rfl
        | some f =>
          have hfp := H.out.fr f rfl
          have hf0 : (0 : Int) ≤ (f : Int) := by omega
          simp only [fromZ]
          go_wp2_with fail
          go_roundg (T.size + 1 - (pos + wd))
          case measure => omega
          case rel =>
            refine ⟨pos + wd, some f, done, A, c, rfl, rfl, rfl, Go.Lib.hid (H.out.step hwd HPW.out HIT.out HBW.out HOWN.out ?_ (by intro f' h; injection h with h; omega) (by omega) (fun h => absurd h HFIN.out))⟩
            rw [← HSC.out.2 f (by omega)]
    · have hpe : pos = T.size := by omega
      have hno := H.out.fin hpe
      subst hno
      have hnx : ∀ ty, (Instr.next (.pointer (some ⟨w.heap.size, 0, none⟩)) true ty).run Tryd.prog wr = .ok (.tuple #[.bool false]) wr := fun ty => Lib.run_next_end_at wr w.heap.size T pos ty H.out.it hp
      have hsc := H.out.scan
      have hd0 : (l ++ [32]).drop pos = [] := by
        apply List.drop_eq_nil_of_le
        have := HTS.out
        simp
        omega
      rw [hd0] at hsc
      simp only [stO, Option.map_none, scanW, List.append_nil] at hsc
      have HD := Go.Lib.hid hsc
      have HOWN := Go.Lib.hid (H.out.own.more (b := w.heap.size) (fun g e => by have := (H.out.own.block_lt g e).1; omega))
      clear hsc hd0
      go_wp2_with fail
      refine bodyPost_ret (v := .slice A done.length c) (by simp [results, Tryd.results27, go_sem]) rfl ?_
      have hb := H.out.bel
      refine ⟨A, c, ?_, ?_, hb⟩
      · rw [← HD.out]
      · rw [← HD.out]
        exact HOWN.out

end Go.Proofs.YtlbiahpajcfcfaaDoor
