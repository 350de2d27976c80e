/- DgHash, DgSum, DgOf, DgPad, DgRef, in one text. -/
import Derived.Test.YtgpaiphjbhkadaaDgA
import Derived.Test.YtgpaiphjbhkadaaMem2
import Derived.Deep.LoopGhost
import Derived.Deep.RegionWith
import Derived.Deep.DeepMust
import Derived.Deep.DeepFit
import Derived.Deep.DeepCutAuto
import Derived.BigQuiet
import Derived.Deep.QuietTactic

/- The digest's Hash: New, Write, Len. -/
namespace Go.Proofs.Ytgpaiphjbhkadaa
open Go.ChangeShapes Go.WideShapes Go.ChangeAt Go.RowKit
set_option linter.unusedVariables false
set_option maxRecDepth 100000

theorem dg_info_u8 : (Try.prog.info? 5).map (fun i => (i.zero, i.size, i.bytes)) = some (some (.int .u8 0), 1, 1) := by kernel_rfl

theorem mixed_rd (s : St) (A : Option Addr) (n c : Nat) (xs : List UInt8) (hl : n = xs.length) (hn : 32 ≤ n) (hc : n ≤ c) (hmx : c ≤ 9223372036854775807) (w : World) (hr : Rd w A (bs xs)) :
    Calls Try.prog 71 #[.agg #[.int .u64 s.a, .int .u64 s.b, .int .u64 s.c, .int .u64 s.d], .slice A n c] w fun e w' => ∃ t : St, Hid (t = mixS s (mAt (byteF xs) 0)) ∧ e = .returned (.agg #[.int .u64 t.a, .int .u64 t.b, .int .u64 t.c, .int .u64 t.d]) ∧ Below w.heap.size w w' := by
  obtain ⟨g, off, rfl, hg, hcell⟩ := hr.at_ (by simp; omega)
  refine (digest_mixed s g off n c (mAt (byteF xs) 0) (byteF xs) (byteF_bd xs) (fun j => by simp only [mAt, Nat.zero_add]) hn hc hmx w hg ?_).mono ?_
  · intro i hi
    exact hcell i _ (bs_at xs i (by omega))
  · rintro e w' ⟨rfl, hb⟩
    exact ⟨_, Go.Lib.hid rfl, rfl, hb⟩

set_option maxHeartbeats 400000 in
theorem digest_New (w : World) :
    Calls Try.prog 56 #[] w fun e w' => ∃ w1, Below w.heap.size w w1 ∧ e = .returned (.pointer (some ⟨w1.heap.size, 0, none⟩)) ∧
      w' = w1.alloc (.cells #[.int .u64 initS.a, .int .u64 initS.b, .int .u64 initS.c, .int .u64 initS.d, .slice none 0 0, .int .i64 0] 95) := by
  go_enter Try.func56, Try.ntmps56
  go_wp2_with fail
  refine (digest_begun _).mono ?_
  rintro e w1 ⟨rfl, hb⟩
  go_wp2
  go_ret
  exact ⟨w1, hb, rfl, rfl⟩

/-- What a Hash is that has taken xs: its block, the rest's block. -/
def HashAt (w : World) (hb : Nat) (R : Option Nat) (base : Nat) (xs : List UInt8) : Prop :=
  ∃ (s : St) (A : Option Addr) (n c : Nat), w.heap[hb]? = some (.cells #[.int .u64 s.a, .int .u64 s.b, .int .u64 s.c, .int .u64 s.d, .slice A n c, .int .i64 xs.length] 95 (0, 0)) ∧
    s = stN (byteF xs) (xs.length / 32) ∧ Own w base 5 1 A n c (bs (xs.drop (32 * (xs.length / 32)))) ∧ A.map (·.block) = R

theorem cells6 {w : World} {hb : Nat} {a b c d e f : Value} {t : TypeId} (h : w.heap[hb]? = some (.cells #[a, b, c, d, e, f] t (0, 0))) :
    w.cell? ⟨hb, 0, none⟩ = some a ∧ w.cell? ⟨hb, 1, none⟩ = some b ∧ w.cell? ⟨hb, 2, none⟩ = some c ∧ w.cell? ⟨hb, 3, none⟩ = some d ∧ w.cell? ⟨hb, 4, none⟩ = some e ∧ w.cell? ⟨hb, 5, none⟩ = some f ∧ (∀ j, w.frozen? ⟨hb, j, none⟩ = false) := by
  refine ⟨?_, ?_, ?_, ?_, ?_, ?_, fun j => ?_⟩ <;> simp [World.cell?, World.frozen?, h]

theorem blk_ne {w : World} {g g' : Nat} {cs cs' : Array Value} {t t' : TypeId} (h : w.heap[g]? = some (.cells cs t (0, 0))) (h' : w.heap[g']? = some (.cells cs' t' (0, 0))) (hne : t ≠ t') : g ≠ g' := by
  rintro rfl
  rw [h] at h'
  injection h' with h'
  injection h' with _ ht
  exact hne ht

theorem own_ne {w : World} {base : Nat} {E : TypeId} {size : Nat} {A : Option Addr} {n c : Nat} {cs : List Value} {g : Nat} {cur : Array Value} {t : TypeId} (h : Own w base E size A n c cs) (hg : w.heap[g]? = some (.cells cur t (0, 0))) (hne : E ≠ t) :
    ∀ k, A.map (·.block) = some k → k ≠ g := by
  intro k hk
  rcases h.2.2.2 with ⟨rfl, _⟩ | ⟨g', off, cur', rfl, _, hh, _⟩
  · simp at hk
  · simp at hk
    subst hk
    exact blk_ne hh hg hne

theorem dg_heap_set_same {w : World} {g : Nat} {cur : Array Value} {t : TypeId} {fr : Nat × Nat} (h : w.heap[g]? = some (.cells cur t fr)) (i : Nat) (u : Value) : (w.setCell ⟨g, i, none⟩ u).heap[g]? = some (.cells (cur.setIfInBounds i u) t fr) := by
  simp [World.setCell, Array.getElem?_modify, h]

/-- Bytes do not lie in a Hash's block. -/
theorem rd_ne {w : World} {hb : Nat} {s : St} {v : Value} {k : Int} {B : Option Addr} {ys : List UInt8} {A : Option Addr} {n c : Nat}
    (h : w.heap[hb]? = some (.cells #[.int .u64 s.a, .int .u64 s.b, .int .u64 s.c, .int .u64 s.d, .slice A n c, .int .i64 k] 95 (0, 0))) (hr : Rd w B (bs ys)) (hne : ys ≠ []) :
    ∀ g, B.map (·.block) = some g → g ≠ hb := by
  rintro g hg rfl
  obtain ⟨g', off, rfl, _, hc⟩ := hr (by simpa [bs] using hne)
  simp at hg
  subst hg
  cases ys with
  | nil => exact hne rfl
  | cons y ys =>
    have := hc 0 (bv y) (by simp [bs])
    simp only [World.cell?, h, Nat.add_zero] at this
    match off, this with
    | 0, h | 1, h | 2, h | 3, h | 4, h | 5, h => simp [bv] at h
    | k + 6, h => simp at h

theorem rd_far {w : World} {hb : Nat} {s : St} {k : Int} {B : Option Addr} {ys : List UInt8} {A : Option Addr} {n c : Nat}
    (h : w.heap[hb]? = some (.cells #[.int .u64 s.a, .int .u64 s.b, .int .u64 s.c, .int .u64 s.d, .slice A n c, .int .i64 k] 95 (0, 0))) (hr : Rd w B (bs ys)) (j : Nat) (u : Value) :
    Rd (w.setCell ⟨hb, j, none⟩ u) B (bs ys) := by
  by_cases hne : ys = []
  · subst hne
    exact Rd.nil _ _
  · exact hr.kp (Kp.setCell w (S := fun k => k = hb) (p := ⟨hb, j, none⟩) rfl u) fun g e => rd_ne (v := u) h hr hne g e

/-- In the midst of Write: k pieces of zs are mixed in. -/
def HMid (w wr : World) (hb : Nat) (R : Option Nat) (base : Nat) (zs : List UInt8) (k : Nat) : Prop :=
  ∃ (s : St) (A : Option Addr) (n c : Nat), wr.heap[hb]? = some (.cells #[.int .u64 s.a, .int .u64 s.b, .int .u64 s.c, .int .u64 s.d, .slice A n c, .int .i64 zs.length] 95 (0, 0)) ∧
    s = stN (byteF zs) k ∧ 32 * k ≤ zs.length ∧ n = zs.length - 32 * k ∧ Own wr base 5 1 A n c (bs (zs.drop (32 * k))) ∧ Kp (fun k => k = hb ∨ some k = R) w wr ∧
    (A.map (·.block) = R ∨ ∃ j, A.map (·.block) = some j ∧ w.heap.size ≤ j)

/-- One piece more. -/
theorem HMid.next {w wr w0 w3 : World} {hb : Nat} {R : Option Nat} {base : Nat} {zs : List UInt8} {k : Nat} {s t : St} {A A2 : Option Addr} {n c : Nat}
    (hblk : wr.heap[hb]? = some (.cells #[.int .u64 s.a, .int .u64 s.b, .int .u64 s.c, .int .u64 s.d, .slice A n c, .int .i64 zs.length] 95 (0, 0)))
    (hs : s = stN (byteF zs) k) (hk32 : 32 * k ≤ zs.length) (hn : n = zs.length - 32 * k) (hown : Own wr base 5 1 A n c (bs (zs.drop (32 * k)))) (hk : Kp (fun k => k = hb ∨ some k = R) w wr)
    (hlie : A.map (·.block) = R ∨ ∃ j, A.map (·.block) = some j ∧ w.heap.size ≤ j) (hge : 32 ≤ n) (h0 : w0.heap = wr.heap ∧ Kp (fun _ => False) wr w0) (hbel : Below w0.heap.size w0 w3) (ht : t = mixS s (mAt (byteF ((zs.drop (32 * k)).take 32)) 0))
    (hA2 : A2 = if c = 32 then A else A.map (·.add 32)) :
    HMid w (((((w3.setCell ⟨hb, 0, none⟩ (.int .u64 t.a)).setCell ⟨hb, 1, none⟩ (.int .u64 t.b)).setCell ⟨hb, 2, none⟩ (.int .u64 t.c)).setCell ⟨hb, 3, none⟩ (.int .u64 t.d)).setCell ⟨hb, 4, none⟩ (.slice A2 (n - 32) (c - 32))) hb R base zs (k + 1) := by
  have hlt : hb < wr.heap.size := (Array.getElem?_eq_some_iff.1 hblk).1
  have hAne := own_ne hown hblk (by decide)
  have h3 : w3.heap[hb]? = some (.cells #[.int .u64 s.a, .int .u64 s.b, .int .u64 s.c, .int .u64 s.d, .slice A n c, .int .i64 zs.length] 95 (0, 0)) :=
    (hbel.block hb (by rw [h0.1]; exact hlt)).trans (by rw [h0.1]; exact hblk)
  have hblk2 : A2.map (·.block) = A.map (·.block) := by
    rw [hA2]
    split
    · rfl
    · cases A with
      | none => rfl
      | some a => simp only [Option.map_some]; unfold Addr.add; split <;> rfl
  have hown3 : Own w3 base 5 1 A2 (n - 32) (c - 32) (bs (zs.drop (32 * (k + 1)))) := by
    have h1 : Own w0 base 5 1 A n c (bs (zs.drop (32 * k))) := hown.keep fun g e => by rw [h0.1]
    have h2 := (h1.below hbel).cut 32 hge
    rw [← hA2, ← bs_drop, List.drop_drop] at h2
    exact h2
  refine ⟨t, A2, n - 32, c - 32, ?_, ?_, by omega, by omega, ?_, ?_, ?_⟩
  · have e := dg_heap_set_same (dg_heap_set_same (dg_heap_set_same (dg_heap_set_same (dg_heap_set_same h3 0 (.int .u64 t.a)) 1 (.int .u64 t.b)) 2 (.int .u64 t.c)) 3 (.int .u64 t.d)) 4 (.slice A2 (n - 32) (c - 32))
    rw [e]
    rfl
  · rw [ht, hs]
    simp only [stN]
    refine mixS_congr (mAt_congr fun i hi => ?_) _
    rw [Nat.zero_add, show byteF (List.take 32 (List.drop (32 * k) zs)) i = byteF (List.drop (32 * k) zs) i from by simp [byteF, List.getD, hi], byteF_drop]
  · have hne : ∀ g, A2.map (·.block) = some g → g ≠ hb := fun g e => hAne g (by rw [← hblk2]; exact e)
    exact ((((hown3.setFar (p := ⟨hb, 0, none⟩) hne _).setFar (p := ⟨hb, 1, none⟩) hne _).setFar (p := ⟨hb, 2, none⟩) hne _).setFar (p := ⟨hb, 3, none⟩) hne _).setFar (p := ⟨hb, 4, none⟩) hne _
  · have k1 : Kp (fun k => k = hb ∨ some k = R) w w3 := (hk.trans (h0.2.mono fun _ _ h => h.elim)).trans (Kp.of_below hbel _)
    exact ((((k1.trans (Kp.setCell _ (.inl rfl) _)).trans (Kp.setCell _ (.inl rfl) _)).trans (Kp.setCell _ (.inl rfl) _)).trans (Kp.setCell _ (.inl rfl) _)).trans (Kp.setCell _ (.inl rfl) _)
  · rw [hblk2]; exact hlie

set_option maxHeartbeats 1000000 in
theorem digest_Write (hb : Nat) (R : Option Nat) (base : Nat) (xs ys : List UInt8) (B : Option Addr) (c2 : Nat) (w : World) (hh : HashAt w hb R base xs) (hbase : base ≤ hb) (hr : Rd w B (bs ys)) (hlen : xs.length + ys.length + 64 ≤ 140737488355328) :
    Calls Try.prog 57 #[.pointer (some ⟨hb, 0, none⟩), .slice B ys.length c2] w fun e w' => e = .returned (.tuple #[]) ∧ ∃ R', HashAt w' hb R' base (xs ++ ys) ∧ Kp (fun k => k = hb ∨ some k = R) w w' ∧ (R' = R ∨ ∃ k, R' = some k ∧ w.heap.size ≤ k) := by
  obtain ⟨s, A, n, c, hblk, hs, hown, rfl⟩ := hh
  obtain ⟨c0, c1, c2', c3, c4, c5, hfr⟩ := cells6 hblk
  have HO := Go.Lib.hid hown
  have HB := Go.Lib.hid hblk
  have HR := Go.Lib.hid hr
  have HS := Go.Lib.hid hs
  have hn : n = xs.length % 32 := by
    have := hown.len
    simp at this
    omega
  have HN := Go.Lib.hid hn
  clear hown hblk hr hs hn
  go_enter Try.func57, Try.ntmps57
  obtain ⟨i0, hi, hz0, hz1, hz2⟩ := info_parts dg_info_u8
  have hbz : hb < w.heap.size := (Array.getElem?_eq_some_iff.1 HB.out).1
  have hnle : n ≤ 31 := by have := HN.out; omega
  go_wp2_with (at_builtin; refine wpList_append_o _ rfl _ _ 24 rfl 5 i0 (.int .u8 0) 1 1 Try.underlying24 hi hz0 hz1 hz2 rfl (by decide) base A n c _ rfl (HO.out.setFar (fun g e => own_ne HO.out HB.out (by decide) g e) _) B ys.length c2 (bs ys) rfl (by simp) (rd_far HB.out HR.out 5 _) (bs_one _) (by omega) (by unfold maxLen; omega) (by simp; omega) ?_)
  intro A1 n1 w1 hown1 hkp1 hlie1
  have hAne : ∀ g, A.map (·.block) = some g → g ≠ hb := own_ne HO.out HB.out (by decide)
  have hb1 : w1.heap[hb]? = some (.cells #[.int .u64 s.a, .int .u64 s.b, .int .u64 s.c, .int .u64 s.d, .slice A n c, .int .i64 ((xs.length : Int) + (ys.length : Int))] 95 (0, 0)) := by
    rw [hkp1.block hb (by simpa using hbz) (fun e => hAne hb e.symm rfl), dg_heap_set_same HB.out]
    rfl
  obtain ⟨e0, e1, e2, e3, e4, e5, hfr1⟩ := cells6 hb1
  have HB1 := Go.Lib.hid hb1
  have HO1 := Go.Lib.hid hown1
  have HK1 := Go.Lib.hid hkp1
  have HL1 := Go.Lib.hid hlie1
  clear hb1 hown1 hkp1 hlie1 c0 c1 c2' c3 c4 c5 hfr
  go_wp2
  have hmid : HMid w (w1.setCell ⟨hb, 4, none⟩ (.slice A1 (n + ys.length) n1)) hb (A.map (·.block)) base (xs ++ ys) (xs.length / 32) := by
    refine ⟨s, A1, n + ys.length, n1, ?_, ?_, ?_, ?_, ?_, ?_, ?_⟩
    · rw [dg_heap_set_same HB1.out]
      simp
    · rw [HS.out]
      exact stN_congr fun i hi => (byteF_append_left xs ys i (by omega)).symm
    · simp; omega
    · have := HN.out
      simp; omega
    · have h1 := HO1.out.setFar (p := ⟨hb, 4, none⟩) (own_ne HO1.out HB1.out (by decide)) (.slice A1 (n + ys.length) n1)
      rw [List.drop_append_of_le_length (by omega), bs_append]
      exact h1
    · exact (((Kp.setCell w (S := fun k => k = hb ∨ some k = A.map (·.block)) (p := ⟨hb, 5, none⟩) (.inl rfl) _).then HK1.out fun i _ h => .inr h)).trans (Kp.setCell _ (.inl rfl) _)
    · exact HL1.out.mono (by simp)
  have HMD := Go.Lib.hid hmid
  clear hmid e0 e1 e2 e3 e4 e5 hfr1
  go_loopg [] ((xs ++ ys).length - 32 * (xs.length / 32)) (fun g wr => ∃ k, g = (xs ++ ys).length - 32 * k ∧ HMid w wr hb (A.map (·.block)) base (xs ++ ys) k)
  case atStart => exact ⟨_, rfl, HMD.out⟩
  case round =>
    obtain ⟨k, rfl, s', A', n', c', hblk, hs', hk32, hn', hown', hkp', hlie'⟩ := hrel
    obtain ⟨e0, e1, e2, e3, e4, e5, hfr'⟩ := cells6 hblk
    have G1 := Go.Lib.hid hblk
    have G2 := Go.Lib.hid hs'
    have G3 := Go.Lib.hid hn'
    have G4 := Go.Lib.hid hown'
    have G5 := Go.Lib.hid hkp'
    have G6 := Go.Lib.hid hlie'
    have hcap := hown'.cap
    clear hblk hs' hn' hown' hkp' hlie' 
    have hlt : hb < wr.heap.size := (Array.getElem?_eq_some_iff.1 G1.out).1
    by_cases hge : 32 ≤ n'
    · obtain ⟨A2, hA2, hsl⟩ := slice_from (P := Try.prog) 24 Try.underlying24 Try.sizeOf5 A' n' c' 32 32 rfl hge
      go_wp2
      go_region_with (go_at_call 71; refine (mixed_rd s' A' 32 c' (((xs ++ ys).drop (32 * k)).take 32) (by have := G3.out; simp at this ⊢; omega) (by omega) (by omega) hcap.2 _ (by rw [bs_take]; exact G4.out.rd.take 32)).mono ?_; rintro e w3 ⟨t, ht, rfl, hbel⟩; have hb3 := (hbel.block hb hlt).trans G1.out; obtain ⟨f0, f1, f2, f3, f4, f5, hfr3⟩ := cells6 hb3)
      all_goals
        go_wp2
        go_roundg ((xs ++ ys).length - 32 * (k + 1))
        case measure => have := G3.out; omega
        case rel =>
          refine ⟨k + 1, rfl, ?_⟩
          exact HMid.next (w0 := wr.drew) G1.out G2.out hk32 G3.out G4.out G5.out G6.out hge ⟨rfl, Kp.drew _ _⟩ hbel ht.out hA2.out
    · go_wp2
      go_end0
      have hk : k = (xs ++ ys).length / 32 := by have := G3.out; omega
      refine ⟨rfl, _, ⟨s', A', n', c', G1.out, ?_, ?_, rfl⟩, G5.out, G6.out⟩
      · rw [← hk]; exact G2.out
      · rw [← hk]; exact G4.out
end Go.Proofs.Ytgpaiphjbhkadaa

/- The digest's Hash: Sum. -/
namespace Go.Proofs.Ytgpaiphjbhkadaa
open Go.ChangeShapes Go.WideShapes Go.ChangeAt Go.RowKit
set_option linter.unusedVariables false

theorem dg_rd_new (w : World) (cs : Array Value) (t : TypeId) : Rd (w.alloc (.cells cs t)) (some ⟨w.heap.size, 0, none⟩) cs.toList := fun _ =>
  ⟨w.heap.size, 0, rfl, by simp, fun j u hu => by
    rw [cell_of_row _ _ _ cs t (0, 0) (heap_alloc_new w _)]
    simpa using hu⟩

theorem cells4 {w : World} {hb : Nat} {a b c d : Value} {t : TypeId} (h : w.heap[hb]? = some (.cells #[a, b, c, d] t (0, 0))) :
    w.cell? ⟨hb, 0, none⟩ = some a ∧ w.cell? ⟨hb, 1, none⟩ = some b ∧ w.cell? ⟨hb, 2, none⟩ = some c ∧ w.cell? ⟨hb, 3, none⟩ = some d ∧ (∀ j, w.frozen? ⟨hb, j, none⟩ = false) := by
  refine ⟨?_, ?_, ?_, ?_, fun j => ?_⟩ <;> simp [World.cell?, World.frozen?, h]

theorem new_cells {w : World} {cs : Array Value} {t : TypeId} (k N : Nat) (hN : k + N ≤ cs.size) : ∀ i, i < N → ∃ u, (w.alloc (.cells cs t)).cell? ⟨w.heap.size, k + i, none⟩ = some u := fun i hi =>
  ⟨cs[k + i]'(by omega), by rw [cell_of_row _ _ _ cs t (0, 0) (heap_alloc_new w _)]; exact Array.getElem?_eq_getElem _⟩
theorem new_free {w : World} {cs : Array Value} {t : TypeId} : ∀ j, (w.alloc (.cells cs t)).frozen? ⟨w.heap.size, j, none⟩ = false := fun j => by
  unfold World.frozen?
  simp only [heap_alloc_new]
  simp

theorem size28 : (Try.prog.info? 59).map (·.size) = some 32 := by kernel_rfl
theorem idx0 (a b c d : Int) (w : World) : (Instr.index 92 (.agg #[.int .u64 a, .int .u64 b, .int .u64 c, .int .u64 d]) (.int .i64 0)).run Try.prog w = .ok (.int .u64 a) w := by kernel_rfl
theorem idx1 (a b c d : Int) (w : World) : (Instr.index 92 (.agg #[.int .u64 a, .int .u64 b, .int .u64 c, .int .u64 d]) (.int .i64 1)).run Try.prog w = .ok (.int .u64 b) w := by kernel_rfl
theorem idx2 (a b c d : Int) (w : World) : (Instr.index 92 (.agg #[.int .u64 a, .int .u64 b, .int .u64 c, .int .u64 d]) (.int .i64 2)).run Try.prog w = .ok (.int .u64 c) w := by kernel_rfl
theorem idx3 (a b c d : Int) (w : World) : (Instr.index 92 (.agg #[.int .u64 a, .int .u64 b, .int .u64 c, .int .u64 d]) (.int .i64 3)).run Try.prog w = .ok (.int .u64 d) w := by kernel_rfl

/-- The result's block, as it is made. -/
def z28 : Obj := .cells #[.int .u8 0, .int .u8 0, .int .u8 0, .int .u8 0, .int .u8 0, .int .u8 0, .int .u8 0, .int .u8 0, .int .u8 0, .int .u8 0, .int .u8 0, .int .u8 0, .int .u8 0, .int .u8 0, .int .u8 0, .int .u8 0, .int .u8 0, .int .u8 0, .int .u8 0, .int .u8 0, .int .u8 0, .int .u8 0, .int .u8 0, .int .u8 0, .int .u8 0, .int .u8 0, .int .u8 0, .int .u8 0, .int .u8 0, .int .u8 0, .int .u8 0, .int .u8 0] 59

theorem digV_out (t : St) : digV (outB t) = .agg #[.int .u8 (lb t.a 0), .int .u8 (lb t.a 1), .int .u8 (lb t.a 2), .int .u8 (lb t.a 3), .int .u8 (lb t.a 4), .int .u8 (lb t.a 5), .int .u8 (lb t.a 6), .int .u8 (lb t.a 7), .int .u8 (lb t.b 0), .int .u8 (lb t.b 1), .int .u8 (lb t.b 2), .int .u8 (lb t.b 3), .int .u8 (lb t.b 4), .int .u8 (lb t.b 5), .int .u8 (lb t.b 6), .int .u8 (lb t.b 7), .int .u8 (lb t.c 0), .int .u8 (lb t.c 1), .int .u8 (lb t.c 2), .int .u8 (lb t.c 3), .int .u8 (lb t.c 4), .int .u8 (lb t.c 5), .int .u8 (lb t.c 6), .int .u8 (lb t.c 7), .int .u8 (lb t.d 0), .int .u8 (lb t.d 1), .int .u8 (lb t.d 2), .int .u8 (lb t.d 3), .int .u8 (lb t.d 4), .int .u8 (lb t.d 5), .int .u8 (lb t.d 6), .int .u8 (lb t.d 7)] := rfl

theorem below_row {B g : Nat} {w0 w : World} (h : Below B w0 w) (hg : B ≤ g) (cs : Array Value) : Below B w0 (w.setRow g cs) :=
  h.trans ⟨rfl, rfl, rfl, by simp, fun k hk => setRow_other w g k cs (by omega)⟩

/-- One piece more of what Sum mixes in. -/
theorem sum_next {w0 wr wd w5 : World} {B base : Nat} {P : List UInt8} {k n c : Nat} {A A5 : Option Addr} {t t2 : St} (hown : Own wr base 5 1 A n c (bs (P.drop (32 * k)))) (hl : Below w0.heap.size w0 wr)
    (hb : wr.heap[B]? = some (.cells #[.int .u64 t.a, .int .u64 t.b, .int .u64 t.c, .int .u64 t.d] 92 (0, 0))) (hB : w0.heap.size ≤ B) (hd : wd.heap = wr.heap ∧ Below w0.heap.size w0 wd) (hbel : Below wd.heap.size wd w5)
    (hm : n = P.length - 32 * k ∧ 32 * k ≤ P.length) (h32 : 32 ≤ n) (ht : t = stN (byteF P) k) (ht2 : t2 = mixS t (mAt (byteF ((P.drop (32 * k)).take 32)) 0)) (hA5 : A5 = if c = 32 then A else A.map (·.add 32)) :
    (n - 32 = P.length - 32 * (k + 1) ∧ 32 * (k + 1) ≤ P.length) ∧ t2 = stN (byteF P) (k + 1) ∧
      Own ((((w5.setCell ⟨B, 0, none⟩ (.int .u64 t2.a)).setCell ⟨B, 1, none⟩ (.int .u64 t2.b)).setCell ⟨B, 2, none⟩ (.int .u64 t2.c)).setCell ⟨B, 3, none⟩ (.int .u64 t2.d)) base 5 1 A5 (n - 32) (c - 32) (bs (P.drop (32 * (k + 1)))) ∧
      Below w0.heap.size w0 ((((w5.setCell ⟨B, 0, none⟩ (.int .u64 t2.a)).setCell ⟨B, 1, none⟩ (.int .u64 t2.b)).setCell ⟨B, 2, none⟩ (.int .u64 t2.c)).setCell ⟨B, 3, none⟩ (.int .u64 t2.d)) ∧
      ((((w5.setCell ⟨B, 0, none⟩ (.int .u64 t2.a)).setCell ⟨B, 1, none⟩ (.int .u64 t2.b)).setCell ⟨B, 2, none⟩ (.int .u64 t2.c)).setCell ⟨B, 3, none⟩ (.int .u64 t2.d)).heap[B]? = some (.cells #[.int .u64 t2.a, .int .u64 t2.b, .int .u64 t2.c, .int .u64 t2.d] 92 (0, 0)) := by
  have hlt : B < wr.heap.size := (Array.getElem?_eq_some_iff.1 hb).1
  have hAne := own_ne hown hb (by decide)
  have h5 : w5.heap[B]? = some (.cells #[.int .u64 t.a, .int .u64 t.b, .int .u64 t.c, .int .u64 t.d] 92 (0, 0)) :=
    (hbel.block B (by rw [hd.1]; exact hlt)).trans (by rw [hd.1]; exact hb)
  have hblk2 : A5.map (·.block) = A.map (·.block) := by
    rw [hA5]
    split
    · rfl
    · cases A with
      | none => rfl
      | some a => simp only [Option.map_some]; unfold Addr.add; split <;> rfl
  have hown5 : Own w5 base 5 1 A5 (n - 32) (c - 32) (bs (P.drop (32 * (k + 1)))) := by
    have h1 : Own wd base 5 1 A n c (bs (P.drop (32 * k))) := hown.keep fun g e => by rw [hd.1]
    have h2 := (h1.below hbel).cut 32 h32
    rw [← hA5, ← bs_drop, List.drop_drop] at h2
    exact h2
  have hne : ∀ g, A5.map (·.block) = some g → g ≠ B := fun g e => hAne g (by rw [← hblk2]; exact e)
  refine ⟨by omega, ?_, ?_, ?_, ?_⟩
  · rw [ht2, ht]
    simp only [stN]
    refine mixS_congr (mAt_congr fun i hi => ?_) _
    rw [Nat.zero_add, show byteF (List.take 32 (List.drop (32 * k) P)) i = byteF (List.drop (32 * k) P) i from by simp [byteF, List.getD, hi], byteF_drop]
  · exact (((hown5.setFar (p := ⟨B, 0, none⟩) hne _).setFar (p := ⟨B, 1, none⟩) hne _).setFar (p := ⟨B, 2, none⟩) hne _).setFar (p := ⟨B, 3, none⟩) hne _
  · exact ((((btr hd.2 hbel).setCell (p := ⟨B, 0, none⟩) hB _).setCell (p := ⟨B, 1, none⟩) hB _).setCell (p := ⟨B, 2, none⟩) hB _).setCell (p := ⟨B, 3, none⟩) hB _
  · rw [dg_heap_set_same (dg_heap_set_same (dg_heap_set_same (dg_heap_set_same h5 0 (.int .u64 t2.a)) 1 (.int .u64 t2.b)) 2 (.int .u64 t2.c)) 3 (.int .u64 t2.d)]
    rfl

def lbs (n : Int) : List Value := (List.range 8).map fun i => Value.int .u8 (lb n i)

/-- 'lay' at the last eight bytes of a slice that the call owns. -/
theorem lay_own (base : Nat) (E : TypeId) (A A' : Option Addr) (N c p : Nat) (n : Int) (cs : List Value) (w : World) (hown : Own w base E 1 A N c cs) (hN : N = p + 8) (hA' : A' = if c = p then A else A.map (·.add p)) :
    Calls Try.prog 72 #[.slice A' 8 (c - p), .int .u64 n] w fun e w' => e = .returned (.tuple #[]) ∧ Own w' base E 1 A N c (cs.take p ++ lbs n) ∧ Kp (fun k => some k = A.map (·.block)) w w' := by
  have hl := hown.len
  have hcap := hown.cap
  obtain ⟨g, off, rfl, hbg, hg, hc, hfr⟩ := hown.shape (by omega)
  rw [if_neg (by omega)] at hA'
  subst hA'
  simp only [Option.map_some, Addr.add_lit]
  refine (digest_lay g (off + p) 8 (c - p) n (by omega) (by omega) (by omega) w ?_ hfr).mono ?_
  · intro i hi
    refine ⟨cs[p + i]'(by omega), ?_⟩
    rw [Nat.add_assoc]
    exact hc _ _ (List.getElem?_eq_getElem _)
  · rintro e w' ⟨rfl, rfl⟩
    have h1 := own_layW hown rfl p n 8 (by omega)
    rw [List.drop_eq_nil_of_le (by omega), List.append_nil] at h1
    exact ⟨rfl, h1, (kp_layW w g (off + p) n 8).mono fun k _ e => by subst e; rfl⟩

theorem padded_drop (xs : List UInt8) (k : Nat) (hk : 32 * k ≤ xs.length) (Z : Nat) (hZ : Z = zerosOf xs.length) :
    bs (xs.drop (32 * k) ++ 128 :: List.replicate Z 0) ++ lbs (xs.length : Int) = bs ((paddedOf xs).drop (32 * k)) := by
  subst hZ
  have e : lbs (xs.length : Int) = bs ((List.range 8).map fun i => UInt8.ofNat (xs.length / 2 ^ (56 - 8 * i) % 256)) := by
    simp only [lbs, bs, List.map_map]
    refine List.map_congr_left fun i _ => ?_
    simp only [Function.comp, bv, lb_nat]
  rw [e, ← bs_append]
  unfold paddedOf padOf
  rw [List.drop_append_of_le_length hk, List.append_assoc]

set_option maxHeartbeats 1000000 in
set_option maxRecDepth 100000 in
theorem digest_Sum (hb : Nat) (R : Option Nat) (base : Nat) (xs : List UInt8) (w : World) (hh : HashAt w hb R base xs) (hlen : xs.length + 64 ≤ 140737488355328) :
    Calls Try.prog 58 #[.pointer (some ⟨hb, 0, none⟩)] w fun e w' => e = .returned (digV (digB xs)) ∧ Below w.heap.size w w' := by
  obtain ⟨s, A, n, c, hblk, hs, hown, rfl⟩ := hh
  obtain ⟨c0, c1, c2', c3, c4, c5, hfr⟩ := cells6 hblk
  have HO := Go.Lib.hid hown
  have HB := Go.Lib.hid hblk
  have HS := Go.Lib.hid hs
  have hn : n = xs.length % 32 := by
    have := hown.len
    simp at this
    omega
  have HN := Go.Lib.hid hn
  clear hown hblk hs hn
  have hrl : (xs.drop (32 * (xs.length / 32))).length = n := by have := HN.out; simp; omega
  have HRL := Go.Lib.hid hrl
  clear hrl
  obtain ⟨i0, hi, hz0, hz1, hz2⟩ := info_parts dg_info_u8
  have hbz : hb < w.heap.size := (Array.getElem?_eq_some_iff.1 HB.out).1
  have hnle : n ≤ 31 := by have := HN.out; omega
  have HB0 : Hid ((w.alloc z28).heap[hb]? = some (.cells #[.int .u64 s.a, .int .u64 s.b, .int .u64 s.c, .int .u64 s.d, .slice A n c, .int .i64 xs.length] 95 (0, 0))) := Go.Lib.hid ((Below.heap_alloc w _ hb hbz).trans HB.out)
  have hbz0 : hb < (w.alloc z28).heap.size := by simp; omega
  go_enter Try.func58, Try.ntmps58
  go_wp2_with (at_builtin; refine wpList_append_o _ rfl _ _ 24 rfl 5 i0 (.int .u8 0) 1 1 Try.underlying24 hi hz0 hz1 hz2 rfl (by decide) (w.heap.size + 1) none 0 0 [] rfl (Own.nil _ _ _ _) A n c (bs (xs.drop (32 * (xs.length / 32)))) rfl (by rw [bs_length, HRL.out, Nat.mul_one]) (HO.out.rd.alloc _) (bs_one _) (by omega) (by unfold maxLen; omega) (by simp) ?_)
  intro A1 n1 w1 hown1 hkp1 hlie1
  have HO1 := Go.Lib.hid hown1
  have hbel1 : Below (w.alloc z28).heap.size (w.alloc z28) w1 := Kp.below (Below.refl _ _) hkp1 (fun i h => by simp at h)
  clear hown1 hkp1 hlie1
  go_wp2_with (at_builtin; refine wpList_append_o _ rfl _ _ 24 rfl 5 i0 (.int .u8 0) 1 1 Try.underlying24 hi hz0 hz1 hz2 rfl (by decide) (w.heap.size + 1) A1 n n1 (bs (xs.drop (32 * (xs.length / 32)))) rfl (by have := HO1.out.alloc (.cells #[.int .u8 128] 5); simpa using this) _ 1 1 (bs [128]) rfl (by simp) (dg_rd_new _ _ _) (bs_one _) (by omega) (by unfold maxLen; omega) (by have := hbel1.size; simp at this ⊢; omega) ?_)
  intro A2 n2 w2 hown2 hkp2 hlie2
  have HO2 := Go.Lib.hid hown2
  have hbel2 : Below (w.alloc z28).heap.size (w.alloc z28) w2 := Kp.below (bal hbel1 _) hkp2 (fun i h => by simpa using (HO1.out.block_lt i h.symm).1)
  clear hown2 hkp2 hlie2 hbel1
  have HL2 := Go.Lib.hid hbel2
  clear hbel2 c0 c1 c2' c3 c4 c5 hfr
  obtain ⟨Z, hZ⟩ : ∃ Z, Z = zerosOf xs.length := ⟨_, rfl⟩
  have hZn : Z ≤ 31 ∧ (n + Z) % 32 = 23 := by have := HN.out; subst hZ; unfold zerosOf; omega
  have hZ31 : Z ≤ 31 := hZn.1
  have HZ := Go.Lib.hid hZ
  have HZN := Go.Lib.hid hZn
  clear hZ hZn
  go_wp2
  go_loopg [3] Z (fun g v wr => ∃ (j : Nat) (A' : Option Addr) (c' : Nat), j ≤ Z ∧ g = Z - j ∧ v = .slice A' (n + 1 + j) c' ∧ Hid (Own wr (w.heap.size + 1) 5 1 A' (n + 1 + j) c' (bs (xs.drop (32 * (xs.length / 32)) ++ 128 :: List.replicate j 0))) ∧ Hid (Below (w.alloc z28).heap.size (w.alloc z28) wr))
  case atStart => exact ⟨0, A2, n2, by omega, rfl, rfl, Go.Lib.hid (by rw [bs_append]; exact HO2.out), HL2⟩
  case round =>
    obtain ⟨j, A', c', hj, rfl, rfl, HOr, HLr⟩ := hrel
    by_cases hlt : j < Z
    · have ht : (((n : Int) + 1 + (j : Int)) % 32 != 24) = true := by rw [bne_iff_ne]; have := HZN.out; omega
      go_wp2_with (at_builtin; refine wpList_append_o _ rfl _ _ 24 rfl 5 i0 (.int .u8 0) 1 1 Try.underlying24 hi hz0 hz1 hz2 rfl (by decide) (w.heap.size + 1) A' (n + 1 + j) c' _ rfl (HOr.out.alloc _) _ 1 1 (bs [0]) rfl (by simp) (dg_rd_new _ _ _) (bs_one _) (by omega) (by unfold maxLen; omega) (by have := HLr.out.size; simp at this ⊢; omega) ?_)
      intro A3 n3 w3 hown3 hkp3 hlie3
      have HO3 : Hid (Own w3 (w.heap.size + 1) 5 1 A3 (n + 1 + (j + 1)) n3 (bs (xs.drop (32 * (xs.length / 32)) ++ 128 :: List.replicate (j + 1) 0))) := Go.Lib.hid (by
        rw [← bs_append, List.append_assoc] at hown3
        rw [List.replicate_succ']
        exact hown3)
      have HL3 : Hid (Below (w.alloc z28).heap.size (w.alloc z28) w3) := Go.Lib.hid (Kp.below (bal HLr.out _) hkp3 (fun i h => by simpa using (HOr.out.block_lt i h.symm).1))
      clear hown3 hkp3 hlie3
      go_wp2
      go_roundg (Z - (j + 1))
      case measure => omega
      case rel => exact ⟨j + 1, A3, n3, by omega, rfl, rfl, HO3, HL3⟩
    · obtain rfl : j = Z := by omega
      have ht : (((n : Int) + 1 + (j : Int)) % 32 != 24) = false := by rw [bne_eq_false_iff_eq]; have := HZN.out; omega
      go_wp2_with (at_builtin; refine wpList_append_zeros_o _ rfl _ _ 24 3 rfl 5 i0 (.int .u8 0) Try.underlying24 Try.underlying3 hi hz0 hz1 hz2 rfl rfl (w.heap.size + 1) A' (n + 1 + j) c' _ rfl HOr.out 8 rfl (by decide) (by decide) (by omega) (by simpa using HLr.out.size) ?_)
      intro A3 n3 w3 hown3 hkp3 hlie3
      have HO3 : Hid (Own w3 (w.heap.size + 1) 5 1 A3 (n + 1 + j + 8) n3 (bs (xs.drop (32 * (xs.length / 32)) ++ 128 :: List.replicate j 0) ++ List.replicate 8 (.int .u8 0))) := Go.Lib.hid hown3
      have HL3 : Hid (Below (w.alloc z28).heap.size (w.alloc z28) w3) := Go.Lib.hid (Kp.below HLr.out hkp3 (fun i h => by simpa using (HOr.out.block_lt i h.symm).1))
      clear hown3 hkp3 hlie3
      obtain ⟨c0, c1, c2', c3, c4, c5, hfr⟩ := cells6 ((HL3.out.block hb hbz0).trans HB0.out)
      obtain ⟨A4, hA4, hsl⟩ := slice_from (P := Try.prog) 24 Try.underlying24 Try.sizeOf5 A3 (n + 1 + j + 8) n3 (n + 1 + j) ((n : Int) + 1 + (j : Int)) (by omega) (by omega)
      have hsub : n + 1 + j + 8 - (n + 1 + j) = 8 := by omega
      rw [hsub] at hsl
      clear hsub
      have HA4 := hA4
      have hw1 : IntKind.i64.wrap ((n : Int) + 1 + (j : Int)) = (n : Int) + 1 + (j : Int) := IntWalk.i64_in _ (by omega)
      have hw2 : IntKind.u64.wrap (xs.length : Int) = (xs.length : Int) := by rw [IntKind.wrap_u64]; omega
      go_wp2
      go_region_with (go_at_call 72; refine (lay_own (w.heap.size + 1) 5 A3 A4 (n + 1 + j + 8) n3 (n + 1 + j) _ _ _ (by exact HO3.out.drew) rfl HA4.out).mono ?_; rintro e w4 ⟨rfl, hown4, hkp4⟩)
      have htk : (bs (xs.drop (32 * (xs.length / 32)) ++ 128 :: List.replicate j 0) ++ List.replicate 8 (Value.int .u8 0)).take (n + 1 + j) = bs (xs.drop (32 * (xs.length / 32)) ++ 128 :: List.replicate j 0) := by
        have hl : (bs (xs.drop (32 * (xs.length / 32)) ++ 128 :: List.replicate j 0)).length = n + 1 + j := by
          rw [bs_length, List.length_append, HRL.out, List.length_cons, List.length_replicate]; omega
        rw [← hl]
        exact List.take_left
      have HO4 : Hid (Own w4 (w.heap.size + 1) 5 1 A3 (n + 1 + j + 8) n3 (bs ((paddedOf xs).drop (32 * (xs.length / 32))))) := Go.Lib.hid (by
        rw [htk, padded_drop xs (xs.length / 32) (by omega) j HZ.out] at hown4
        exact hown4)
      have HL4 : Hid (Below (w.alloc z28).heap.size (w.alloc z28) w4) := Go.Lib.hid (Kp.below HL3.out.drew hkp4 (fun i h => by simpa using (HO3.out.block_lt i h.symm).1))
      clear hown4 hkp4 htk hw1 hw2 hsl HO3 hA4 HA4 c0 c1 c2' c3 c4 c5 hfr HOr HLr HO2 HL2 HO1
      obtain ⟨c0, c1, c2', c3, c4, c5, hfr⟩ := cells6 ((HL4.out.block hb hbz0).trans HB0.out)
      go_wp2
      obtain ⟨P, hP⟩ : ∃ P, P = paddedOf xs := ⟨_, rfl⟩
      rw [← hP] at HO4
      have hPl : P.length % 32 = 0 ∧ n + 1 + j + 8 = P.length - 32 * (xs.length / 32) ∧ 32 * (xs.length / 32) ≤ P.length ∧ P.length ≤ xs.length + 64 := by
        have h1 := padOf_length xs.length
        have h2 := padded_32 xs.length
        have h3 := HZ.out
        have h4 := HN.out
        rw [hP]
        unfold paddedOf
        rw [List.length_append, h1, ← h3]
        rw [← h3] at h2
        omega
      have hst : s = stN (byteF P) (xs.length / 32) := by
        rw [HS.out, hP]
        exact stN_congr fun i hi => (byteF_append_left xs _ i (by omega)).symm
      have HP := Go.Lib.hid hP
      have HPL := Go.Lib.hid hPl
      have HST := Go.Lib.hid hst
      clear hP hPl hst c0 c1 c2' c3 c4 c5 hfr
      go_loopg [3] (n + 1 + j + 8) (fun g v wr => ∃ (k : Nat) (A' : Option Addr) (m c' : Nat) (t : St), g = m ∧ v = .slice A' m c' ∧ Hid (m = P.length - 32 * k ∧ 32 * k ≤ P.length) ∧ Hid (t = stN (byteF P) k) ∧
        Hid (Own wr (w.heap.size + 1) 5 1 A' m c' (bs (P.drop (32 * k)))) ∧ Hid (Below (w.alloc z28).heap.size (w.alloc z28) wr) ∧ Hid (wr.heap[w4.heap.size]? = some (.cells #[.int .u64 t.a, .int .u64 t.b, .int .u64 t.c, .int .u64 t.d] 92 (0, 0))))
      case atStart =>
        refine ⟨xs.length / 32, A3, _, n3, s, rfl, rfl, Go.Lib.hid ⟨HPL.out.2.1, HPL.out.2.2.1⟩, HST, Go.Lib.hid (HO4.out.alloc _), Go.Lib.hid (bal HL4.out _), Go.Lib.hid (heap_alloc_new w4 _)⟩
      case round =>
        obtain ⟨k, A', m, c', t, hgm, rfl, HM, HT, HOr, HLr, HBr⟩ := hrel
        subst hgm
        by_cases hpos : 0 < gk
        · have h32 : 32 ≤ gk := by have h1 := HM.out; have h2 := HPL.out.1; omega
          have hcap := HOr.out.cap
          have hlt4 : w4.heap.size < wr.heap.size := (Array.getElem?_eq_some_iff.1 HBr.out).1
          obtain ⟨d0, d1, d2, d3, hfrd⟩ := cells4 HBr.out
          obtain ⟨A5, hA5, hsl⟩ := slice_from (P := Try.prog) 24 Try.underlying24 Try.sizeOf5 A' gk c' 32 32 rfl h32
          go_wp2
          go_region_with (go_at_call 71; refine (mixed_rd t A' 32 c' ((P.drop (32 * k)).take 32) (by have := HM.out; simp; omega) (by omega) (by omega) hcap.2 _ (by rw [bs_take]; exact HOr.out.rd.take 32)).mono ?_; rintro e w5 ⟨t2, ht2, rfl, hbel⟩; have hb5 := (hbel.block w4.heap.size hlt4).trans HBr.out; obtain ⟨f0, f1, f2, f3, hfr5⟩ := cells4 hb5)
          all_goals
            go_wp2
            go_roundg (gk - 32)
            case measure => omega
            case rel =>
              obtain ⟨q1, q2, q3, q4, q5⟩ := sum_next (w0 := w.alloc z28) (wd := wr.drew) HOr.out HLr.out HBr.out HL4.out.size ⟨rfl, HLr.out.drew⟩ hbel HM.out h32 HT.out ht2.out hA5.out
              exact ⟨k + 1, A5, gk - 32, c' - 32, t2, rfl, rfl, Go.Lib.hid q1, Go.Lib.hid q2, Go.Lib.hid q3, Go.Lib.hid q4, Go.Lib.hid q5⟩
        · obtain rfl : gk = 0 := by omega
          have hlt4 : w4.heap.size < wr.heap.size := (Array.getElem?_eq_some_iff.1 HBr.out).1
          obtain ⟨d0, d1, d2, d3, hfrd⟩ := cells4 HBr.out
          go_wp2
          have ix0 := idx0 t.a t.b t.c t.d
          have ix1 := idx1 t.a t.b t.c t.d
          have ix2 := idx2 t.a t.b t.c t.d
          have ix3 := idx3 t.a t.b t.c t.d
          refine wp_loop_rounds 5 ?_
          rw [rounds_succ]
          go_wp2_with fail
          refine (digest_lay wr.heap.size 0 8 32 t.a (by omega) (by omega) (by omega) _ (new_cells 0 8 (by simp)) new_free).mono ?_
          rintro e w' ⟨rfl, rfl⟩
          simp only [layW]
          go_wp2
          rw [rounds_succ]
          go_wp2_with fail
          refine (digest_lay wr.heap.size 8 8 24 t.b (by omega) (by omega) (by omega) _ (new_cells 8 8 (by simp)) new_free).mono ?_
          rintro e w' ⟨rfl, rfl⟩
          simp only [layW]
          go_wp2
          rw [rounds_succ]
          go_wp2_with fail
          refine (digest_lay wr.heap.size 16 8 16 t.c (by omega) (by omega) (by omega) _ (new_cells 16 8 (by simp)) new_free).mono ?_
          rintro e w' ⟨rfl, rfl⟩
          simp only [layW]
          go_wp2
          rw [rounds_succ]
          go_wp2_with fail
          refine (digest_lay wr.heap.size 24 8 8 t.d (by omega) (by omega) (by omega) _ (new_cells 24 8 (by simp)) new_free).mono ?_
          rintro e w' ⟨rfl, rfl⟩
          simp only [layW]
          go_wp2
          rw [rounds_succ]
          have hres : wr.heap[w.heap.size]? = some z28 := (HLr.out.block w.heap.size (by simp)).trans (heap_alloc_new w z28)
          have hwlt : w.heap.size < wr.heap.size := (Array.getElem?_eq_some_iff.1 hres).1
          have HRES := Go.Lib.hid hres
          have HF := Go.Lib.hid hwlt
          clear hres hwlt
          go_wp2_with (first | (refine wpList_load_row rfl 59 (.tmp 5) rfl wr.heap.size rfl 59 _ (0, 0) _ (Go.heap_alloc_new wr _) Try.underlying59 rfl size28 ?_) | refine wpList_store_row rfl 59 (.tmp 2) (.tmp 63) rfl w.heap.size _ rfl rfl 59 _ ((Below.heap_alloc _ _ _ HF.out).trans HRES.out) size28 (by as_aux_lemma => rfl) (by as_aux_lemma => simp [Value.oneCell']) ?_)
          refine bodyPost_ret (results_cell_row rfl _ _ w.heap.size 59 _ (0, 0) _ rfl (setRow_heap _ _ _ _ _ _ ((Below.heap_alloc _ _ _ HF.out).trans HRES.out)) Try.underlying59 rfl size28) rfl ?_
          have hk : k = (paddedOf xs).length / 32 := by have h1 := HM.out; have h2 := HPL.out.1; rw [← HP.out]; omega
          have hdig : digB xs = outB t := by
            funext i
            rw [digB, HT.out, ← hk, HP.out]
          refine ⟨by rw [hdig, digV_out], ?_⟩
          exact below_row (bal ((bal (Below.refl _ _) _).trans (HLr.out.mono (by simp))) _) (Nat.le_refl _) _
end Go.Proofs.Ytgpaiphjbhkadaa

/- The digest's Of, and the Hash's Len and Clone. -/
namespace Go.Proofs.Ytgpaiphjbhkadaa
open Go.ChangeShapes Go.WideShapes Go.ChangeAt Go.RowKit
set_option linter.unusedVariables false

theorem digV_one (f : Nat → Int) : (((List.range 32).map fun i => Value.int .u8 (f i)).toArray).all (·.oneCell') = true := by
  simp [Value.oneCell']
theorem digV_size (f : Nat → Int) : (((List.range 32).map fun i => Value.int .u8 (f i)).toArray).size = 32 := by simp
theorem size28' (f : Nat → Int) : (Try.prog.info? 59).map (·.size) = some (((List.range 32).map fun i => Value.int .u8 (f i)).toArray).size := by rw [digV_size]; exact size28

theorem rd_len_pos {w : World} {A : Option Addr} {xs : List UInt8} (h : Rd w A (bs xs)) : True := trivial

set_option maxHeartbeats 400000 in
theorem digest_Of (B : Option Addr) (n c : Nat) (ys : List UInt8) (w : World) (hn : n = ys.length) (hr : Rd w B (bs ys)) (hlen : ys.length + 64 ≤ 140737488355328) :
    Calls Try.prog 36 #[.slice B n c] w fun e w' => e = .returned (digV (digB ys)) ∧ Below w.heap.size w w' := by
  subst hn
  have HR := Go.Lib.hid hr
  clear hr
  go_enter Try.func36, Try.ntmps36
  go_wp2_with fail
  refine (digest_New _).mono ?_
  rintro e wx ⟨w1, hb1, rfl, rfl⟩
  have hb1' : Below (w.alloc z28).heap.size (w.alloc z28) w1 := hb1
  have HB1 := Go.Lib.hid hb1'
  clear hb1 hb1'
  have hh : HashAt (w1.alloc (.cells #[.int .u64 initS.a, .int .u64 initS.b, .int .u64 initS.c, .int .u64 initS.d, .slice none 0 0, .int .i64 0] 95)) w1.heap.size none (w.heap.size + 1) [] :=
    ⟨initS, none, 0, 0, Go.heap_alloc_new w1 _, rfl, Own.nil _ _ _ _, rfl⟩
  have HH := Go.Lib.hid hh
  clear hh
  have hs1 : w.heap.size + 1 ≤ w1.heap.size := by have := HB1.out.size; simpa using this
  go_wp2_with fail
  refine (digest_Write w1.heap.size none (w.heap.size + 1) [] ys B c _ HH.out hs1 (((HR.out.alloc z28).below HB1.out).alloc _) (by simp; omega)).mono ?_
  rintro e w2 ⟨rfl, R', hh2, hkp2, _⟩
  rw [List.nil_append] at hh2
  have HH2 := Go.Lib.hid hh2
  have hb2 : Below (w.alloc z28).heap.size (w.alloc z28) w2 := Kp.below (bal HB1.out _) hkp2 (fun i h => by
    rcases h with h | h
    · subst h; simpa using hs1
    · simp at h)
  have HB2 := Go.Lib.hid hb2
  clear hh2 hkp2 hb2
  go_wp2_with fail
  refine (digest_Sum w1.heap.size R' (w.heap.size + 1) ys w2 HH2.out hlen).mono ?_
  rintro e w3 ⟨rfl, hb3⟩
  have hres : w3.heap[w.heap.size]? = some z28 := (hb3.block w.heap.size (by have := HB2.out.size; simp at this; omega)).trans ((HB2.out.block w.heap.size (by simp)).trans (Go.heap_alloc_new w z28))
  have HRES := Go.Lib.hid hres
  have hb3' : Below w.heap.size w w3 := btr (btr (bal (Below.refl _ _) z28) HB2.out) hb3
  have HB3 := Go.Lib.hid hb3'
  clear hres hb3 hb3'
  go_wp2_with (refine wpList_store_row rfl 59 (.tmp 2) (.tmp 9) rfl w.heap.size ((List.range 32).map fun i => Value.int .u8 (digB ys i)).toArray rfl rfl 59 _ HRES.out (size28' _) (digV_size _).symm (digV_one _) ?_)
  refine bodyPost_ret (results_cell_row rfl _ _ w.heap.size 59 _ (0, 0) _ rfl (setRow_heap _ _ _ _ _ _ HRES.out) Try.underlying59 rfl (size28' _)) rfl ?_
  exact ⟨rfl, below_row HB3.out (Nat.le_refl _) _⟩

end Go.Proofs.Ytgpaiphjbhkadaa

/- The reference's padded text. -/
namespace Go.Proofs.Ytgpaiphjbhkadaa
open Go.ChangeShapes Go.WideShapes Go.ChangeAt Go.RowKit
set_option linter.unusedVariables false

theorem dg_own_empty (w : World) (base : Nat) (E : TypeId) (hb : base ≤ w.heap.size) : Own (w.alloc (.cells #[] E)) base E 1 (some ⟨w.heap.size, 0, none⟩) 0 0 [] :=
  own_made w base E 1 #[] 0 0 hb (by simp [maxLen]) (Nat.le_refl _) rfl

/-- The first k of the eight bytes of a length. -/
def beK (L k : Nat) : List UInt8 := (List.range k).map fun i => UInt8.ofNat (L / 2 ^ (56 - 8 * i) % 256)
theorem beK_succ (L k : Nat) : bs (beK L (k + 1)) = bs (beK L k) ++ [.int .u8 (lb (L : Int) k)] := by
  simp only [beK, List.range_succ, List.map_append, List.map_cons, List.map_nil, bs_append, lb_nat]
  rfl

set_option maxHeartbeats 1000000 in
set_option maxRecDepth 100000 in
theorem ref_Padded (B : Option Addr) (n c : Nat) (xs : List UInt8) (w : World) (hn : n = xs.length) (hr : Rd w B (bs xs)) (hlen : xs.length + 64 ≤ 140737488355328) :
    Calls Try.prog 60 #[.slice B n c] w fun e w' => ∃ A' c', e = .returned (.slice A' (paddedOf xs).length c') ∧ Own w' w.heap.size 5 1 A' (paddedOf xs).length c' (bs (paddedOf xs)) ∧ Below w.heap.size w w' := by
  subst hn
  have HR := Go.Lib.hid hr
  clear hr
  obtain ⟨i0, hi, hz0, hz1, hz2⟩ := info_parts dg_info_u8
  go_enter Try.func60, Try.ntmps60
  go_wp2_with (at_builtin; refine wpList_append_o _ rfl _ _ 24 rfl 5 i0 (.int .u8 0) 1 1 Try.underlying24 hi hz0 hz1 hz2 rfl (by decide) w.heap.size _ 0 0 [] rfl (dg_own_empty _ _ _ (Nat.le_refl _)) B xs.length c (bs xs) rfl (by simp) (HR.out.alloc _) (bs_one _) (by omega) (by unfold maxLen; omega) (by simp) ?_)
  intro A1 n1 w1 hown1 hkp1 hlie1
  have HO1 : Hid (Own w1 w.heap.size 5 1 A1 xs.length n1 (bs xs)) := Go.Lib.hid hown1
  have hbel1 : Below w.heap.size w w1 := Kp.below (bal (Below.refl _ _) _) hkp1 (fun i h => by first | omega | (simp at h; omega))
  have HL1 := Go.Lib.hid hbel1
  clear hown1 hkp1 hlie1 hbel1
  go_wp2_with (at_builtin; refine wpList_append_o _ rfl _ _ 24 rfl 5 i0 (.int .u8 0) 1 1 Try.underlying24 hi hz0 hz1 hz2 rfl (by decide) w.heap.size A1 xs.length n1 (bs xs) rfl (HO1.out.alloc _) _ 1 1 (bs [128]) rfl (by simp) (dg_rd_new _ _ _) (bs_one _) (by omega) (by unfold maxLen; omega) (by have := HL1.out.size; simp; omega) ?_)
  intro A2 n2 w2 hown2 hkp2 hlie2
  have HO2 : Hid (Own w2 w.heap.size 5 1 A2 (xs.length + 1) n2 (bs (xs ++ [128]))) := Go.Lib.hid (by rw [bs_append]; exact hown2)
  have HL2 : Hid (Below w.heap.size w w2) := Go.Lib.hid (Kp.below (bal HL1.out _) hkp2 (fun i h => (HO1.out.block_lt i h.symm).1))
  clear hown2 hkp2 hlie2
  obtain ⟨Z, hZ⟩ : ∃ Z, Z = zerosOf xs.length := ⟨_, rfl⟩
  have hZn : Z ≤ 31 ∧ (xs.length + Z) % 32 = 23 := by subst hZ; unfold zerosOf; omega
  have hZ31 : Z ≤ 31 := hZn.1
  have HZ := Go.Lib.hid hZ
  have HZN := Go.Lib.hid hZn
  clear hZ hZn
  go_wp2
  go_loopg [3] Z (fun g v wr => ∃ (j : Nat) (A' : Option Addr) (c' : Nat), j ≤ Z ∧ g = Z - j ∧ v = .slice A' (xs.length + 1 + j) c' ∧ Hid (Own wr w.heap.size 5 1 A' (xs.length + 1 + j) c' (bs (xs ++ 128 :: List.replicate j 0))) ∧ Hid (Below w.heap.size w wr))
  case atStart => exact ⟨0, A2, n2, by omega, rfl, rfl, HO2, HL2⟩
  case round =>
    obtain ⟨j, A', c', hj, rfl, rfl, HOr, HLr⟩ := hrel
    by_cases hlt : j < Z
    · have ht : (((xs.length : Int) + 1 + (j : Int)) % 32 != 24) = true := by rw [bne_iff_ne]; have := HZN.out; omega
      go_wp2_with (at_builtin; refine wpList_append_o _ rfl _ _ 24 rfl 5 i0 (.int .u8 0) 1 1 Try.underlying24 hi hz0 hz1 hz2 rfl (by decide) w.heap.size A' (xs.length + 1 + j) c' _ rfl (HOr.out.alloc _) _ 1 1 (bs [0]) rfl (by simp) (dg_rd_new _ _ _) (bs_one _) (by omega) (by unfold maxLen; omega) (by have := HLr.out.size; simp; omega) ?_)
      intro A3 n3 w3 hown3 hkp3 hlie3
      have HO3 : Hid (Own w3 w.heap.size 5 1 A3 (xs.length + 1 + (j + 1)) n3 (bs (xs ++ 128 :: List.replicate (j + 1) 0))) := Go.Lib.hid (by
        rw [← bs_append, List.append_assoc] at hown3
        rw [List.replicate_succ']
        exact hown3)
      have HL3 : Hid (Below w.heap.size w w3) := Go.Lib.hid (Kp.below (bal HLr.out _) hkp3 (fun i h => (HOr.out.block_lt i h.symm).1))
      clear hown3 hkp3 hlie3
      go_wp2
      go_roundg (Z - (j + 1))
      case measure => omega
      case rel => exact ⟨j + 1, A3, n3, by omega, rfl, rfl, HO3, HL3⟩
    · obtain rfl : j = Z := by omega
      have ht : (((xs.length : Int) + 1 + (j : Int)) % 32 != 24) = false := by rw [bne_eq_false_iff_eq]; have := HZN.out; omega
      have hw2 : IntKind.u64.wrap (xs.length : Int) = (xs.length : Int) := by rw [IntKind.wrap_u64]; omega
      go_wp2
      go_loopg [3, 5] 8 (fun g v iv wr => ∃ (k : Nat) (A' : Option Addr) (c' : Nat), k ≤ 8 ∧ g = 8 - k ∧ iv = .int .i64 k ∧ v = .slice A' (xs.length + 1 + j + k) c' ∧ Hid (Own wr w.heap.size 5 1 A' (xs.length + 1 + j + k) c' (bs (xs ++ 128 :: List.replicate j 0) ++ bs (beK xs.length k))) ∧ Hid (Below w.heap.size w wr))
      case atStart => exact ⟨0, A', c', by omega, rfl, rfl, rfl, Go.Lib.hid (by simpa [beK, bs] using HOr.out), HLr⟩
      case round =>
        obtain ⟨k, A4, c4, hk, rfl, rfl, rfl, HOk, HLk⟩ := hrel
        by_cases hk8 : k < 8
        · rcases (by omega : k = 0 ∨ k = 1 ∨ k = 2 ∨ k = 3 ∨ k = 4 ∨ k = 5 ∨ k = 6 ∨ k = 7) with rfl | rfl | rfl | rfl | rfl | rfl | rfl | rfl
          all_goals
            go_wp2_with (at_builtin; refine wpList_append_o _ rfl _ _ 24 rfl 5 i0 (.int .u8 0) 1 1 Try.underlying24 hi hz0 hz1 hz2 rfl (by decide) w.heap.size A4 _ c4 _ rfl (HOk.out.alloc _) _ 1 1 _ rfl (by simp) (dg_rd_new _ _ _) (by simp [Value.oneCell']) (by omega) (by unfold maxLen; omega) (by have := HLk.out.size; simp; omega) ?_)
          · intro A5 n5 w5 hown5 hkp5 hlie5
            have e : lb (xs.length : Int) 0 = (xs.length : Int) / 72057594037927936 := by simp only [lb, Nat.reduceMul, Nat.reduceSub, Int.reducePow]; try omega
            have HO5 : Hid (Own w5 w.heap.size 5 1 A5 (xs.length + 1 + j + 1) n5 (bs (xs ++ 128 :: List.replicate j 0) ++ bs (beK xs.length 1))) := Go.Lib.hid (by
              rw [beK_succ, e]
              exact hown5)
            have HL5 : Hid (Below w.heap.size w w5) := Go.Lib.hid (Kp.below (bal HLk.out _) hkp5 (fun i h => (HOk.out.block_lt i h.symm).1))
            clear hown5 hkp5 hlie5 e
            go_wp2
            go_roundg 7
            case measure => omega
            case rel => exact ⟨1, A5, n5, by omega, rfl, rfl, rfl, HO5, HL5⟩
          · intro A5 n5 w5 hown5 hkp5 hlie5
            have e : lb (xs.length : Int) 1 = (xs.length : Int) / 281474976710656 := by simp only [lb, Nat.reduceMul, Nat.reduceSub, Int.reducePow]; try omega
            have HO5 : Hid (Own w5 w.heap.size 5 1 A5 (xs.length + 1 + j + 2) n5 (bs (xs ++ 128 :: List.replicate j 0) ++ bs (beK xs.length 2))) := Go.Lib.hid (by
              rw [beK_succ, e]
              exact hown5)
            have HL5 : Hid (Below w.heap.size w w5) := Go.Lib.hid (Kp.below (bal HLk.out _) hkp5 (fun i h => (HOk.out.block_lt i h.symm).1))
            clear hown5 hkp5 hlie5 e
            go_wp2
            go_roundg 6
            case measure => omega
            case rel => exact ⟨2, A5, n5, by omega, rfl, rfl, rfl, HO5, HL5⟩
          · intro A5 n5 w5 hown5 hkp5 hlie5
            have e : lb (xs.length : Int) 2 = (xs.length : Int) / 1099511627776 := by simp only [lb, Nat.reduceMul, Nat.reduceSub, Int.reducePow]; try omega
            have HO5 : Hid (Own w5 w.heap.size 5 1 A5 (xs.length + 1 + j + 3) n5 (bs (xs ++ 128 :: List.replicate j 0) ++ bs (beK xs.length 3))) := Go.Lib.hid (by
              rw [beK_succ, e]
              exact hown5)
            have HL5 : Hid (Below w.heap.size w w5) := Go.Lib.hid (Kp.below (bal HLk.out _) hkp5 (fun i h => (HOk.out.block_lt i h.symm).1))
            clear hown5 hkp5 hlie5 e
            go_wp2
            go_roundg 5
            case measure => omega
            case rel => exact ⟨3, A5, n5, by omega, rfl, rfl, rfl, HO5, HL5⟩
          · intro A5 n5 w5 hown5 hkp5 hlie5
            have e : lb (xs.length : Int) 3 = (xs.length : Int) / 4294967296 % 256 := by simp only [lb, Nat.reduceMul, Nat.reduceSub, Int.reducePow]; try omega
            have HO5 : Hid (Own w5 w.heap.size 5 1 A5 (xs.length + 1 + j + 4) n5 (bs (xs ++ 128 :: List.replicate j 0) ++ bs (beK xs.length 4))) := Go.Lib.hid (by
              rw [beK_succ, e]
              exact hown5)
            have HL5 : Hid (Below w.heap.size w w5) := Go.Lib.hid (Kp.below (bal HLk.out _) hkp5 (fun i h => (HOk.out.block_lt i h.symm).1))
            clear hown5 hkp5 hlie5 e
            go_wp2
            go_roundg 4
            case measure => omega
            case rel => exact ⟨4, A5, n5, by omega, rfl, rfl, rfl, HO5, HL5⟩
          · intro A5 n5 w5 hown5 hkp5 hlie5
            have e : lb (xs.length : Int) 4 = (xs.length : Int) / 16777216 % 256 := by simp only [lb, Nat.reduceMul, Nat.reduceSub, Int.reducePow]; try omega
            have HO5 : Hid (Own w5 w.heap.size 5 1 A5 (xs.length + 1 + j + 5) n5 (bs (xs ++ 128 :: List.replicate j 0) ++ bs (beK xs.length 5))) := Go.Lib.hid (by
              rw [beK_succ, e]
              exact hown5)
            have HL5 : Hid (Below w.heap.size w w5) := Go.Lib.hid (Kp.below (bal HLk.out _) hkp5 (fun i h => (HOk.out.block_lt i h.symm).1))
            clear hown5 hkp5 hlie5 e
            go_wp2
            go_roundg 3
            case measure => omega
            case rel => exact ⟨5, A5, n5, by omega, rfl, rfl, rfl, HO5, HL5⟩
          · intro A5 n5 w5 hown5 hkp5 hlie5
            have e : lb (xs.length : Int) 5 = (xs.length : Int) / 65536 % 256 := by simp only [lb, Nat.reduceMul, Nat.reduceSub, Int.reducePow]; try omega
            have HO5 : Hid (Own w5 w.heap.size 5 1 A5 (xs.length + 1 + j + 6) n5 (bs (xs ++ 128 :: List.replicate j 0) ++ bs (beK xs.length 6))) := Go.Lib.hid (by
              rw [beK_succ, e]
              exact hown5)
            have HL5 : Hid (Below w.heap.size w w5) := Go.Lib.hid (Kp.below (bal HLk.out _) hkp5 (fun i h => (HOk.out.block_lt i h.symm).1))
            clear hown5 hkp5 hlie5 e
            go_wp2
            go_roundg 2
            case measure => omega
            case rel => exact ⟨6, A5, n5, by omega, rfl, rfl, rfl, HO5, HL5⟩
          · intro A5 n5 w5 hown5 hkp5 hlie5
            have e : lb (xs.length : Int) 6 = (xs.length : Int) / 256 % 256 := by simp only [lb, Nat.reduceMul, Nat.reduceSub, Int.reducePow]; try omega
            have HO5 : Hid (Own w5 w.heap.size 5 1 A5 (xs.length + 1 + j + 7) n5 (bs (xs ++ 128 :: List.replicate j 0) ++ bs (beK xs.length 7))) := Go.Lib.hid (by
              rw [beK_succ, e]
              exact hown5)
            have HL5 : Hid (Below w.heap.size w w5) := Go.Lib.hid (Kp.below (bal HLk.out _) hkp5 (fun i h => (HOk.out.block_lt i h.symm).1))
            clear hown5 hkp5 hlie5 e
            go_wp2
            go_roundg 1
            case measure => omega
            case rel => exact ⟨7, A5, n5, by omega, rfl, rfl, rfl, HO5, HL5⟩
          · intro A5 n5 w5 hown5 hkp5 hlie5
            have e : lb (xs.length : Int) 7 = (xs.length : Int) % 256 := by simp only [lb, Nat.reduceMul, Nat.reduceSub, Int.reducePow]; try omega
            have HO5 : Hid (Own w5 w.heap.size 5 1 A5 (xs.length + 1 + j + 8) n5 (bs (xs ++ 128 :: List.replicate j 0) ++ bs (beK xs.length 8))) := Go.Lib.hid (by
              rw [beK_succ, e]
              exact hown5)
            have HL5 : Hid (Below w.heap.size w w5) := Go.Lib.hid (Kp.below (bal HLk.out _) hkp5 (fun i h => (HOk.out.block_lt i h.symm).1))
            clear hown5 hkp5 hlie5 e
            go_wp2
            go_roundg 0
            case measure => omega
            case rel => exact ⟨8, A5, n5, by omega, rfl, rfl, rfl, HO5, HL5⟩
        · obtain rfl : k = 8 := by omega
          go_wp2
          go_ret
          have hl : (paddedOf xs).length = xs.length + 1 + j + 8 := by
            unfold paddedOf
            rw [List.length_append, padOf_length, ← HZ.out]
            omega
          have hp : bs (xs ++ 128 :: List.replicate j 0) ++ bs (beK xs.length 8) = bs (paddedOf xs) := by
            rw [← bs_append]
            unfold paddedOf padOf
            rw [← HZ.out, List.append_assoc]
            rfl
          rw [hl, ← hp]
          exact ⟨A4, c4, rfl, HOk.out, HLk.out⟩

end Go.Proofs.Ytgpaiphjbhkadaa

/- The reference's Of: the same digest. -/
namespace Go.Proofs.Ytgpaiphjbhkadaa
open Go.ChangeShapes Go.WideShapes Go.ChangeAt Go.RowKit
set_option linter.unusedVariables false

theorem dg_info_u64 : (Try.prog.info? 22).map (fun i => (i.zero, i.size, i.bytes)) = some (some (.int .u64 0), 1, 8) := by kernel_rfl

/-- The round's own word, as the reference adds it up. -/
def kR : Nat → Int
  | 0 => 0
  | r + 1 => addI (kR r) goldI
theorem kR_succ : ∀ r, kR (r + 1) = kI r
  | 0 => by simp only [kR, kI, addI, goldI, IntKind.wrap_u64]; rfl
  | r + 1 => by rw [kR, kR_succ r]; rfl

theorem ref_word_at (g off n c : Nat) (a : Int) (p : Nat) (ha : a = (p : Int)) (f : Nat → Int) (hf : ∀ i, 0 ≤ f i ∧ f i ≤ 255) (hn : p + 8 ≤ n) (hm : n ≤ 9223372036854775807) (w : World)
    (hcell : ∀ i, i < 8 → w.cell? ⟨g, off + (p + i), none⟩ = some (.int .u8 (f i))) :
    Calls Try.prog 61 #[.slice (some ⟨g, off, none⟩) n c, .int .i64 a] w fun e w' => e = .returned (.int .u64 (beN f 8)) ∧ w = w' := by
  subst ha
  exact ref_word g off n c p f hf hn hm w hcell

/-- The word of a piece, as the reference reads it. -/
theorem ref_word_P {w : World} {base : Nat} {g off n c : Nat} {P : List UInt8} (h : Own w base 5 1 (some ⟨g, off, none⟩) n c (bs P)) (a : Int) (p j : Nat) (ha : a = ((p + 8 * j : Nat) : Int)) (hp : p + 8 * j + 8 ≤ P.length) :
    Calls Try.prog 61 #[.slice (some ⟨g, off, none⟩) n c, .int .i64 a] w fun e w' => e = .returned (.int .u64 (mAt (byteF P) p j)) ∧ w = w' := by
  have hl := h.len
  have hcap := h.cap
  rw [bs_length, Nat.mul_one] at hl
  refine ref_word_at g off n c a (p + 8 * j) ha (fun i => byteF P (p + 8 * j + i)) (fun i => byteF_bd P _) (by omega) (by omega) w ?_
  intro i hi
  exact h.cells rfl _ _ (bs_at P _ (by omega))

theorem rnds_step' (m : Nat → Int) (s0 s : St) (j : Nat) (d1 b1 d2 b2 : Int) (hs : s = rnds m s0 j)
    (h1 : d1 = rotC (xorI s.d (addI (addI (addI s.a s.b) (m (j % 4))) (addI (kR j) goldI))) 32) (h2 : b1 = rotC (xorI s.b (addI s.c d1)) 24)
    (h3 : d2 = rotC (xorI d1 (addI (addI (addI (addI s.a s.b) (m (j % 4))) (addI (kR j) goldI)) b1)) 16) (h4 : b2 = rotC (xorI b1 (addI (addI s.c d1) d2)) 63) :
    (⟨b2, addI (addI s.c d1) d2, d2, addI (addI (addI (addI s.a s.b) (m (j % 4))) (addI (kR j) goldI)) b1⟩ : St) = rnds m s0 (j + 1) := by
  have hk : addI (kR j) goldI = kI j := kR_succ j
  rw [hk] at h1 h3 ⊢
  subst h1 h2 h3 h4
  simp only [rnds, ← hs, rnd]

def u4 (s : St) : List Value := [.int .u64 s.a, .int .u64 s.b, .int .u64 s.c, .int .u64 s.d]

set_option maxHeartbeats 1000000 in
set_option maxRecDepth 100000 in
theorem ref_Of (B : Option Addr) (n c : Nat) (xs : List UInt8) (w : World) (hn : n = xs.length) (hr : Rd w B (bs xs)) (hlen : xs.length + 64 ≤ 140737488355328) :
    Calls Try.prog 40 #[.slice B n c] w fun e w' => e = .returned (digV (digB xs)) ∧ Below w.heap.size w w' := by
  subst hn
  have HR := Go.Lib.hid hr
  clear hr
  obtain ⟨i0, hi, hz0, hz1, hz2⟩ := info_parts dg_info_u64
  go_enter Try.func40, Try.ntmps40
  go_wp2_with fail
  refine (ref_Padded B xs.length c xs _ rfl (HR.out.alloc z28) hlen).mono ?_
  rintro e w1 ⟨A1, c1, rfl, hown1, hbel1⟩
  obtain ⟨P, hP⟩ : ∃ P, P = paddedOf xs := ⟨_, rfl⟩
  rw [← hP] at hown1 ⊢
  have hPl : P.length % 32 = 0 ∧ P.length ≤ xs.length + 64 := by
    have h1 := padOf_length xs.length
    have h2 := padded_32 xs.length
    rw [hP]
    unfold paddedOf
    rw [List.length_append, h1]
    have h3 : zerosOf xs.length ≤ 31 := by unfold zerosOf; omega
    omega
  have hpos : 0 < P.length := by rw [hP]; unfold paddedOf; rw [List.length_append, padOf_length]; omega
  obtain ⟨g1, off1, rfl, _, _, _, _⟩ := hown1.shape hpos
  have HP := Go.Lib.hid hP
  have HPL := Go.Lib.hid hPl
  clear hpos
  have HO1 := Go.Lib.hid hown1
  have HL1 : Hid (Below (w.alloc z28).heap.size (w.alloc z28) w1) := Go.Lib.hid hbel1
  clear hP hPl hown1 hbel1
  have e1 : IntKind.u64.wrap 22801429638646396970 = 4354685564936845354 := by decide
  have e3 : IntKind.u64.wrap 27156115203583242324 = 8709371129873690708 := by decide
  go_wp2
  go_loopg [5, 6] P.length (fun gk v av wr => ∃ (k q gs : Nat) (s : St), gk = P.length - q ∧ v = .slice (some ⟨gs, 0, none⟩) 4 4 ∧ av = .int .i64 q ∧ q ≤ P.length ∧ Hid (q = 32 * k) ∧ Hid (s = stN (byteF P) k) ∧
    Hid (wr.heap[gs]? = some (.cells #[.int .u64 s.a, .int .u64 s.b, .int .u64 s.c, .int .u64 s.d] 22 (0, 0))) ∧ Hid (Own wr (w.alloc z28).heap.size 5 1 (some ⟨g1, off1, none⟩) P.length c1 (bs P)) ∧ Hid (Below (w.alloc z28).heap.size (w.alloc z28) wr))
  case atStart =>
    exact ⟨0, 0, w1.heap.size, initS, rfl, rfl, rfl, by omega, Go.Lib.hid rfl, Go.Lib.hid rfl, Go.Lib.hid (Go.heap_alloc_new w1 _), Go.Lib.hid (HO1.out.alloc _), Go.Lib.hid (bal HL1.out _)⟩
  case round =>
    obtain ⟨k, q, gs, s, rfl, rfl, rfl, hq, HQ, HS, HG, HOr, HLr⟩ := hrel
    by_cases hlt : q < P.length
    · have hgs : gs < wr.heap.size := (Array.getElem?_eq_some_iff.1 HG.out).1
      go_wp2_with (at_builtin; refine wpList_append_o _ rfl _ _ 23 rfl 22 i0 (.int .u64 0) 1 8 Try.underlying23 hi hz0 hz1 hz2 rfl (by decide) wr.heap.size _ 0 0 [] rfl (dg_own_empty _ _ _ (Nat.le_refl _)) (some ⟨gs, 0, none⟩) 4 4 (u4 s) rfl rfl (by exact (Rd.alloc (fun _ => ⟨gs, 0, rfl, hgs, fun i u hu => by rw [cell_of_row _ _ _ _ _ _ HG.out]; simpa [u4] using hu⟩) _)) (by simp [u4, Value.oneCell']) (by omega) (by unfold maxLen; omega) (by simp) ?_)
      intro Ap cp w2 hownp hkpp hliep
      have hB2 : Below wr.heap.size wr w2 := Kp.below (bal (Below.refl _ _) _) hkpp (fun i h => by first | omega | (simp at h; omega))
      have HOp : Own w2 wr.heap.size 22 1 Ap 4 cp (u4 s) := hownp
      obtain ⟨gp, offp, rfl, hbp, hgp, hcp, _⟩ := HOp.shape (by decide)
      have hp0 : w2.cell? ⟨gp, offp, none⟩ = some (.int .u64 s.a) := hcp 0 _ rfl
      have hp1 : w2.cell? ⟨gp, offp + 1, none⟩ = some (.int .u64 s.b) := hcp 1 _ rfl
      have hp2 : w2.cell? ⟨gp, offp + 2, none⟩ = some (.int .u64 s.c) := hcp 2 _ rfl
      have hp3 : w2.cell? ⟨gp, offp + 3, none⟩ = some (.int .u64 s.d) := hcp 3 _ rfl
      obtain ⟨s0, s1, s2, s3, _⟩ := cells4 ((hB2.block gs hgs).trans HG.out)
      have hgs2 : gs < w2.heap.size := Nat.lt_of_lt_of_le hgs hB2.size
      have HO2 := Go.Lib.hid (HOr.out.below hB2)
      have HB2 := Go.Lib.hid hB2
      have hq32 : q + 32 ≤ P.length := by have h1 := HQ.out; have h2 := HPL.out.1; omega
      have hPm : P.length ≤ 140737488355328 := by have := HPL.out.2; omega
      clear hownp hkpp hliep HOp hcp hbp hB2
      go_wp2_with fail
      refine (ref_word_P HO2.out _ q 0 (by simp) (by omega)).mono ?_
      rintro e w' ⟨rfl, rfl⟩
      go_wp2_with fail
      refine (ref_word_P HO2.out _ q 1 (by simp) (by omega)).mono ?_
      rintro e w' ⟨rfl, rfl⟩
      go_wp2_with fail
      refine (ref_word_P HO2.out _ q 2 (by simp) (by omega)).mono ?_
      rintro e w' ⟨rfl, rfl⟩
      go_wp2_with fail
      refine (ref_word_P HO2.out _ q 3 (by simp) (by omega)).mono ?_
      rintro e w' ⟨rfl, rfl⟩
      obtain ⟨m, hm⟩ : ∃ m, m = mAt (byteF P) q := ⟨_, rfl⟩
      rw [← hm]
      have HM := Go.Lib.hid hm
      clear hm
      go_wp2
      go_region
      go_wp2
      go_region
      go_wp2
      go_region
      go_wp2
      go_region
      go_wp2
      go_loopg [9, 10, 11, 12, 13, 14, 15] 8 (fun gk va vb vc vd vk vj _ wx => ∃ (t : St) (j nd : Nat), j ≤ 8 ∧ gk = 8 - j ∧ va = .int .u64 t.a ∧ vb = .int .u64 t.b ∧ vc = .int .u64 t.c ∧ vd = .int .u64 t.d ∧ vk = .int .u64 (kR j) ∧ vj = .int .i64 j ∧
        Hid (t = rnds m (xor4 s ⟨m 0, m 1, m 2, m 3⟩) j) ∧ wx = (w2.alloc (.cells #[.int .u64 (m 0), .int .u64 (m 1), .int .u64 (m 2), .int .u64 (m 3)] 22)).drewN nd)
      case atStart => exact ⟨_, 0, 4, by omega, rfl, rfl, rfl, rfl, rfl, rfl, rfl, Go.Lib.hid rfl, rfl⟩
      case round =>
        obtain ⟨t, j, nd, hj, rfl, rfl, rfl, rfl, rfl, rfl, rfl, HT, rfl⟩ := hrel
        have hml : (#[Value.int .u64 (m 0), Value.int .u64 (m 1), Value.int .u64 (m 2), Value.int .u64 (m 3)] : Array Value)[j % 4]? = some (.int .u64 (m (j % 4))) := by
          rcases (by omega : j % 4 = 0 ∨ j % 4 = 1 ∨ j % 4 = 2 ∨ j % 4 = 3) with h | h | h | h <;> rw [h] <;> rfl
        by_cases hj8 : j < 8
        · go_wp2_with fail
          refine (ref_rot_named _ _ (by omega) _).mono ?_
          rintro e w' ⟨d1, hd1, rfl, n1, rfl⟩
          go_wp2_with fail
          refine (ref_rot_named _ _ (by omega) _).mono ?_
          rintro e w' ⟨b1, hb1, rfl, n2, rfl⟩
          go_wp2_with fail
          refine (ref_rot_named _ _ (by omega) _).mono ?_
          rintro e w' ⟨d2, hd2, rfl, n3, rfl⟩
          go_wp2_with fail
          refine (ref_rot_named _ _ (by omega) _).mono ?_
          rintro e w' ⟨b2, hb2, rfl, n4, rfl⟩
          go_wp2
          go_roundg (8 - (j + 1))
          case measure => omega
          case rel =>
            exact ⟨_, j + 1, _, by omega, rfl, rfl, rfl, rfl, rfl, rfl, by go_num, Go.Lib.hid (rnds_step' m _ t j d1 b1 d2 b2 HT.out hd1.out hb1.out hd2.out hb2.out), rfl⟩
        · obtain rfl : j = 8 := by omega
          go_wp2
          go_region
          go_wp2
          go_roundg (P.length - (q + 32))
          case measure => omega
          case rel =>
            refine ⟨k + 1, q + 32, w2.heap.size + 1, xor4 t s, rfl, rfl, by go_num, hq32, Go.Lib.hid (by have := HQ.out; omega), Go.Lib.hid ?_, Go.Lib.hid ?_, Go.Lib.hid ?_, Go.Lib.hid ?_⟩
            · rw [HT.out, stN, ← HQ.out, ← HS.out, ← HM.out]
              rfl
            · exact heap_alloc2_new _ _ _
            · exact (HO2.out.alloc _).alloc _
            · exact bdn (bal (bal (btr HLr.out HB2.out) _) _) _
    · obtain rfl : q = P.length := by omega
      obtain ⟨s0, s1, s2, s3, _⟩ := cells4 HG.out
      have hgs : gs < wr.heap.size := (Array.getElem?_eq_some_iff.1 HG.out).1
      go_wp2
      have hres : wr.heap[w.heap.size]? = some z28 := (HLr.out.block w.heap.size (by simp)).trans (Go.heap_alloc_new w z28)
      have hwlt : w.heap.size < wr.heap.size := (Array.getElem?_eq_some_iff.1 hres).1
      have HRES := Go.Lib.hid hres
      have HF := Go.Lib.hid hwlt
      clear hres hwlt
      refine wp_loop_rounds 33 ?_
      rw [rounds_succ]
      go_wp2
      rw [rounds_succ]
      go_wp2
      rw [rounds_succ]
      go_wp2
      rw [rounds_succ]
      go_wp2
      rw [rounds_succ]
      go_wp2
      rw [rounds_succ]
      go_wp2
      rw [rounds_succ]
      go_wp2
      rw [rounds_succ]
      go_wp2
      rw [rounds_succ]
      go_wp2
      rw [rounds_succ]
      go_wp2
      rw [rounds_succ]
      go_wp2
      rw [rounds_succ]
      go_wp2
      rw [rounds_succ]
      go_wp2
      rw [rounds_succ]
      go_wp2
      rw [rounds_succ]
      go_wp2
      rw [rounds_succ]
      go_wp2
      rw [rounds_succ]
      go_wp2
      rw [rounds_succ]
      go_wp2
      rw [rounds_succ]
      go_wp2
      rw [rounds_succ]
      go_wp2
      rw [rounds_succ]
      go_wp2
      rw [rounds_succ]
      go_wp2
      rw [rounds_succ]
      go_wp2
      rw [rounds_succ]
      go_wp2
      rw [rounds_succ]
      go_wp2
      rw [rounds_succ]
      go_wp2
      rw [rounds_succ]
      go_wp2
      rw [rounds_succ]
      go_wp2
      rw [rounds_succ]
      go_wp2
      rw [rounds_succ]
      go_wp2
      rw [rounds_succ]
      go_wp2
      rw [rounds_succ]
      go_wp2
      rw [rounds_succ]
      go_wp2_with (first | (refine wpList_load_row rfl 59 (.tmp 16) rfl wr.heap.size rfl 59 _ (0, 0) _ (Go.heap_alloc_new wr _) Try.underlying59 rfl size28 ?_) | refine wpList_store_row rfl 59 (.tmp 2) (.tmp 176) rfl w.heap.size _ rfl rfl 59 _ ((Below.heap_alloc _ _ _ HF.out).trans HRES.out) size28 (by as_aux_lemma => rfl) (by as_aux_lemma => simp [Value.oneCell']) ?_)
      refine bodyPost_ret (results_cell_row rfl _ _ w.heap.size 59 _ (0, 0) _ rfl (setRow_heap _ _ _ _ _ _ ((Below.heap_alloc _ _ _ HF.out).trans HRES.out)) Try.underlying59 rfl size28) rfl ?_
      have hk : k = (paddedOf xs).length / 32 := by rw [← HP.out]; have h1 := HQ.out; omega
      have hdig : digB xs = outB s := by
        funext i
        rw [digB, HS.out, ← hk, HP.out]
      refine ⟨?_, below_row (bal ((bal (Below.refl _ _) _).trans (HLr.out.mono (by simp))) _) (Nat.le_refl _) _⟩
      rw [hdig, digV_out]
      simp only [lb, Nat.reduceMul, Nat.reduceSub, Int.reducePow, Int.ediv_one]

end Go.Proofs.Ytgpaiphjbhkadaa
