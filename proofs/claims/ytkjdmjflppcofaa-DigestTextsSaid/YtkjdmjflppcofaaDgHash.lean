/- The digest's Hash: New, Write, Len. -/
import Derived.Test.YtkjdmjflppcofaaDgText
import Derived.Test.YtkjdmjflppcofaaMem2
import Derived.Deep.LoopGhost
import Derived.Deep.RegionWith
import Derived.Deep.DeepMust
import Derived.Deep.DeepFit
namespace Go.Proofs.Ytkjdmjflppcofaa
open Go.ChangeShapes Go.WideShapes Go.ChangeAt Go.RowKit
set_option linter.unusedVariables false

theorem info_u8 : (Try.prog.info? 5).map (fun i => (i.zero, i.size, i.bytes)) = some (some (.int .u8 0), 1, 1) := by kernel_rfl

theorem mixed_rd (s : St) (A : Option Addr) (n c : Nat) (xs : List UInt8) (hl : n = xs.length) (hn : 32 ≤ n) (hc : n ≤ c) (hmx : c ≤ 9223372036854775807) (w : World) (hr : Rd w A (bs xs)) :
    Calls Try.prog 38 #[.agg #[.int .u64 s.a, .int .u64 s.b, .int .u64 s.c, .int .u64 s.d], .slice A n c] w fun e w' => ∃ t : St, Hid (t = mixS s (mAt (byteF xs) 0)) ∧ e = .returned (.agg #[.int .u64 t.a, .int .u64 t.b, .int .u64 t.c, .int .u64 t.d]) ∧ Below w.heap.size w w' := by
  obtain ⟨g, off, rfl, hg, hcell⟩ := hr.at_ (by simp; omega)
  refine (digest_mixed s g off n c (mAt (byteF xs) 0) (byteF xs) (byteF_bd xs) (fun j => by simp only [mAt, Nat.zero_add]) hn hc hmx w hg ?_).mono ?_
  · intro i hi
    exact hcell i _ (bs_at xs i (by omega))
  · rintro e w' ⟨rfl, hb⟩
    exact ⟨_, Go.Lib.hid rfl, rfl, hb⟩

set_option maxHeartbeats 400000 in
theorem digest_New (w : World) :
    Calls Try.prog 24 #[] w fun e w' => ∃ w1, Below w.heap.size w w1 ∧ e = .returned (.pointer (some ⟨w1.heap.size, 0, none⟩)) ∧
      w' = w1.alloc (.cells #[.int .u64 initS.a, .int .u64 initS.b, .int .u64 initS.c, .int .u64 initS.d, .slice none 0 0, .int .i64 0] 61) := by
  go_enter Try.func24, Try.ntmps24
  go_wp2_with fail
  refine (digest_begun _).mono ?_
  rintro e w1 ⟨rfl, hb⟩
  go_wp2
  go_ret
  exact ⟨w1, hb, rfl, rfl⟩

/-- What a Hash is that has taken xs: its block, the rest's block. -/
def HashAt (w : World) (hb : Nat) (R : Option Nat) (base : Nat) (xs : List UInt8) : Prop :=
  ∃ (s : St) (A : Option Addr) (n c : Nat), w.heap[hb]? = some (.cells #[.int .u64 s.a, .int .u64 s.b, .int .u64 s.c, .int .u64 s.d, .slice A n c, .int .i64 xs.length] 61 (0, 0)) ∧
    s = stN (byteF xs) (xs.length / 32) ∧ Own w base 5 1 A n c (bs (xs.drop (32 * (xs.length / 32)))) ∧ A.map (·.block) = R

theorem cells6 {w : World} {hb : Nat} {a b c d e f : Value} {t : TypeId} (h : w.heap[hb]? = some (.cells #[a, b, c, d, e, f] t (0, 0))) :
    w.cell? ⟨hb, 0, none⟩ = some a ∧ w.cell? ⟨hb, 1, none⟩ = some b ∧ w.cell? ⟨hb, 2, none⟩ = some c ∧ w.cell? ⟨hb, 3, none⟩ = some d ∧ w.cell? ⟨hb, 4, none⟩ = some e ∧ w.cell? ⟨hb, 5, none⟩ = some f ∧ (∀ j, w.frozen? ⟨hb, j, none⟩ = false) := by
  refine ⟨?_, ?_, ?_, ?_, ?_, ?_, fun j => ?_⟩ <;> simp [World.cell?, World.frozen?, h]

theorem blk_ne {w : World} {g g' : Nat} {cs cs' : Array Value} {t t' : TypeId} (h : w.heap[g]? = some (.cells cs t (0, 0))) (h' : w.heap[g']? = some (.cells cs' t' (0, 0))) (hne : t ≠ t') : g ≠ g' := by
  rintro rfl
  rw [h] at h'
  injection h' with h'
  injection h' with _ ht
  exact hne ht

theorem own_ne {w : World} {base : Nat} {E : TypeId} {size : Nat} {A : Option Addr} {n c : Nat} {cs : List Value} {g : Nat} {cur : Array Value} {t : TypeId} (h : Own w base E size A n c cs) (hg : w.heap[g]? = some (.cells cur t (0, 0))) (hne : E ≠ t) :
    ∀ k, A.map (·.block) = some k → k ≠ g := by
  intro k hk
  rcases h.2.2.2 with ⟨rfl, _⟩ | ⟨g', off, cur', rfl, _, hh, _⟩
  · simp at hk
  · simp at hk
    subst hk
    exact blk_ne hh hg hne

theorem heap_set_same {w : World} {g : Nat} {cur : Array Value} {t : TypeId} {fr : Nat × Nat} (h : w.heap[g]? = some (.cells cur t fr)) (i : Nat) (u : Value) : (w.setCell ⟨g, i, none⟩ u).heap[g]? = some (.cells (cur.setIfInBounds i u) t fr) := by
  simp [World.setCell, Array.getElem?_modify, h]

/-- Bytes do not lie in a Hash's block. -/
theorem rd_ne {w : World} {hb : Nat} {s : St} {v : Value} {k : Int} {B : Option Addr} {ys : List UInt8} {A : Option Addr} {n c : Nat}
    (h : w.heap[hb]? = some (.cells #[.int .u64 s.a, .int .u64 s.b, .int .u64 s.c, .int .u64 s.d, .slice A n c, .int .i64 k] 61 (0, 0))) (hr : Rd w B (bs ys)) (hne : ys ≠ []) :
    ∀ g, B.map (·.block) = some g → g ≠ hb := by
  rintro g hg rfl
  obtain ⟨g', off, rfl, _, hc⟩ := hr (by simpa [bs] using hne)
  simp at hg
  subst hg
  cases ys with
  | nil => exact hne rfl
  | cons y ys =>
    have := hc 0 (bv y) (by simp [bs])
    simp only [World.cell?, h, Nat.add_zero] at this
    match off, this with
    | 0, h | 1, h | 2, h | 3, h | 4, h | 5, h => simp [bv] at h
    | k + 6, h => simp at h

theorem rd_far {w : World} {hb : Nat} {s : St} {k : Int} {B : Option Addr} {ys : List UInt8} {A : Option Addr} {n c : Nat}
    (h : w.heap[hb]? = some (.cells #[.int .u64 s.a, .int .u64 s.b, .int .u64 s.c, .int .u64 s.d, .slice A n c, .int .i64 k] 61 (0, 0))) (hr : Rd w B (bs ys)) (j : Nat) (u : Value) :
    Rd (w.setCell ⟨hb, j, none⟩ u) B (bs ys) := by
  by_cases hne : ys = []
  · subst hne
    exact Rd.nil _ _
  · exact hr.kp (Kp.setCell w (S := fun k => k = hb) (p := ⟨hb, j, none⟩) rfl u) fun g e => rd_ne (v := u) h hr hne g e

/-- In the midst of Write: k pieces of zs are mixed in. -/
def HMid (w wr : World) (hb : Nat) (R : Option Nat) (base : Nat) (zs : List UInt8) (k : Nat) : Prop :=
  ∃ (s : St) (A : Option Addr) (n c : Nat), wr.heap[hb]? = some (.cells #[.int .u64 s.a, .int .u64 s.b, .int .u64 s.c, .int .u64 s.d, .slice A n c, .int .i64 zs.length] 61 (0, 0)) ∧
    s = stN (byteF zs) k ∧ 32 * k ≤ zs.length ∧ n = zs.length - 32 * k ∧ Own wr base 5 1 A n c (bs (zs.drop (32 * k))) ∧ Kp (fun k => k = hb ∨ some k = R) w wr ∧
    (A.map (·.block) = R ∨ ∃ j, A.map (·.block) = some j ∧ w.heap.size ≤ j)

/-- One piece more. -/
theorem HMid.next {w wr w0 w3 : World} {hb : Nat} {R : Option Nat} {base : Nat} {zs : List UInt8} {k : Nat} {s t : St} {A A2 : Option Addr} {n c : Nat}
    (hblk : wr.heap[hb]? = some (.cells #[.int .u64 s.a, .int .u64 s.b, .int .u64 s.c, .int .u64 s.d, .slice A n c, .int .i64 zs.length] 61 (0, 0)))
    (hs : s = stN (byteF zs) k) (hk32 : 32 * k ≤ zs.length) (hn : n = zs.length - 32 * k) (hown : Own wr base 5 1 A n c (bs (zs.drop (32 * k)))) (hk : Kp (fun k => k = hb ∨ some k = R) w wr)
    (hlie : A.map (·.block) = R ∨ ∃ j, A.map (·.block) = some j ∧ w.heap.size ≤ j) (hge : 32 ≤ n) (h0 : w0.heap = wr.heap ∧ Kp (fun _ => False) wr w0) (hbel : Below w0.heap.size w0 w3) (ht : t = mixS s (mAt (byteF ((zs.drop (32 * k)).take 32)) 0))
    (hA2 : A2 = if c = 32 then A else A.map (·.add 32)) :
    HMid w (((((w3.setCell ⟨hb, 0, none⟩ (.int .u64 t.a)).setCell ⟨hb, 1, none⟩ (.int .u64 t.b)).setCell ⟨hb, 2, none⟩ (.int .u64 t.c)).setCell ⟨hb, 3, none⟩ (.int .u64 t.d)).setCell ⟨hb, 4, none⟩ (.slice A2 (n - 32) (c - 32))) hb R base zs (k + 1) := by
  have hlt : hb < wr.heap.size := (Array.getElem?_eq_some_iff.1 hblk).1
  have hAne := own_ne hown hblk (by decide)
  have h3 : w3.heap[hb]? = some (.cells #[.int .u64 s.a, .int .u64 s.b, .int .u64 s.c, .int .u64 s.d, .slice A n c, .int .i64 zs.length] 61 (0, 0)) :=
    (hbel.block hb (by rw [h0.1]; exact hlt)).trans (by rw [h0.1]; exact hblk)
  have hblk2 : A2.map (·.block) = A.map (·.block) := by
    rw [hA2]
    split
    · rfl
    · cases A with
      | none => rfl
      | some a => simp only [Option.map_some]; unfold Addr.add; split <;> rfl
  have hown3 : Own w3 base 5 1 A2 (n - 32) (c - 32) (bs (zs.drop (32 * (k + 1)))) := by
    have h1 : Own w0 base 5 1 A n c (bs (zs.drop (32 * k))) := hown.keep fun g e => by rw [h0.1]
    have h2 := (h1.below hbel).cut 32 hge
    rw [← hA2, ← bs_drop, List.drop_drop] at h2
    exact h2
  refine ⟨t, A2, n - 32, c - 32, ?_, ?_, by omega, by omega, ?_, ?_, ?_⟩
  · have e := heap_set_same (heap_set_same (heap_set_same (heap_set_same (heap_set_same h3 0 (.int .u64 t.a)) 1 (.int .u64 t.b)) 2 (.int .u64 t.c)) 3 (.int .u64 t.d)) 4 (.slice A2 (n - 32) (c - 32))
    rw [e]
    rfl
  · rw [ht, hs]
    simp only [stN]
    refine mixS_congr (mAt_congr fun i hi => ?_) _
    rw [Nat.zero_add, show byteF (List.take 32 (List.drop (32 * k) zs)) i = byteF (List.drop (32 * k) zs) i from by simp [byteF, List.getD, hi], byteF_drop]
  · have hne : ∀ g, A2.map (·.block) = some g → g ≠ hb := fun g e => hAne g (by rw [← hblk2]; exact e)
    exact ((((hown3.setFar (p := ⟨hb, 0, none⟩) hne _).setFar (p := ⟨hb, 1, none⟩) hne _).setFar (p := ⟨hb, 2, none⟩) hne _).setFar (p := ⟨hb, 3, none⟩) hne _).setFar (p := ⟨hb, 4, none⟩) hne _
  · have k1 : Kp (fun k => k = hb ∨ some k = R) w w3 := (hk.trans (h0.2.mono fun _ _ h => h.elim)).trans (Kp.of_below hbel _)
    exact ((((k1.trans (Kp.setCell _ (.inl rfl) _)).trans (Kp.setCell _ (.inl rfl) _)).trans (Kp.setCell _ (.inl rfl) _)).trans (Kp.setCell _ (.inl rfl) _)).trans (Kp.setCell _ (.inl rfl) _)
  · rw [hblk2]; exact hlie

set_option maxHeartbeats 1000000 in
theorem digest_Write (hb : Nat) (R : Option Nat) (base : Nat) (xs ys : List UInt8) (B : Option Addr) (c2 : Nat) (w : World) (hh : HashAt w hb R base xs) (hbase : base ≤ hb) (hr : Rd w B (bs ys)) (hlen : xs.length + ys.length + 64 ≤ 140737488355328) :
    Calls Try.prog 25 #[.pointer (some ⟨hb, 0, none⟩), .slice B ys.length c2] w fun e w' => e = .returned (.tuple #[]) ∧ ∃ R', HashAt w' hb R' base (xs ++ ys) ∧ Kp (fun k => k = hb ∨ some k = R) w w' ∧ (R' = R ∨ ∃ k, R' = some k ∧ w.heap.size ≤ k) := by
  obtain ⟨s, A, n, c, hblk, hs, hown, rfl⟩ := hh
  obtain ⟨c0, c1, c2', c3, c4, c5, hfr⟩ := cells6 hblk
  have HO := Go.Lib.hid hown
  have HB := Go.Lib.hid hblk
  have HR := Go.Lib.hid hr
  have HS := Go.Lib.hid hs
  have hn : n = xs.length % 32 := by
    have := hown.len
    simp at this
    omega
  have HN := Go.Lib.hid hn
  clear hown hblk hr hs hn
  go_enter Try.func25, Try.ntmps25
  obtain ⟨i0, hi, hz0, hz1, hz2⟩ := info_parts info_u8
  have hbz : hb < w.heap.size := (Array.getElem?_eq_some_iff.1 HB.out).1
  have hnle : n ≤ 31 := by have := HN.out; omega
  go_wp2_with (at_builtin; refine wpList_append_o _ rfl _ _ 26 rfl 5 i0 (.int .u8 0) 1 1 Try.underlying26 hi hz0 hz1 hz2 rfl (by decide) base A n c _ rfl (HO.out.setFar (fun g e => own_ne HO.out HB.out (by decide) g e) _) B ys.length c2 (bs ys) rfl (by simp) (rd_far HB.out HR.out 5 _) (bs_one _) (by omega) (by unfold maxLen; omega) (by simp; omega) ?_)
  intro A1 n1 w1 hown1 hkp1 hlie1
  have hAne : ∀ g, A.map (·.block) = some g → g ≠ hb := own_ne HO.out HB.out (by decide)
  have hb1 : w1.heap[hb]? = some (.cells #[.int .u64 s.a, .int .u64 s.b, .int .u64 s.c, .int .u64 s.d, .slice A n c, .int .i64 ((xs.length : Int) + (ys.length : Int))] 61 (0, 0)) := by
    rw [hkp1.block hb (by simpa using hbz) (fun e => hAne hb e.symm rfl), heap_set_same HB.out]
    rfl
  obtain ⟨e0, e1, e2, e3, e4, e5, hfr1⟩ := cells6 hb1
  have HB1 := Go.Lib.hid hb1
  have HO1 := Go.Lib.hid hown1
  have HK1 := Go.Lib.hid hkp1
  have HL1 := Go.Lib.hid hlie1
  clear hb1 hown1 hkp1 hlie1 c0 c1 c2' c3 c4 c5 hfr
  go_wp2
  have hmid : HMid w (w1.setCell ⟨hb, 4, none⟩ (.slice A1 (n + ys.length) n1)) hb (A.map (·.block)) base (xs ++ ys) (xs.length / 32) := by
    refine ⟨s, A1, n + ys.length, n1, ?_, ?_, ?_, ?_, ?_, ?_, ?_⟩
    · rw [heap_set_same HB1.out]
      simp
    · rw [HS.out]
      exact stN_congr fun i hi => (byteF_append_left xs ys i (by omega)).symm
    · simp; omega
    · have := HN.out
      simp; omega
    · have h1 := HO1.out.setFar (p := ⟨hb, 4, none⟩) (own_ne HO1.out HB1.out (by decide)) (.slice A1 (n + ys.length) n1)
      rw [List.drop_append_of_le_length (by omega), bs_append]
      exact h1
    · exact (((Kp.setCell w (S := fun k => k = hb ∨ some k = A.map (·.block)) (p := ⟨hb, 5, none⟩) (.inl rfl) _).then HK1.out fun i _ h => .inr h)).trans (Kp.setCell _ (.inl rfl) _)
    · exact HL1.out.mono (by simp)
  have HMD := Go.Lib.hid hmid
  clear hmid e0 e1 e2 e3 e4 e5 hfr1
  go_loopg [] ((xs ++ ys).length - 32 * (xs.length / 32)) (fun g wr => ∃ k, g = (xs ++ ys).length - 32 * k ∧ HMid w wr hb (A.map (·.block)) base (xs ++ ys) k)
  case atStart => exact ⟨_, rfl, HMD.out⟩
  case round =>
    obtain ⟨k, rfl, s', A', n', c', hblk, hs', hk32, hn', hown', hkp', hlie'⟩ := hrel
    obtain ⟨e0, e1, e2, e3, e4, e5, hfr'⟩ := cells6 hblk
    have G1 := Go.Lib.hid hblk
    have G2 := Go.Lib.hid hs'
    have G3 := Go.Lib.hid hn'
    have G4 := Go.Lib.hid hown'
    have G5 := Go.Lib.hid hkp'
    have G6 := Go.Lib.hid hlie'
    have hcap := hown'.cap
    clear hblk hs' hn' hown' hkp' hlie' 
    have hlt : hb < wr.heap.size := (Array.getElem?_eq_some_iff.1 G1.out).1
    by_cases hge : 32 ≤ n'
    · obtain ⟨A2, hA2, hsl⟩ := slice_from (P := Try.prog) 26 Try.underlying26 Try.sizeOf5 A' n' c' 32 32 rfl hge
      go_wp2
      go_region_with (go_at_call 38; refine (mixed_rd s' A' 32 c' (((xs ++ ys).drop (32 * k)).take 32) (by have := G3.out; simp at this ⊢; omega) (by omega) (by omega) hcap.2 _ (by rw [bs_take]; exact G4.out.rd.take 32)).mono ?_; rintro e w3 ⟨t, ht, rfl, hbel⟩; have hb3 := (hbel.block hb hlt).trans G1.out; obtain ⟨f0, f1, f2, f3, f4, f5, hfr3⟩ := cells6 hb3)
      all_goals
        go_wp2
        go_roundg ((xs ++ ys).length - 32 * (k + 1))
        case measure => have := G3.out; omega
        case rel =>
          refine ⟨k + 1, rfl, ?_⟩
          exact HMid.next (w0 := wr.drew) G1.out G2.out hk32 G3.out G4.out G5.out G6.out hge ⟨rfl, Kp.drew _ _⟩ hbel ht.out hA2.out
    · go_wp2
      go_end0
      have hk : k = (xs ++ ys).length / 32 := by have := G3.out; omega
      refine ⟨rfl, _, ⟨s', A', n', c', G1.out, ?_, ?_, rfl⟩, G5.out, G6.out⟩
      · rw [← hk]; exact G2.out
      · rw [← hk]; exact G4.out
end Go.Proofs.Ytkjdmjflppcofaa
