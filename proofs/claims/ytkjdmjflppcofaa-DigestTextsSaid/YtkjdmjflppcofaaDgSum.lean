/- The digest's Hash: Sum. -/
import Derived.Test.YtkjdmjflppcofaaDgHash
import Derived.Deep.DeepCutAuto
namespace Go.Proofs.Ytkjdmjflppcofaa
open Go.ChangeShapes Go.WideShapes Go.ChangeAt Go.RowKit
set_option linter.unusedVariables false

theorem rd_new (w : World) (cs : Array Value) (t : TypeId) : Rd (w.alloc (.cells cs t)) (some ⟨w.heap.size, 0, none⟩) cs.toList := fun _ =>
  ⟨w.heap.size, 0, rfl, by simp, fun j u hu => by
    rw [cell_of_row _ _ _ cs t (0, 0) (heap_alloc_new w _)]
    simpa using hu⟩

theorem cells4 {w : World} {hb : Nat} {a b c d : Value} {t : TypeId} (h : w.heap[hb]? = some (.cells #[a, b, c, d] t (0, 0))) :
    w.cell? ⟨hb, 0, none⟩ = some a ∧ w.cell? ⟨hb, 1, none⟩ = some b ∧ w.cell? ⟨hb, 2, none⟩ = some c ∧ w.cell? ⟨hb, 3, none⟩ = some d ∧ (∀ j, w.frozen? ⟨hb, j, none⟩ = false) := by
  refine ⟨?_, ?_, ?_, ?_, fun j => ?_⟩ <;> simp [World.cell?, World.frozen?, h]

theorem new_cells {w : World} {cs : Array Value} {t : TypeId} (k N : Nat) (hN : k + N ≤ cs.size) : ∀ i, i < N → ∃ u, (w.alloc (.cells cs t)).cell? ⟨w.heap.size, k + i, none⟩ = some u := fun i hi =>
  ⟨cs[k + i]'(by omega), by rw [cell_of_row _ _ _ cs t (0, 0) (heap_alloc_new w _)]; exact Array.getElem?_eq_getElem _⟩
theorem new_free {w : World} {cs : Array Value} {t : TypeId} : ∀ j, (w.alloc (.cells cs t)).frozen? ⟨w.heap.size, j, none⟩ = false := fun j => by
  unfold World.frozen?
  simp only [heap_alloc_new]
  simp

theorem size28 : (Try.prog.info? 28).map (·.size) = some 32 := by kernel_rfl
theorem idx0 (a b c d : Int) (w : World) : (Instr.index 58 (.agg #[.int .u64 a, .int .u64 b, .int .u64 c, .int .u64 d]) (.int .i64 0)).run Try.prog w = .ok (.int .u64 a) w := by kernel_rfl
theorem idx1 (a b c d : Int) (w : World) : (Instr.index 58 (.agg #[.int .u64 a, .int .u64 b, .int .u64 c, .int .u64 d]) (.int .i64 1)).run Try.prog w = .ok (.int .u64 b) w := by kernel_rfl
theorem idx2 (a b c d : Int) (w : World) : (Instr.index 58 (.agg #[.int .u64 a, .int .u64 b, .int .u64 c, .int .u64 d]) (.int .i64 2)).run Try.prog w = .ok (.int .u64 c) w := by kernel_rfl
theorem idx3 (a b c d : Int) (w : World) : (Instr.index 58 (.agg #[.int .u64 a, .int .u64 b, .int .u64 c, .int .u64 d]) (.int .i64 3)).run Try.prog w = .ok (.int .u64 d) w := by kernel_rfl

/-- The result's block, as it is made. -/
def z28 : Obj := .cells #[.int .u8 0, .int .u8 0, .int .u8 0, .int .u8 0, .int .u8 0, .int .u8 0, .int .u8 0, .int .u8 0, .int .u8 0, .int .u8 0, .int .u8 0, .int .u8 0, .int .u8 0, .int .u8 0, .int .u8 0, .int .u8 0, .int .u8 0, .int .u8 0, .int .u8 0, .int .u8 0, .int .u8 0, .int .u8 0, .int .u8 0, .int .u8 0, .int .u8 0, .int .u8 0, .int .u8 0, .int .u8 0, .int .u8 0, .int .u8 0, .int .u8 0, .int .u8 0] 28

theorem digV_out (t : St) : digV (outB t) = .agg #[.int .u8 (lb t.a 0), .int .u8 (lb t.a 1), .int .u8 (lb t.a 2), .int .u8 (lb t.a 3), .int .u8 (lb t.a 4), .int .u8 (lb t.a 5), .int .u8 (lb t.a 6), .int .u8 (lb t.a 7), .int .u8 (lb t.b 0), .int .u8 (lb t.b 1), .int .u8 (lb t.b 2), .int .u8 (lb t.b 3), .int .u8 (lb t.b 4), .int .u8 (lb t.b 5), .int .u8 (lb t.b 6), .int .u8 (lb t.b 7), .int .u8 (lb t.c 0), .int .u8 (lb t.c 1), .int .u8 (lb t.c 2), .int .u8 (lb t.c 3), .int .u8 (lb t.c 4), .int .u8 (lb t.c 5), .int .u8 (lb t.c 6), .int .u8 (lb t.c 7), .int .u8 (lb t.d 0), .int .u8 (lb t.d 1), .int .u8 (lb t.d 2), .int .u8 (lb t.d 3), .int .u8 (lb t.d 4), .int .u8 (lb t.d 5), .int .u8 (lb t.d 6), .int .u8 (lb t.d 7)] := rfl

theorem below_row {B g : Nat} {w0 w : World} (h : Below B w0 w) (hg : B ≤ g) (cs : Array Value) : Below B w0 (w.setRow g cs) :=
  h.trans ⟨rfl, rfl, rfl, by simp, fun k hk => setRow_other w g k cs (by omega)⟩

/-- One piece more of what Sum mixes in. -/
theorem sum_next {w0 wr wd w5 : World} {B base : Nat} {P : List UInt8} {k n c : Nat} {A A5 : Option Addr} {t t2 : St} (hown : Own wr base 5 1 A n c (bs (P.drop (32 * k)))) (hl : Below w0.heap.size w0 wr)
    (hb : wr.heap[B]? = some (.cells #[.int .u64 t.a, .int .u64 t.b, .int .u64 t.c, .int .u64 t.d] 58 (0, 0))) (hB : w0.heap.size ≤ B) (hd : wd.heap = wr.heap ∧ Below w0.heap.size w0 wd) (hbel : Below wd.heap.size wd w5)
    (hm : n = P.length - 32 * k ∧ 32 * k ≤ P.length) (h32 : 32 ≤ n) (ht : t = stN (byteF P) k) (ht2 : t2 = mixS t (mAt (byteF ((P.drop (32 * k)).take 32)) 0)) (hA5 : A5 = if c = 32 then A else A.map (·.add 32)) :
    (n - 32 = P.length - 32 * (k + 1) ∧ 32 * (k + 1) ≤ P.length) ∧ t2 = stN (byteF P) (k + 1) ∧
      Own ((((w5.setCell ⟨B, 0, none⟩ (.int .u64 t2.a)).setCell ⟨B, 1, none⟩ (.int .u64 t2.b)).setCell ⟨B, 2, none⟩ (.int .u64 t2.c)).setCell ⟨B, 3, none⟩ (.int .u64 t2.d)) base 5 1 A5 (n - 32) (c - 32) (bs (P.drop (32 * (k + 1)))) ∧
      Below w0.heap.size w0 ((((w5.setCell ⟨B, 0, none⟩ (.int .u64 t2.a)).setCell ⟨B, 1, none⟩ (.int .u64 t2.b)).setCell ⟨B, 2, none⟩ (.int .u64 t2.c)).setCell ⟨B, 3, none⟩ (.int .u64 t2.d)) ∧
      ((((w5.setCell ⟨B, 0, none⟩ (.int .u64 t2.a)).setCell ⟨B, 1, none⟩ (.int .u64 t2.b)).setCell ⟨B, 2, none⟩ (.int .u64 t2.c)).setCell ⟨B, 3, none⟩ (.int .u64 t2.d)).heap[B]? = some (.cells #[.int .u64 t2.a, .int .u64 t2.b, .int .u64 t2.c, .int .u64 t2.d] 58 (0, 0)) := by
  have hlt : B < wr.heap.size := (Array.getElem?_eq_some_iff.1 hb).1
  have hAne := own_ne hown hb (by decide)
  have h5 : w5.heap[B]? = some (.cells #[.int .u64 t.a, .int .u64 t.b, .int .u64 t.c, .int .u64 t.d] 58 (0, 0)) :=
    (hbel.block B (by rw [hd.1]; exact hlt)).trans (by rw [hd.1]; exact hb)
  have hblk2 : A5.map (·.block) = A.map (·.block) := by
    rw [hA5]
    split
    · rfl
    · cases A with
      | none => rfl
      | some a => simp only [Option.map_some]; unfold Addr.add; split <;> rfl
  have hown5 : Own w5 base 5 1 A5 (n - 32) (c - 32) (bs (P.drop (32 * (k + 1)))) := by
    have h1 : Own wd base 5 1 A n c (bs (P.drop (32 * k))) := hown.keep fun g e => by rw [hd.1]
    have h2 := (h1.below hbel).cut 32 h32
    rw [← hA5, ← bs_drop, List.drop_drop] at h2
    exact h2
  have hne : ∀ g, A5.map (·.block) = some g → g ≠ B := fun g e => hAne g (by rw [← hblk2]; exact e)
  refine ⟨by omega, ?_, ?_, ?_, ?_⟩
  · rw [ht2, ht]
    simp only [stN]
    refine mixS_congr (mAt_congr fun i hi => ?_) _
    rw [Nat.zero_add, show byteF (List.take 32 (List.drop (32 * k) P)) i = byteF (List.drop (32 * k) P) i from by simp [byteF, List.getD, hi], byteF_drop]
  · exact (((hown5.setFar (p := ⟨B, 0, none⟩) hne _).setFar (p := ⟨B, 1, none⟩) hne _).setFar (p := ⟨B, 2, none⟩) hne _).setFar (p := ⟨B, 3, none⟩) hne _
  · exact ((((btr hd.2 hbel).setCell (p := ⟨B, 0, none⟩) hB _).setCell (p := ⟨B, 1, none⟩) hB _).setCell (p := ⟨B, 2, none⟩) hB _).setCell (p := ⟨B, 3, none⟩) hB _
  · rw [heap_set_same (heap_set_same (heap_set_same (heap_set_same h5 0 (.int .u64 t2.a)) 1 (.int .u64 t2.b)) 2 (.int .u64 t2.c)) 3 (.int .u64 t2.d)]
    rfl

def lbs (n : Int) : List Value := (List.range 8).map fun i => Value.int .u8 (lb n i)

/-- 'lay' at the last eight bytes of a slice that the call owns. -/
theorem lay_own (base : Nat) (E : TypeId) (A A' : Option Addr) (N c p : Nat) (n : Int) (cs : List Value) (w : World) (hown : Own w base E 1 A N c cs) (hN : N = p + 8) (hA' : A' = if c = p then A else A.map (·.add p)) :
    Calls Try.prog 39 #[.slice A' 8 (c - p), .int .u64 n] w fun e w' => e = .returned (.tuple #[]) ∧ Own w' base E 1 A N c (cs.take p ++ lbs n) ∧ Kp (fun k => some k = A.map (·.block)) w w' := by
  have hl := hown.len
  have hcap := hown.cap
  obtain ⟨g, off, rfl, hbg, hg, hc, hfr⟩ := hown.shape (by omega)
  rw [if_neg (by omega)] at hA'
  subst hA'
  simp only [Option.map_some, Addr.add_lit]
  refine (digest_lay g (off + p) 8 (c - p) n (by omega) (by omega) (by omega) w ?_ hfr).mono ?_
  · intro i hi
    refine ⟨cs[p + i]'(by omega), ?_⟩
    rw [Nat.add_assoc]
    exact hc _ _ (List.getElem?_eq_getElem _)
  · rintro e w' ⟨rfl, rfl⟩
    have h1 := own_layW hown rfl p n 8 (by omega)
    rw [List.drop_eq_nil_of_le (by omega), List.append_nil] at h1
    exact ⟨rfl, h1, (kp_layW w g (off + p) n 8).mono fun k _ e => by subst e; rfl⟩

theorem padded_drop (xs : List UInt8) (k : Nat) (hk : 32 * k ≤ xs.length) (Z : Nat) (hZ : Z = zerosOf xs.length) :
    bs (xs.drop (32 * k) ++ 128 :: List.replicate Z 0) ++ lbs (xs.length : Int) = bs ((paddedOf xs).drop (32 * k)) := by
  subst hZ
  have e : lbs (xs.length : Int) = bs ((List.range 8).map fun i => UInt8.ofNat (xs.length / 2 ^ (56 - 8 * i) % 256)) := by
    simp only [lbs, bs, List.map_map]
    refine List.map_congr_left fun i _ => ?_
    simp only [Function.comp, bv, lb_nat]
  rw [e, ← bs_append]
  unfold paddedOf padOf
  rw [List.drop_append_of_le_length hk, List.append_assoc]

set_option maxHeartbeats 1000000 in
set_option maxRecDepth 100000 in
theorem digest_Sum (hb : Nat) (R : Option Nat) (base : Nat) (xs : List UInt8) (w : World) (hh : HashAt w hb R base xs) (hlen : xs.length + 64 ≤ 140737488355328) :
    Calls Try.prog 26 #[.pointer (some ⟨hb, 0, none⟩)] w fun e w' => e = .returned (digV (digB xs)) ∧ Below w.heap.size w w' := by
  obtain ⟨s, A, n, c, hblk, hs, hown, rfl⟩ := hh
  obtain ⟨c0, c1, c2', c3, c4, c5, hfr⟩ := cells6 hblk
  have HO := Go.Lib.hid hown
  have HB := Go.Lib.hid hblk
  have HS := Go.Lib.hid hs
  have hn : n = xs.length % 32 := by
    have := hown.len
    simp at this
    omega
  have HN := Go.Lib.hid hn
  clear hown hblk hs hn
  have hrl : (xs.drop (32 * (xs.length / 32))).length = n := by have := HN.out; simp; omega
  have HRL := Go.Lib.hid hrl
  clear hrl
  obtain ⟨i0, hi, hz0, hz1, hz2⟩ := info_parts info_u8
  have hbz : hb < w.heap.size := (Array.getElem?_eq_some_iff.1 HB.out).1
  have hnle : n ≤ 31 := by have := HN.out; omega
  have HB0 : Hid ((w.alloc z28).heap[hb]? = some (.cells #[.int .u64 s.a, .int .u64 s.b, .int .u64 s.c, .int .u64 s.d, .slice A n c, .int .i64 xs.length] 61 (0, 0))) := Go.Lib.hid ((Below.heap_alloc w _ hb hbz).trans HB.out)
  have hbz0 : hb < (w.alloc z28).heap.size := by simp; omega
  go_enter Try.func26, Try.ntmps26
  go_wp2_with (at_builtin; refine wpList_append_o _ rfl _ _ 26 rfl 5 i0 (.int .u8 0) 1 1 Try.underlying26 hi hz0 hz1 hz2 rfl (by decide) (w.heap.size + 1) none 0 0 [] rfl (Own.nil _ _ _ _) A n c (bs (xs.drop (32 * (xs.length / 32)))) rfl (by rw [bs_length, HRL.out, Nat.mul_one]) (HO.out.rd.alloc _) (bs_one _) (by omega) (by unfold maxLen; omega) (by simp) ?_)
  intro A1 n1 w1 hown1 hkp1 hlie1
  have HO1 := Go.Lib.hid hown1
  have hbel1 : Below (w.alloc z28).heap.size (w.alloc z28) w1 := Kp.below (Below.refl _ _) hkp1 (fun i h => by simp at h)
  clear hown1 hkp1 hlie1
  go_wp2_with (at_builtin; refine wpList_append_o _ rfl _ _ 26 rfl 5 i0 (.int .u8 0) 1 1 Try.underlying26 hi hz0 hz1 hz2 rfl (by decide) (w.heap.size + 1) A1 n n1 (bs (xs.drop (32 * (xs.length / 32)))) rfl (by have := HO1.out.alloc (.cells #[.int .u8 128] 5); simpa using this) _ 1 1 (bs [128]) rfl (by simp) (rd_new _ _ _) (bs_one _) (by omega) (by unfold maxLen; omega) (by have := hbel1.size; simp at this ⊢; omega) ?_)
  intro A2 n2 w2 hown2 hkp2 hlie2
  have HO2 := Go.Lib.hid hown2
  have hbel2 : Below (w.alloc z28).heap.size (w.alloc z28) w2 := Kp.below (bal hbel1 _) hkp2 (fun i h => by simpa using (HO1.out.block_lt i h.symm).1)
  clear hown2 hkp2 hlie2 hbel1
  have HL2 := Go.Lib.hid hbel2
  clear hbel2 c0 c1 c2' c3 c4 c5 hfr
  obtain ⟨Z, hZ⟩ : ∃ Z, Z = zerosOf xs.length := ⟨_, rfl⟩
  have hZn : Z ≤ 31 ∧ (n + Z) % 32 = 23 := by have := HN.out; subst hZ; unfold zerosOf; omega
  have hZ31 : Z ≤ 31 := hZn.1
  have HZ := Go.Lib.hid hZ
  have HZN := Go.Lib.hid hZn
  clear hZ hZn
  go_wp2
  go_loopg [3] Z (fun g v wr => ∃ (j : Nat) (A' : Option Addr) (c' : Nat), j ≤ Z ∧ g = Z - j ∧ v = .slice A' (n + 1 + j) c' ∧ Hid (Own wr (w.heap.size + 1) 5 1 A' (n + 1 + j) c' (bs (xs.drop (32 * (xs.length / 32)) ++ 128 :: List.replicate j 0))) ∧ Hid (Below (w.alloc z28).heap.size (w.alloc z28) wr))
  case atStart => exact ⟨0, A2, n2, by omega, rfl, rfl, Go.Lib.hid (by rw [bs_append]; exact HO2.out), HL2⟩
  case round =>
    obtain ⟨j, A', c', hj, rfl, rfl, HOr, HLr⟩ := hrel
    by_cases hlt : j < Z
    · have ht : (((n : Int) + 1 + (j : Int)) % 32 != 24) = true := by rw [bne_iff_ne]; have := HZN.out; omega
      go_wp2_with (at_builtin; refine wpList_append_o _ rfl _ _ 26 rfl 5 i0 (.int .u8 0) 1 1 Try.underlying26 hi hz0 hz1 hz2 rfl (by decide) (w.heap.size + 1) A' (n + 1 + j) c' _ rfl (HOr.out.alloc _) _ 1 1 (bs [0]) rfl (by simp) (rd_new _ _ _) (bs_one _) (by omega) (by unfold maxLen; omega) (by have := HLr.out.size; simp at this ⊢; omega) ?_)
      intro A3 n3 w3 hown3 hkp3 hlie3
      have HO3 : Hid (Own w3 (w.heap.size + 1) 5 1 A3 (n + 1 + (j + 1)) n3 (bs (xs.drop (32 * (xs.length / 32)) ++ 128 :: List.replicate (j + 1) 0))) := Go.Lib.hid (by
        rw [← bs_append, List.append_assoc] at hown3
        rw [List.replicate_succ']
        exact hown3)
      have HL3 : Hid (Below (w.alloc z28).heap.size (w.alloc z28) w3) := Go.Lib.hid (Kp.below (bal HLr.out _) hkp3 (fun i h => by simpa using (HOr.out.block_lt i h.symm).1))
      clear hown3 hkp3 hlie3
      go_wp2
      go_roundg (Z - (j + 1))
      case measure => omega
      case rel => exact ⟨j + 1, A3, n3, by omega, rfl, rfl, HO3, HL3⟩
    · obtain rfl : j = Z := by omega
      have ht : (((n : Int) + 1 + (j : Int)) % 32 != 24) = false := by rw [bne_eq_false_iff_eq]; have := HZN.out; omega
      go_wp2_with (at_builtin; refine wpList_append_zeros_o _ rfl _ _ 26 3 rfl 5 i0 (.int .u8 0) Try.underlying26 Try.underlying3 hi hz0 hz1 hz2 rfl rfl (w.heap.size + 1) A' (n + 1 + j) c' _ rfl HOr.out 8 rfl (by decide) (by decide) (by omega) (by simpa using HLr.out.size) ?_)
      intro A3 n3 w3 hown3 hkp3 hlie3
      have HO3 : Hid (Own w3 (w.heap.size + 1) 5 1 A3 (n + 1 + j + 8) n3 (bs (xs.drop (32 * (xs.length / 32)) ++ 128 :: List.replicate j 0) ++ List.replicate 8 (.int .u8 0))) := Go.Lib.hid hown3
      have HL3 : Hid (Below (w.alloc z28).heap.size (w.alloc z28) w3) := Go.Lib.hid (Kp.below HLr.out hkp3 (fun i h => by simpa using (HOr.out.block_lt i h.symm).1))
      clear hown3 hkp3 hlie3
      obtain ⟨c0, c1, c2', c3, c4, c5, hfr⟩ := cells6 ((HL3.out.block hb hbz0).trans HB0.out)
      obtain ⟨A4, hA4, hsl⟩ := slice_from (P := Try.prog) 26 Try.underlying26 Try.sizeOf5 A3 (n + 1 + j + 8) n3 (n + 1 + j) ((n : Int) + 1 + (j : Int)) (by omega) (by omega)
      have hsub : n + 1 + j + 8 - (n + 1 + j) = 8 := by omega
      rw [hsub] at hsl
      clear hsub
      have HA4 := hA4
      have hw1 : IntKind.i64.wrap ((n : Int) + 1 + (j : Int)) = (n : Int) + 1 + (j : Int) := IntWalk.i64_in _ (by omega)
      have hw2 : IntKind.u64.wrap (xs.length : Int) = (xs.length : Int) := by rw [IntKind.wrap_u64]; omega
      go_wp2
      go_region_with (go_at_call 39; refine (lay_own (w.heap.size + 1) 5 A3 A4 (n + 1 + j + 8) n3 (n + 1 + j) _ _ _ (by exact HO3.out.drew) rfl HA4.out).mono ?_; rintro e w4 ⟨rfl, hown4, hkp4⟩)
      have htk : (bs (xs.drop (32 * (xs.length / 32)) ++ 128 :: List.replicate j 0) ++ List.replicate 8 (Value.int .u8 0)).take (n + 1 + j) = bs (xs.drop (32 * (xs.length / 32)) ++ 128 :: List.replicate j 0) := by
        have hl : (bs (xs.drop (32 * (xs.length / 32)) ++ 128 :: List.replicate j 0)).length = n + 1 + j := by
          rw [bs_length, List.length_append, HRL.out, List.length_cons, List.length_replicate]; omega
        rw [← hl]
        exact List.take_left
      have HO4 : Hid (Own w4 (w.heap.size + 1) 5 1 A3 (n + 1 + j + 8) n3 (bs ((paddedOf xs).drop (32 * (xs.length / 32))))) := Go.Lib.hid (by
        rw [htk, padded_drop xs (xs.length / 32) (by omega) j HZ.out] at hown4
        exact hown4)
      have HL4 : Hid (Below (w.alloc z28).heap.size (w.alloc z28) w4) := Go.Lib.hid (Kp.below HL3.out.drew hkp4 (fun i h => by simpa using (HO3.out.block_lt i h.symm).1))
      clear hown4 hkp4 htk hw1 hw2 hsl HO3 hA4 HA4 c0 c1 c2' c3 c4 c5 hfr HOr HLr HO2 HL2 HO1
      obtain ⟨c0, c1, c2', c3, c4, c5, hfr⟩ := cells6 ((HL4.out.block hb hbz0).trans HB0.out)
      go_wp2
      obtain ⟨P, hP⟩ : ∃ P, P = paddedOf xs := ⟨_, rfl⟩
      rw [← hP] at HO4
      have hPl : P.length % 32 = 0 ∧ n + 1 + j + 8 = P.length - 32 * (xs.length / 32) ∧ 32 * (xs.length / 32) ≤ P.length ∧ P.length ≤ xs.length + 64 := by
        have h1 := padOf_length xs.length
        have h2 := padded_32 xs.length
        have h3 := HZ.out
        have h4 := HN.out
        rw [hP]
        unfold paddedOf
        rw [List.length_append, h1, ← h3]
        rw [← h3] at h2
        omega
      have hst : s = stN (byteF P) (xs.length / 32) := by
        rw [HS.out, hP]
        exact stN_congr fun i hi => (byteF_append_left xs _ i (by omega)).symm
      have HP := Go.Lib.hid hP
      have HPL := Go.Lib.hid hPl
      have HST := Go.Lib.hid hst
      clear hP hPl hst c0 c1 c2' c3 c4 c5 hfr
      go_loopg [3] (n + 1 + j + 8) (fun g v wr => ∃ (k : Nat) (A' : Option Addr) (m c' : Nat) (t : St), g = m ∧ v = .slice A' m c' ∧ Hid (m = P.length - 32 * k ∧ 32 * k ≤ P.length) ∧ Hid (t = stN (byteF P) k) ∧
        Hid (Own wr (w.heap.size + 1) 5 1 A' m c' (bs (P.drop (32 * k)))) ∧ Hid (Below (w.alloc z28).heap.size (w.alloc z28) wr) ∧ Hid (wr.heap[w4.heap.size]? = some (.cells #[.int .u64 t.a, .int .u64 t.b, .int .u64 t.c, .int .u64 t.d] 58 (0, 0))))
      case atStart =>
        refine ⟨xs.length / 32, A3, _, n3, s, rfl, rfl, Go.Lib.hid ⟨HPL.out.2.1, HPL.out.2.2.1⟩, HST, Go.Lib.hid (HO4.out.alloc _), Go.Lib.hid (bal HL4.out _), Go.Lib.hid (heap_alloc_new w4 _)⟩
      case round =>
        obtain ⟨k, A', m, c', t, hgm, rfl, HM, HT, HOr, HLr, HBr⟩ := hrel
        subst hgm
        by_cases hpos : 0 < gk
        · have h32 : 32 ≤ gk := by have h1 := HM.out; have h2 := HPL.out.1; omega
          have hcap := HOr.out.cap
          have hlt4 : w4.heap.size < wr.heap.size := (Array.getElem?_eq_some_iff.1 HBr.out).1
          obtain ⟨d0, d1, d2, d3, hfrd⟩ := cells4 HBr.out
          obtain ⟨A5, hA5, hsl⟩ := slice_from (P := Try.prog) 26 Try.underlying26 Try.sizeOf5 A' gk c' 32 32 rfl h32
          go_wp2
          go_region_with (go_at_call 38; refine (mixed_rd t A' 32 c' ((P.drop (32 * k)).take 32) (by have := HM.out; simp; omega) (by omega) (by omega) hcap.2 _ (by rw [bs_take]; exact HOr.out.rd.take 32)).mono ?_; rintro e w5 ⟨t2, ht2, rfl, hbel⟩; have hb5 := (hbel.block w4.heap.size hlt4).trans HBr.out; obtain ⟨f0, f1, f2, f3, hfr5⟩ := cells4 hb5)
          all_goals
            go_wp2
            go_roundg (gk - 32)
            case measure => omega
            case rel =>
              obtain ⟨q1, q2, q3, q4, q5⟩ := sum_next (w0 := w.alloc z28) (wd := wr.drew) HOr.out HLr.out HBr.out HL4.out.size ⟨rfl, HLr.out.drew⟩ hbel HM.out h32 HT.out ht2.out hA5.out
              exact ⟨k + 1, A5, gk - 32, c' - 32, t2, rfl, rfl, Go.Lib.hid q1, Go.Lib.hid q2, Go.Lib.hid q3, Go.Lib.hid q4, Go.Lib.hid q5⟩
        · obtain rfl : gk = 0 := by omega
          have hlt4 : w4.heap.size < wr.heap.size := (Array.getElem?_eq_some_iff.1 HBr.out).1
          obtain ⟨d0, d1, d2, d3, hfrd⟩ := cells4 HBr.out
          go_wp2
          have ix0 := idx0 t.a t.b t.c t.d
          have ix1 := idx1 t.a t.b t.c t.d
          have ix2 := idx2 t.a t.b t.c t.d
          have ix3 := idx3 t.a t.b t.c t.d
          refine wp_loop_rounds 5 ?_
          rw [rounds_succ]
          go_wp2_with fail
          refine (digest_lay wr.heap.size 0 8 32 t.a (by omega) (by omega) (by omega) _ (new_cells 0 8 (by simp)) new_free).mono ?_
          rintro e w' ⟨rfl, rfl⟩
          simp only [layW]
          go_wp2
          rw [rounds_succ]
          go_wp2_with fail
          refine (digest_lay wr.heap.size 8 8 24 t.b (by omega) (by omega) (by omega) _ (new_cells 8 8 (by simp)) new_free).mono ?_
          rintro e w' ⟨rfl, rfl⟩
          simp only [layW]
          go_wp2
          rw [rounds_succ]
          go_wp2_with fail
          refine (digest_lay wr.heap.size 16 8 16 t.c (by omega) (by omega) (by omega) _ (new_cells 16 8 (by simp)) new_free).mono ?_
          rintro e w' ⟨rfl, rfl⟩
          simp only [layW]
          go_wp2
          rw [rounds_succ]
          go_wp2_with fail
          refine (digest_lay wr.heap.size 24 8 8 t.d (by omega) (by omega) (by omega) _ (new_cells 24 8 (by simp)) new_free).mono ?_
          rintro e w' ⟨rfl, rfl⟩
          simp only [layW]
          go_wp2
          rw [rounds_succ]
          have hres : wr.heap[w.heap.size]? = some z28 := (HLr.out.block w.heap.size (by simp)).trans (heap_alloc_new w z28)
          have hwlt : w.heap.size < wr.heap.size := (Array.getElem?_eq_some_iff.1 hres).1
          have HRES := Go.Lib.hid hres
          have HF := Go.Lib.hid hwlt
          clear hres hwlt
          go_wp2_with (first | (refine wpList_load_row rfl 28 (.tmp 5) rfl wr.heap.size rfl 28 _ (0, 0) _ (Go.heap_alloc_new wr _) Try.underlying28 rfl size28 ?_) | refine wpList_store_row rfl 28 (.tmp 2) (.tmp 63) rfl w.heap.size _ rfl rfl 28 _ ((Below.heap_alloc _ _ _ HF.out).trans HRES.out) size28 (by as_aux_lemma => rfl) (by as_aux_lemma => simp [Value.oneCell']) ?_)
          refine bodyPost_ret (results_cell_row rfl _ _ w.heap.size 28 _ (0, 0) _ rfl (setRow_heap _ _ _ _ _ _ ((Below.heap_alloc _ _ _ HF.out).trans HRES.out)) Try.underlying28 rfl size28) rfl ?_
          have hk : k = (paddedOf xs).length / 32 := by have h1 := HM.out; have h2 := HPL.out.1; rw [← HP.out]; omega
          have hdig : digB xs = outB t := by
            funext i
            rw [digB, HT.out, ← hk, HP.out]
          refine ⟨by rw [hdig, digV_out], ?_⟩
          exact below_row (bal ((bal (Below.refl _ _) _).trans (HLr.out.mono (by simp))) _) (Nat.le_refl _) _
end Go.Proofs.Ytkjdmjflppcofaa
