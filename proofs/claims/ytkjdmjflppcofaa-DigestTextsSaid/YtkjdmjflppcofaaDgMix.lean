/- The digest's mixing of one piece: what both texts compute. -/
import Derived.Test.YtkjdmjflppcofaaDgLeaf
import Derived.BigRegion
import Derived.Deep.RegionWith
import Derived.Deep.LoopGhost
namespace Go.Proofs.Ytkjdmjflppcofaa
open Go.ChangeShapes Go.WideShapes Go.ChangeAt Go.RowKit
set_option linter.unusedVariables false

/-- Four words. -/
structure St where
  a : Int
  b : Int
  c : Int
  d : Int

def St.v (s : St) : Value := .agg #[.int .u64 s.a, .int .u64 s.b, .int .u64 s.c, .int .u64 s.d]
def xorI (x y : Int) : Int := bits .xor .u64 x y
def addI (x y : Int) : Int := IntKind.u64.wrap (x + y)

/-- One round: with a word of the piece and the round's own word. -/
def rnd (m k : Int) (s : St) : St :=
  let a1 := addI (addI (addI s.a s.b) m) k
  let d1 := rotC (xorI s.d a1) 32
  let c1 := addI s.c d1
  let b1 := rotC (xorI s.b c1) 24
  let a2 := addI a1 b1
  let d2 := rotC (xorI d1 a2) 16
  let c2 := addI c1 d2
  let b2 := rotC (xorI b1 c2) 63
  ⟨b2, c2, d2, a2⟩

def goldI : Int := 11400714819323198485
/-- The round's own word. -/
def kI : Nat → Int
  | 0 => goldI
  | r + 1 => addI (kI r) goldI

def rnds (m : Nat → Int) (s : St) : Nat → St
  | 0 => s
  | r + 1 => rnd (m (r % 4)) (kI r) (rnds m s r)

def xor4 (s p : St) : St := ⟨xorI s.a p.a, xorI s.b p.b, xorI s.c p.c, xorI s.d p.d⟩

def mixS (s : St) (m : Nat → Int) : St := xor4 (rnds m (xor4 s ⟨m 0, m 1, m 2, m 3⟩) 8) s

theorem addI_comm3 (a b m k : Int) : addI a (addI (addI b m) k) = addI (addI (addI a b) m) k := by
  unfold addI
  simp only [IntKind.wrap_u64]
  omega

theorem rnds_step (m : Nat → Int) (s0 s : St) (j : Nat) (d1 b1 d2 b2 : Int) (hs : s = rnds m s0 j)
    (h1 : d1 = rotC (xorI s.d (addI s.a (addI (addI s.b (m (j % 4))) (kI j)))) 32) (h2 : b1 = rotC (xorI s.b (addI s.c d1)) 24)
    (h3 : d2 = rotC (xorI d1 (addI (addI s.a (addI (addI s.b (m (j % 4))) (kI j))) b1)) 16) (h4 : b2 = rotC (xorI b1 (addI (addI s.c d1) d2)) 63) :
    rnds m s0 (j + 1) = ⟨b2, addI (addI s.c d1) d2, d2, addI (addI s.a (addI (addI s.b (m (j % 4))) (kI j))) b1⟩ := by
  subst h1 h2 h3 h4
  simp only [rnds, ← hs, rnd, addI_comm3]

set_option maxHeartbeats 1000000 in
set_option maxRecDepth 100000 in
theorem digest_mixed (s : St) (g off n c : Nat) (m : Nat → Int) (f : Nat → Int) (hf : ∀ i, 0 ≤ f i ∧ f i ≤ 255) (hm : ∀ j, m j = beN (fun i => f (8 * j + i)) 8) (hn : 32 ≤ n) (hc : n ≤ c) (hmx : c ≤ 9223372036854775807) (w : World) (hg : g < w.heap.size)
    (hcell : ∀ i, i < 32 → w.cell? ⟨g, off + i, none⟩ = some (.int .u8 (f i))) :
    Calls Try.prog 38 #[.agg #[.int .u64 s.a, .int .u64 s.b, .int .u64 s.c, .int .u64 s.d], .slice (some ⟨g, off, none⟩) n c] w fun e w' => e = .returned (mixS s m).v ∧ Below w.heap.size w w' := by
  obtain ⟨a, b, cc, d⟩ := s
  have H := Go.Lib.hid hcell
  have HM := Go.Lib.hid hm
  clear hcell hm
  go_enter Try.func38, Try.ntmps38
  go_wp2
  go_step3
  go_wp2
  refine wp_loop_rounds 5 ?_
  rw [rounds_succ]
  go_wp2_with fail
  refine (digest_word g (off + 0) (n - 0) (c - 0) (fun i => f (0 + i)) (fun i => hf _) (by omega) (by omega) (by omega) _ (cells_below hg (by repeat (first | exact Below.refl _ _ | refine bdr ?_ | refine bal ?_ _)) H.out 0 8 (by omega))).mono ?_
  rintro e w' ⟨rfl, rfl⟩
  rw [← HM.out 0]
  go_wp2
  go_region
  go_wp2
  rw [rounds_succ]
  go_wp2_with fail
  refine (digest_word g (off + 8) (n - 8) (c - 8) (fun i => f (8 + i)) (fun i => hf _) (by omega) (by omega) (by omega) _ (cells_below hg (by repeat (first | exact Below.refl _ _ | refine bdr ?_ | refine bal ?_ _)) H.out 8 8 (by omega))).mono ?_
  rintro e w' ⟨rfl, rfl⟩
  rw [← HM.out 1]
  go_wp2
  go_region
  go_wp2
  rw [rounds_succ]
  go_wp2_with fail
  refine (digest_word g (off + 16) (n - 16) (c - 16) (fun i => f (16 + i)) (fun i => hf _) (by omega) (by omega) (by omega) _ (cells_below hg (by repeat (first | exact Below.refl _ _ | refine bdr ?_ | refine bal ?_ _)) H.out 16 8 (by omega))).mono ?_
  rintro e w' ⟨rfl, rfl⟩
  rw [← HM.out 2]
  go_wp2
  go_region
  go_wp2
  rw [rounds_succ]
  go_wp2_with fail
  refine (digest_word g (off + 24) (n - 24) (c - 24) (fun i => f (24 + i)) (fun i => hf _) (by omega) (by omega) (by omega) _ (cells_below hg (by repeat (first | exact Below.refl _ _ | refine bdr ?_ | refine bal ?_ _)) H.out 24 8 (by omega))).mono ?_
  rintro e w' ⟨rfl, rfl⟩
  rw [← HM.out 3]
  go_wp2
  go_region
  go_wp2
  rw [rounds_succ]
  go_wp2
  go_step3
  go_wp2
  go_loopw [8, 9] (fun k r wr => ∃ (s : St) (j nd : Nat), j ≤ 7 ∧ Hid (s = rnds m (xor4 ⟨a, b, cc, d⟩ ⟨m 0, m 1, m 2, m 3⟩) j) ∧ r = .int .i64 j ∧ k = .int .u64 (kI j) ∧
      wr = ((((w.alloc (.cells #[.int .u64 s.a, .int .u64 s.b, .int .u64 s.c, .int .u64 s.d] 58)).alloc (.cells #[.int .u64 0, .int .u64 0, .int .u64 0, .int .u64 0] 58)).alloc
        (.cells #[.int .u64 a, .int .u64 b, .int .u64 cc, .int .u64 d] 58)).alloc (.cells #[.int .u64 (m 0), .int .u64 (m 1), .int .u64 (m 2), .int .u64 (m 3)] 57)).drewN nd) (fun _ r _ => 8 - (intOf r).toNat)
  case atStart => exact ⟨_, 0, 4, by omega, Go.Lib.hid rfl, rfl, rfl, rfl⟩
  case round =>
    obtain ⟨s, j, nd, hj, HS, rfl, rfl, rfl⟩ := hrel
    have hml : (#[Value.int .u64 (m 0), .int .u64 (m 1), .int .u64 (m 2), .int .u64 (m 3)] : Array Value)[j % 4]? = some (.int .u64 (m (j % 4))) := by
      rcases (by omega : j % 4 = 0 ∨ j % 4 = 1 ∨ j % 4 = 2 ∨ j % 4 = 3) with h | h | h | h <;> rw [h] <;> rfl
    by_cases hlast : j = 7
    · subst hlast
      go_wp2
      go_region
      go_wp2_with fail
      refine (bits_rot_named _ _ (by omega) _).mono ?_
      rintro e w' ⟨d1, hd1, rfl, rfl⟩
      go_wp2_with fail
      refine (bits_rot_named _ _ (by omega) _).mono ?_
      rintro e w' ⟨b1, hb1, rfl, rfl⟩
      go_wp2_with fail
      refine (bits_rot_named _ _ (by omega) _).mono ?_
      rintro e w' ⟨d2, hd2, rfl, rfl⟩
      go_wp2_with fail
      refine (bits_rot_named _ _ (by omega) _).mono ?_
      rintro e w' ⟨b2, hb2, rfl, rfl⟩
      go_wp2
      have hrn : rnds m (xor4 ⟨a, b, cc, d⟩ ⟨m 0, m 1, m 2, m 3⟩) 8 = ⟨b2, addI (addI s.c d1) d2, d2, addI (addI s.a (addI (addI s.b (m 3)) (kI 7))) b1⟩ :=
        rnds_step m _ s _ d1 b1 d2 b2 HS.out hd1.out hb1.out hd2.out hb2.out
      have HR := Go.Lib.hid hrn
      clear hrn hd1 hb1 hd2 hb2 HS H HM hml
      refine wp_loop_rounds 5 ?_
      rw [rounds_succ]
      go_wp2
      go_region
      go_wp2
      rw [rounds_succ]
      go_wp2
      go_region
      go_wp2
      rw [rounds_succ]
      go_wp2
      go_region
      go_wp2
      rw [rounds_succ]
      go_wp2
      go_region
      go_wp2
      rw [rounds_succ]
      go_wp2
      rw [Exit.noGoto_ret]
      refine bodyPost_ret (v := .agg #[.int .u64 (xorI b2 a), .int .u64 (xorI (addI (addI s.c d1) d2) b), .int .u64 (xorI d2 cc), .int .u64 (xorI (addI (addI s.a (addI (addI s.b (m 3)) (kI 7))) b1) d)]) ?_ rfl ?_
      · simp [results, Try.results38, go_sem, xorI, addI]
      · have hfin : mixS ⟨a, b, cc, d⟩ m = ⟨xorI b2 a, xorI (addI (addI s.c d1) d2) b, xorI d2 cc, xorI (addI (addI s.a (addI (addI s.b (m 3)) (kI 7))) b1) d⟩ := by
          unfold mixS
          rw [HR.out]
          rfl
        refine ⟨by rw [hfin]; rfl, ?_⟩
        repeat (first | exact Below.refl _ _ | refine bdr ?_ | refine bdn ?_ _ | refine bal ?_ _)
    · have hj8 : ((j : Int) + 1 == 8) = false := by rw [beq_eq_false_iff_ne]; omega
      go_wp2
      go_region
      go_wp2_with fail
      refine (bits_rot_named _ _ (by omega) _).mono ?_
      rintro e w' ⟨d1, hd1, rfl, rfl⟩
      go_wp2_with fail
      refine (bits_rot_named _ _ (by omega) _).mono ?_
      rintro e w' ⟨b1, hb1, rfl, rfl⟩
      go_wp2_with fail
      refine (bits_rot_named _ _ (by omega) _).mono ?_
      rintro e w' ⟨d2, hd2, rfl, rfl⟩
      go_wp2_with fail
      refine (bits_rot_named _ _ (by omega) _).mono ?_
      rintro e w' ⟨b2, hb2, rfl, rfl⟩
      go_wp2
      go_roundw
      case rel =>
        have hrn : rnds m (xor4 ⟨a, b, cc, d⟩ ⟨m 0, m 1, m 2, m 3⟩) (j + 1) = ⟨b2, addI (addI s.c d1) d2, d2, addI (addI s.a (addI (addI s.b (m (j % 4))) (kI j))) b1⟩ :=
          rnds_step m _ s _ d1 b1 d2 b2 HS.out hd1.out hb1.out hd2.out hb2.out
        refine ⟨_, j + 1, nd + 1, by omega, Go.Lib.hid hrn.symm, by go_num, rfl, rfl⟩
      case measure => simp [intOf]; omega

end Go.Proofs.Ytkjdmjflppcofaa
