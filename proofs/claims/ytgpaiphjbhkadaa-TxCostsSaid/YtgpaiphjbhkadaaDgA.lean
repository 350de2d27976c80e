/- DgLeaf, DgLay, DgMix, DgText, in one text. -/
import Derived.Test.YtgpaiphjbhkadaaRows
import Derived.Test.YtgpaiphjbhkadaaDgPure
import Derived.Test.YtgpaiphjbhkadaaMem
import Derived.WalkKit
import Derived.ProofKit
import Derived.OpenShut
import Derived.WalkSpells
import Derived.WalkLawsBesides
import Derived.Lib.Hide
import Derived.BigQuiet
import Derived.Deep.QuietTactic
import Derived.BigRegion
import Derived.Deep.RegionWith
import Derived.Deep.LoopGhost

/- The digest's leaves: words out of bytes and into them, the turns. -/
namespace Go.Proofs.Ytgpaiphjbhkadaa
open Go.ChangeShapes Go.WideShapes Go.ChangeAt Go.RowKit
set_option linter.unusedVariables false
set_option maxRecDepth 100000

set_option maxHeartbeats 400000 in
theorem digest_word (g off n c : Nat) (f : Nat → Int) (hf : ∀ i, 0 ≤ f i ∧ f i ≤ 255) (hn : 8 ≤ n) (hc : n ≤ c) (hm : c ≤ 9223372036854775807) (w : World)
    (hcell : ∀ i, i < 8 → w.cell? ⟨g, off + i, none⟩ = some (.int .u8 (f i))) :
    Calls Try.prog 79 #[.slice (some ⟨g, off, none⟩) n c] w fun e w' => e = .returned (.int .u64 (beN f 8)) ∧ w = w' := by
  have hc0 : ¬ c = 0 := by omega
  have hc8 : (8 : Int) ≤ (c : Int) := by omega
  go_enter Try.func79, Try.ntmps79
  go_wp2
  go_loop [3, 5, 9] (fun t _ i => ∃ k : Nat, k ≤ 8 ∧ i = .int .i64 k ∧ t = .int .u64 (beN f k)) (fun _ _ i => 8 - (intOf i).toNat)
  case atStart => exact ⟨0, by omega, rfl, rfl⟩
  case round =>
    obtain ⟨k, hk, rfl, rfl⟩ := hrel
    by_cases hlt : k < 8
    · have h1 := hcell k hlt
      have h2 := hf k
      have h3 := beN_bd7 f hf k hlt
      go_wp2
      go_round
      case rel => exact ⟨k + 1, by omega, by go_num, by rw [or_byte _ _ h3.1 h3.2 h2.1 h2.2]; rfl⟩
      case measure => simp [intOf]; omega
    · obtain rfl : k = 8 := by omega
      go_wp2
      go_ret
      exact ⟨rfl, rfl⟩

set_option maxHeartbeats 400000 in
theorem ref_word (g off n c a : Nat) (f : Nat → Int) (hf : ∀ i, 0 ≤ f i ∧ f i ≤ 255) (hn : a + 8 ≤ n) (hm : n ≤ 9223372036854775807) (w : World)
    (hcell : ∀ i, i < 8 → w.cell? ⟨g, off + (a + i), none⟩ = some (.int .u8 (f i))) :
    Calls Try.prog 61 #[.slice (some ⟨g, off, none⟩) n c, .int .i64 a] w fun e w' => e = .returned (.int .u64 (beN f 8)) ∧ w = w' := by
  go_enter Try.func61, Try.ntmps61
  go_wp2
  go_loop [5, 6] (fun t i => ∃ k : Nat, k ≤ 8 ∧ i = .int .i64 k ∧ t = .int .u64 (beN f k)) (fun _ i => 8 - (intOf i).toNat)
  case atStart => exact ⟨0, by omega, rfl, rfl⟩
  case round =>
    obtain ⟨k, hk, rfl, rfl⟩ := hrel
    by_cases hlt : k < 8
    · have h1 := hcell k hlt
      have h2 := hf k
      have h3 := beN_bd7 f hf k hlt
      go_wp2
      go_round
      case rel => exact ⟨k + 1, by omega, by go_num, rfl⟩
      case measure => simp [intOf]; omega
    · obtain rfl : k = 8 := by omega
      go_wp2
      go_ret
      exact ⟨rfl, rfl⟩

set_option maxHeartbeats 400000 in
theorem bits_rot32 (x : Int) (w : World) :
    Calls Try.prog 80 #[.int .u64 x, .int .i64 32] w fun e w' => e = .returned (.int .u64 (rotC x 32)) ∧ w = w' := by
  have hb : bits .and .u64 32 63 = 32 := by decide
  go_enter Try.func80, Try.ntmps80
  go_wp2
  go_ret
  exact ⟨rfl, rfl⟩

set_option maxHeartbeats 400000 in
theorem ref_rot32 (x : Int) (w : World) :
    Calls Try.prog 62 #[.int .u64 x, .int .i64 32] w fun e w' => e = .returned (.int .u64 (rotC x 32)) ∧ ∃ n, w' = w.drewN n := by
  go_enter Try.func62, Try.ntmps62
  go_wp2
  go_quiet (fail)
  go_wp2
  go_ret
  exact ⟨rfl, _, rfl⟩

set_option maxHeartbeats 400000 in
theorem bits_rot24 (x : Int) (w : World) :
    Calls Try.prog 80 #[.int .u64 x, .int .i64 24] w fun e w' => e = .returned (.int .u64 (rotC x 24)) ∧ w = w' := by
  have hb : bits .and .u64 24 63 = 24 := by decide
  go_enter Try.func80, Try.ntmps80
  go_wp2
  go_ret
  exact ⟨rfl, rfl⟩

set_option maxHeartbeats 400000 in
theorem ref_rot24 (x : Int) (w : World) :
    Calls Try.prog 62 #[.int .u64 x, .int .i64 24] w fun e w' => e = .returned (.int .u64 (rotC x 24)) ∧ ∃ n, w' = w.drewN n := by
  go_enter Try.func62, Try.ntmps62
  go_wp2
  go_quiet (fail)
  go_wp2
  go_ret
  exact ⟨rfl, _, rfl⟩

set_option maxHeartbeats 400000 in
theorem bits_rot16 (x : Int) (w : World) :
    Calls Try.prog 80 #[.int .u64 x, .int .i64 16] w fun e w' => e = .returned (.int .u64 (rotC x 16)) ∧ w = w' := by
  have hb : bits .and .u64 16 63 = 16 := by decide
  go_enter Try.func80, Try.ntmps80
  go_wp2
  go_ret
  exact ⟨rfl, rfl⟩

set_option maxHeartbeats 400000 in
theorem ref_rot16 (x : Int) (w : World) :
    Calls Try.prog 62 #[.int .u64 x, .int .i64 16] w fun e w' => e = .returned (.int .u64 (rotC x 16)) ∧ ∃ n, w' = w.drewN n := by
  go_enter Try.func62, Try.ntmps62
  go_wp2
  go_quiet (fail)
  go_wp2
  go_ret
  exact ⟨rfl, _, rfl⟩

set_option maxHeartbeats 400000 in
theorem bits_rot63 (x : Int) (w : World) :
    Calls Try.prog 80 #[.int .u64 x, .int .i64 63] w fun e w' => e = .returned (.int .u64 (rotC x 63)) ∧ w = w' := by
  have hb : bits .and .u64 63 63 = 63 := by decide
  go_enter Try.func80, Try.ntmps80
  go_wp2
  go_ret
  exact ⟨rfl, rfl⟩

set_option maxHeartbeats 400000 in
theorem ref_rot63 (x : Int) (w : World) :
    Calls Try.prog 62 #[.int .u64 x, .int .i64 63] w fun e w' => e = .returned (.int .u64 (rotC x 63)) ∧ ∃ n, w' = w.drewN n := by
  go_enter Try.func62, Try.ntmps62
  go_wp2
  go_quiet (fail)
  go_wp2
  go_ret
  exact ⟨rfl, _, rfl⟩

theorem bits_rot (x K : Int) (hK : K = 32 ∨ K = 24 ∨ K = 16 ∨ K = 63) (w : World) :
    Calls Try.prog 80 #[.int .u64 x, .int .i64 K] w fun e w' => e = .returned (.int .u64 (rotC x K.toNat)) ∧ w = w' := by
  rcases hK with rfl | rfl | rfl | rfl
  · exact bits_rot32 x w
  · exact bits_rot24 x w
  · exact bits_rot16 x w
  · exact bits_rot63 x w

theorem ref_rot (x K : Int) (hK : K = 32 ∨ K = 24 ∨ K = 16 ∨ K = 63) (w : World) :
    Calls Try.prog 62 #[.int .u64 x, .int .i64 K] w fun e w' => e = .returned (.int .u64 (rotC x K.toNat)) ∧ ∃ n, w' = w.drewN n := by
  rcases hK with rfl | rfl | rfl | rfl
  · exact ref_rot32 x w
  · exact ref_rot24 x w
  · exact ref_rot16 x w
  · exact ref_rot63 x w

/-- The same, the result under a name. -/
theorem bits_rot_named (x K : Int) (hK : K = 32 ∨ K = 24 ∨ K = 16 ∨ K = 63) (w : World) :
    Calls Try.prog 80 #[.int .u64 x, .int .i64 K] w fun e w' => ∃ y, Hid (y = rotC x K.toNat) ∧ e = .returned (.int .u64 y) ∧ w = w' :=
  (bits_rot x K hK w).mono fun _ _ h => ⟨_, Go.Lib.hid rfl, h.1, h.2⟩

theorem ref_rot_named (x K : Int) (hK : K = 32 ∨ K = 24 ∨ K = 16 ∨ K = 63) (w : World) :
    Calls Try.prog 62 #[.int .u64 x, .int .i64 K] w fun e w' => ∃ y, Hid (y = rotC x K.toNat) ∧ e = .returned (.int .u64 y) ∧ ∃ n, w' = w.drewN n :=
  (ref_rot x K hK w).mono fun _ _ h => ⟨_, Go.Lib.hid rfl, h.1, h.2⟩

/-- The state ahead of all pieces. -/
def initV : Value := .agg #[.int .u64 11400714819323198485, .int .u64 4354685564936845354, .int .u64 15755400384260043839, .int .u64 8709371129873690708]

set_option maxHeartbeats 400000 in
theorem digest_begun (w : World) :
    Calls Try.prog 70 #[] w fun e w' => e = .returned (.agg #[.int .u64 11400714819323198485, .int .u64 4354685564936845354, .int .u64 15755400384260043839, .int .u64 8709371129873690708]) ∧ Below w.heap.size w w' := by
  have e1 : IntKind.u64.wrap 22801429638646396970 = 4354685564936845354 := by decide
  have e3 : IntKind.u64.wrap 27156115203583242324 = 8709371129873690708 := by decide
  go_enter Try.func70, Try.ntmps70
  go_wp2
  refine wp_loop_rounds 5 ?_
  rw [rounds_succ]
  go_wp2
  rw [rounds_succ]
  go_wp2
  rw [rounds_succ]
  go_wp2
  rw [rounds_succ]
  go_wp2
  rw [rounds_succ]
  go_wp2
  refine bodyPost_ret (v := .agg #[.int .u64 11400714819323198485, .int .u64 4354685564936845354, .int .u64 15755400384260043839, .int .u64 8709371129873690708]) (by simp [results, Try.results70, go_sem]) rfl ⟨rfl, ?_⟩
  exact ((Below.refl _ _).alloc (Nat.le_refl _) _).alloc (by simp) _

end Go.Proofs.Ytgpaiphjbhkadaa

/- The digest's 'lay': a word written into eight bytes. -/
namespace Go.Proofs.Ytgpaiphjbhkadaa
open Go.ChangeShapes Go.WideShapes Go.ChangeAt Go.RowKit
set_option linter.unusedVariables false

/-- The i-th of a word's eight bytes, the highest first. -/
def lb (n : Int) (i : Nat) : Int := n / 2 ^ (56 - 8 * i) % 256

/-- The world behind k stores. -/
def layW (w : World) (g off : Nat) (n : Int) : Nat → World
  | 0 => w
  | k + 1 => (layW w g off n k).setCell ⟨g, off + k, none⟩ (.int .u8 (lb n k))

set_option maxHeartbeats 1000000 in
theorem digest_lay (g off N c : Nat) (n : Int) (hN : 8 ≤ N) (hc : N ≤ c) (hmx : c ≤ 9223372036854775807) (w : World)
    (hcell : ∀ i, i < 8 → ∃ u, w.cell? ⟨g, off + i, none⟩ = some u) (hfro : ∀ j, w.frozen? ⟨g, j, none⟩ = false) :
    Calls Try.prog 72 #[.slice (some ⟨g, off, none⟩) N c, .int .u64 n] w fun e w' => e = .returned (.tuple #[]) ∧ layW w g off n 8 = w' := by
  obtain ⟨u0, h0⟩ := hcell 0 (by decide)
  obtain ⟨u1, h1⟩ := hcell 1 (by decide)
  obtain ⟨u2, h2⟩ := hcell 2 (by decide)
  obtain ⟨u3, h3⟩ := hcell 3 (by decide)
  obtain ⟨u4, h4⟩ := hcell 4 (by decide)
  obtain ⟨u5, h5⟩ := hcell 5 (by decide)
  obtain ⟨u6, h6⟩ := hcell 6 (by decide)
  obtain ⟨u7, h7⟩ := hcell 7 (by decide)
  clear hcell
  simp only [Nat.add_zero] at h0
  have b0 : (0 : Int) < (N : Int) := by omega
  have b1 : (1 : Int) < (N : Int) := by omega
  have b2 : (2 : Int) < (N : Int) := by omega
  have b3 : (3 : Int) < (N : Int) := by omega
  have b4 : (4 : Int) < (N : Int) := by omega
  have b5 : (5 : Int) < (N : Int) := by omega
  have b6 : (6 : Int) < (N : Int) := by omega
  have b7 : (7 : Int) < (N : Int) := by omega
  go_enter Try.func72, Try.ntmps72
  go_wp2
  refine wp_loop_rounds 9 ?_
  rw [rounds_succ]
  go_wp2
  rw [rounds_succ]
  go_wp2
  rw [rounds_succ]
  go_wp2
  rw [rounds_succ]
  go_wp2
  rw [rounds_succ]
  go_wp2
  rw [rounds_succ]
  go_wp2
  rw [rounds_succ]
  go_wp2
  rw [rounds_succ]
  go_wp2
  rw [rounds_succ]
  go_wp2
  go_end0
  exact ⟨rfl, by simp [layW, lb]⟩

/-- What the stores leave of a slice that the call owns: its eight bytes from a place on are the word's. -/
theorem own_layW {w : World} {base : Nat} {E : TypeId} {A : Option Addr} {N c : Nat} {cs : List Value} {g off : Nat} (h : Own w base E 1 A N c cs) (hA : A = some ⟨g, off, none⟩) (at_ : Nat) (n : Int) :
    ∀ k, at_ + k ≤ cs.length → Own (layW w g (off + at_) n k) base E 1 A N c (cs.take at_ ++ (List.range k).map (fun i => Value.int .u8 (lb n i)) ++ cs.drop (at_ + k))
  | 0, _ => by simpa [layW] using h
  | k + 1, hk => by
    have ih := own_layW h hA at_ n k (by omega)
    have := ih.store hA (at_ + k) (by simp; omega) (.int .u8 (lb n k))
    rw [← Nat.add_assoc] at this
    simp only [layW]
    refine cast ?_ this
    congr 1
    have e2 : cs.take at_ ++ (List.range (k + 1)).map (fun i => Value.int .u8 (lb n i)) = (cs.take at_ ++ (List.range k).map (fun i => Value.int .u8 (lb n i))) ++ [.int .u8 (lb n k)] := by
      rw [List.range_succ, List.map_append, ← List.append_assoc]; rfl
    have hl : (cs.take at_ ++ (List.range k).map (fun i => Value.int .u8 (lb n i))).length = at_ + k := by simp; omega
    rw [e2]
    generalize cs.take at_ ++ (List.range k).map (fun i => Value.int .u8 (lb n i)) = pre at hl ⊢
    rw [List.set_append_right _ _ (by omega), hl, Nat.sub_self, List.append_assoc]
    congr 1
    have hd : cs.drop (at_ + k) = cs[at_ + k] :: cs.drop (at_ + k + 1) := List.drop_eq_getElem_cons (by omega)
    rw [hd]
    rfl

theorem kp_layW (w : World) (g off : Nat) (n : Int) : ∀ k, Kp (fun b => b = g) w (layW w g off n k)
  | 0 => Kp.refl _ _
  | k + 1 => (kp_layW w g off n k).trans (Kp.setCell _ (S := fun b => b = g) (p := ⟨g, off + k, none⟩) rfl _)

end Go.Proofs.Ytgpaiphjbhkadaa

/- The digest's mixing of one piece: what both texts compute. -/
namespace Go.Proofs.Ytgpaiphjbhkadaa
open Go.ChangeShapes Go.WideShapes Go.ChangeAt Go.RowKit
set_option linter.unusedVariables false

/-- Four words. -/
structure St where
  a : Int
  b : Int
  c : Int
  d : Int

def St.v (s : St) : Value := .agg #[.int .u64 s.a, .int .u64 s.b, .int .u64 s.c, .int .u64 s.d]
def xorI (x y : Int) : Int := bits .xor .u64 x y
def addI (x y : Int) : Int := IntKind.u64.wrap (x + y)

/-- One round: with a word of the piece and the round's own word. -/
def rnd (m k : Int) (s : St) : St :=
  let a1 := addI (addI (addI s.a s.b) m) k
  let d1 := rotC (xorI s.d a1) 32
  let c1 := addI s.c d1
  let b1 := rotC (xorI s.b c1) 24
  let a2 := addI a1 b1
  let d2 := rotC (xorI d1 a2) 16
  let c2 := addI c1 d2
  let b2 := rotC (xorI b1 c2) 63
  ⟨b2, c2, d2, a2⟩

def goldI : Int := 11400714819323198485
/-- The round's own word. -/
def kI : Nat → Int
  | 0 => goldI
  | r + 1 => addI (kI r) goldI

def rnds (m : Nat → Int) (s : St) : Nat → St
  | 0 => s
  | r + 1 => rnd (m (r % 4)) (kI r) (rnds m s r)

def xor4 (s p : St) : St := ⟨xorI s.a p.a, xorI s.b p.b, xorI s.c p.c, xorI s.d p.d⟩

def mixS (s : St) (m : Nat → Int) : St := xor4 (rnds m (xor4 s ⟨m 0, m 1, m 2, m 3⟩) 8) s

theorem addI_comm3 (a b m k : Int) : addI a (addI (addI b m) k) = addI (addI (addI a b) m) k := by
  unfold addI
  simp only [IntKind.wrap_u64]
  omega

theorem rnds_step (m : Nat → Int) (s0 s : St) (j : Nat) (d1 b1 d2 b2 : Int) (hs : s = rnds m s0 j)
    (h1 : d1 = rotC (xorI s.d (addI s.a (addI (addI s.b (m (j % 4))) (kI j)))) 32) (h2 : b1 = rotC (xorI s.b (addI s.c d1)) 24)
    (h3 : d2 = rotC (xorI d1 (addI (addI s.a (addI (addI s.b (m (j % 4))) (kI j))) b1)) 16) (h4 : b2 = rotC (xorI b1 (addI (addI s.c d1) d2)) 63) :
    rnds m s0 (j + 1) = ⟨b2, addI (addI s.c d1) d2, d2, addI (addI s.a (addI (addI s.b (m (j % 4))) (kI j))) b1⟩ := by
  subst h1 h2 h3 h4
  simp only [rnds, ← hs, rnd, addI_comm3]

set_option maxHeartbeats 1000000 in
set_option maxRecDepth 100000 in
theorem digest_mixed (s : St) (g off n c : Nat) (m : Nat → Int) (f : Nat → Int) (hf : ∀ i, 0 ≤ f i ∧ f i ≤ 255) (hm : ∀ j, m j = beN (fun i => f (8 * j + i)) 8) (hn : 32 ≤ n) (hc : n ≤ c) (hmx : c ≤ 9223372036854775807) (w : World) (hg : g < w.heap.size)
    (hcell : ∀ i, i < 32 → w.cell? ⟨g, off + i, none⟩ = some (.int .u8 (f i))) :
    Calls Try.prog 71 #[.agg #[.int .u64 s.a, .int .u64 s.b, .int .u64 s.c, .int .u64 s.d], .slice (some ⟨g, off, none⟩) n c] w fun e w' => e = .returned (mixS s m).v ∧ Below w.heap.size w w' := by
  obtain ⟨a, b, cc, d⟩ := s
  have H := Go.Lib.hid hcell
  have HM := Go.Lib.hid hm
  clear hcell hm
  go_enter Try.func71, Try.ntmps71
  go_wp2
  go_step3
  go_wp2
  refine wp_loop_rounds 5 ?_
  rw [rounds_succ]
  go_wp2_with fail
  refine (digest_word g (off + 0) (n - 0) (c - 0) (fun i => f (0 + i)) (fun i => hf _) (by omega) (by omega) (by omega) _ (cells_below hg (by repeat (first | exact Below.refl _ _ | refine bdr ?_ | refine bal ?_ _)) H.out 0 8 (by omega))).mono ?_
  rintro e w' ⟨rfl, rfl⟩
  rw [← HM.out 0]
  go_wp2
  go_region
  go_wp2
  rw [rounds_succ]
  go_wp2_with fail
  refine (digest_word g (off + 8) (n - 8) (c - 8) (fun i => f (8 + i)) (fun i => hf _) (by omega) (by omega) (by omega) _ (cells_below hg (by repeat (first | exact Below.refl _ _ | refine bdr ?_ | refine bal ?_ _)) H.out 8 8 (by omega))).mono ?_
  rintro e w' ⟨rfl, rfl⟩
  rw [← HM.out 1]
  go_wp2
  go_region
  go_wp2
  rw [rounds_succ]
  go_wp2_with fail
  refine (digest_word g (off + 16) (n - 16) (c - 16) (fun i => f (16 + i)) (fun i => hf _) (by omega) (by omega) (by omega) _ (cells_below hg (by repeat (first | exact Below.refl _ _ | refine bdr ?_ | refine bal ?_ _)) H.out 16 8 (by omega))).mono ?_
  rintro e w' ⟨rfl, rfl⟩
  rw [← HM.out 2]
  go_wp2
  go_region
  go_wp2
  rw [rounds_succ]
  go_wp2_with fail
  refine (digest_word g (off + 24) (n - 24) (c - 24) (fun i => f (24 + i)) (fun i => hf _) (by omega) (by omega) (by omega) _ (cells_below hg (by repeat (first | exact Below.refl _ _ | refine bdr ?_ | refine bal ?_ _)) H.out 24 8 (by omega))).mono ?_
  rintro e w' ⟨rfl, rfl⟩
  rw [← HM.out 3]
  go_wp2
  go_region
  go_wp2
  rw [rounds_succ]
  go_wp2
  go_step3
  go_wp2
  go_loopw [8, 9] (fun k r wr => ∃ (s : St) (j nd : Nat), j ≤ 7 ∧ Hid (s = rnds m (xor4 ⟨a, b, cc, d⟩ ⟨m 0, m 1, m 2, m 3⟩) j) ∧ r = .int .i64 j ∧ k = .int .u64 (kI j) ∧
      wr = ((((w.alloc (.cells #[.int .u64 s.a, .int .u64 s.b, .int .u64 s.c, .int .u64 s.d] 92)).alloc (.cells #[.int .u64 0, .int .u64 0, .int .u64 0, .int .u64 0] 92)).alloc
        (.cells #[.int .u64 a, .int .u64 b, .int .u64 cc, .int .u64 d] 92)).alloc (.cells #[.int .u64 (m 0), .int .u64 (m 1), .int .u64 (m 2), .int .u64 (m 3)] 91)).drewN nd) (fun _ r _ => 8 - (intOf r).toNat)
  case atStart => exact ⟨_, 0, 4, by omega, Go.Lib.hid rfl, rfl, rfl, rfl⟩
  case round =>
    obtain ⟨s, j, nd, hj, HS, rfl, rfl, rfl⟩ := hrel
    have hml : (#[Value.int .u64 (m 0), .int .u64 (m 1), .int .u64 (m 2), .int .u64 (m 3)] : Array Value)[j % 4]? = some (.int .u64 (m (j % 4))) := by
      rcases (by omega : j % 4 = 0 ∨ j % 4 = 1 ∨ j % 4 = 2 ∨ j % 4 = 3) with h | h | h | h <;> rw [h] <;> rfl
    by_cases hlast : j = 7
    · subst hlast
      go_wp2
      go_region
      go_wp2_with fail
      refine (bits_rot_named _ _ (by omega) _).mono ?_
      rintro e w' ⟨d1, hd1, rfl, rfl⟩
      go_wp2_with fail
      refine (bits_rot_named _ _ (by omega) _).mono ?_
      rintro e w' ⟨b1, hb1, rfl, rfl⟩
      go_wp2_with fail
      refine (bits_rot_named _ _ (by omega) _).mono ?_
      rintro e w' ⟨d2, hd2, rfl, rfl⟩
      go_wp2_with fail
      refine (bits_rot_named _ _ (by omega) _).mono ?_
      rintro e w' ⟨b2, hb2, rfl, rfl⟩
      go_wp2
      have hrn : rnds m (xor4 ⟨a, b, cc, d⟩ ⟨m 0, m 1, m 2, m 3⟩) 8 = ⟨b2, addI (addI s.c d1) d2, d2, addI (addI s.a (addI (addI s.b (m 3)) (kI 7))) b1⟩ :=
        rnds_step m _ s _ d1 b1 d2 b2 HS.out hd1.out hb1.out hd2.out hb2.out
      have HR := Go.Lib.hid hrn
      clear hrn hd1 hb1 hd2 hb2 HS H HM hml
      refine wp_loop_rounds 5 ?_
      rw [rounds_succ]
      go_wp2
      go_region
      go_wp2
      rw [rounds_succ]
      go_wp2
      go_region
      go_wp2
      rw [rounds_succ]
      go_wp2
      go_region
      go_wp2
      rw [rounds_succ]
      go_wp2
      go_region
      go_wp2
      rw [rounds_succ]
      go_wp2
      rw [Exit.noGoto_ret]
      refine bodyPost_ret (v := .agg #[.int .u64 (xorI b2 a), .int .u64 (xorI (addI (addI s.c d1) d2) b), .int .u64 (xorI d2 cc), .int .u64 (xorI (addI (addI s.a (addI (addI s.b (m 3)) (kI 7))) b1) d)]) ?_ rfl ?_
      · simp [results, Try.results71, go_sem, xorI, addI]
      · have hfin : mixS ⟨a, b, cc, d⟩ m = ⟨xorI b2 a, xorI (addI (addI s.c d1) d2) b, xorI d2 cc, xorI (addI (addI s.a (addI (addI s.b (m 3)) (kI 7))) b1) d⟩ := by
          unfold mixS
          rw [HR.out]
          rfl
        refine ⟨by rw [hfin]; rfl, ?_⟩
        repeat (first | exact Below.refl _ _ | refine bdr ?_ | refine bdn ?_ _ | refine bal ?_ _)
    · have hj8 : ((j : Int) + 1 == 8) = false := by rw [beq_eq_false_iff_ne]; omega
      go_wp2
      go_region
      go_wp2_with fail
      refine (bits_rot_named _ _ (by omega) _).mono ?_
      rintro e w' ⟨d1, hd1, rfl, rfl⟩
      go_wp2_with fail
      refine (bits_rot_named _ _ (by omega) _).mono ?_
      rintro e w' ⟨b1, hb1, rfl, rfl⟩
      go_wp2_with fail
      refine (bits_rot_named _ _ (by omega) _).mono ?_
      rintro e w' ⟨d2, hd2, rfl, rfl⟩
      go_wp2_with fail
      refine (bits_rot_named _ _ (by omega) _).mono ?_
      rintro e w' ⟨b2, hb2, rfl, rfl⟩
      go_wp2
      go_roundw
      case rel =>
        have hrn : rnds m (xor4 ⟨a, b, cc, d⟩ ⟨m 0, m 1, m 2, m 3⟩) (j + 1) = ⟨b2, addI (addI s.c d1) d2, d2, addI (addI s.a (addI (addI s.b (m (j % 4))) (kI j))) b1⟩ :=
          rnds_step m _ s _ d1 b1 d2 b2 HS.out hd1.out hb1.out hd2.out hb2.out
        refine ⟨_, j + 1, nd + 1, by omega, Go.Lib.hid hrn.symm, by go_num, rfl, rfl⟩
      case measure => simp [intOf]; omega

end Go.Proofs.Ytgpaiphjbhkadaa

/- The plain side of the digest: the state behind k pieces, the padded text, the digest's bytes. -/
namespace Go.Proofs.Ytgpaiphjbhkadaa
open Go Go.RowKit
set_option linter.unusedVariables false

theorem beN_congr {f g : Nat → Int} : ∀ {k : Nat}, (∀ i, i < k → f i = g i) → beN f k = beN g k
  | 0, _ => rfl
  | k + 1, h => by
    simp only [beN]
    rw [beN_congr (k := k) fun i hi => h i (by omega), h k (by omega)]

theorem rnds_congr {m m' : Nat → Int} (h : ∀ j, j < 4 → m j = m' j) (s : St) : ∀ r, rnds m s r = rnds m' s r
  | 0 => rfl
  | r + 1 => by simp only [rnds]; rw [rnds_congr h s r, h (r % 4) (Nat.mod_lt _ (by decide))]

theorem mixS_congr {m m' : Nat → Int} (h : ∀ j, j < 4 → m j = m' j) (s : St) : mixS s m = mixS s m' := by
  unfold mixS
  rw [rnds_congr h, h 0 (by decide), h 1 (by decide), h 2 (by decide), h 3 (by decide)]

/-- The words of the piece that begins at a place. -/
def mAt (F : Nat → Int) (p j : Nat) : Int := beN (fun i => F (p + 8 * j + i)) 8

def initS : St := ⟨11400714819323198485, 4354685564936845354, 15755400384260043839, 8709371129873690708⟩

/-- The state behind k pieces of a text. -/
def stN (F : Nat → Int) : Nat → St
  | 0 => initS
  | k + 1 => mixS (stN F k) (mAt F (32 * k))

theorem mAt_congr {F G : Nat → Int} {p q : Nat} (h : ∀ i, i < 32 → F (p + i) = G (q + i)) : ∀ j, j < 4 → mAt F p j = mAt G q j := by
  intro j hj
  unfold mAt
  refine beN_congr fun i hi => ?_
  rw [Nat.add_assoc, Nat.add_assoc]
  exact h (8 * j + i) (by omega)

theorem stN_congr {F G : Nat → Int} : ∀ {k : Nat}, (∀ i, i < 32 * k → F i = G i) → stN F k = stN G k
  | 0, _ => rfl
  | k + 1, h => by
    simp only [stN]
    rw [stN_congr (k := k) fun i hi => h i (by omega), mixS_congr (mAt_congr (p := 32 * k) (q := 32 * k) fun i hi => h _ (by omega))]

/-- How many zeros stand behind the mark. -/
def zerosOf (n : Nat) : Nat := (55 - n % 32) % 32
def padOf (n : Nat) : List UInt8 := 128 :: List.replicate (zerosOf n) 0 ++ (List.range 8).map fun i => UInt8.ofNat (n / 2 ^ (56 - 8 * i) % 256)
def paddedOf (xs : List UInt8) : List UInt8 := xs ++ padOf xs.length

theorem padOf_length (n : Nat) : (padOf n).length = zerosOf n + 9 := by simp [padOf]
theorem padded_32 (n : Nat) : (n + (zerosOf n + 9)) % 32 = 0 := by unfold zerosOf; omega

/-- The digest's i-th byte, out of the last state. -/
def outB (s : St) (i : Nat) : Int := lb (if i < 8 then s.a else if i < 16 then s.b else if i < 24 then s.c else s.d) (i % 8)

def digB (xs : List UInt8) (i : Nat) : Int := outB (stN (byteF (paddedOf xs)) ((paddedOf xs).length / 32)) i

/-- 32 bytes as a value. -/
def digV (f : Nat → Int) : Value := .agg ((List.range 32).map fun i => Value.int .u8 (f i)).toArray

theorem lb_bd (n : Int) (i : Nat) : 0 ≤ lb n i ∧ lb n i ≤ 255 := by unfold lb; omega
theorem outB_bd (s : St) (i : Nat) : 0 ≤ outB s i ∧ outB s i ≤ 255 := lb_bd _ _

/-- Four words that fit 64 bits. -/
def St.ok (s : St) : Prop := (0 ≤ s.a ∧ s.a ≤ 18446744073709551615) ∧ (0 ≤ s.b ∧ s.b ≤ 18446744073709551615) ∧ (0 ≤ s.c ∧ s.c ≤ 18446744073709551615) ∧ (0 ≤ s.d ∧ s.d ≤ 18446744073709551615)

theorem lb_nat (n i : Nat) : lb (n : Int) i = ((UInt8.ofNat (n / 2 ^ (56 - 8 * i) % 256)).toNat : Int) := by
  unfold lb
  have h : (UInt8.ofNat (n / 2 ^ (56 - 8 * i) % 256)).toNat = n / 2 ^ (56 - 8 * i) % 256 := by
    rw [UInt8.toNat_ofNat']
    omega
  rw [h, Int.natCast_emod, Int.natCast_ediv, Int.natCast_pow]
  rfl

end Go.Proofs.Ytgpaiphjbhkadaa
