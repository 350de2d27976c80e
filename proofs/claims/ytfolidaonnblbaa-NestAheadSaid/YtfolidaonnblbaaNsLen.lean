/- The program's lengths of encodings: plain, number, body, whole. -/
import Derived.Test.YtfolidaonnblbaaNsLook
namespace Go.Proofs.Ytfolidaonnblbaa
open Go.ChangeShapes Go.WideShapes Go.RowKit
set_option linter.unusedVariables false

theorem beBytes_length : ∀ k n, (beBytes k n).length = k
  | 0, n => rfl
  | k + 1, n => by simp [beBytes, beBytes_length k]
theorem headB_length (l : Bool) (n : Nat) : (headB l n).length = if n ≤ 55 then 1 else 1 + numN n := by
  unfold headB
  split
  · rfl
  · simp [beBytes_length]; omega
theorem encT_length (t : Tree) : (encT t).length = if plainT t then 1 else if (bodyT t).length ≤ 55 then (bodyT t).length + 1 else (bodyT t).length + 1 + numN (bodyT t).length := by
  cases t with
  | mk l b its =>
    rw [encT]
    by_cases hp : plainT (.mk l b its) = true
    · rw [if_pos hp, if_pos hp]
      simp only [plainT, Bool.and_eq_true, beq_iff_eq] at hp
      exact hp.1.2
    · rw [if_neg hp, if_neg hp, List.length_append, headB_length, bodyT]
      split <;> omega
theorem encL_take_succ (its : List Tree) (j : Nat) (h : j < its.length) : encL (its.take (j + 1)) = encL (its.take j) ++ encT its[j] := by
  induction its generalizing j with
  | nil => simp at h
  | cons t ts ih =>
    cases j with
    | zero => simp [encL]
    | succ j =>
      simp only [List.take_succ_cons, encL, List.append_assoc, List.getElem_cons_succ]
      rw [ih j (by simpa using h)]
theorem encL_take_le (its : List Tree) (j : Nat) : (encL (its.take j)).length ≤ (encL its).length := by
  induction its generalizing j with
  | nil => simp
  | cons t ts ih =>
    cases j with
    | zero => simp [encL]
    | succ j =>
      simp only [List.take_succ_cons, encL, List.length_append]
      have := ih j
      omega
theorem encT_le_encL (its : List Tree) (j : Nat) (h : j < its.length) : (encL (its.take j)).length + (encT its[j]).length ≤ (encL its).length := by
  have h1 := encL_take_le its (j + 1)
  rw [encL_take_succ its j h, List.length_append] at h1
  exact h1

theorem ite_le4 (p : Prop) [Decidable p] (a b : Nat) (ha : a ≤ 4) (hb : b ≤ 4) : (if p then a else b) ≤ 4 := by split <;> assumption
theorem numN_le (n : Nat) : numN n ≤ 4 := ite_le4 _ _ _ (by decide) (ite_le4 _ _ _ (by decide) (ite_le4 _ _ _ (by decide) (ite_le4 _ _ _ (by decide) (by decide))))
theorem numN_step (n : Nat) (h : 0 < n) (h2 : n < 4294967296) : numN n = 1 + numN (n / 256) := by
  unfold numN
  repeat' split
  all_goals omega

set_option maxHeartbeats 400000 in
theorem nest_number (n : Nat) (N : Int) (w : World) (hN : N = n) (hn : n < 4294967296) :
    Calls Try.prog 44 #[.int .i64 N] w fun r w' => r = .returned (.int .i64 (numN n : Nat)) ∧ w = w' := by
  subst hN
  go_enter Try.func44, Try.ntmps44
  go_wp2
  go_loop [0, 3] (fun v k => ∃ c j : Nat, v = .int .i64 c ∧ k = .int .i64 j ∧ c < 4294967296 ∧ j ≤ 4 ∧ j + numN c = numN n) (fun v _ => (intOf v).toNat)
  case atStart => exact ⟨n, 0, rfl, rfl, hn, by omega, by omega⟩
  case round =>
    obtain ⟨c, j, rfl, rfl, hc, hj, hnn⟩ := hrel
    have H := Go.Lib.hid hnn
    clear hnn
    by_cases hz : 0 < c
    · have hst := numN_step c hz hc
      have h4 := numN_le n
      have hj3 : j ≤ 3 := by have := H.out; omega
      have HST := Go.Lib.hid hst
      clear hst h4
      go_wp2
      go_round
      case rel => exact ⟨c / 256, j + 1, by go_num, by go_num, by omega, by omega, by have := H.out; have := HST.out; omega⟩
      case measure => simp [intOf]; omega
    · obtain rfl : c = 0 := by omega
      go_wp2
      go_ret
      have h5 := H.out
      have h6 : numN 0 = 0 := rfl
      rw [h6] at h5
      exact ⟨by rw [show j = numN n from by omega]; rfl, rfl⟩

set_option maxHeartbeats 1000000 in
theorem nest_plain (t : Tree) (P : Nat → Prop) (v0 v1 v2 : Value) (w : World) (ht : RdT w P t v0 v1 v2) :
    Calls Try.prog 43 #[.agg #[v0, v1, v2]] w fun r w' => r = .returned (.bool (plainT t)) ∧ Below w.heap.size w w' := by
  obtain ⟨l, b, its⟩ := t
  obtain ⟨A, c, B, d, cs, rfl, rfl, rfl, hbc, hb47, hid', hd, hA, hB, hL⟩ := ht.parts
  obtain ⟨R, hR⟩ : ∃ R, R = plainT (.mk l b its) := ⟨_, rfl⟩
  rw [← hR]
  unfold plainT at hR
  cases l with
  | true =>
    have hRf : R = false := by rw [hR]; rfl
    subst hRf
    clear hR ht hA hB hL
    go_enter Try.func43, Try.ntmps43
    go_wp2
    go_ret
    exact ⟨rfl, bal (Below.refl _ _) _⟩
  | false =>
    by_cases h1 : b.length = 1
    · match b, h1 with
      | [x], _ =>
        have hx := x.toNat_lt
        obtain ⟨g, off, rfl, hg, _, hc⟩ := hA (by simp [bs])
        have hc0 := hc 0 (.int .u8 (x.toNat : Int)) (by simp [bs, bv])
        rw [Nat.add_zero] at hc0
        by_cases hlt : x.toNat < 128
        · have hRt : R = true := by rw [hR]; simp [UInt8.lt_iff_toNat_lt]; exact hlt
          have hb : decide ((x.toNat : Int) < 128) = true := by simp; omega
          subst hRt
          clear hR ht hA hB hL hc
          go_enter Try.func43, Try.ntmps43
          go_wp2
          go_ret
          exact ⟨rfl, bal (Below.refl _ _) _⟩
        · have hRt : R = false := by rw [hR]; simp [UInt8.le_iff_toNat_le]; omega
          have hb : decide ((x.toNat : Int) < 128) = false := by simp; omega
          subst hRt
          clear hR ht hA hB hL hc
          go_enter Try.func43, Try.ntmps43
          go_wp2
          go_ret
          exact ⟨rfl, bal (Below.refl _ _) _⟩
    · have hRf : R = false := by rw [hR]; simp [h1]
      have hb : ((b.length : Int) == 1) = false := by rw [beq_eq_false_iff_ne]; omega
      subst hRf
      clear hR ht hA hB hL
      go_enter Try.func43, Try.ntmps43
      go_wp2
      go_ret
      exact ⟨rfl, bal (Below.refl _ _) _⟩

def WholeSt (t : Tree) : Prop := ∀ (P : Nat → Prop) (v0 v1 v2 : Value) (w : World), RdT w P t v0 v1 v2 → (encT t).length < 4294967296 →
    Calls Try.prog 42 #[.agg #[v0, v1, v2]] w fun r w' => r = .returned (.int .i64 ((encT t).length : Nat)) ∧ Below w.heap.size w w'
def BodySt (t : Tree) : Prop := ∀ (P : Nat → Prop) (v0 v1 v2 : Value) (w : World), RdT w P t v0 v1 v2 → (bodyT t).length < 4294967296 →
    Calls Try.prog 29 #[.agg #[v0, v1, v2]] w fun r w' => r = .returned (.int .i64 ((bodyT t).length : Nat)) ∧ Below w.heap.size w w'

/-- The cells of an item that stands in a row. -/
theorem item_cells {w wr : World} {P : Nat → Prop} {its : List Tree} {B : Option Addr} {cs : List Value} (hB : RdP w P B cs) (hL : RdL w P its cs) (hb : Below w.heap.size w wr) (j : Nat) (h : j < its.length) :
    ∃ g off p0 p1 p2, B = some ⟨g, off, none⟩ ∧ RdT wr P its[j] p0 p1 p2 ∧ wr.cell? ⟨g, off + j * 3, none⟩ = some p0 ∧ wr.cell? ⟨g, off + j * 3 + 1, none⟩ = some p1 ∧ wr.cell? ⟨g, off + j * 3 + 2, none⟩ = some p2 := by
  obtain ⟨p0, p1, p2, e0, e1, e2, hp⟩ := hL.at_ j h
  obtain ⟨g, off, rfl, hg, _, hc1⟩ := hB (by intro h; rw [h] at e0; cases e0)
  refine ⟨g, off, p0, p1, p2, rfl, hp.below hb, ?_, ?_, ?_⟩
  · have h5 := hc1 (3 * j) p0 e0
    rw [hb.cell (p := ⟨g, off + j * 3, none⟩) hg, show j * 3 = 3 * j from by omega]; exact h5
  · have h5 := hc1 (3 * j + 1) p1 e1
    rw [hb.cell (p := ⟨g, off + j * 3 + 1, none⟩) hg, show off + j * 3 + 1 = off + (3 * j + 1) from by omega]; exact h5
  · have h5 := hc1 (3 * j + 2) p2 e2
    rw [hb.cell (p := ⟨g, off + j * 3 + 2, none⟩) hg, show off + j * 3 + 2 = off + (3 * j + 2) from by omega]; exact h5

set_option maxHeartbeats 1000000 in
set_option maxRecDepth 100000 in
theorem body_step (l : Bool) (b : List UInt8) (its : List Tree) (ih : ∀ i (h : i < its.length), WholeSt its[i]) : BodySt (.mk l b its) := by
  intro P v0 v1 v2 w ht hlen
  have IH := Go.Lib.hid ih
  obtain ⟨A, c, B, d, cs, rfl, rfl, rfl, hbc, hb47, hid', hd, hA, hB, hL⟩ := ht.parts
  have HB := Go.Lib.hid hB
  have HL := Go.Lib.hid hL
  rw [bodyT, List.length_append] at hlen
  rw [bodyT, List.length_append]
  clear ht ih hA hB hL
  go_enter Try.func29, Try.ntmps29
  go_wp2
  go_loopg [3, 12] its.length (fun g v i wr => ∃ j : Nat, i = .int .i64 j ∧ j ≤ its.length ∧ g = its.length - j ∧ v = .int .i64 ((b.length + (encL (its.take j)).length : Nat) : Int) ∧ Hid (Below w.heap.size w wr))
  case atStart => exact ⟨0, rfl, Nat.zero_le _, rfl, by simp [encL], Go.Lib.hid (bal (Below.refl _ _) _)⟩
  case round =>
    obtain ⟨j, rfl, hj, rfl, rfl, HBj⟩ := hrel
    by_cases hlt : j < its.length
    · obtain ⟨g, off, p0, p1, p2, rfl, hp, c0, c1, c2⟩ := item_cells HB.out HL.out HBj.out j hlt
      have hle := encT_le_encL its j hlt
      obtain ⟨a1, a2, a3, a4, a5, a6, rfl, rfl, rfl⟩ := hp.shape
      have HP := Go.Lib.hid hp
      have hts : Hid ((encL (its.take (j + 1))).length = (encL (its.take j)).length + (encT its[j]).length) := Go.Lib.hid (by rw [encL_take_succ its j hlt, List.length_append])
      clear hp
      go_wp2_with fail
      refine (IH.out j hlt P _ _ _ _ (HP.out.below (bal (Below.refl _ _) _)) (by omega)).mono ?_
      rintro r w5 ⟨rfl, hb5⟩
      have HB5 := Go.Lib.hid hb5
      clear hb5
      go_wp2_with fail
      go_roundg (its.length - (j + 1))
      case measure => omega
      case rel =>
        refine ⟨j + 1, by go_num, by omega, rfl, ?_, Go.Lib.hid (btr (bal HBj.out _) HB5.out)⟩
        rw [hts.out]
        congr 1
        omega
    · obtain rfl : j = its.length := by omega
      clear hlt
      go_wp2_with fail
      go_ret
      exact ⟨by rw [List.take_length]; rfl, HBj.out⟩

set_option maxHeartbeats 1000000 in
theorem whole_step (t : Tree) (hb : BodySt t) : WholeSt t := by
  intro P v0 v1 v2 w ht hlen
  have BD := Go.Lib.hid hb
  have hln := encT_length t
  obtain ⟨E, hE⟩ : ∃ E, E = (encT t).length := ⟨_, rfl⟩
  rw [← hE] at hlen hln ⊢
  obtain ⟨a1, a2, a3, a4, a5, a6, rfl, rfl, rfl⟩ := ht.shape
  have HT := Go.Lib.hid ht
  clear ht hb hE
  cases hp : plainT t with
  | true =>
    rw [hp, if_pos rfl] at hln
    subst hln
    have HP := Go.Lib.hid hp
    clear hp
    go_enter Try.func42, Try.ntmps42
    go_wp2_with fail
    refine (nest_plain t P _ _ _ _ (HT.out.below (bal (Below.refl _ _) _))).mono ?_
    rintro r w5 ⟨rfl, hb5⟩
    rw [HP.out]
    have HB5 := Go.Lib.hid hb5
    clear hb5
    go_wp2_with fail
    go_ret
    exact ⟨rfl, btr (bal (Below.refl _ _) _) HB5.out⟩
  | false =>
    rw [hp, if_neg (by decide)] at hln
    have HP := Go.Lib.hid hp
    have hbl : (bodyT t).length < 4294967296 := by split at hln <;> omega
    have HLN := Go.Lib.hid hln
    clear hp hln
    generalize hq : (bodyT t).length = q at *
    have HQ := Go.Lib.hid hq
    clear hq
    go_enter Try.func42, Try.ntmps42
    go_wp2_with fail
    refine (nest_plain t P _ _ _ _ (HT.out.below (bal (Below.refl _ _) _))).mono ?_
    rintro r w5 ⟨rfl, hb5⟩
    rw [HP.out]
    have hs5 : w.heap.size < w5.heap.size := by have := hb5.size; simp at this; omega
    obtain ⟨x0, x1, x2, xf⟩ := cells3 ((hb5.block w.heap.size (by simp)).trans (Go.heap_alloc_new w _))
    have HB5 := Go.Lib.hid hb5
    clear hb5
    go_wp2_with fail
    refine (BD.out P _ _ _ _ ((HT.out.below (bal (Below.refl _ _) _)).below HB5.out) (by rw [HQ.out]; exact hbl)).mono ?_
    rintro r w6 ⟨rfl, hb6⟩
    rw [HQ.out]
    have HB6 := Go.Lib.hid hb6
    clear hb6
    by_cases h55 : q ≤ 55
    · have hE1 : E = q + 1 := by rw [HLN.out, if_pos h55]
      subst hE1
      have hb1 : decide ((q : Int) ≤ 55) = true := by simp; omega
      go_wp2_with fail
      go_ret
      exact ⟨by simp, btr (btr (bal (Below.refl _ _) _) HB5.out) HB6.out⟩
    · have hE1 : E = q + 1 + numN q := by rw [HLN.out, if_neg h55]
      have hb1 : decide ((q : Int) ≤ 55) = false := by simp; omega
      have h4 := numN_le q
      have HE1 := Go.Lib.hid hE1
      clear hE1
      go_wp2_with fail
      refine (nest_number q _ _ rfl hbl).mono ?_
      rintro r w7 ⟨rfl, rfl⟩
      go_wp2_with fail
      go_ret
      exact ⟨by rw [HE1.out]; simp, btr (btr (bal (Below.refl _ _) _) HB5.out) HB6.out⟩

theorem whole_lt : ∀ (k : Nat) (t : Tree), SizeOf.sizeOf t < k → WholeSt t
  | 0, t, h => by omega
  | k + 1, .mk l b its, h => whole_step _ (body_step l b its fun i hi => whole_lt k its[i] (by have := its_size (l := l) (b := b) hi; omega))
theorem nest_whole (t : Tree) : WholeSt t := whole_lt _ t (Nat.lt_succ_self _)
theorem nest_body : ∀ t : Tree, BodySt t
  | .mk l b its => body_step l b its fun i _ => nest_whole its[i]

end Go.Proofs.Ytfolidaonnblbaa
