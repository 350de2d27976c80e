/- ref.head, ref.size: the sizes by the document. -/
import Derived.Test.YtgpaiphjbhkadaaNsEnc
namespace Go.Proofs.Ytgpaiphjbhkadaa
open Go.ChangeShapes Go.WideShapes Go.RowKit
set_option linter.unusedVariables false
set_option maxRecDepth 100000

/-- A head on a base. -/
theorem box_keep {w w' : World} {g : Nat} {o : Obj} (h : w.heap[g]? = some o) (hb : Below w.heap.size w w') : w'.heap[g]? = some o := (hb.block g (Array.getElem?_eq_some_iff.1 h).1).trans h
def headN (base n : Nat) : List UInt8 :=
  if n ≤ 55 then [UInt8.ofNat (base + n)] else UInt8.ofNat (base + 55 + numN n) :: beBytes (numN n) n
theorem headN_eq (l : Bool) (n : Nat) : headN (if l then 192 else 128) n = headB l n := rfl
theorem headN_length (base n : Nat) : (headN base n).length = if n ≤ 55 then 1 else 1 + numN n := by
  unfold headN
  split
  · rfl
  · simp [beBytes_length]; omega

def HeadP (base n : Nat) (w : World) (r : Ending) (w' : World) : Prop :=
  ∃ A c, r = .returned (.slice A (headN base n).length c) ∧ Own w' w.heap.size 5 1 A (headN base n).length c (bs (headN base n)) ∧ Below w.heap.size w w'

theorem headP_of {base n : Nat} {w : World} {cs : List Value} {k : Nat} (h : bs (headN base n) = cs) (hk : cs.length = k) (h4 : k ≤ 4) : HeadP base n w (.returned (.slice (some ⟨w.heap.size, 0, none⟩) k k)) (w.alloc (.cells cs.toArray 5)) := by
  have hl : (headN base n).length = k := by rw [← hk, ← h]; simp
  unfold HeadP
  rw [h, hl]
  refine ⟨_, _, rfl, ?_, bal (Below.refl _ _) _⟩
  have := own_made w w.heap.size 5 1 cs.toArray k k (Nat.le_refl _) (by unfold maxLen; omega) (Nat.le_refl _) (by simpa using hk)
  have e : List.take (k * 1) cs.toArray.toList = cs := by
    rw [Nat.mul_one]
    exact List.take_of_length_le (by rw [← hk]; exact Nat.le_refl _)
  rw [e] at this
  exact this

theorem bv_nat (z : Nat) (hz : z < 256) : bv (UInt8.ofNat z) = .int .u8 (z : Int) := by
  rw [bv, UInt8.toNat_ofNat', Nat.mod_eq_of_lt (by omega)]
theorem nbv_mod (z : Nat) : bv (UInt8.ofNat z) = .int .u8 ((z % 256 : Nat) : Int) := by
  rw [bv, UInt8.toNat_ofNat']

set_option maxHeartbeats 1000000 in
set_option maxRecDepth 100000 in
theorem ref_head (base n : Nat) (Bs N : Int) (w : World) (hb : Bs = base) (hN : N = n) (hb2 : base ≤ 192) (hn : n ≤ 16777215) :
    Calls Try.prog 67 #[.int .i64 Bs, .int .i64 N] w (HeadP base n w) := by
  subst hb hN
  by_cases h55 : n ≤ 55
  · have he : bs (headN base n) = [.int .u8 ((base : Int) + (n : Int))] := by
      rw [headN, if_pos h55]
      simp only [bs, List.map_cons, List.map_nil]
      rw [bv_nat _ (by omega)]
      simp
    have HE := Go.Lib.hid he
    clear he
    go_enter Try.func67, Try.ntmps67
    go_wp2_with fail
    go_ret
    exact headP_of HE.out rfl (by omega)
  · by_cases h1 : n < 256
    · have he : bs (headN base n) = [.int .u8 ((base : Int) + 56), .int .u8 (n : Int)] := by
        have h2 : numN n = 1 := by unfold numN; rw [if_neg (by omega), if_pos h1]
        rw [headN, if_neg h55, h2]
        simp only [bs, List.map_cons, List.map_nil, beBytes, List.nil_append]
        rw [bv_nat _ (by omega), bv_nat _ h1]
        simp
        omega
      have HE := Go.Lib.hid he
      clear he
      go_enter Try.func67, Try.ntmps67
      go_wp2_with fail
      go_ret
      exact headP_of HE.out rfl (by omega)
    · by_cases h2 : n < 65536
      · have he : bs (headN base n) = [.int .u8 ((base : Int) + 57), .int .u8 ((n / 256 : Nat) : Int), .int .u8 ((n % 256 : Nat) : Int)] := by
          have h3 : numN n = 2 := by unfold numN; rw [if_neg (by omega), if_neg h1, if_pos h2]
          rw [headN, if_neg h55, h3]
          simp only [bs, List.map_cons, List.map_nil, beBytes, List.nil_append, List.cons_append]
          rw [bv_nat _ (by omega), bv_nat _ (by omega), nbv_mod]
          simp
          omega
        have HE := Go.Lib.hid he
        clear he
        go_enter Try.func67, Try.ntmps67
        go_upto_if 21 with (fail)
        refine wp_cond_true (congrArg Value.bool (decide_eq_true (show (n : Int) < 65536 by omega))) ?_
        go_wp2_with fail
        go_ret
        exact headP_of HE.out rfl (by omega)
      · have he : bs (headN base n) = [.int .u8 ((base : Int) + 58), .int .u8 ((n / 65536 : Nat) : Int), .int .u8 ((n / 256 % 256 : Nat) : Int), .int .u8 ((n % 256 : Nat) : Int)] := by
          have h3 : numN n = 3 := by unfold numN; rw [if_neg (by omega), if_neg h1, if_neg h2, if_pos (by omega)]
          rw [headN, if_neg h55, h3]
          simp only [bs, List.map_cons, List.map_nil, beBytes, List.nil_append, List.cons_append]
          rw [bv_nat _ (by omega), bv_nat _ (by omega), nbv_mod, nbv_mod]
          rw [Nat.div_div_eq_div_mul]
          simp
          omega
        have HE := Go.Lib.hid he
        clear he
        go_enter Try.func67, Try.ntmps67
        go_upto_if 21 with (fail)
        refine wp_cond_false (congrArg Value.bool (decide_eq_false (show ¬ (n : Int) < 65536 by omega))) ?_
        go_wp2_with fail
        go_ret
        exact headP_of HE.out rfl (by omega)

end Go.Proofs.Ytgpaiphjbhkadaa
