/- The program's reader of items: fail, take, size. -/
import Derived.Test.YtfolidaonnblbaaNsMem
import Derived.Deep.LoopGhost
import Derived.Deep.RegionWith
import Derived.Deep.DeepMust
import Derived.Deep.DeepFit
import Derived.Deep.DeepCutAuto
import Derived.Outline
namespace Go.Proofs.Ytfolidaonnblbaa
open Go.ChangeShapes Go.WideShapes Go.RowKit
set_option linter.unusedVariables false

theorem info_u8 : (Try.prog.info? 5).map (fun i => (i.zero, i.size, i.bytes)) = some (some (.int .u8 0), 1, 1) := by kernel_rfl

theorem cells2 {w : World} {hb : Nat} {a b : Value} {t : TypeId} (h : w.heap[hb]? = some (.cells #[a, b] t (0, 0))) :
    w.cell? ⟨hb, 0, none⟩ = some a ∧ w.cell? ⟨hb, 1, none⟩ = some b ∧ (∀ j, w.frozen? ⟨hb, j, none⟩ = false) := by
  refine ⟨?_, ?_, fun j => ?_⟩ <;> simp [World.cell?, World.frozen?, h]
theorem cells3 {w : World} {hb : Nat} {a b c : Value} {t : TypeId} (h : w.heap[hb]? = some (.cells #[a, b, c] t (0, 0))) :
    w.cell? ⟨hb, 0, none⟩ = some a ∧ w.cell? ⟨hb, 1, none⟩ = some b ∧ w.cell? ⟨hb, 2, none⟩ = some c ∧ (∀ j, w.frozen? ⟨hb, j, none⟩ = false) := by
  refine ⟨?_, ?_, ?_, fun j => ?_⟩ <;> simp [World.cell?, World.frozen?, h]
theorem heap_set_same {w : World} {g : Nat} {cur : Array Value} {t : TypeId} {fr : Nat × Nat} (h : w.heap[g]? = some (.cells cur t fr)) (i : Nat) (u : Value) : (w.setCell ⟨g, i, none⟩ u).heap[g]? = some (.cells (cur.setIfInBounds i u) t fr) := by
  simp [World.setCell, Array.getElem?_modify, h]

/-- Item{}. -/
def itemV (v0 v1 v2 : Value) : Value := .agg #[v0, v1, v2]
def item0 : Value := .agg #[.bool false, .slice none 0 0, .slice none 0 0]

/-- A reader's block. -/
def Rdr (w : World) (rb : Nat) (A : Option Addr) (n c : Nat) (e : Int) : Prop := w.heap[rb]? = some (.cells #[.slice A n c, .int .i64 e] 46 (0, 0))
/-- A reader that has xs ahead of it. -/
def RdrAt (w : World) (rb : Nat) (xs : List UInt8) (e : Int) : Prop :=
  ∃ A n c, Rdr w rb A n c e ∧ n = xs.length ∧ n ≤ c ∧ c ≤ 9223372036854775807 ∧ Rd w A (bs xs) ∧ (xs ≠ [] → ∀ g, A.map (·.block) = some g → g < rb)

theorem Rdr.lt {w : World} {rb : Nat} {A : Option Addr} {n c : Nat} {e : Int} (h : Rdr w rb A n c e) : rb < w.heap.size := (Array.getElem?_eq_some_iff.1 h).1

theorem rd_far1 {w w' : World} {rb : Nat} {A : Option Addr} {xs : List UInt8} (h : Rd w A (bs xs)) (hk : Kp (fun k => k = rb) w w') (ha : xs ≠ [] → ∀ g, A.map (·.block) = some g → g < rb) : Rd w' A (bs xs) := by
  by_cases hx : xs = []
  · subst hx; exact Rd.nil _ _
  · exact h.kp hk fun g e => Nat.ne_of_lt (ha hx g e)

set_option maxHeartbeats 400000 in
theorem nest_fail (rb : Nat) (A : Option Addr) (n c : Nat) (e : Int) (w : World) (h : Rdr w rb A n c 0) :
    Calls Try.prog 37 #[.pointer (some ⟨rb, 0, none⟩), .int .i64 e] w fun r w' => r = .returned item0 ∧ Rdr w' rb A n c e ∧ Kp (fun k => k = rb) w w' := by
  obtain ⟨c0, c1, hf⟩ := cells2 h
  have hlt := h.lt
  have H := Go.Lib.hid h
  clear h
  go_enter Try.func37, Try.ntmps37
  go_wp2
  refine bodyPost_ret (v := item0) (by simp [results, Try.results37, go_sem, item0]) rfl ⟨rfl, ?_, ?_⟩
  · exact (Below.heap_alloc _ _ rb (by simpa using hlt)).trans (heap_set_same H.out 1 _)
  · exact (Kp.setCell (S := fun k => k = rb) (p := ⟨rb, 1, none⟩) _ rfl _).trans (Kp.alloc _ _ _)

theorem take_cut (A : Option Addr) (c m : Nat) (xs : List UInt8) (hA : m < xs.length) (hc : xs.length ≤ c) : (if c = m then A else A.map (·.add m)) = A.map (·.add m) := by rw [if_neg (by omega)]

set_option maxHeartbeats 400000 in
theorem nest_take (rb : Nat) (xs : List UInt8) (m : Nat) (M : Int) (w : World) (h : RdrAt w rb xs 0) (hM : M = m) (hm : m ≤ xs.length) :
    Calls Try.prog 36 #[.pointer (some ⟨rb, 0, none⟩), .int .i64 M] w fun r w' => ∃ A c, r = .returned (.tuple #[.slice A m c, .bool true]) ∧ m ≤ c ∧ c ≤ 9223372036854775807 ∧ Rd w' A (bs (xs.take m)) ∧ (xs.take m ≠ [] → ∀ g, A.map (·.block) = some g → g < rb) ∧ RdrAt w' rb (xs.drop m) 0 ∧ Kp (fun k => k = rb) w w' := by
  subst hM
  obtain ⟨A, n, c, hb, hn, hnc, hc, hr, hap⟩ := h
  obtain ⟨c0, c1, hf⟩ := cells2 hb
  obtain ⟨A2, hA2, hsl⟩ := slice_from (P := Try.prog) 22 Try.underlying22 Try.sizeOf5 A n c m m rfl (by omega)
  have hmn : m ≤ n := by omega
  have HB := Go.Lib.hid hb
  have HN := Go.Lib.hid hn
  have HR := Go.Lib.hid hr
  have HA := Go.Lib.hid hap
  clear hb hn hr hap
  go_enter Try.func36, Try.ntmps36
  go_wp2
  go_ret2
  have hk : Kp (fun k => k = rb) w (w.setCell ⟨rb, 0, none⟩ (.slice A2 (n - m) (c - m))) := Kp.setCell (S := fun k => k = rb) (p := ⟨rb, 0, none⟩) _ rfl _
  have hr' := rd_far1 HR.out hk HA.out
  refine ⟨A, c, rfl, by omega, hc, by rw [bs_take]; exact hr'.take m, fun hne => HA.out (by rintro rfl; simp at hne), ?_, hk⟩
  refine ⟨A2, n - m, c - m, heap_set_same HB.out 0 _, ?_, by omega, by omega, ?_, ?_⟩
  · have := HN.out; simp; omega
  · have h1 := hr'.cut m c (by have := HN.out; simp; omega)
    rw [← hA2.out] at h1
    rw [bs_drop]
    exact h1
  · intro hne g hg
    have hne2 : xs ≠ [] := by rintro rfl; simp at hne
    refine HA.out hne2 g ?_
    rw [hA2.out] at hg
    rw [← hg]
    split
    · rfl
    · cases A with
      | none => rfl
      | some a => simp only [Option.map_some]; unfold Addr.add; split <;> rfl

set_option maxHeartbeats 400000 in
theorem nest_take_no (rb : Nat) (xs : List UInt8) (m : Nat) (M : Int) (w : World) (h : RdrAt w rb xs 0) (hM : M = m) (hm : xs.length < m) :
    Calls Try.prog 36 #[.pointer (some ⟨rb, 0, none⟩), .int .i64 M] w fun r w' => r = .returned (.tuple #[.slice none 0 0, .bool false]) ∧ RdrAt w' rb xs 22 ∧ Kp (fun k => k = rb) w w' := by
  subst hM
  obtain ⟨A, n, c, hb, hn, hnc, hc, hr, hap⟩ := h
  obtain ⟨c0, c1, hf⟩ := cells2 hb
  have hmn : n < m := by omega
  have HB := Go.Lib.hid hb
  have HN := Go.Lib.hid hn
  have HR := Go.Lib.hid hr
  have HA := Go.Lib.hid hap
  clear hb hn hr hap
  go_enter Try.func36, Try.ntmps36
  go_wp2_with (go_at_call 37; refine (nest_fail rb A n c 22 _ (by exact HB.out)).mono ?_; rintro e w1 ⟨rfl, h1, hk⟩)
  go_ret2
  exact ⟨rfl, ⟨A, n, c, h1, HN.out, hnc, hc, rd_far1 HR.out hk HA.out, HA.out⟩, hk⟩

end Go.Proofs.Ytfolidaonnblbaa
