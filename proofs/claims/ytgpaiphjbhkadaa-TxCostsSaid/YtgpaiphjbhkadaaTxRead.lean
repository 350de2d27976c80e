/- tx.flag, tx.read. -/
import Derived.Test.YtgpaiphjbhkadaaTxFlag
import Derived.Deep.LoopGhost
namespace Go.Proofs.Ytgpaiphjbhkadaa
open Go.ChangeShapes Go.WideShapes Go.ChangeAt Go.RowKit
set_option linter.unusedVariables false
set_option maxRecDepth 100000
attribute [local go_sem ↓] Go.wp_at_zero Go.wp_at_succ

def FlagP (x : Tree) (w : World) (r : Ending) (w' : World) : Prop := r = .returned (.tuple #[.bool (flagB x).1, .bool (flagB x).2]) ∧ Below w.heap.size w w'

set_option maxHeartbeats 2000000 in
theorem tx_flag (x : Tree) (v0 v1 v2 : Value) (P : Nat → Prop) (w : World) (h : RdT w P x v0 v1 v2) :
    Calls Try.prog 31 #[.agg #[v0, v1, v2]] w (FlagP x w) := by
  obtain ⟨l, b, its⟩ := x
  obtain ⟨A, c, B, d, cs, rfl, rfl, rfl, hbc, hb47, hid, hdm, hrb, hrc, hrl⟩ := h.parts
  have HR := Go.Lib.hid hrb.rd
  clear h hrb hrc hrl
  cases l with
  | true =>
    go_enter Try.func31, Try.ntmps31
    go_wp2_with fail
    go_ret2
    unfold FlagP
    exact ⟨rfl, bal (Below.refl _ _) _⟩
  | false =>
    by_cases hb : b = []
    · subst hb
      go_enter Try.func31, Try.ntmps31
      go_wp2_with fail
      go_ret2
      unfold FlagP
      exact ⟨rfl, bal (Below.refl _ _) _⟩
    · have q : ((b.length : Int) == 0) = false := by
        rw [beq_eq_false_iff_ne]
        intro h
        exact hb (List.eq_nil_of_length_eq_zero (by omega))
      have e : flagB (.mk false b its) = (true, decide (b = [1])) := by
        unfold flagB
        rw [if_neg (by simp [Tree.l]), if_neg (by simpa [Tree.b] using hb)]
        rfl
      unfold FlagP
      rw [e]
      have HE := Go.Lib.hid e
      clear e hb
      go_enter Try.func31, Try.ntmps31
      go_wp2_with fail
      refine (sl_Equal A _ b.length c 1 1 b [1] _ (by omega) rfl rfl ((HR.out.alloc _).alloc _) (by
        have h := rd_new (w.alloc (.cells #[.bool false, .slice A b.length c, .slice B its.length d] 45)) #[.int .u8 1] 5
        simpa [bs, bv] using h)).mono ?_
      rintro r w1 ⟨rfl, hb1⟩
      have HB1 := Go.Lib.hid hb1
      clear hb1
      go_wp2_with fail
      go_ret2
      exact ⟨rfl, btr (bal (bal (Below.refl _ _) _) _) HB1.out⟩

/-! ### read -/
theorem readT_all : ∀ (xs : List Tree), (∀ x ∈ xs, x.l = false ∧ isWord x.b = true) → readT xs = some (xs.map rawN)
  | [], _ => rfl
  | x :: xs, h => by
    obtain ⟨h1, h2⟩ := h x (by simp)
    rw [readT, if_neg (by simp [h1, h2]), readT_all xs fun y hy => h y (by simp [hy])]
    simp only [List.map_cons, Option.some.injEq, List.cons.injEq, and_true]
    rw [rawN, if_pos h2]
theorem readT_bad : ∀ (xs : List Tree) (x : Tree), x ∈ xs → (x.l = true ∨ isWord x.b = false) → readT xs = none
  | [], x, h, _ => by simp at h
  | y :: ys, x, h, hx => by
    rw [readT]
    by_cases hy : (y.l || !isWord y.b) = true
    · rw [if_pos hy]
    · rw [if_neg hy]
      rcases List.mem_cons.1 h with rfl | h
      · exfalso
        apply hy
        rcases hx with h | h <;> simp [h]
      · rw [readT_bad ys x h hx]

/-- What read answers. -/
def ReadP (o : Option (List Nat)) (w : World) (r : Ending) (w' : World) : Prop :=
  ∃ A c, r = .returned (.tuple #[.slice A (o.getD []).length c, .bool o.isSome]) ∧ Own w' w.heap.size 22 1 A (o.getD []).length c (u64s (o.getD [])) ∧ Below w.heap.size w w'
theorem ReadP.none {w w' : World} (hb : Below w.heap.size w w') : ReadP none w (.returned (.tuple #[.slice none 0 0, .bool false])) w' :=
  ⟨_, _, rfl, Own.nil _ _ _ _, hb⟩

set_option maxHeartbeats 2000000 in
theorem tx_read (B : Option Addr) (m d : Nat) (its : List Tree) (cl : List Value) (P : Nat → Prop) (w : World) (hr : RdP w P B cl) (hl : RdL w P its cl) (hm : m = its.length) (hmm : m ≤ 16777215) :
    Calls Try.prog 30 #[.slice B m d] w (ReadP (readT its) w) := by
  have HB := Go.Lib.hid hr
  have HL := Go.Lib.hid hl
  have HM := Go.Lib.hid hm
  obtain ⟨i0, hi, hz0, hz1, hz2⟩ := info_parts info_u64
  clear hr hl hm
  go_enter Try.func30, Try.ntmps30
  go_wp2_with fail
  go_loopg [4, 11] m (fun g v i wr => ∃ (j : Nat) (A : Option Addr) (c : Nat), i = .int .i64 j ∧ j ≤ m ∧ g = m - j ∧ v = .slice A j c ∧ Hid (Own wr w.heap.size 22 1 A j c (u64s ((its.take j).map rawN))) ∧ Hid (Below w.heap.size w wr) ∧ Hid (∀ x ∈ its.take j, x.l = false ∧ isWord x.b = true))
  case atStart => exact ⟨0, none, 0, rfl, Nat.zero_le _, rfl, rfl, Go.Lib.hid (Own.nil _ _ _ _), Go.Lib.hid (Below.refl _ _), Go.Lib.hid (by simp)⟩
  case round =>
    obtain ⟨j, A, c, rfl, hj, rfl, rfl, HO, HBJ, HAJ⟩ := hrel
    by_cases hlt : j < m
    · have hji : j < its.length := by have := HM.out; omega
      obtain ⟨g, off, p0, p1, p2, rfl, hp, c0, c1, c2⟩ := item_cells HB.out HL.out HBJ.out j hji
      obtain ⟨T, hT⟩ : ∃ T, T = its[j] := ⟨_, rfl⟩
      rw [← hT] at hp
      have hmem : T ∈ its := by rw [hT]; exact List.getElem_mem hji
      have htake : its.take (j + 1) = its.take j ++ [T] := by rw [hT]; exact List.take_succ_eq_append_getElem hji
      have HMEM := Go.Lib.hid hmem
      have HTAKE := Go.Lib.hid htake
      clear hT hmem htake
      obtain ⟨l, b, its'⟩ := T
      obtain ⟨A1, c1', B1, d1, cs1, rfl, rfl, rfl, hbc, hb47, hid, hdm, hrb, hrc, hrl⟩ := hp.parts
      have HRB := Go.Lib.hid hrb.rd
      have hcap := HO.out.cap
      have hs := HBJ.out.size
      clear hp hrb hrc hrl
      go_wp2_with fail
      refine (words_Read A1 b.length c1' b _ (HRB.out.alloc _) rfl).mono ?_
      rintro r w1 ⟨rfl, rfl⟩
      cases l with
      | true =>
        have hbad := readT_bad its _ HMEM.out (.inl rfl)
        have HBAD := Go.Lib.hid hbad
        obtain ⟨V, hV⟩ : ∃ V : Int, okW (isWord b) (wval b) = .tuple #[.int .u64 V, .bool (isWord b)] := ⟨_, rfl⟩
        rw [hV]
        have HV := Go.Lib.hid hV
        clear hV hbad
        go_wp2_with fail
        go_ret2
        rw [HBAD.out]
        exact ReadP.none (bal HBJ.out _)
      | false =>
        cases hw : isWord b with
        | false =>
          have hbad := readT_bad its _ HMEM.out (.inr hw)
          have HBAD := Go.Lib.hid hbad
          have HW := Go.Lib.hid hw
          clear hw hbad
          simp only [okW, Bool.false_eq_true, if_false]
          go_wp2_with fail
          go_ret2
          rw [HBAD.out]
          exact ReadP.none (bal HBJ.out _)
        | true =>
          have HW := Go.Lib.hid hw
          clear hw
          obtain ⟨v, hv⟩ : ∃ v, v = wval b := ⟨_, rfl⟩
          have HV := Go.Lib.hid hv
          simp only [okW, if_true]
          rw [← hv]
          clear hv
          go_wp2_with (at_builtin; refine wpList_append_o _ rfl _ _ 23 rfl 22 i0 (.int .u64 0) 1 8 Try.underlying23 hi hz0 hz1 hz2 rfl (by decide) w.heap.size A j c _ rfl ((HO.out.alloc _).alloc _) (some ⟨wr.heap.size + 1, 0, none⟩) 1 1 [.int .u64 (v : Int)] rfl rfl (by have h := rd_new (wr.alloc (.cells #[.bool false, .slice A1 b.length c1', .slice B1 its'.length d1] 45)) #[.int .u64 (v : Int)] 22; simpa using h) (by intro u hu; simp only [List.mem_singleton] at hu; subst hu; rfl) (by omega) (by unfold maxLen; omega) (by simp; omega) ?_; intro A3 c3 w3 hown3 hk3 hl3; have HO3 := Go.Lib.hid hown3; have HK3 := Go.Lib.hid hk3; clear hown3 hk3 hl3)
          go_roundg (m - (j + 1))
          case measure => omega
          case rel =>
            refine ⟨j + 1, A3, c3, by go_num, by omega, rfl, rfl, Go.Lib.hid ?_, Go.Lib.hid ?_, Go.Lib.hid ?_⟩
            · have h := HO3.out
              have e : u64s ((its.take (j + 1)).map rawN) = u64s ((its.take j).map rawN) ++ [.int .u64 (v : Int)] := by
                rw [HTAKE.out, List.map_append, HV.out]
                simp [u64s, u64v, rawN, Tree.b, HW.out]
              rw [e]
              exact h
            · exact Kp.below (bal (bal HBJ.out _) _) HK3.out (fun i h => (HO.out.block_lt i h.symm).1)
            · intro x hx
              rw [HTAKE.out, List.mem_append, List.mem_singleton] at hx
              rcases hx with hx | rfl
              · exact HAJ.out x hx
              · exact ⟨rfl, HW.out⟩
    · have hjm : j = m := by omega
      have e : its.take j = its := List.take_of_length_le (by have := HM.out; omega)
      have hall := HAJ.out
      have hown := HO.out
      rw [e] at hall hown
      have hrd := readT_all its hall
      have HRD := Go.Lib.hid hrd
      have hml := HM.out
      have HJ := Go.Lib.hid hjm
      have HOW := Go.Lib.hid hown
      clear e hall hown hrd hml hjm
      go_wp2_with fail
      go_ret2
      rw [HRD.out]
      refine ⟨A, c, ?_, ?_, HBJ.out⟩
      · simp only [Option.getD_some, List.length_map, Option.isSome_some]
        rw [← HM.out, ← HJ.out]
        rfl
      · simp only [Option.getD_some, List.length_map]
        rw [← HM.out, ← HJ.out]
        exact HOW.out

end Go.Proofs.Ytgpaiphjbhkadaa
