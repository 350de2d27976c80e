/- The reference's bytes of a transaction. -/
import Derived.Test.YtgpaiphjbhkadaaTxList
import Derived.Test.YtgpaiphjbhkadaaLexKit2
import Derived.Deep.LoopGhost
namespace Go.Proofs.Ytgpaiphjbhkadaa
open Go.ChangeShapes Go.WideShapes Go.ChangeAt Go.RowKit
set_option linter.unusedVariables false
set_option maxRecDepth 100000

/-- A list that grows in the box number xb, right behind the world wx. -/
structure Fr (wx : World) (xb : Nat) (W : World) (A : Option Addr) (j c : Nat) (cs : List Value) (ts : List Tree) : Prop where
  at_ : wx.heap.size = xb
  row : W.heap[xb]? = some (.cells #[.bool true, .slice none 0 0, .slice A j c] 45 (0, 0))
  own : Own W (xb + 1) 45 3 A j c cs
  rdl : RdL W (fun g => xb + 1 ≤ g ∧ some g ≠ A.map (·.block)) ts cs
  bel : Below xb wx W
theorem Fr.lt {wx W : World} {xb : Nat} {A : Option Addr} {j c : Nat} {cs : List Value} {ts : List Tree} (h : Fr wx xb W A j c cs ts) : xb < W.heap.size := (Array.getElem?_eq_some_iff.1 h.row).1
theorem fr_nil (wx : World) (xb : Nat) (hxb : wx.heap.size = xb) : Fr wx xb (wx.alloc (.cells #[.bool true, .slice none 0 0, .slice none 0 0] 45)) none 0 0 [] [] := by
  subst hxb
  exact ⟨rfl, Go.heap_alloc_new wx _, Own.nil _ _ _ _, RdL.nil _ _, bal (Below.refl _ _) _⟩
theorem fr_put {wx W W1 W6 : World} {xb : Nat} {A A' : Option Addr} {j c c' : Nat} {cs : List Value} {ts : List Tree} {t : Tree} {v0 v1 v2 : Value} {o : Obj} (h : Fr wx xb W A j c cs ts) (hb : Below W.heap.size W W1)
    (ht : RdT W1 (fun g => W.heap.size ≤ g) t v0 v1 v2) (hown : Own W6 (xb + 1) 45 3 A' (j + 1) c' (cs ++ [v0, v1, v2]))
    (hk : Kp (fun k => some k = A.map (·.block)) (W1.alloc o) W6) (hl : Lie A' A (W1.alloc o).heap.size) :
    Fr wx xb (W6.setCell ⟨xb, 2, none⟩ (.slice A' (j + 1) c')) A' (j + 1) c' (cs ++ [v0, v1, v2]) (ts ++ [t]) := by
  have hlt := h.lt
  have hs := hb.size
  have hra : (W1.alloc o).heap[xb]? = W.heap[xb]? := (Below.heap_alloc _ _ _ (by omega)).trans (hb.block _ hlt)
  have hne : ¬ some xb = A.map (·.block) := fun e => by have := (h.own.block_lt _ e.symm).1; omega
  have hr6 : W6.heap[xb]? = some (.cells #[.bool true, .slice none 0 0, .slice A j c] 45 (0, 0)) :=
    ((hk.block _ (by simp; omega) hne).trans hra).trans h.row
  have hk2 : Kp (fun k => k = xb) W6 (W6.setCell ⟨xb, 2, none⟩ (.slice A' (j + 1) c')) := Kp.setCell (S := fun k => k = xb) (p := ⟨xb, 2, none⟩) _ rfl _
  refine ⟨h.at_, ?_, hown.kp hk2 fun g e h => by have := (hown.block_lt g e).1; omega, ?_, ?_⟩
  · rw [heap_set_same hr6 2 _]
    rfl
  · have h1 := list_put (c' := c') h.own h.rdl hb ht hk hl (by omega)
    exact h1.kp hk2 fun g hg h => by omega
  · have hbe := h.bel
    have he := h.at_
    subst he
    exact Kp.below (Kp.below (bal (btr hbe hb) _) hk (fun i e => by have := (h.own.block_lt i e.symm).1; omega)) hk2 (fun i e => by omega)

/-- The last item's memory may lie ahead of all. -/
theorem fr_last {wx W W1 W6 : World} {xb : Nat} {A A' : Option Addr} {j c c' : Nat} {cs : List Value} {ts : List Tree} {t : Tree} {v0 v1 v2 : Value} {o : Obj} (h : Fr wx xb W A j c cs ts) (hb : Below W.heap.size W W1)
    (ht : RdT W1 (fun g => g < xb) t v0 v1 v2) (hown : Own W6 (xb + 1) 45 3 A' (j + 1) c' (cs ++ [v0, v1, v2]))
    (hk : Kp (fun k => some k = A.map (·.block)) (W1.alloc o) W6) :
    RdT (W6.setCell ⟨xb, 2, none⟩ (.slice A' (j + 1) c')) (fun _ => True) (.mk true [] (ts ++ [t])) (.bool true) (.slice none 0 0) (.slice A' (j + 1) c') ∧ Below xb wx (W6.setCell ⟨xb, 2, none⟩ (.slice A' (j + 1) c')) := by
  have hlt := h.lt
  have hs := hb.size
  have hk2 : Kp (fun k => k = xb) W6 (W6.setCell ⟨xb, 2, none⟩ (.slice A' (j + 1) c')) := Kp.setCell (S := fun k => k = xb) (p := ⟨xb, 2, none⟩) _ rfl _
  have r1 : RdL W1 (fun g => some g ≠ A.map (·.block) ∧ g ≠ xb) ts cs := (h.rdl.below hb).mono fun g _ hg => ⟨hg.2, by have := hg.1; omega⟩
  have r2 : RdT W1 (fun g => some g ≠ A.map (·.block) ∧ g ≠ xb) t v0 v1 v2 := ht.mono fun g _ hg => ⟨fun e => by have := (h.own.block_lt g e.symm).1; omega, by omega⟩
  have r3 := (((r1.snoc r2).below (bal (Below.refl _ _) o)).kp hk fun g hg e => hg.1 e).kp hk2 fun g hg e => hg.2 e
  have hown' : Own (W6.setCell ⟨xb, 2, none⟩ (.slice A' (j + 1) c')) (xb + 1) 45 3 A' (j + 1) c' (cs ++ [v0, v1, v2]) := hown.kp hk2 fun g e h => by have := (hown.block_lt g e).1; omega
  have hcap := hown'.cap
  refine ⟨RdT.list ?_ hcap.1 hcap.2 (hown'.rdp _ fun _ _ _ _ => trivial) (r3.mono fun _ _ _ => trivial), ?_⟩
  · have h1 := h.own.len
    have h2 := h.rdl.len
    simp
    omega
  · have hbe := h.bel
    have he := h.at_
    subst he
    exact Kp.below (Kp.below (bal (btr hbe hb) _) hk (fun i e => by have := (h.own.block_lt i e.symm).1; omega)) hk2 (fun i e => by omega)
theorem Fr.below {wx W W' : World} {xb : Nat} {A : Option Addr} {j c : Nat} {cs : List Value} {ts : List Tree} (h : Fr wx xb W A j c cs ts) (hb : Below W.heap.size W W') : Fr wx xb W' A j c cs ts :=
  ⟨h.at_, box_keep h.row hb, h.own.below hb, h.rdl.below hb, by have hbe := h.bel; have he := h.at_; subst he; exact btr hbe hb⟩

/-- What the region reads. -/
def SR (xb tb : Nat) (A : Option Addr) (j c : Nat) (u0 u1 u2 u3 u4 u5 u6 u7 u8 : Value) (W : World) : Prop :=
  W.heap[xb]? = some (.cells #[.bool true, .slice none 0 0, .slice A j c] 45 (0, 0)) ∧ W.heap[tb]? = some (.cells #[u0, u1, u2, u3, u4, u5, u6, u7, u8] 26 (0, 0))
section
variable {xb tb : Nat} {A : Option Addr} {j c : Nat} {u0 u1 u2 u3 u4 u5 u6 u7 u8 : Value} {W W' : World}
theorem SR.below (h : SR xb tb A j c u0 u1 u2 u3 u4 u5 u6 u7 u8 W) (hb : Below W.heap.size W W') : SR xb tb A j c u0 u1 u2 u3 u4 u5 u6 u7 u8 W' := ⟨box_keep h.1 hb, box_keep h.2 hb⟩
theorem SR.kp {B : Option Addr} (h : SR xb tb A j c u0 u1 u2 u3 u4 u5 u6 u7 u8 W) (hk : Kp (fun k => some k = B.map (·.block)) W W') (hf : ∀ g, some g = B.map (·.block) → g ≠ xb ∧ g ≠ tb) :
    SR xb tb A j c u0 u1 u2 u3 u4 u5 u6 u7 u8 W' :=
  ⟨(hk.block _ (Array.getElem?_eq_some_iff.1 h.1).1 fun e => (hf _ e).1 rfl).trans h.1, (hk.block _ (Array.getElem?_eq_some_iff.1 h.2).1 fun e => (hf _ e).2 rfl).trans h.2⟩
/-- The same, and one number of the row that is gone through. -/
def SL (xb tb : Nat) (A : Option Addr) (j c : Nat) (u0 u1 u2 u3 u4 u5 u6 u7 u8 : Value) (g o n : Nat) (W : World) : Prop :=
  W.heap[xb]? = some (.cells #[.bool true, .slice none 0 0, .slice A j c] 45 (0, 0)) ∧ W.heap[tb]? = some (.cells #[u0, u1, u2, u3, u4, u5, u6, u7, u8] 26 (0, 0)) ∧
    W.cell? ⟨g, o, none⟩ = some (.int .u64 (n : Int))
theorem SL.below {g o n : Nat} (h : SL xb tb A j c u0 u1 u2 u3 u4 u5 u6 u7 u8 g o n W) (hb : Below W.heap.size W W') : SL xb tb A j c u0 u1 u2 u3 u4 u5 u6 u7 u8 g o n W' :=
  ⟨box_keep h.1 hb, box_keep h.2.1 hb, (hb.cell (World.block_lt_of_cell? W _ h.2.2)).trans h.2.2⟩
theorem SL.kp {B : Option Addr} {g o n : Nat} (h : SL xb tb A j c u0 u1 u2 u3 u4 u5 u6 u7 u8 g o n W) (hk : Kp (fun k => some k = B.map (·.block)) W W') (hf : ∀ i, some i = B.map (·.block) → i ≠ xb ∧ i ≠ tb ∧ i ≠ g) :
    SL xb tb A j c u0 u1 u2 u3 u4 u5 u6 u7 u8 g o n W' :=
  ⟨(hk.block _ (Array.getElem?_eq_some_iff.1 h.1).1 fun e => (hf _ e).1 rfl).trans h.1, (hk.block _ (Array.getElem?_eq_some_iff.1 h.2.1).1 fun e => (hf _ e).2.1 rfl).trans h.2.1,
    (hk.cell (World.block_lt_of_cell? W _ h.2.2) fun e => (hf _ e).2.2 rfl).trans h.2.2⟩
theorem Fr.sr {wx W : World} {cs : List Value} {ts : List Tree} (h : Fr wx xb W A j c cs ts) (ht : wx.heap[tb]? = some (.cells #[u0, u1, u2, u3, u4, u5, u6, u7, u8] 26 (0, 0))) (hl : tb < xb) :
    SR xb tb A j c u0 u1 u2 u3 u4 u5 u6 u7 u8 W := ⟨h.row, (h.bel.block _ hl).trans ht⟩
theorem Fr.far {wx W : World} {cs : List Value} {ts : List Tree} (h : Fr wx xb W A j c cs ts) (hl : tb < xb) : ∀ g, some g = A.map (·.block) → g ≠ xb ∧ g ≠ tb :=
  fun g e => by have := (h.own.block_lt g e.symm).1; omega
end

set_option maxHeartbeats 8000000 in
theorem ref_Bytes16 (t : TxD) (hm8 : t.inp.length ≤ 8) (hk256 : t.code.length ≤ 256) (ho : OkTx t) (AI BC : Option Addr) (d c : Nat) (w : World) (hA : Rd w AI (u64s t.inp)) (hB : Rd w BC (bs t.code)) (hd : t.inp.length ≤ d) (hc : t.code.length ≤ c) (hz : c ≤ 9223372036854775807) :
    Calls Try.prog 28 #[.agg #[.int .u64 (t.a0 : Int), .int .u64 (t.a1 : Int), .int .u64 (t.a2 : Int), .int .u64 (t.a3 : Int), .int .u64 (t.a4 : Int), .int .u64 (t.a5 : Int), .slice AI t.inp.length d, .bool t.mak, .slice BC t.code.length c]] w
      fun r w' => ∃ A n c, r = .returned (.slice A n c) ∧ Own w' w.heap.size 5 1 A n c (bs (encT (treeT t))) ∧ Below w.heap.size w w' := by
  have HO := Go.Lib.hid ho
  have HA := Go.Lib.hid hA
  have HBC := Go.Lib.hid hB
  obtain ⟨m, hm⟩ : ∃ m, m = t.inp.length := ⟨_, rfl⟩
  obtain ⟨k, hk⟩ : ∃ k, k = t.code.length := ⟨_, rfl⟩
  rw [← hm] at hm8 hd ⊢
  rw [← hk] at hk256 hc ⊢
  have HM := Go.Lib.hid hm
  have HKC := Go.Lib.hid hk
  obtain ⟨ii0, hii, hiz0, hiz1, hiz2⟩ := info_parts info_item
  clear ho hA hB hm hk
  go_enter Try.func28, Try.ntmps28
  go_wp2_with fail
  obtain ⟨wx, hwx⟩ : ∃ x, x = w.alloc (.cells #[.int .u64 (t.a0 : Int), .int .u64 (t.a1 : Int), .int .u64 (t.a2 : Int), .int .u64 (t.a3 : Int), .int .u64 (t.a4 : Int), .int .u64 (t.a5 : Int), .slice AI m d, .bool t.mak, .slice BC k c] 26) := ⟨_, rfl⟩
  rw [← hwx]
  have htb : wx.heap[w.heap.size]? = some (.cells #[.int .u64 (t.a0 : Int), .int .u64 (t.a1 : Int), .int .u64 (t.a2 : Int), .int .u64 (t.a3 : Int), .int .u64 (t.a4 : Int), .int .u64 (t.a5 : Int), .slice AI m d, .bool t.mak, .slice BC k c] 26 (0, 0)) := by rw [hwx]; exact Go.heap_alloc_new w _
  have hsx : wx.heap.size = w.heap.size + 1 := by rw [hwx]; simp
  have hbx : Below w.heap.size w wx := by rw [hwx]; exact bal (Below.refl _ _) _
  have HTB := Go.Lib.hid htb
  have HTL : Hid (w.heap.size < w.heap.size + 1) := Go.Lib.hid (Nat.lt_succ_self _)
  have HBX := Go.Lib.hid hbx
  have hf0 := fr_nil wx (w.heap.size + 1) hsx
  obtain ⟨w0, hw0⟩ : ∃ x, x = wx.alloc (.cells #[.bool true, .slice none 0 0, .slice none 0 0] 45) := ⟨_, rfl⟩
  rw [← hw0] at hf0 ⊢
  have HF0 := Go.Lib.hid hf0
  clear hf0 hw0 hwx htb hbx hsx
  refine wp_region_E 8 (SR (w.heap.size + 1) w.heap.size none 0 0 (.int .u64 (t.a0 : Int)) (.int .u64 (t.a1 : Int)) (.int .u64 (t.a2 : Int)) (.int .u64 (t.a3 : Int)) (.int .u64 (t.a4 : Int)) (.int .u64 (t.a5 : Int)) (.slice AI m d) (.bool t.mak) (.slice BC k c)) (by kernel_rfl) (HF0.out.sr HTB.out HTL.out) (fun hHeld => ?_)
  change wpAnyE _ _ _ _ _ _ 9 (List.toArray [false, false, false, false, false, false, false, false, false]) _ _
  refine wpAnyE_take (i := 0) (v := ?_) [8,6,1] rfl (by kernel_rfl) (by kernel_rfl) (by kernel_rfl) (by kernel_rfl) (fun _ _ _ h => h) (Or.inl ⟨by rfl, ?_⟩) (by assumption) ?_
  rotate_left
  focus (intro w hSw; (try dsimp only at hSw); obtain ⟨h1, h2⟩ := hSw; obtain ⟨x0, x1, x2, xf⟩ := cells3 h1; obtain ⟨c0, c1, c2, c3', c4, c5, c6, c7, c8, cf⟩ := cells9 h2; (try simp only [List.getElem_toArray]); (try simp only [List.getElem_cons_succ]); (try simp only [List.getElem_cons_zero]); go_simp; (try with_reducible rfl); done)
  (try simp only [List.getElem_toArray]); (try simp only [List.getElem_cons_succ]); (try simp only [List.getElem_cons_zero]); (try simp only [Act.put]); (try simp only [List.setIfInBounds_toArray]); (try simp only [List.set_cons_succ]); (try simp only [List.set_cons_zero])
  refine wpAnyE_take (i := 1) (v := ?_) [8,6] rfl (by kernel_rfl) (by kernel_rfl) (by kernel_rfl) (by kernel_rfl) (fun _ _ _ h => h) (Or.inl ⟨by rfl, ?_⟩) (by assumption) ?_
  rotate_left
  focus (intro w hSw; (try dsimp only at hSw); obtain ⟨h1, h2⟩ := hSw; obtain ⟨x0, x1, x2, xf⟩ := cells3 h1; obtain ⟨c0, c1, c2, c3', c4, c5, c6, c7, c8, cf⟩ := cells9 h2; (try simp only [List.getElem_toArray]); (try simp only [List.getElem_cons_succ]); (try simp only [List.getElem_cons_zero]); go_simp; (try with_reducible rfl); done)
  (try simp only [List.getElem_toArray]); (try simp only [List.getElem_cons_succ]); (try simp only [List.getElem_cons_zero]); (try simp only [Act.put]); (try simp only [List.setIfInBounds_toArray]); (try simp only [List.set_cons_succ]); (try simp only [List.set_cons_zero])
  refine wpAnyE_take (i := 2) (v := ?_) [8,6,5,4,3] rfl (by kernel_rfl) (by kernel_rfl) (by kernel_rfl) (by kernel_rfl) (fun _ _ _ h => h) (Or.inl ⟨by rfl, ?_⟩) (by assumption) ?_
  rotate_left
  focus (intro w hSw; (try dsimp only at hSw); obtain ⟨h1, h2⟩ := hSw; obtain ⟨x0, x1, x2, xf⟩ := cells3 h1; obtain ⟨c0, c1, c2, c3', c4, c5, c6, c7, c8, cf⟩ := cells9 h2; (try simp only [List.getElem_toArray]); (try simp only [List.getElem_cons_succ]); (try simp only [List.getElem_cons_zero]); go_simp; (try with_reducible rfl); done)
  (try simp only [List.getElem_toArray]); (try simp only [List.getElem_cons_succ]); (try simp only [List.getElem_cons_zero]); (try simp only [Act.put]); (try simp only [List.setIfInBounds_toArray]); (try simp only [List.set_cons_succ]); (try simp only [List.set_cons_zero])
  refine wpAnyE_take (i := 3) (v := ?_) [8,6,5,4] rfl (by kernel_rfl) (by kernel_rfl) (by kernel_rfl) (by kernel_rfl) (fun _ _ _ h => h) (Or.inl ⟨by rfl, ?_⟩) (by assumption) ?_
  rotate_left
  focus (intro w hSw; (try dsimp only at hSw); obtain ⟨h1, h2⟩ := hSw; obtain ⟨x0, x1, x2, xf⟩ := cells3 h1; obtain ⟨c0, c1, c2, c3', c4, c5, c6, c7, c8, cf⟩ := cells9 h2; (try simp only [List.getElem_toArray]); (try simp only [List.getElem_cons_succ]); (try simp only [List.getElem_cons_zero]); go_simp; (try with_reducible rfl); done)
  (try simp only [List.getElem_toArray]); (try simp only [List.getElem_cons_succ]); (try simp only [List.getElem_cons_zero]); (try simp only [Act.put]); (try simp only [List.setIfInBounds_toArray]); (try simp only [List.set_cons_succ]); (try simp only [List.set_cons_zero])
  refine wpAnyE_one (i := 4) (by kernel_rfl) rfl rfl (fun Kq hKq => ?_)
  go_simp
  refine (ref_word16 t.a0 HO.out.h0 _).mono ?_
  rintro r v1 ⟨P1, q1, r1, rfl, hw1, hb1⟩
  have HW1 : Hid (RdT v1 (fun g => w0.heap.size ≤ g) (wordT t.a0) (.bool false) (.slice P1 q1 r1) (.slice none 0 0)) := Go.Lib.hid hw1
  have HV1 := Go.Lib.hid (btr (bdr (Below.refl _ _)) hb1)
  clear hw1 hb1
  go_wp2_with fail
  refine hKq.out _ _ ((HF0.out.sr HTB.out HTL.out).below HV1.out) (fun hHeld => ?_)
  clear hKq Kq
  (try simp only [List.getElem_toArray]); (try simp only [List.getElem_cons_succ]); (try simp only [List.getElem_cons_zero]); (try simp only [Act.put]); (try simp only [List.setIfInBounds_toArray]); (try simp only [List.set_cons_succ]); (try simp only [List.set_cons_zero])
  refine wpAnyE_one (i := 5) (by kernel_rfl) rfl rfl (fun Kq hKq => ?_)
  go_simp
  refine hKq.out _ _ (((HF0.out.sr HTB.out HTL.out).below HV1.out).below (bal (Below.refl _ _) _)) (fun hHeld => ?_)
  clear hKq Kq
  (try simp only [List.getElem_toArray]); (try simp only [List.getElem_cons_succ]); (try simp only [List.getElem_cons_zero]); (try simp only [Act.put]); (try simp only [List.setIfInBounds_toArray]); (try simp only [List.set_cons_succ]); (try simp only [List.set_cons_zero])
  refine wpAnyE_one (i := 6) (by kernel_rfl) rfl rfl (fun Kq hKq => ?_)
  refine step_append_o _ (by rfl) (.tmp 9) (.tmp 13) 42 (by rfl) 45 ii0 item0 3 56 Try.underlying42 hii hiz0 hiz1 hiz2 (by rfl) (by decide) (w.heap.size + 1 + 1) none 0 0 [] (by rfl) ((HF0.out.own.below HV1.out).alloc _) (some ⟨v1.heap.size, 0, none⟩) 1 1 [.bool false, .slice P1 q1 r1, .slice none 0 0] (by rfl) (by rfl) (rd_new _ _ _) HW1.out.one (by omega) (by unfold maxLen; omega) (by have := HF0.out.lt; have := HV1.out.size; simp; omega) ?_
  intro A1 c1 u1 hown1 hk1 hl1
  have HOW1 := Go.Lib.hid hown1
  have HKP1 := Go.Lib.hid hk1
  have HLI1 := Go.Lib.hid hl1
  have hsr1 := (((HF0.out.sr HTB.out HTL.out).below HV1.out).below (bal (Below.refl _ _) _)).kp HKP1.out (HF0.out.far HTL.out)
  clear hown1 hk1 hl1
  obtain ⟨x0, x1, x2, xf⟩ := cells3 hsr1.1
  refine hKq.out _ _ (hsr1) (fun hHeld => ?_)
  clear hKq Kq
  (try simp only [List.getElem_toArray]); (try simp only [List.getElem_cons_succ]); (try simp only [List.getElem_cons_zero]); (try simp only [Act.put]); (try simp only [List.setIfInBounds_toArray]); (try simp only [List.set_cons_succ]); (try simp only [List.set_cons_zero])
  refine wpAnyE_take (i := 7) (v := ?_) [8] rfl (by kernel_rfl) (by kernel_rfl) (by kernel_rfl) (by kernel_rfl) (fun _ _ _ h => h) (Or.inl ⟨by rfl, ?_⟩) (by assumption) ?_
  rotate_left
  focus (intro w hSw; (try dsimp only at hSw); obtain ⟨h1, h2⟩ := hSw; obtain ⟨x0, x1, x2, xf⟩ := cells3 h1; obtain ⟨c0, c1, c2, c3', c4, c5, c6, c7, c8, cf⟩ := cells9 h2; (try simp only [List.getElem_toArray]); (try simp only [List.getElem_cons_succ]); (try simp only [List.getElem_cons_zero]); go_simp; (try with_reducible rfl); done)
  (try simp only [List.getElem_toArray]); (try simp only [List.getElem_cons_succ]); (try simp only [List.getElem_cons_zero]); (try simp only [Act.put]); (try simp only [List.setIfInBounds_toArray]); (try simp only [List.set_cons_succ]); (try simp only [List.set_cons_zero])
  refine wpAnyE_last (i := 8) (by kernel_rfl) rfl rfl (fun Kq hKq => ?_)
  go_simp
  refine hKq.out _ _ ?_
  clear hKq Kq
  (try simp only [List.getElem_toArray]); (try simp only [List.getElem_cons_succ]); (try simp only [List.getElem_cons_zero]); (try simp only [Act.put]); (try simp only [List.setIfInBounds_toArray]); (try simp only [List.set_cons_succ]); (try simp only [List.set_cons_zero])
  refine wpAnyE_done (by kernel_rfl) ?_ _
  obtain ⟨w1, hww1⟩ : ∃ x, x = World.setCell u1 ⟨w.heap.size + 1, 2, none⟩ (.slice A1 1 c1) := ⟨_, rfl⟩
  have hf1 := fr_put HF0.out HV1.out HW1.out HOW1.out HKP1.out HLI1.out
  rw [← hww1] at hf1 ⊢
  obtain ⟨cs1, hcs1⟩ : ∃ x : List Value, x = [] ++ [.bool false, .slice P1 q1 r1, .slice none 0 0] := ⟨_, rfl⟩
  rw [← hcs1] at hf1
  have HF1 := Go.Lib.hid hf1
  clear hf1 hww1 hcs1 hsr1 x0 x1 x2 xf HOW1 HKP1 HLI1 HW1 HV1 HF0
  repeat (clear hHeld)
  go_wp2_with fail
  refine wp_region_E 8 (SR (w.heap.size + 1) w.heap.size A1 1 c1 (.int .u64 (t.a0 : Int)) (.int .u64 (t.a1 : Int)) (.int .u64 (t.a2 : Int)) (.int .u64 (t.a3 : Int)) (.int .u64 (t.a4 : Int)) (.int .u64 (t.a5 : Int)) (.slice AI m d) (.bool t.mak) (.slice BC k c)) (by kernel_rfl) (HF1.out.sr HTB.out HTL.out) (fun hHeld => ?_)
  change wpAnyE _ _ _ _ _ _ 9 (List.toArray [false, false, false, false, false, false, false, false, false]) _ _
  refine wpAnyE_take (i := 0) (v := ?_) [8,6,1] rfl (by kernel_rfl) (by kernel_rfl) (by kernel_rfl) (by kernel_rfl) (fun _ _ _ h => h) (Or.inl ⟨by rfl, ?_⟩) (by assumption) ?_
  rotate_left
  focus (intro w hSw; (try dsimp only at hSw); obtain ⟨h1, h2⟩ := hSw; obtain ⟨x0, x1, x2, xf⟩ := cells3 h1; obtain ⟨c0, c1, c2, c3', c4, c5, c6, c7, c8, cf⟩ := cells9 h2; (try simp only [List.getElem_toArray]); (try simp only [List.getElem_cons_succ]); (try simp only [List.getElem_cons_zero]); go_simp; (try with_reducible rfl); done)
  (try simp only [List.getElem_toArray]); (try simp only [List.getElem_cons_succ]); (try simp only [List.getElem_cons_zero]); (try simp only [Act.put]); (try simp only [List.setIfInBounds_toArray]); (try simp only [List.set_cons_succ]); (try simp only [List.set_cons_zero])
  refine wpAnyE_take (i := 1) (v := ?_) [8,6] rfl (by kernel_rfl) (by kernel_rfl) (by kernel_rfl) (by kernel_rfl) (fun _ _ _ h => h) (Or.inl ⟨by rfl, ?_⟩) (by assumption) ?_
  rotate_left
  focus (intro w hSw; (try dsimp only at hSw); obtain ⟨h1, h2⟩ := hSw; obtain ⟨x0, x1, x2, xf⟩ := cells3 h1; obtain ⟨c0, c1, c2, c3', c4, c5, c6, c7, c8, cf⟩ := cells9 h2; (try simp only [List.getElem_toArray]); (try simp only [List.getElem_cons_succ]); (try simp only [List.getElem_cons_zero]); go_simp; (try with_reducible rfl); done)
  (try simp only [List.getElem_toArray]); (try simp only [List.getElem_cons_succ]); (try simp only [List.getElem_cons_zero]); (try simp only [Act.put]); (try simp only [List.setIfInBounds_toArray]); (try simp only [List.set_cons_succ]); (try simp only [List.set_cons_zero])
  refine wpAnyE_take (i := 2) (v := ?_) [8,6,5,4,3] rfl (by kernel_rfl) (by kernel_rfl) (by kernel_rfl) (by kernel_rfl) (fun _ _ _ h => h) (Or.inl ⟨by rfl, ?_⟩) (by assumption) ?_
  rotate_left
  focus (intro w hSw; (try dsimp only at hSw); obtain ⟨h1, h2⟩ := hSw; obtain ⟨x0, x1, x2, xf⟩ := cells3 h1; obtain ⟨c0, c1, c2, c3', c4, c5, c6, c7, c8, cf⟩ := cells9 h2; (try simp only [List.getElem_toArray]); (try simp only [List.getElem_cons_succ]); (try simp only [List.getElem_cons_zero]); go_simp; (try with_reducible rfl); done)
  (try simp only [List.getElem_toArray]); (try simp only [List.getElem_cons_succ]); (try simp only [List.getElem_cons_zero]); (try simp only [Act.put]); (try simp only [List.setIfInBounds_toArray]); (try simp only [List.set_cons_succ]); (try simp only [List.set_cons_zero])
  refine wpAnyE_take (i := 3) (v := ?_) [8,6,5,4] rfl (by kernel_rfl) (by kernel_rfl) (by kernel_rfl) (by kernel_rfl) (fun _ _ _ h => h) (Or.inl ⟨by rfl, ?_⟩) (by assumption) ?_
  rotate_left
  focus (intro w hSw; (try dsimp only at hSw); obtain ⟨h1, h2⟩ := hSw; obtain ⟨x0, x1, x2, xf⟩ := cells3 h1; obtain ⟨c0, c1, c2, c3', c4, c5, c6, c7, c8, cf⟩ := cells9 h2; (try simp only [List.getElem_toArray]); (try simp only [List.getElem_cons_succ]); (try simp only [List.getElem_cons_zero]); go_simp; (try with_reducible rfl); done)
  (try simp only [List.getElem_toArray]); (try simp only [List.getElem_cons_succ]); (try simp only [List.getElem_cons_zero]); (try simp only [Act.put]); (try simp only [List.setIfInBounds_toArray]); (try simp only [List.set_cons_succ]); (try simp only [List.set_cons_zero])
  refine wpAnyE_one (i := 4) (by kernel_rfl) rfl rfl (fun Kq hKq => ?_)
  go_simp
  refine (ref_word16 t.a1 HO.out.h1 _).mono ?_
  rintro r v2 ⟨P2, q2, r2, rfl, hw2, hb2⟩
  have HW2 : Hid (RdT v2 (fun g => w1.heap.size ≤ g) (wordT t.a1) (.bool false) (.slice P2 q2 r2) (.slice none 0 0)) := Go.Lib.hid hw2
  have HV2 := Go.Lib.hid (btr (bdr (Below.refl _ _)) hb2)
  clear hw2 hb2
  go_wp2_with fail
  refine hKq.out _ _ ((HF1.out.sr HTB.out HTL.out).below HV2.out) (fun hHeld => ?_)
  clear hKq Kq
  (try simp only [List.getElem_toArray]); (try simp only [List.getElem_cons_succ]); (try simp only [List.getElem_cons_zero]); (try simp only [Act.put]); (try simp only [List.setIfInBounds_toArray]); (try simp only [List.set_cons_succ]); (try simp only [List.set_cons_zero])
  refine wpAnyE_one (i := 5) (by kernel_rfl) rfl rfl (fun Kq hKq => ?_)
  go_simp
  refine hKq.out _ _ (((HF1.out.sr HTB.out HTL.out).below HV2.out).below (bal (Below.refl _ _) _)) (fun hHeld => ?_)
  clear hKq Kq
  (try simp only [List.getElem_toArray]); (try simp only [List.getElem_cons_succ]); (try simp only [List.getElem_cons_zero]); (try simp only [Act.put]); (try simp only [List.setIfInBounds_toArray]); (try simp only [List.set_cons_succ]); (try simp only [List.set_cons_zero])
  refine wpAnyE_one (i := 6) (by kernel_rfl) rfl rfl (fun Kq hKq => ?_)
  refine step_append_o _ (by rfl) (.tmp 17) (.tmp 21) 42 (by rfl) 45 ii0 item0 3 56 Try.underlying42 hii hiz0 hiz1 hiz2 (by rfl) (by decide) (w.heap.size + 1 + 1) A1 1 c1 cs1 (by rfl) ((HF1.out.own.below HV2.out).alloc _) (some ⟨v2.heap.size, 0, none⟩) 1 1 [.bool false, .slice P2 q2 r2, .slice none 0 0] (by rfl) (by rfl) (rd_new _ _ _) HW2.out.one (by omega) (by unfold maxLen; omega) (by have := HF1.out.lt; have := HV2.out.size; simp; omega) ?_
  intro A2 c2 u2 hown2 hk2 hl2
  have HOW2 := Go.Lib.hid hown2
  have HKP2 := Go.Lib.hid hk2
  have HLI2 := Go.Lib.hid hl2
  have hsr2 := (((HF1.out.sr HTB.out HTL.out).below HV2.out).below (bal (Below.refl _ _) _)).kp HKP2.out (HF1.out.far HTL.out)
  clear hown2 hk2 hl2
  obtain ⟨x0, x1, x2, xf⟩ := cells3 hsr2.1
  refine hKq.out _ _ (hsr2) (fun hHeld => ?_)
  clear hKq Kq
  (try simp only [List.getElem_toArray]); (try simp only [List.getElem_cons_succ]); (try simp only [List.getElem_cons_zero]); (try simp only [Act.put]); (try simp only [List.setIfInBounds_toArray]); (try simp only [List.set_cons_succ]); (try simp only [List.set_cons_zero])
  refine wpAnyE_take (i := 7) (v := ?_) [8] rfl (by kernel_rfl) (by kernel_rfl) (by kernel_rfl) (by kernel_rfl) (fun _ _ _ h => h) (Or.inl ⟨by rfl, ?_⟩) (by assumption) ?_
  rotate_left
  focus (intro w hSw; (try dsimp only at hSw); obtain ⟨h1, h2⟩ := hSw; obtain ⟨x0, x1, x2, xf⟩ := cells3 h1; obtain ⟨c0, c1, c2, c3', c4, c5, c6, c7, c8, cf⟩ := cells9 h2; (try simp only [List.getElem_toArray]); (try simp only [List.getElem_cons_succ]); (try simp only [List.getElem_cons_zero]); go_simp; (try with_reducible rfl); done)
  (try simp only [List.getElem_toArray]); (try simp only [List.getElem_cons_succ]); (try simp only [List.getElem_cons_zero]); (try simp only [Act.put]); (try simp only [List.setIfInBounds_toArray]); (try simp only [List.set_cons_succ]); (try simp only [List.set_cons_zero])
  refine wpAnyE_last (i := 8) (by kernel_rfl) rfl rfl (fun Kq hKq => ?_)
  go_simp
  refine hKq.out _ _ ?_
  clear hKq Kq
  (try simp only [List.getElem_toArray]); (try simp only [List.getElem_cons_succ]); (try simp only [List.getElem_cons_zero]); (try simp only [Act.put]); (try simp only [List.setIfInBounds_toArray]); (try simp only [List.set_cons_succ]); (try simp only [List.set_cons_zero])
  refine wpAnyE_done (by kernel_rfl) ?_ _
  obtain ⟨w2, hww2⟩ : ∃ x, x = World.setCell u2 ⟨w.heap.size + 1, 2, none⟩ (.slice A2 2 c2) := ⟨_, rfl⟩
  have hf2 := fr_put HF1.out HV2.out HW2.out HOW2.out HKP2.out HLI2.out
  rw [← hww2] at hf2 ⊢
  obtain ⟨cs2, hcs2⟩ : ∃ x : List Value, x = cs1 ++ [.bool false, .slice P2 q2 r2, .slice none 0 0] := ⟨_, rfl⟩
  rw [← hcs2] at hf2
  have HF2 := Go.Lib.hid hf2
  clear hf2 hww2 hcs2 hsr2 x0 x1 x2 xf HOW2 HKP2 HLI2 HW2 HV2 HF1
  repeat (clear hHeld)
  go_wp2_with fail
  refine wp_region_E 8 (SR (w.heap.size + 1) w.heap.size A2 2 c2 (.int .u64 (t.a0 : Int)) (.int .u64 (t.a1 : Int)) (.int .u64 (t.a2 : Int)) (.int .u64 (t.a3 : Int)) (.int .u64 (t.a4 : Int)) (.int .u64 (t.a5 : Int)) (.slice AI m d) (.bool t.mak) (.slice BC k c)) (by kernel_rfl) (HF2.out.sr HTB.out HTL.out) (fun hHeld => ?_)
  change wpAnyE _ _ _ _ _ _ 9 (List.toArray [false, false, false, false, false, false, false, false, false]) _ _
  refine wpAnyE_take (i := 0) (v := ?_) [8,6,1] rfl (by kernel_rfl) (by kernel_rfl) (by kernel_rfl) (by kernel_rfl) (fun _ _ _ h => h) (Or.inl ⟨by rfl, ?_⟩) (by assumption) ?_
  rotate_left
  focus (intro w hSw; (try dsimp only at hSw); obtain ⟨h1, h2⟩ := hSw; obtain ⟨x0, x1, x2, xf⟩ := cells3 h1; obtain ⟨c0, c1, c2, c3', c4, c5, c6, c7, c8, cf⟩ := cells9 h2; (try simp only [List.getElem_toArray]); (try simp only [List.getElem_cons_succ]); (try simp only [List.getElem_cons_zero]); go_simp; (try with_reducible rfl); done)
  (try simp only [List.getElem_toArray]); (try simp only [List.getElem_cons_succ]); (try simp only [List.getElem_cons_zero]); (try simp only [Act.put]); (try simp only [List.setIfInBounds_toArray]); (try simp only [List.set_cons_succ]); (try simp only [List.set_cons_zero])
  refine wpAnyE_take (i := 1) (v := ?_) [8,6] rfl (by kernel_rfl) (by kernel_rfl) (by kernel_rfl) (by kernel_rfl) (fun _ _ _ h => h) (Or.inl ⟨by rfl, ?_⟩) (by assumption) ?_
  rotate_left
  focus (intro w hSw; (try dsimp only at hSw); obtain ⟨h1, h2⟩ := hSw; obtain ⟨x0, x1, x2, xf⟩ := cells3 h1; obtain ⟨c0, c1, c2, c3', c4, c5, c6, c7, c8, cf⟩ := cells9 h2; (try simp only [List.getElem_toArray]); (try simp only [List.getElem_cons_succ]); (try simp only [List.getElem_cons_zero]); go_simp; (try with_reducible rfl); done)
  (try simp only [List.getElem_toArray]); (try simp only [List.getElem_cons_succ]); (try simp only [List.getElem_cons_zero]); (try simp only [Act.put]); (try simp only [List.setIfInBounds_toArray]); (try simp only [List.set_cons_succ]); (try simp only [List.set_cons_zero])
  refine wpAnyE_take (i := 2) (v := ?_) [8,6,5,4,3] rfl (by kernel_rfl) (by kernel_rfl) (by kernel_rfl) (by kernel_rfl) (fun _ _ _ h => h) (Or.inl ⟨by rfl, ?_⟩) (by assumption) ?_
  rotate_left
  focus (intro w hSw; (try dsimp only at hSw); obtain ⟨h1, h2⟩ := hSw; obtain ⟨x0, x1, x2, xf⟩ := cells3 h1; obtain ⟨c0, c1, c2, c3', c4, c5, c6, c7, c8, cf⟩ := cells9 h2; (try simp only [List.getElem_toArray]); (try simp only [List.getElem_cons_succ]); (try simp only [List.getElem_cons_zero]); go_simp; (try with_reducible rfl); done)
  (try simp only [List.getElem_toArray]); (try simp only [List.getElem_cons_succ]); (try simp only [List.getElem_cons_zero]); (try simp only [Act.put]); (try simp only [List.setIfInBounds_toArray]); (try simp only [List.set_cons_succ]); (try simp only [List.set_cons_zero])
  refine wpAnyE_take (i := 3) (v := ?_) [8,6,5,4] rfl (by kernel_rfl) (by kernel_rfl) (by kernel_rfl) (by kernel_rfl) (fun _ _ _ h => h) (Or.inl ⟨by rfl, ?_⟩) (by assumption) ?_
  rotate_left
  focus (intro w hSw; (try dsimp only at hSw); obtain ⟨h1, h2⟩ := hSw; obtain ⟨x0, x1, x2, xf⟩ := cells3 h1; obtain ⟨c0, c1, c2, c3', c4, c5, c6, c7, c8, cf⟩ := cells9 h2; (try simp only [List.getElem_toArray]); (try simp only [List.getElem_cons_succ]); (try simp only [List.getElem_cons_zero]); go_simp; (try with_reducible rfl); done)
  (try simp only [List.getElem_toArray]); (try simp only [List.getElem_cons_succ]); (try simp only [List.getElem_cons_zero]); (try simp only [Act.put]); (try simp only [List.setIfInBounds_toArray]); (try simp only [List.set_cons_succ]); (try simp only [List.set_cons_zero])
  refine wpAnyE_one (i := 4) (by kernel_rfl) rfl rfl (fun Kq hKq => ?_)
  go_simp
  refine (ref_word16 t.a2 HO.out.h2 _).mono ?_
  rintro r v3 ⟨P3, q3, r3, rfl, hw3, hb3⟩
  have HW3 : Hid (RdT v3 (fun g => w2.heap.size ≤ g) (wordT t.a2) (.bool false) (.slice P3 q3 r3) (.slice none 0 0)) := Go.Lib.hid hw3
  have HV3 := Go.Lib.hid (btr (bdr (Below.refl _ _)) hb3)
  clear hw3 hb3
  go_wp2_with fail
  refine hKq.out _ _ ((HF2.out.sr HTB.out HTL.out).below HV3.out) (fun hHeld => ?_)
  clear hKq Kq
  (try simp only [List.getElem_toArray]); (try simp only [List.getElem_cons_succ]); (try simp only [List.getElem_cons_zero]); (try simp only [Act.put]); (try simp only [List.setIfInBounds_toArray]); (try simp only [List.set_cons_succ]); (try simp only [List.set_cons_zero])
  refine wpAnyE_one (i := 5) (by kernel_rfl) rfl rfl (fun Kq hKq => ?_)
  go_simp
  refine hKq.out _ _ (((HF2.out.sr HTB.out HTL.out).below HV3.out).below (bal (Below.refl _ _) _)) (fun hHeld => ?_)
  clear hKq Kq
  (try simp only [List.getElem_toArray]); (try simp only [List.getElem_cons_succ]); (try simp only [List.getElem_cons_zero]); (try simp only [Act.put]); (try simp only [List.setIfInBounds_toArray]); (try simp only [List.set_cons_succ]); (try simp only [List.set_cons_zero])
  refine wpAnyE_one (i := 6) (by kernel_rfl) rfl rfl (fun Kq hKq => ?_)
  refine step_append_o _ (by rfl) (.tmp 25) (.tmp 29) 42 (by rfl) 45 ii0 item0 3 56 Try.underlying42 hii hiz0 hiz1 hiz2 (by rfl) (by decide) (w.heap.size + 1 + 1) A2 2 c2 cs2 (by rfl) ((HF2.out.own.below HV3.out).alloc _) (some ⟨v3.heap.size, 0, none⟩) 1 1 [.bool false, .slice P3 q3 r3, .slice none 0 0] (by rfl) (by rfl) (rd_new _ _ _) HW3.out.one (by omega) (by unfold maxLen; omega) (by have := HF2.out.lt; have := HV3.out.size; simp; omega) ?_
  intro A3 c3 u3 hown3 hk3 hl3
  have HOW3 := Go.Lib.hid hown3
  have HKP3 := Go.Lib.hid hk3
  have HLI3 := Go.Lib.hid hl3
  have hsr3 := (((HF2.out.sr HTB.out HTL.out).below HV3.out).below (bal (Below.refl _ _) _)).kp HKP3.out (HF2.out.far HTL.out)
  clear hown3 hk3 hl3
  obtain ⟨x0, x1, x2, xf⟩ := cells3 hsr3.1
  refine hKq.out _ _ (hsr3) (fun hHeld => ?_)
  clear hKq Kq
  (try simp only [List.getElem_toArray]); (try simp only [List.getElem_cons_succ]); (try simp only [List.getElem_cons_zero]); (try simp only [Act.put]); (try simp only [List.setIfInBounds_toArray]); (try simp only [List.set_cons_succ]); (try simp only [List.set_cons_zero])
  refine wpAnyE_take (i := 7) (v := ?_) [8] rfl (by kernel_rfl) (by kernel_rfl) (by kernel_rfl) (by kernel_rfl) (fun _ _ _ h => h) (Or.inl ⟨by rfl, ?_⟩) (by assumption) ?_
  rotate_left
  focus (intro w hSw; (try dsimp only at hSw); obtain ⟨h1, h2⟩ := hSw; obtain ⟨x0, x1, x2, xf⟩ := cells3 h1; obtain ⟨c0, c1, c2, c3', c4, c5, c6, c7, c8, cf⟩ := cells9 h2; (try simp only [List.getElem_toArray]); (try simp only [List.getElem_cons_succ]); (try simp only [List.getElem_cons_zero]); go_simp; (try with_reducible rfl); done)
  (try simp only [List.getElem_toArray]); (try simp only [List.getElem_cons_succ]); (try simp only [List.getElem_cons_zero]); (try simp only [Act.put]); (try simp only [List.setIfInBounds_toArray]); (try simp only [List.set_cons_succ]); (try simp only [List.set_cons_zero])
  refine wpAnyE_last (i := 8) (by kernel_rfl) rfl rfl (fun Kq hKq => ?_)
  go_simp
  refine hKq.out _ _ ?_
  clear hKq Kq
  (try simp only [List.getElem_toArray]); (try simp only [List.getElem_cons_succ]); (try simp only [List.getElem_cons_zero]); (try simp only [Act.put]); (try simp only [List.setIfInBounds_toArray]); (try simp only [List.set_cons_succ]); (try simp only [List.set_cons_zero])
  refine wpAnyE_done (by kernel_rfl) ?_ _
  obtain ⟨w3, hww3⟩ : ∃ x, x = World.setCell u3 ⟨w.heap.size + 1, 2, none⟩ (.slice A3 3 c3) := ⟨_, rfl⟩
  have hf3 := fr_put HF2.out HV3.out HW3.out HOW3.out HKP3.out HLI3.out
  rw [← hww3] at hf3 ⊢
  obtain ⟨cs3, hcs3⟩ : ∃ x : List Value, x = cs2 ++ [.bool false, .slice P3 q3 r3, .slice none 0 0] := ⟨_, rfl⟩
  rw [← hcs3] at hf3
  have HF3 := Go.Lib.hid hf3
  clear hf3 hww3 hcs3 hsr3 x0 x1 x2 xf HOW3 HKP3 HLI3 HW3 HV3 HF2
  repeat (clear hHeld)
  go_wp2_with fail
  refine wp_region_E 8 (SR (w.heap.size + 1) w.heap.size A3 3 c3 (.int .u64 (t.a0 : Int)) (.int .u64 (t.a1 : Int)) (.int .u64 (t.a2 : Int)) (.int .u64 (t.a3 : Int)) (.int .u64 (t.a4 : Int)) (.int .u64 (t.a5 : Int)) (.slice AI m d) (.bool t.mak) (.slice BC k c)) (by kernel_rfl) (HF3.out.sr HTB.out HTL.out) (fun hHeld => ?_)
  change wpAnyE _ _ _ _ _ _ 9 (List.toArray [false, false, false, false, false, false, false, false, false]) _ _
  refine wpAnyE_take (i := 0) (v := ?_) [8,6,1] rfl (by kernel_rfl) (by kernel_rfl) (by kernel_rfl) (by kernel_rfl) (fun _ _ _ h => h) (Or.inl ⟨by rfl, ?_⟩) (by assumption) ?_
  rotate_left
  focus (intro w hSw; (try dsimp only at hSw); obtain ⟨h1, h2⟩ := hSw; obtain ⟨x0, x1, x2, xf⟩ := cells3 h1; obtain ⟨c0, c1, c2, c3', c4, c5, c6, c7, c8, cf⟩ := cells9 h2; (try simp only [List.getElem_toArray]); (try simp only [List.getElem_cons_succ]); (try simp only [List.getElem_cons_zero]); go_simp; (try with_reducible rfl); done)
  (try simp only [List.getElem_toArray]); (try simp only [List.getElem_cons_succ]); (try simp only [List.getElem_cons_zero]); (try simp only [Act.put]); (try simp only [List.setIfInBounds_toArray]); (try simp only [List.set_cons_succ]); (try simp only [List.set_cons_zero])
  refine wpAnyE_take (i := 1) (v := ?_) [8,6] rfl (by kernel_rfl) (by kernel_rfl) (by kernel_rfl) (by kernel_rfl) (fun _ _ _ h => h) (Or.inl ⟨by rfl, ?_⟩) (by assumption) ?_
  rotate_left
  focus (intro w hSw; (try dsimp only at hSw); obtain ⟨h1, h2⟩ := hSw; obtain ⟨x0, x1, x2, xf⟩ := cells3 h1; obtain ⟨c0, c1, c2, c3', c4, c5, c6, c7, c8, cf⟩ := cells9 h2; (try simp only [List.getElem_toArray]); (try simp only [List.getElem_cons_succ]); (try simp only [List.getElem_cons_zero]); go_simp; (try with_reducible rfl); done)
  (try simp only [List.getElem_toArray]); (try simp only [List.getElem_cons_succ]); (try simp only [List.getElem_cons_zero]); (try simp only [Act.put]); (try simp only [List.setIfInBounds_toArray]); (try simp only [List.set_cons_succ]); (try simp only [List.set_cons_zero])
  refine wpAnyE_take (i := 2) (v := ?_) [8,6,5,4,3] rfl (by kernel_rfl) (by kernel_rfl) (by kernel_rfl) (by kernel_rfl) (fun _ _ _ h => h) (Or.inl ⟨by rfl, ?_⟩) (by assumption) ?_
  rotate_left
  focus (intro w hSw; (try dsimp only at hSw); obtain ⟨h1, h2⟩ := hSw; obtain ⟨x0, x1, x2, xf⟩ := cells3 h1; obtain ⟨c0, c1, c2, c3', c4, c5, c6, c7, c8, cf⟩ := cells9 h2; (try simp only [List.getElem_toArray]); (try simp only [List.getElem_cons_succ]); (try simp only [List.getElem_cons_zero]); go_simp; (try with_reducible rfl); done)
  (try simp only [List.getElem_toArray]); (try simp only [List.getElem_cons_succ]); (try simp only [List.getElem_cons_zero]); (try simp only [Act.put]); (try simp only [List.setIfInBounds_toArray]); (try simp only [List.set_cons_succ]); (try simp only [List.set_cons_zero])
  refine wpAnyE_take (i := 3) (v := ?_) [8,6,5,4] rfl (by kernel_rfl) (by kernel_rfl) (by kernel_rfl) (by kernel_rfl) (fun _ _ _ h => h) (Or.inl ⟨by rfl, ?_⟩) (by assumption) ?_
  rotate_left
  focus (intro w hSw; (try dsimp only at hSw); obtain ⟨h1, h2⟩ := hSw; obtain ⟨x0, x1, x2, xf⟩ := cells3 h1; obtain ⟨c0, c1, c2, c3', c4, c5, c6, c7, c8, cf⟩ := cells9 h2; (try simp only [List.getElem_toArray]); (try simp only [List.getElem_cons_succ]); (try simp only [List.getElem_cons_zero]); go_simp; (try with_reducible rfl); done)
  (try simp only [List.getElem_toArray]); (try simp only [List.getElem_cons_succ]); (try simp only [List.getElem_cons_zero]); (try simp only [Act.put]); (try simp only [List.setIfInBounds_toArray]); (try simp only [List.set_cons_succ]); (try simp only [List.set_cons_zero])
  refine wpAnyE_one (i := 4) (by kernel_rfl) rfl rfl (fun Kq hKq => ?_)
  go_simp
  refine (ref_word16 t.a3 HO.out.h3 _).mono ?_
  rintro r v4 ⟨P4, q4, r4, rfl, hw4, hb4⟩
  have HW4 : Hid (RdT v4 (fun g => w3.heap.size ≤ g) (wordT t.a3) (.bool false) (.slice P4 q4 r4) (.slice none 0 0)) := Go.Lib.hid hw4
  have HV4 := Go.Lib.hid (btr (bdr (Below.refl _ _)) hb4)
  clear hw4 hb4
  go_wp2_with fail
  refine hKq.out _ _ ((HF3.out.sr HTB.out HTL.out).below HV4.out) (fun hHeld => ?_)
  clear hKq Kq
  (try simp only [List.getElem_toArray]); (try simp only [List.getElem_cons_succ]); (try simp only [List.getElem_cons_zero]); (try simp only [Act.put]); (try simp only [List.setIfInBounds_toArray]); (try simp only [List.set_cons_succ]); (try simp only [List.set_cons_zero])
  refine wpAnyE_one (i := 5) (by kernel_rfl) rfl rfl (fun Kq hKq => ?_)
  go_simp
  refine hKq.out _ _ (((HF3.out.sr HTB.out HTL.out).below HV4.out).below (bal (Below.refl _ _) _)) (fun hHeld => ?_)
  clear hKq Kq
  (try simp only [List.getElem_toArray]); (try simp only [List.getElem_cons_succ]); (try simp only [List.getElem_cons_zero]); (try simp only [Act.put]); (try simp only [List.setIfInBounds_toArray]); (try simp only [List.set_cons_succ]); (try simp only [List.set_cons_zero])
  refine wpAnyE_one (i := 6) (by kernel_rfl) rfl rfl (fun Kq hKq => ?_)
  refine step_append_o _ (by rfl) (.tmp 33) (.tmp 37) 42 (by rfl) 45 ii0 item0 3 56 Try.underlying42 hii hiz0 hiz1 hiz2 (by rfl) (by decide) (w.heap.size + 1 + 1) A3 3 c3 cs3 (by rfl) ((HF3.out.own.below HV4.out).alloc _) (some ⟨v4.heap.size, 0, none⟩) 1 1 [.bool false, .slice P4 q4 r4, .slice none 0 0] (by rfl) (by rfl) (rd_new _ _ _) HW4.out.one (by omega) (by unfold maxLen; omega) (by have := HF3.out.lt; have := HV4.out.size; simp; omega) ?_
  intro A4 c4 u4 hown4 hk4 hl4
  have HOW4 := Go.Lib.hid hown4
  have HKP4 := Go.Lib.hid hk4
  have HLI4 := Go.Lib.hid hl4
  have hsr4 := (((HF3.out.sr HTB.out HTL.out).below HV4.out).below (bal (Below.refl _ _) _)).kp HKP4.out (HF3.out.far HTL.out)
  clear hown4 hk4 hl4
  obtain ⟨x0, x1, x2, xf⟩ := cells3 hsr4.1
  refine hKq.out _ _ (hsr4) (fun hHeld => ?_)
  clear hKq Kq
  (try simp only [List.getElem_toArray]); (try simp only [List.getElem_cons_succ]); (try simp only [List.getElem_cons_zero]); (try simp only [Act.put]); (try simp only [List.setIfInBounds_toArray]); (try simp only [List.set_cons_succ]); (try simp only [List.set_cons_zero])
  refine wpAnyE_take (i := 7) (v := ?_) [8] rfl (by kernel_rfl) (by kernel_rfl) (by kernel_rfl) (by kernel_rfl) (fun _ _ _ h => h) (Or.inl ⟨by rfl, ?_⟩) (by assumption) ?_
  rotate_left
  focus (intro w hSw; (try dsimp only at hSw); obtain ⟨h1, h2⟩ := hSw; obtain ⟨x0, x1, x2, xf⟩ := cells3 h1; obtain ⟨c0, c1, c2, c3', c4, c5, c6, c7, c8, cf⟩ := cells9 h2; (try simp only [List.getElem_toArray]); (try simp only [List.getElem_cons_succ]); (try simp only [List.getElem_cons_zero]); go_simp; (try with_reducible rfl); done)
  (try simp only [List.getElem_toArray]); (try simp only [List.getElem_cons_succ]); (try simp only [List.getElem_cons_zero]); (try simp only [Act.put]); (try simp only [List.setIfInBounds_toArray]); (try simp only [List.set_cons_succ]); (try simp only [List.set_cons_zero])
  refine wpAnyE_last (i := 8) (by kernel_rfl) rfl rfl (fun Kq hKq => ?_)
  go_simp
  refine hKq.out _ _ ?_
  clear hKq Kq
  (try simp only [List.getElem_toArray]); (try simp only [List.getElem_cons_succ]); (try simp only [List.getElem_cons_zero]); (try simp only [Act.put]); (try simp only [List.setIfInBounds_toArray]); (try simp only [List.set_cons_succ]); (try simp only [List.set_cons_zero])
  refine wpAnyE_done (by kernel_rfl) ?_ _
  obtain ⟨w4, hww4⟩ : ∃ x, x = World.setCell u4 ⟨w.heap.size + 1, 2, none⟩ (.slice A4 4 c4) := ⟨_, rfl⟩
  have hf4 := fr_put HF3.out HV4.out HW4.out HOW4.out HKP4.out HLI4.out
  rw [← hww4] at hf4 ⊢
  obtain ⟨cs4, hcs4⟩ : ∃ x : List Value, x = cs3 ++ [.bool false, .slice P4 q4 r4, .slice none 0 0] := ⟨_, rfl⟩
  rw [← hcs4] at hf4
  have HF4 := Go.Lib.hid hf4
  clear hf4 hww4 hcs4 hsr4 x0 x1 x2 xf HOW4 HKP4 HLI4 HW4 HV4 HF3
  repeat (clear hHeld)
  go_wp2_with fail
  refine wp_region_E 8 (SR (w.heap.size + 1) w.heap.size A4 4 c4 (.int .u64 (t.a0 : Int)) (.int .u64 (t.a1 : Int)) (.int .u64 (t.a2 : Int)) (.int .u64 (t.a3 : Int)) (.int .u64 (t.a4 : Int)) (.int .u64 (t.a5 : Int)) (.slice AI m d) (.bool t.mak) (.slice BC k c)) (by kernel_rfl) (HF4.out.sr HTB.out HTL.out) (fun hHeld => ?_)
  change wpAnyE _ _ _ _ _ _ 9 (List.toArray [false, false, false, false, false, false, false, false, false]) _ _
  refine wpAnyE_take (i := 0) (v := ?_) [8,6,1] rfl (by kernel_rfl) (by kernel_rfl) (by kernel_rfl) (by kernel_rfl) (fun _ _ _ h => h) (Or.inl ⟨by rfl, ?_⟩) (by assumption) ?_
  rotate_left
  focus (intro w hSw; (try dsimp only at hSw); obtain ⟨h1, h2⟩ := hSw; obtain ⟨x0, x1, x2, xf⟩ := cells3 h1; obtain ⟨c0, c1, c2, c3', c4, c5, c6, c7, c8, cf⟩ := cells9 h2; (try simp only [List.getElem_toArray]); (try simp only [List.getElem_cons_succ]); (try simp only [List.getElem_cons_zero]); go_simp; (try with_reducible rfl); done)
  (try simp only [List.getElem_toArray]); (try simp only [List.getElem_cons_succ]); (try simp only [List.getElem_cons_zero]); (try simp only [Act.put]); (try simp only [List.setIfInBounds_toArray]); (try simp only [List.set_cons_succ]); (try simp only [List.set_cons_zero])
  refine wpAnyE_take (i := 1) (v := ?_) [8,6] rfl (by kernel_rfl) (by kernel_rfl) (by kernel_rfl) (by kernel_rfl) (fun _ _ _ h => h) (Or.inl ⟨by rfl, ?_⟩) (by assumption) ?_
  rotate_left
  focus (intro w hSw; (try dsimp only at hSw); obtain ⟨h1, h2⟩ := hSw; obtain ⟨x0, x1, x2, xf⟩ := cells3 h1; obtain ⟨c0, c1, c2, c3', c4, c5, c6, c7, c8, cf⟩ := cells9 h2; (try simp only [List.getElem_toArray]); (try simp only [List.getElem_cons_succ]); (try simp only [List.getElem_cons_zero]); go_simp; (try with_reducible rfl); done)
  (try simp only [List.getElem_toArray]); (try simp only [List.getElem_cons_succ]); (try simp only [List.getElem_cons_zero]); (try simp only [Act.put]); (try simp only [List.setIfInBounds_toArray]); (try simp only [List.set_cons_succ]); (try simp only [List.set_cons_zero])
  refine wpAnyE_take (i := 2) (v := ?_) [8,6,5,4,3] rfl (by kernel_rfl) (by kernel_rfl) (by kernel_rfl) (by kernel_rfl) (fun _ _ _ h => h) (Or.inl ⟨by rfl, ?_⟩) (by assumption) ?_
  rotate_left
  focus (intro w hSw; (try dsimp only at hSw); obtain ⟨h1, h2⟩ := hSw; obtain ⟨x0, x1, x2, xf⟩ := cells3 h1; obtain ⟨c0, c1, c2, c3', c4, c5, c6, c7, c8, cf⟩ := cells9 h2; (try simp only [List.getElem_toArray]); (try simp only [List.getElem_cons_succ]); (try simp only [List.getElem_cons_zero]); go_simp; (try with_reducible rfl); done)
  (try simp only [List.getElem_toArray]); (try simp only [List.getElem_cons_succ]); (try simp only [List.getElem_cons_zero]); (try simp only [Act.put]); (try simp only [List.setIfInBounds_toArray]); (try simp only [List.set_cons_succ]); (try simp only [List.set_cons_zero])
  refine wpAnyE_take (i := 3) (v := ?_) [8,6,5,4] rfl (by kernel_rfl) (by kernel_rfl) (by kernel_rfl) (by kernel_rfl) (fun _ _ _ h => h) (Or.inl ⟨by rfl, ?_⟩) (by assumption) ?_
  rotate_left
  focus (intro w hSw; (try dsimp only at hSw); obtain ⟨h1, h2⟩ := hSw; obtain ⟨x0, x1, x2, xf⟩ := cells3 h1; obtain ⟨c0, c1, c2, c3', c4, c5, c6, c7, c8, cf⟩ := cells9 h2; (try simp only [List.getElem_toArray]); (try simp only [List.getElem_cons_succ]); (try simp only [List.getElem_cons_zero]); go_simp; (try with_reducible rfl); done)
  (try simp only [List.getElem_toArray]); (try simp only [List.getElem_cons_succ]); (try simp only [List.getElem_cons_zero]); (try simp only [Act.put]); (try simp only [List.setIfInBounds_toArray]); (try simp only [List.set_cons_succ]); (try simp only [List.set_cons_zero])
  refine wpAnyE_one (i := 4) (by kernel_rfl) rfl rfl (fun Kq hKq => ?_)
  go_simp
  refine (ref_word16 t.a4 HO.out.h4 _).mono ?_
  rintro r v5 ⟨P5, q5, r5, rfl, hw5, hb5⟩
  have HW5 : Hid (RdT v5 (fun g => w4.heap.size ≤ g) (wordT t.a4) (.bool false) (.slice P5 q5 r5) (.slice none 0 0)) := Go.Lib.hid hw5
  have HV5 := Go.Lib.hid (btr (bdr (Below.refl _ _)) hb5)
  clear hw5 hb5
  go_wp2_with fail
  refine hKq.out _ _ ((HF4.out.sr HTB.out HTL.out).below HV5.out) (fun hHeld => ?_)
  clear hKq Kq
  (try simp only [List.getElem_toArray]); (try simp only [List.getElem_cons_succ]); (try simp only [List.getElem_cons_zero]); (try simp only [Act.put]); (try simp only [List.setIfInBounds_toArray]); (try simp only [List.set_cons_succ]); (try simp only [List.set_cons_zero])
  refine wpAnyE_one (i := 5) (by kernel_rfl) rfl rfl (fun Kq hKq => ?_)
  go_simp
  refine hKq.out _ _ (((HF4.out.sr HTB.out HTL.out).below HV5.out).below (bal (Below.refl _ _) _)) (fun hHeld => ?_)
  clear hKq Kq
  (try simp only [List.getElem_toArray]); (try simp only [List.getElem_cons_succ]); (try simp only [List.getElem_cons_zero]); (try simp only [Act.put]); (try simp only [List.setIfInBounds_toArray]); (try simp only [List.set_cons_succ]); (try simp only [List.set_cons_zero])
  refine wpAnyE_one (i := 6) (by kernel_rfl) rfl rfl (fun Kq hKq => ?_)
  refine step_append_o _ (by rfl) (.tmp 41) (.tmp 45) 42 (by rfl) 45 ii0 item0 3 56 Try.underlying42 hii hiz0 hiz1 hiz2 (by rfl) (by decide) (w.heap.size + 1 + 1) A4 4 c4 cs4 (by rfl) ((HF4.out.own.below HV5.out).alloc _) (some ⟨v5.heap.size, 0, none⟩) 1 1 [.bool false, .slice P5 q5 r5, .slice none 0 0] (by rfl) (by rfl) (rd_new _ _ _) HW5.out.one (by omega) (by unfold maxLen; omega) (by have := HF4.out.lt; have := HV5.out.size; simp; omega) ?_
  intro A5 c5 u5 hown5 hk5 hl5
  have HOW5 := Go.Lib.hid hown5
  have HKP5 := Go.Lib.hid hk5
  have HLI5 := Go.Lib.hid hl5
  have hsr5 := (((HF4.out.sr HTB.out HTL.out).below HV5.out).below (bal (Below.refl _ _) _)).kp HKP5.out (HF4.out.far HTL.out)
  clear hown5 hk5 hl5
  obtain ⟨x0, x1, x2, xf⟩ := cells3 hsr5.1
  refine hKq.out _ _ (hsr5) (fun hHeld => ?_)
  clear hKq Kq
  (try simp only [List.getElem_toArray]); (try simp only [List.getElem_cons_succ]); (try simp only [List.getElem_cons_zero]); (try simp only [Act.put]); (try simp only [List.setIfInBounds_toArray]); (try simp only [List.set_cons_succ]); (try simp only [List.set_cons_zero])
  refine wpAnyE_take (i := 7) (v := ?_) [8] rfl (by kernel_rfl) (by kernel_rfl) (by kernel_rfl) (by kernel_rfl) (fun _ _ _ h => h) (Or.inl ⟨by rfl, ?_⟩) (by assumption) ?_
  rotate_left
  focus (intro w hSw; (try dsimp only at hSw); obtain ⟨h1, h2⟩ := hSw; obtain ⟨x0, x1, x2, xf⟩ := cells3 h1; obtain ⟨c0, c1, c2, c3', c4, c5, c6, c7, c8, cf⟩ := cells9 h2; (try simp only [List.getElem_toArray]); (try simp only [List.getElem_cons_succ]); (try simp only [List.getElem_cons_zero]); go_simp; (try with_reducible rfl); done)
  (try simp only [List.getElem_toArray]); (try simp only [List.getElem_cons_succ]); (try simp only [List.getElem_cons_zero]); (try simp only [Act.put]); (try simp only [List.setIfInBounds_toArray]); (try simp only [List.set_cons_succ]); (try simp only [List.set_cons_zero])
  refine wpAnyE_last (i := 8) (by kernel_rfl) rfl rfl (fun Kq hKq => ?_)
  go_simp
  refine hKq.out _ _ ?_
  clear hKq Kq
  (try simp only [List.getElem_toArray]); (try simp only [List.getElem_cons_succ]); (try simp only [List.getElem_cons_zero]); (try simp only [Act.put]); (try simp only [List.setIfInBounds_toArray]); (try simp only [List.set_cons_succ]); (try simp only [List.set_cons_zero])
  refine wpAnyE_done (by kernel_rfl) ?_ _
  obtain ⟨w5, hww5⟩ : ∃ x, x = World.setCell u5 ⟨w.heap.size + 1, 2, none⟩ (.slice A5 5 c5) := ⟨_, rfl⟩
  have hf5 := fr_put HF4.out HV5.out HW5.out HOW5.out HKP5.out HLI5.out
  rw [← hww5] at hf5 ⊢
  obtain ⟨cs5, hcs5⟩ : ∃ x : List Value, x = cs4 ++ [.bool false, .slice P5 q5 r5, .slice none 0 0] := ⟨_, rfl⟩
  rw [← hcs5] at hf5
  have HF5 := Go.Lib.hid hf5
  clear hf5 hww5 hcs5 hsr5 x0 x1 x2 xf HOW5 HKP5 HLI5 HW5 HV5 HF4
  repeat (clear hHeld)
  go_wp2_with fail
  refine wp_region_E 8 (SR (w.heap.size + 1) w.heap.size A5 5 c5 (.int .u64 (t.a0 : Int)) (.int .u64 (t.a1 : Int)) (.int .u64 (t.a2 : Int)) (.int .u64 (t.a3 : Int)) (.int .u64 (t.a4 : Int)) (.int .u64 (t.a5 : Int)) (.slice AI m d) (.bool t.mak) (.slice BC k c)) (by kernel_rfl) (HF5.out.sr HTB.out HTL.out) (fun hHeld => ?_)
  change wpAnyE _ _ _ _ _ _ 9 (List.toArray [false, false, false, false, false, false, false, false, false]) _ _
  refine wpAnyE_take (i := 0) (v := ?_) [8,6,1] rfl (by kernel_rfl) (by kernel_rfl) (by kernel_rfl) (by kernel_rfl) (fun _ _ _ h => h) (Or.inl ⟨by rfl, ?_⟩) (by assumption) ?_
  rotate_left
  focus (intro w hSw; (try dsimp only at hSw); obtain ⟨h1, h2⟩ := hSw; obtain ⟨x0, x1, x2, xf⟩ := cells3 h1; obtain ⟨c0, c1, c2, c3', c4, c5, c6, c7, c8, cf⟩ := cells9 h2; (try simp only [List.getElem_toArray]); (try simp only [List.getElem_cons_succ]); (try simp only [List.getElem_cons_zero]); go_simp; (try with_reducible rfl); done)
  (try simp only [List.getElem_toArray]); (try simp only [List.getElem_cons_succ]); (try simp only [List.getElem_cons_zero]); (try simp only [Act.put]); (try simp only [List.setIfInBounds_toArray]); (try simp only [List.set_cons_succ]); (try simp only [List.set_cons_zero])
  refine wpAnyE_take (i := 1) (v := ?_) [8,6] rfl (by kernel_rfl) (by kernel_rfl) (by kernel_rfl) (by kernel_rfl) (fun _ _ _ h => h) (Or.inl ⟨by rfl, ?_⟩) (by assumption) ?_
  rotate_left
  focus (intro w hSw; (try dsimp only at hSw); obtain ⟨h1, h2⟩ := hSw; obtain ⟨x0, x1, x2, xf⟩ := cells3 h1; obtain ⟨c0, c1, c2, c3', c4, c5, c6, c7, c8, cf⟩ := cells9 h2; (try simp only [List.getElem_toArray]); (try simp only [List.getElem_cons_succ]); (try simp only [List.getElem_cons_zero]); go_simp; (try with_reducible rfl); done)
  (try simp only [List.getElem_toArray]); (try simp only [List.getElem_cons_succ]); (try simp only [List.getElem_cons_zero]); (try simp only [Act.put]); (try simp only [List.setIfInBounds_toArray]); (try simp only [List.set_cons_succ]); (try simp only [List.set_cons_zero])
  refine wpAnyE_take (i := 2) (v := ?_) [8,6,5,4,3] rfl (by kernel_rfl) (by kernel_rfl) (by kernel_rfl) (by kernel_rfl) (fun _ _ _ h => h) (Or.inl ⟨by rfl, ?_⟩) (by assumption) ?_
  rotate_left
  focus (intro w hSw; (try dsimp only at hSw); obtain ⟨h1, h2⟩ := hSw; obtain ⟨x0, x1, x2, xf⟩ := cells3 h1; obtain ⟨c0, c1, c2, c3', c4, c5, c6, c7, c8, cf⟩ := cells9 h2; (try simp only [List.getElem_toArray]); (try simp only [List.getElem_cons_succ]); (try simp only [List.getElem_cons_zero]); go_simp; (try with_reducible rfl); done)
  (try simp only [List.getElem_toArray]); (try simp only [List.getElem_cons_succ]); (try simp only [List.getElem_cons_zero]); (try simp only [Act.put]); (try simp only [List.setIfInBounds_toArray]); (try simp only [List.set_cons_succ]); (try simp only [List.set_cons_zero])
  refine wpAnyE_take (i := 3) (v := ?_) [8,6,5,4] rfl (by kernel_rfl) (by kernel_rfl) (by kernel_rfl) (by kernel_rfl) (fun _ _ _ h => h) (Or.inl ⟨by rfl, ?_⟩) (by assumption) ?_
  rotate_left
  focus (intro w hSw; (try dsimp only at hSw); obtain ⟨h1, h2⟩ := hSw; obtain ⟨x0, x1, x2, xf⟩ := cells3 h1; obtain ⟨c0, c1, c2, c3', c4, c5, c6, c7, c8, cf⟩ := cells9 h2; (try simp only [List.getElem_toArray]); (try simp only [List.getElem_cons_succ]); (try simp only [List.getElem_cons_zero]); go_simp; (try with_reducible rfl); done)
  (try simp only [List.getElem_toArray]); (try simp only [List.getElem_cons_succ]); (try simp only [List.getElem_cons_zero]); (try simp only [Act.put]); (try simp only [List.setIfInBounds_toArray]); (try simp only [List.set_cons_succ]); (try simp only [List.set_cons_zero])
  refine wpAnyE_one (i := 4) (by kernel_rfl) rfl rfl (fun Kq hKq => ?_)
  go_simp
  refine (ref_word16 t.a5 HO.out.h5 _).mono ?_
  rintro r v6 ⟨P6, q6, r6, rfl, hw6, hb6⟩
  have HW6 : Hid (RdT v6 (fun g => w5.heap.size ≤ g) (wordT t.a5) (.bool false) (.slice P6 q6 r6) (.slice none 0 0)) := Go.Lib.hid hw6
  have HV6 := Go.Lib.hid (btr (bdr (Below.refl _ _)) hb6)
  clear hw6 hb6
  go_wp2_with fail
  refine hKq.out _ _ ((HF5.out.sr HTB.out HTL.out).below HV6.out) (fun hHeld => ?_)
  clear hKq Kq
  (try simp only [List.getElem_toArray]); (try simp only [List.getElem_cons_succ]); (try simp only [List.getElem_cons_zero]); (try simp only [Act.put]); (try simp only [List.setIfInBounds_toArray]); (try simp only [List.set_cons_succ]); (try simp only [List.set_cons_zero])
  refine wpAnyE_one (i := 5) (by kernel_rfl) rfl rfl (fun Kq hKq => ?_)
  go_simp
  refine hKq.out _ _ (((HF5.out.sr HTB.out HTL.out).below HV6.out).below (bal (Below.refl _ _) _)) (fun hHeld => ?_)
  clear hKq Kq
  (try simp only [List.getElem_toArray]); (try simp only [List.getElem_cons_succ]); (try simp only [List.getElem_cons_zero]); (try simp only [Act.put]); (try simp only [List.setIfInBounds_toArray]); (try simp only [List.set_cons_succ]); (try simp only [List.set_cons_zero])
  refine wpAnyE_one (i := 6) (by kernel_rfl) rfl rfl (fun Kq hKq => ?_)
  refine step_append_o _ (by rfl) (.tmp 49) (.tmp 53) 42 (by rfl) 45 ii0 item0 3 56 Try.underlying42 hii hiz0 hiz1 hiz2 (by rfl) (by decide) (w.heap.size + 1 + 1) A5 5 c5 cs5 (by rfl) ((HF5.out.own.below HV6.out).alloc _) (some ⟨v6.heap.size, 0, none⟩) 1 1 [.bool false, .slice P6 q6 r6, .slice none 0 0] (by rfl) (by rfl) (rd_new _ _ _) HW6.out.one (by omega) (by unfold maxLen; omega) (by have := HF5.out.lt; have := HV6.out.size; simp; omega) ?_
  intro A6 c6 u6 hown6 hk6 hl6
  have HOW6 := Go.Lib.hid hown6
  have HKP6 := Go.Lib.hid hk6
  have HLI6 := Go.Lib.hid hl6
  have hsr6 := (((HF5.out.sr HTB.out HTL.out).below HV6.out).below (bal (Below.refl _ _) _)).kp HKP6.out (HF5.out.far HTL.out)
  clear hown6 hk6 hl6
  obtain ⟨x0, x1, x2, xf⟩ := cells3 hsr6.1
  refine hKq.out _ _ (hsr6) (fun hHeld => ?_)
  clear hKq Kq
  (try simp only [List.getElem_toArray]); (try simp only [List.getElem_cons_succ]); (try simp only [List.getElem_cons_zero]); (try simp only [Act.put]); (try simp only [List.setIfInBounds_toArray]); (try simp only [List.set_cons_succ]); (try simp only [List.set_cons_zero])
  refine wpAnyE_take (i := 7) (v := ?_) [8] rfl (by kernel_rfl) (by kernel_rfl) (by kernel_rfl) (by kernel_rfl) (fun _ _ _ h => h) (Or.inl ⟨by rfl, ?_⟩) (by assumption) ?_
  rotate_left
  focus (intro w hSw; (try dsimp only at hSw); obtain ⟨h1, h2⟩ := hSw; obtain ⟨x0, x1, x2, xf⟩ := cells3 h1; obtain ⟨c0, c1, c2, c3', c4, c5, c6, c7, c8, cf⟩ := cells9 h2; (try simp only [List.getElem_toArray]); (try simp only [List.getElem_cons_succ]); (try simp only [List.getElem_cons_zero]); go_simp; (try with_reducible rfl); done)
  (try simp only [List.getElem_toArray]); (try simp only [List.getElem_cons_succ]); (try simp only [List.getElem_cons_zero]); (try simp only [Act.put]); (try simp only [List.setIfInBounds_toArray]); (try simp only [List.set_cons_succ]); (try simp only [List.set_cons_zero])
  refine wpAnyE_last (i := 8) (by kernel_rfl) rfl rfl (fun Kq hKq => ?_)
  go_simp
  refine hKq.out _ _ ?_
  clear hKq Kq
  (try simp only [List.getElem_toArray]); (try simp only [List.getElem_cons_succ]); (try simp only [List.getElem_cons_zero]); (try simp only [Act.put]); (try simp only [List.setIfInBounds_toArray]); (try simp only [List.set_cons_succ]); (try simp only [List.set_cons_zero])
  refine wpAnyE_done (by kernel_rfl) ?_ _
  obtain ⟨w6, hww6⟩ : ∃ x, x = World.setCell u6 ⟨w.heap.size + 1, 2, none⟩ (.slice A6 6 c6) := ⟨_, rfl⟩
  have hf6 := fr_put HF5.out HV6.out HW6.out HOW6.out HKP6.out HLI6.out
  rw [← hww6] at hf6 ⊢
  obtain ⟨cs6, hcs6⟩ : ∃ x : List Value, x = cs5 ++ [.bool false, .slice P6 q6 r6, .slice none 0 0] := ⟨_, rfl⟩
  rw [← hcs6] at hf6
  have HF6 := Go.Lib.hid hf6
  clear hf6 hww6 hcs6 hsr6 x0 x1 x2 xf HOW6 HKP6 HLI6 HW6 HV6 HF5
  repeat (clear hHeld)
  go_wp2_with fail
  have hf6 : Fr wx (w.heap.size + 1) w6 A6 6 c6 cs6 [wordT t.a0, wordT t.a1, wordT t.a2, wordT t.a3, wordT t.a4, wordT t.a5] := HF6.out
  have HG6 := Go.Lib.hid hf6
  have HLT6 : Hid (w.heap.size < w6.heap.size) := Go.Lib.hid (by have := HF6.out.lt; omega)
  have HN : Hid (∀ n ∈ t.inp, n < 18446744073709551616) := Go.Lib.hid HO.out.hi
  obtain ⟨w61, hw61⟩ : ∃ x, x = w6.alloc (.cells #[.bool true, .slice none 0 0, .slice none 0 0] 45) := ⟨_, rfl⟩
  have hq0 := fr_nil w6 w6.heap.size rfl
  rw [← hw61] at hq0 ⊢
  have HQ0 := Go.Lib.hid hq0
  clear hf6 hq0 hw61 HF6
  go_loopg [5] m (fun g i wr => ∃ (j : Nat) (A : Option Addr) (cc : Nat) (cs : List Value), i = .int .i64 j ∧ j ≤ m ∧ g = m - j ∧ Hid (Fr w6 w6.heap.size wr A j cc cs ((t.inp.take j).map wordT)))
  case atStart => exact ⟨0, none, 0, [], rfl, Nat.zero_le _, rfl, Go.Lib.hid (by simpa using HQ0.out)⟩
  case round =>
    obtain ⟨j, A, cc, cs, rfl, hj, rfl, HF⟩ := hrel
    have htw : wr.heap[w.heap.size]? = some (.cells #[.int .u64 (t.a0 : Int), .int .u64 (t.a1 : Int), .int .u64 (t.a2 : Int), .int .u64 (t.a3 : Int), .int .u64 (t.a4 : Int), .int .u64 (t.a5 : Int), .slice AI m d, .bool t.mak, .slice BC k c] 26 (0, 0)) := (HF.out.bel.block _ HLT6.out).trans ((HG6.out.bel.block _ HTL.out).trans HTB.out)
    obtain ⟨c0', c1', c2', c3', c4', c5', c6', c7', c8', cf⟩ := cells9 htw
    have HTW := Go.Lib.hid htw
    have hbw : Below w.heap.size w wr := btr (btr HBX.out (by have h := HG6.out.bel; rw [← HG6.out.at_] at h; exact h)) HF.out.bel
    have HBW := Go.Lib.hid hbw
    clear htw hbw
    by_cases hlt : j < m
    · obtain ⟨ga, off, rfl, hg, hcv⟩ := HA.out.at_ (by have := HM.out; simp; omega)
      have hcj := hcv j _ (u64s_at t.inp j (by have := HM.out; omega))
      rw [← HBW.out.cell (p := ⟨ga, off + j, none⟩) hg] at hcj
      obtain ⟨n, hn⟩ : ∃ n, n = t.inp.getD j 0 := ⟨_, rfl⟩
      rw [← hn] at hcj
      have hnw : n < 18446744073709551616 := by
        have hjl : j < t.inp.length := by have := HM.out; omega
        rw [hn]
        simp only [List.getD, List.getElem?_eq_getElem hjl, Option.getD_some]
        exact HN.out _ (List.getElem_mem _)
      have HNW := Go.Lib.hid hnw
      have HNJ := Go.Lib.hid hn
      have HCJ := Go.Lib.hid hcj
      have hgs : ga < wr.heap.size := by have := HBW.out.size; omega
      have HGS := Go.Lib.hid hgs
      have HGA : Hid (ga < w6.heap.size) := Go.Lib.hid (by have := HLT6.out; omega)
      have hji : (0 : Int) ≤ (j : Int) := by omega
      have hjm : (j : Int) < (m : Int) := by omega
      clear hcv hn hnw hcj hgs hg
      go_wp2_with fail
      refine wp_region_E 11 (SL w6.heap.size w.heap.size A j cc (.int .u64 (t.a0 : Int)) (.int .u64 (t.a1 : Int)) (.int .u64 (t.a2 : Int)) (.int .u64 (t.a3 : Int)) (.int .u64 (t.a4 : Int)) (.int .u64 (t.a5 : Int)) (.slice (some ⟨ga, off, none⟩) m d) (.bool t.mak) (.slice BC k c) ga (off + j) n) (by kernel_rfl) (⟨HF.out.row, HTW.out, HCJ.out⟩) (fun hHeld => ?_)
      change wpAnyE _ _ _ _ _ _ 12 (List.toArray [false, false, false, false, false, false, false, false, false, false, false, false]) _ _
      refine wpAnyE_take (i := 0) (v := ?_) [11,9,1] rfl (by kernel_rfl) (by kernel_rfl) (by kernel_rfl) (by kernel_rfl) (fun _ _ _ h => h) (Or.inl ⟨by rfl, ?_⟩) (by assumption) ?_
      rotate_left
      focus (intro w hSw; (try dsimp only at hSw); obtain ⟨h1, h2, h3⟩ := hSw; obtain ⟨x0, x1, x2, xf⟩ := cells3 h1; obtain ⟨c0, c1, c2, c3', c4, c5, c6, c7, c8, cf⟩ := cells9 h2; (try simp only [List.getElem_toArray]); (try simp only [List.getElem_cons_succ]); (try simp only [List.getElem_cons_zero]); go_simp; (try with_reducible rfl); done)
      (try simp only [List.getElem_toArray]); (try simp only [List.getElem_cons_succ]); (try simp only [List.getElem_cons_zero]); (try simp only [Act.put]); (try simp only [List.setIfInBounds_toArray]); (try simp only [List.set_cons_succ]); (try simp only [List.set_cons_zero])
      refine wpAnyE_take (i := 1) (v := ?_) [11,9] rfl (by kernel_rfl) (by kernel_rfl) (by kernel_rfl) (by kernel_rfl) (fun _ _ _ h => h) (Or.inl ⟨by rfl, ?_⟩) (by assumption) ?_
      rotate_left
      focus (intro w hSw; (try dsimp only at hSw); obtain ⟨h1, h2, h3⟩ := hSw; obtain ⟨x0, x1, x2, xf⟩ := cells3 h1; obtain ⟨c0, c1, c2, c3', c4, c5, c6, c7, c8, cf⟩ := cells9 h2; (try simp only [List.getElem_toArray]); (try simp only [List.getElem_cons_succ]); (try simp only [List.getElem_cons_zero]); go_simp; (try with_reducible rfl); done)
      (try simp only [List.getElem_toArray]); (try simp only [List.getElem_cons_succ]); (try simp only [List.getElem_cons_zero]); (try simp only [Act.put]); (try simp only [List.setIfInBounds_toArray]); (try simp only [List.set_cons_succ]); (try simp only [List.set_cons_zero])
      refine wpAnyE_take (i := 2) (v := ?_) [11,9,8,7,6,5,3] rfl (by kernel_rfl) (by kernel_rfl) (by kernel_rfl) (by kernel_rfl) (fun _ _ _ h => h) (Or.inl ⟨by rfl, ?_⟩) (by assumption) ?_
      rotate_left
      focus (intro w hSw; (try dsimp only at hSw); obtain ⟨h1, h2, h3⟩ := hSw; obtain ⟨x0, x1, x2, xf⟩ := cells3 h1; obtain ⟨c0, c1, c2, c3', c4, c5, c6, c7, c8, cf⟩ := cells9 h2; (try simp only [List.getElem_toArray]); (try simp only [List.getElem_cons_succ]); (try simp only [List.getElem_cons_zero]); go_simp; (try with_reducible rfl); done)
      (try simp only [List.getElem_toArray]); (try simp only [List.getElem_cons_succ]); (try simp only [List.getElem_cons_zero]); (try simp only [Act.put]); (try simp only [List.setIfInBounds_toArray]); (try simp only [List.set_cons_succ]); (try simp only [List.set_cons_zero])
      refine wpAnyE_take (i := 3) (v := ?_) [11,9,8,7,6,5] rfl (by kernel_rfl) (by kernel_rfl) (by kernel_rfl) (by kernel_rfl) (fun _ _ _ h => h) (Or.inl ⟨by rfl, ?_⟩) (by assumption) ?_
      rotate_left
      focus (intro w hSw; (try dsimp only at hSw); obtain ⟨h1, h2, h3⟩ := hSw; obtain ⟨x0, x1, x2, xf⟩ := cells3 h1; obtain ⟨c0, c1, c2, c3', c4, c5, c6, c7, c8, cf⟩ := cells9 h2; (try simp only [List.getElem_toArray]); (try simp only [List.getElem_cons_succ]); (try simp only [List.getElem_cons_zero]); go_simp; (try with_reducible rfl); done)
      (try simp only [List.getElem_toArray]); (try simp only [List.getElem_cons_succ]); (try simp only [List.getElem_cons_zero]); (try simp only [Act.put]); (try simp only [List.setIfInBounds_toArray]); (try simp only [List.set_cons_succ]); (try simp only [List.set_cons_zero])
      refine wpAnyE_take (i := 4) (v := ?_) [11,9,8,7,6,5] rfl (by kernel_rfl) (by kernel_rfl) (by kernel_rfl) (by kernel_rfl) (fun _ _ _ h => h) (Or.inl ⟨by rfl, ?_⟩) (by assumption) ?_
      rotate_left
      focus (intro w hSw; (try dsimp only at hSw); obtain ⟨h1, h2, h3⟩ := hSw; obtain ⟨x0, x1, x2, xf⟩ := cells3 h1; obtain ⟨c0, c1, c2, c3', c4, c5, c6, c7, c8, cf⟩ := cells9 h2; (try simp only [List.getElem_toArray]); (try simp only [List.getElem_cons_succ]); (try simp only [List.getElem_cons_zero]); go_simp; (try with_reducible rfl); done)
      (try simp only [List.getElem_toArray]); (try simp only [List.getElem_cons_succ]); (try simp only [List.getElem_cons_zero]); (try simp only [Act.put]); (try simp only [List.setIfInBounds_toArray]); (try simp only [List.set_cons_succ]); (try simp only [List.set_cons_zero])
      refine wpAnyE_take (i := 5) (v := ?_) [11,9,8,7,6] rfl (by kernel_rfl) (by kernel_rfl) (by kernel_rfl) (by kernel_rfl) (fun _ _ _ h => h) (Or.inl ⟨by rfl, ?_⟩) (by assumption) ?_
      rotate_left
      focus (intro w hSw; (try dsimp only at hSw); obtain ⟨h1, h2, h3⟩ := hSw; obtain ⟨x0, x1, x2, xf⟩ := cells3 h1; obtain ⟨c0, c1, c2, c3', c4, c5, c6, c7, c8, cf⟩ := cells9 h2; (try simp only [List.getElem_toArray]); (try simp only [List.getElem_cons_succ]); (try simp only [List.getElem_cons_zero]); go_simp; (try with_reducible rfl); done)
      (try simp only [List.getElem_toArray]); (try simp only [List.getElem_cons_succ]); (try simp only [List.getElem_cons_zero]); (try simp only [Act.put]); (try simp only [List.setIfInBounds_toArray]); (try simp only [List.set_cons_succ]); (try simp only [List.set_cons_zero])
      refine wpAnyE_take (i := 6) (v := ?_) [11,9,8,7] rfl (by kernel_rfl) (by kernel_rfl) (by kernel_rfl) (by kernel_rfl) (fun _ _ _ h => h) (Or.inl ⟨by rfl, ?_⟩) (by assumption) ?_
      rotate_left
      focus (intro w hSw; (try dsimp only at hSw); obtain ⟨h1, h2, h3⟩ := hSw; obtain ⟨x0, x1, x2, xf⟩ := cells3 h1; obtain ⟨c0, c1, c2, c3', c4, c5, c6, c7, c8, cf⟩ := cells9 h2; (try simp only [List.getElem_toArray]); (try simp only [List.getElem_cons_succ]); (try simp only [List.getElem_cons_zero]); go_simp; (try with_reducible rfl); done)
      (try simp only [List.getElem_toArray]); (try simp only [List.getElem_cons_succ]); (try simp only [List.getElem_cons_zero]); (try simp only [Act.put]); (try simp only [List.setIfInBounds_toArray]); (try simp only [List.set_cons_succ]); (try simp only [List.set_cons_zero])
      refine wpAnyE_one (i := 7) (by kernel_rfl) rfl rfl (fun Kq hKq => ?_)
      go_simp
      refine (ref_word16 n HNW.out _).mono ?_
      rintro r v ⟨P1, q1, r1, rfl, hw1, hb1⟩
      have HW1 : Hid (RdT v (fun g => wr.heap.size ≤ g) (wordT n) (.bool false) (.slice P1 q1 r1) (.slice none 0 0)) := Go.Lib.hid hw1
      have HV := Go.Lib.hid (btr (bdr (Below.refl _ _)) hb1)
      have hsl : SL w6.heap.size w.heap.size A j cc (.int .u64 (t.a0 : Int)) (.int .u64 (t.a1 : Int)) (.int .u64 (t.a2 : Int)) (.int .u64 (t.a3 : Int)) (.int .u64 (t.a4 : Int)) (.int .u64 (t.a5 : Int)) (.slice (some ⟨ga, off, none⟩) m d) (.bool t.mak) (.slice BC k c) ga (off + j) n wr := ⟨HF.out.row, HTW.out, HCJ.out⟩
      have HSL := Go.Lib.hid hsl
      clear hw1 hb1 hsl
      go_wp2_with fail
      refine hKq.out _ _ (HSL.out.below HV.out) (fun hHeld => ?_)
      clear hKq Kq
      (try simp only [List.getElem_toArray]); (try simp only [List.getElem_cons_succ]); (try simp only [List.getElem_cons_zero]); (try simp only [Act.put]); (try simp only [List.setIfInBounds_toArray]); (try simp only [List.set_cons_succ]); (try simp only [List.set_cons_zero])
      refine wpAnyE_one (i := 8) (by kernel_rfl) rfl rfl (fun Kq hKq => ?_)
      go_simp
      refine hKq.out _ _ ((HSL.out.below HV.out).below (bal (Below.refl _ _) _)) (fun hHeld => ?_)
      clear hKq Kq
      (try simp only [List.getElem_toArray]); (try simp only [List.getElem_cons_succ]); (try simp only [List.getElem_cons_zero]); (try simp only [Act.put]); (try simp only [List.setIfInBounds_toArray]); (try simp only [List.set_cons_succ]); (try simp only [List.set_cons_zero])
      refine wpAnyE_one (i := 9) (by kernel_rfl) rfl rfl (fun Kq hKq => ?_)
      refine step_append_o _ (by rfl) (.tmp 65) (.tmp 72) 42 (by rfl) 45 ii0 item0 3 56 Try.underlying42 hii hiz0 hiz1 hiz2 (by rfl) (by decide) (w6.heap.size + 1) A j cc cs (by rfl) ((HF.out.own.below HV.out).alloc _) (some ⟨v.heap.size, 0, none⟩) 1 1 [.bool false, .slice P1 q1 r1, .slice none 0 0] (by rfl) (by rfl) (rd_new _ _ _) HW1.out.one (by omega) (by unfold maxLen; omega) (by have := HF.out.lt; have := HV.out.size; simp; omega) ?_
      intro A3 c3 u3 hown3 hk3 hl3
      have HOW3 := Go.Lib.hid hown3
      have HKP3 := Go.Lib.hid hk3
      have HLI3 := Go.Lib.hid hl3
      have hsr3 := ((HSL.out.below HV.out).below (bal (Below.refl _ _) _)).kp HKP3.out (fun g e => ⟨(HF.out.far HLT6.out g e).1, (HF.out.far HLT6.out g e).2, by have h1 := (HF.out.own.block_lt g e.symm).1; have h2 := HGA.out; omega⟩)
      clear hown3 hk3 hl3
      obtain ⟨x0, x1, x2, xf⟩ := cells3 hsr3.1
      refine hKq.out _ _ (hsr3) (fun hHeld => ?_)
      clear hKq Kq
      (try simp only [List.getElem_toArray]); (try simp only [List.getElem_cons_succ]); (try simp only [List.getElem_cons_zero]); (try simp only [Act.put]); (try simp only [List.setIfInBounds_toArray]); (try simp only [List.set_cons_succ]); (try simp only [List.set_cons_zero])
      refine wpAnyE_take (i := 10) (v := ?_) [11] rfl (by kernel_rfl) (by kernel_rfl) (by kernel_rfl) (by kernel_rfl) (fun _ _ _ h => h) (Or.inl ⟨by rfl, ?_⟩) (by assumption) ?_
      rotate_left
      focus (intro w hSw; (try dsimp only at hSw); obtain ⟨h1, h2, h3⟩ := hSw; obtain ⟨x0, x1, x2, xf⟩ := cells3 h1; (try simp only [List.getElem_toArray]); (try simp only [List.getElem_cons_succ]); (try simp only [List.getElem_cons_zero]); go_simp; (try with_reducible rfl); done)
      (try simp only [List.getElem_toArray]); (try simp only [List.getElem_cons_succ]); (try simp only [List.getElem_cons_zero]); (try simp only [Act.put]); (try simp only [List.setIfInBounds_toArray]); (try simp only [List.set_cons_succ]); (try simp only [List.set_cons_zero])
      refine wpAnyE_last (i := 11) (by kernel_rfl) rfl rfl (fun Kq hKq => ?_)
      go_simp
      refine hKq.out _ _ ?_
      clear hKq Kq
      (try simp only [List.getElem_toArray]); (try simp only [List.getElem_cons_succ]); (try simp only [List.getElem_cons_zero]); (try simp only [Act.put]); (try simp only [List.setIfInBounds_toArray]); (try simp only [List.set_cons_succ]); (try simp only [List.set_cons_zero])
      refine wpAnyE_done (by kernel_rfl) ?_ _
      go_wp2_with fail
      go_roundg (m - (j + 1))
      case measure => omega
      case rel =>
        refine ⟨j + 1, A3, c3, cs ++ [.bool false, .slice P1 q1 r1, .slice none 0 0], by go_num, by omega, rfl, Go.Lib.hid ?_⟩
        have h := fr_put HF.out HV.out HW1.out HOW3.out HKP3.out HLI3.out
        have e : (t.inp.take (j + 1)).map wordT = (t.inp.take j).map wordT ++ [wordT n] := by
          have hjl : j < t.inp.length := by have := HM.out; omega
          rw [List.take_succ_eq_append_getElem hjl, List.map_append, HNJ.out]
          simp [List.getD, hjl]
        rw [e]
        exact h
    · have e : t.inp.take j = t.inp := List.take_of_length_le (by have := HM.out; omega)
      have hjm : m = j := by omega
      subst hjm
      rw [e] at HF
      clear e hlt hj
      have hsr6 : SR (w.heap.size + 1) w.heap.size A6 6 c6 (.int .u64 (t.a0 : Int)) (.int .u64 (t.a1 : Int)) (.int .u64 (t.a2 : Int)) (.int .u64 (t.a3 : Int)) (.int .u64 (t.a4 : Int)) (.int .u64 (t.a5 : Int)) (.slice AI m d) (.bool t.mak) (.slice BC k c) wr := (HG6.out.sr HTB.out HTL.out).below HF.out.bel
      obtain ⟨y0, y1, y2, yf⟩ := cells3 hsr6.1
      obtain ⟨z0, z1, z2, zf⟩ := cells3 HF.out.row
      have HSR6 := Go.Lib.hid hsr6
      have hcapI := HF.out.own.cap
      have hit : RdT wr (fun g => w6.heap.size ≤ g) (.mk true [] (t.inp.map wordT)) (.bool true) (.slice none 0 0) (.slice A m cc) := RdT.list (by rw [List.length_map]; exact HM.out) hcapI.1 hcapI.2 (HF.out.own.rdp _ fun g _ h _ => Nat.le_of_succ_le h) (HF.out.rdl.mono fun g _ h => Nat.le_of_succ_le h.1)
      have HIT := Go.Lib.hid hit
      clear hsr6 hit hcapI
      rcases Bool.eq_false_or_eq_true t.mak with hq | hq
      · have HMK : Hid (t.mak = true) := Go.Lib.hid hq
        go_wp2_with (at_builtin; refine wpList_append_o _ rfl _ _ 42 rfl 45 ii0 item0 3 56 Try.underlying42 hii hiz0 hiz1 hiz2 rfl (by decide) (w.heap.size + 1 + 1) A6 6 c6 cs6 rfl ((HG6.out.own.below HF.out.bel).alloc _) (some ⟨wr.heap.size, 0, none⟩) 1 1 [.bool true, .slice none 0 0, .slice A m cc] rfl rfl (rd_new _ _ _) (HIT.out.one) (by omega) (by unfold maxLen; omega) (by have := HG6.out.lt; have := HF.out.bel.size; simp; omega) ?_; intro A7 c7 u7 hown7 hk7 hl7; rename_i Kc hKc; have HKc := Go.Lib.hid hKc; clear hKc; have HOW7 := Go.Lib.hid hown7; have HKP7 := Go.Lib.hid hk7; have HLI7 := Go.Lib.hid hl7; have hsr7 := (HSR6.out.below (bal (Below.refl _ _) _)).kp HKP7.out (HG6.out.far HTL.out); obtain ⟨x0, x1, x2, xf⟩ := cells3 hsr7.1; clear hown7 hk7 hl7 hsr7)
        obtain ⟨w7, hww7⟩ : ∃ x, x = World.setCell u7 ⟨w.heap.size + 1, 2, none⟩ (.slice A7 7 c7) := ⟨_, rfl⟩
        have hf7 := fr_put HG6.out HF.out.bel HIT.out HOW7.out HKP7.out HLI7.out
        rw [← hww7] at hf7 ⊢
        obtain ⟨cs7, hcs7⟩ : ∃ x : List Value, x = cs6 ++ [.bool true, .slice none 0 0, .slice A m cc] := ⟨_, rfl⟩
        rw [← hcs7] at hf7
        have HG7 := Go.Lib.hid hf7
        refine HKc.out _ _ ?_
        clear hf7 hww7 hcs7 HKc Kc x0 x1 x2 xf HOW7 HKP7 HLI7
        clear y0 y1 y2 yf z0 z1 z2 zf c0' c1' c2' c3' c4' c5' c6' c7' c8' cf
        have hby : Below w7.heap.size w7 ((w7.alloc (.cells #[.bool false, .slice (some ⟨w7.heap.size + 1, 0, none⟩) 1 1, .slice none 0 0] 45)).alloc (.cells #[.int .u8 1] 5)) := bal (bal (Below.refl _ _) _) _
        have hmade : ((w7.alloc (.cells #[.bool false, .slice (some ⟨w7.heap.size + 1, 0, none⟩) 1 1, .slice none 0 0] 45)).alloc (.cells #[.int .u8 1] 5)).heap[w7.heap.size]? = some (.cells #[.bool false, .slice (some ⟨w7.heap.size + 1, 0, none⟩) 1 1, .slice none 0 0] 45 (0, 0)) := (Below.heap_alloc _ _ w7.heap.size (by simp)).trans (Go.heap_alloc_new w7 _)
        have hit : RdT ((w7.alloc (.cells #[.bool false, .slice (some ⟨w7.heap.size + 1, 0, none⟩) 1 1, .slice none 0 0] 45)).alloc (.cells #[.int .u8 1] 5)) (fun g => w7.heap.size ≤ g) (boolT t.mak) (.bool false) (.slice (some ⟨w7.heap.size + 1, 0, none⟩) 1 1) (.slice none 0 0) := by
          have h := own_made (w7.alloc (.cells #[.bool false, .slice (some ⟨w7.heap.size + 1, 0, none⟩) 1 1, .slice none 0 0] 45)) (w7.heap.size + 1) 5 1 #[.int .u8 1] 1 1 (by simp) (by unfold maxLen; omega) (Nat.le_refl _) rfl
          have h2 := h.rdp (fun g => w7.heap.size ≤ g) (fun g _ h _ => Nat.le_of_succ_le h)
          rw [HMK.out]
          simp only [World.size_alloc] at h2
          exact RdT.text (b := [1]) rfl (Nat.le_refl _) (by decide) (by decide) h2
        have hsr7 : SR (w.heap.size + 1) w.heap.size A7 7 c7 (.int .u64 (t.a0 : Int)) (.int .u64 (t.a1 : Int)) (.int .u64 (t.a2 : Int)) (.int .u64 (t.a3 : Int)) (.int .u64 (t.a4 : Int)) (.int .u64 (t.a5 : Int)) (.slice AI m d) (.bool t.mak) (.slice BC k c) w7 := HG7.out.sr HTB.out HTL.out
        obtain ⟨x0, x1, x2, xf⟩ := cells3 hsr7.1
        obtain ⟨k0, k1, k2, k3, k4, k5, k6, c7c, k8, kf⟩ := cells9 hsr7.2
        have hs8 := hsr7.below hby
        have HSR7 := Go.Lib.hid hs8
        obtain ⟨y0, y1, y2, yf⟩ := cells3 hs8.1
        obtain ⟨z0, z1, z2, zf⟩ := cells3 hmade
        have HBY := Go.Lib.hid hby
        have HIT8 := Go.Lib.hid hit
        have hl7 := HG7.out.lt
        have hlt7 : w.heap.size < w7.heap.size := by omega
        have hne7 : w.heap.size ≠ w7.heap.size := by omega
        have hnf7 : w.heap.size + 1 ≠ w7.heap.size := by omega
        have hng7 : ¬ w7.heap.size = w.heap.size := by omega
        have hnh7 : ¬ w7.heap.size = w.heap.size + 1 := by omega
        have c7d : (w7.alloc (.cells #[.bool false, .slice (some ⟨w7.heap.size + 1, 0, none⟩) 1 1, .slice none 0 0] 45)).cell? ⟨w.heap.size, 7, none⟩ = some (.bool true) := ((bal (Below.refl _ _) _).cell (p := ⟨w.heap.size, 7, none⟩) hlt7).trans (c7c.trans (by rw [hq]))
        clear hsr7 hs8 hby hmade hit
        rw [hq] at c7c
        go_wp2_with (at_builtin; go_loud (refine wpList_append_o _ rfl _ _ 42 rfl 45 ii0 item0 3 56 Try.underlying42 hii hiz0 hiz1 hiz2 rfl (by decide) (w.heap.size + 1 + 1) A7 7 c7 cs7 rfl ((HG7.out.own.below HBY.out).alloc _) (some ⟨w7.heap.size + 2, 0, none⟩) 1 1 [.bool false, .slice (some ⟨w7.heap.size + 1, 0, none⟩) 1 1, .slice none 0 0] rfl rfl (by simpa using rd_new ((w7.alloc (.cells #[.bool false, .slice (some ⟨w7.heap.size + 1, 0, none⟩) 1 1, .slice none 0 0] 45)).alloc (.cells #[.int .u8 1] 5)) #[.bool false, .slice (some ⟨w7.heap.size + 1, 0, none⟩) 1 1, .slice none 0 0] 45) (HIT8.out.one) (by omega) (by unfold maxLen; omega) (by have := HG7.out.lt; have := HBY.out.size; simp; omega) ?_); intro A8 c8 u8 hown8 hk8 hl8; rename_i Kc hKc; have HKc := Go.Lib.hid hKc; clear hKc; have HOW8 := Go.Lib.hid hown8; have HKP8 := Go.Lib.hid hk8; have HLI8 := Go.Lib.hid hl8; have hsr8 := (HSR7.out.below (bal (Below.refl _ _) _)).kp HKP8.out (HG7.out.far HTL.out); obtain ⟨x0, x1, x2, xf⟩ := cells3 hsr8.1; clear hown8 hk8 hl8 hsr8)
        obtain ⟨w8, hww8⟩ : ∃ x, x = World.setCell u8 ⟨w.heap.size + 1, 2, none⟩ (.slice A8 8 c8) := ⟨_, rfl⟩
        have hf8 := fr_put HG7.out HBY.out HIT8.out HOW8.out HKP8.out HLI8.out
        rw [← hww8] at hf8 ⊢
        obtain ⟨cs8, hcs8⟩ : ∃ x : List Value, x = cs7 ++ [.bool false, .slice (some ⟨w7.heap.size + 1, 0, none⟩) 1 1, .slice none 0 0] := ⟨_, rfl⟩
        rw [← hcs8] at hf8
        have HG8 := Go.Lib.hid hf8
        refine HKc.out _ _ ?_
        clear hf8 hww8 hcs8 HKc Kc x0 x1 x2 xf HOW8 HKP8 HLI8
        clear y0 y1 y2 yf z0 z1 z2 zf k0 k1 k2 k3 k4 k5 k6 c7c c7d k8 kf hl7 hlt7 hne7 hnf7 hng7 hnh7
        have hsr8 : SR (w.heap.size + 1) w.heap.size A8 8 c8 (.int .u64 (t.a0 : Int)) (.int .u64 (t.a1 : Int)) (.int .u64 (t.a2 : Int)) (.int .u64 (t.a3 : Int)) (.int .u64 (t.a4 : Int)) (.int .u64 (t.a5 : Int)) (.slice AI m d) (.bool t.mak) (.slice BC k c) w8 := HG8.out.sr HTB.out HTL.out
        obtain ⟨x0, x1, x2, xf⟩ := cells3 hsr8.1
        obtain ⟨y0, y1, y2, y3, y4, y5, y6, y7, y8, yf⟩ := cells9 hsr8.2
        have HSR8 := Go.Lib.hid hsr8
        have hbc8 : Below w.heap.size w w8 := btr HBX.out (by have h := HG8.out.bel; rw [← HG8.out.at_] at h; exact h)
        have hic : RdT w8 (fun g => g < w.heap.size + 1) (.mk false t.code []) (.bool false) (.slice BC k c) (.slice none 0 0) := by
          refine RdT.text HKC.out hc hz (by omega) ?_
          by_cases h0 : t.code = []
          · rw [h0]
            exact RdP.nil _ _ _
          · obtain ⟨gb, ob, hgb, hgl, _⟩ := HBC.out.at_ (by rw [bs_length]; exact List.length_pos_iff.2 h0)
            refine RdP.of_rd (HBC.out.below hbc8) (fun g e _ => ?_) (Nat.succ_pos _)
            rw [hgb] at e
            injection e with e
            have : gb = g := e
            omega
        have HIC := Go.Lib.hid hic
        have hone : ∀ u ∈ [Value.bool false, .slice BC k c, .slice none 0 0], u.oneCell' = true := hic.one
        have HONE := Go.Lib.hid hone
        clear hsr8 hbc8 hic hone
        go_wp2_with (at_builtin; refine wpList_append_o _ rfl _ _ 42 rfl 45 ii0 item0 3 56 Try.underlying42 hii hiz0 hiz1 hiz2 rfl (by decide) (w.heap.size + 1 + 1) A8 8 c8 cs8 rfl (HG8.out.own.alloc _) (some ⟨w8.heap.size, 0, none⟩) 1 1 [.bool false, .slice BC k c, .slice none 0 0] rfl rfl (rd_new _ _ _) (HONE.out) (by omega) (by unfold maxLen; omega) (by have := HG8.out.lt; simp; omega) ?_; intro A9 c9 u9 hown9 hk9 hl9; rename_i Kc hKc; have HKc := Go.Lib.hid hKc; clear hKc; have HOW9 := Go.Lib.hid hown9; have HKP9 := Go.Lib.hid hk9; have HLI9 := Go.Lib.hid hl9; have hsr9 := (HSR8.out.below (bal (Below.refl _ _) _)).kp HKP9.out (HG8.out.far HTL.out); obtain ⟨x0, x1, x2, xf⟩ := cells3 hsr9.1; clear hown9 hk9 hl9 hsr9)
        obtain ⟨w9, hww9⟩ : ∃ x, x = World.setCell u9 ⟨w.heap.size + 1, 2, none⟩ (.slice A9 9 c9) := ⟨_, rfl⟩
        obtain ⟨hit9, hbe9⟩ := fr_last HG8.out (Below.refl _ _) HIC.out HOW9.out HKP9.out
        rw [← hww9] at hit9 hbe9 ⊢
        have HIT9 : Hid (RdT w9 (fun _ => True) (treeT t) (.bool true) (.slice none 0 0) (.slice A9 9 c9)) := Go.Lib.hid hit9
        have hb9 : Below w.heap.size w w9 := btr HBX.out (by rw [← HG8.out.at_] at hbe9; exact hbe9)
        have HB9 := Go.Lib.hid hb9
        refine HKc.out _ _ ?_
        have hx9 : w9.heap[w.heap.size + 1]? = some (.cells #[.bool true, .slice none 0 0, .slice A9 9 c9] 45 (0, 0)) := by
          have h6 := ((HSR8.out.below (bal (Below.refl _ _) _)).kp HKP9.out (HG8.out.far HTL.out)).1
          rw [hww9, heap_set_same h6 2 _]
          rfl
        clear HKc Kc x0 x1 x2 xf hww9 hit9 hbe9 hb9 HOW9 HKP9 HLI9
        obtain ⟨x0, x1, x2, xf⟩ := cells3 hx9
        obtain ⟨nl, hnl, _⟩ := tree_look (t := t) (by have := HM.out; omega) (by have := HKC.out; omega)
        go_wp2_with fail
        refine (ref_Bytes (treeT t) _ _ _ _ _ HIT9.out ⟨0, 0, nl, hnl⟩ (tree_small (by have := HM.out; omega) (by have := HKC.out; omega)).1).mono ?_
        rintro r w10 ⟨A10, n10, c10, rfl, hown10, hb10⟩
        have HO10 := Go.Lib.hid (hown10.more (b := w.heap.size) (fun g e => by have := (hown10.block_lt g e).1; have := HB9.out.size; omega))
        have HB10 := Go.Lib.hid (btr HB9.out hb10)
        clear hown10 hb10
        go_wp2_with fail
        go_ret
        exact ⟨A10, n10, c10, rfl, HO10.out, HB10.out⟩
      · have HMK : Hid (t.mak = false) := Go.Lib.hid hq
        go_wp2_with (at_builtin; refine wpList_append_o _ rfl _ _ 42 rfl 45 ii0 item0 3 56 Try.underlying42 hii hiz0 hiz1 hiz2 rfl (by decide) (w.heap.size + 1 + 1) A6 6 c6 cs6 rfl ((HG6.out.own.below HF.out.bel).alloc _) (some ⟨wr.heap.size, 0, none⟩) 1 1 [.bool true, .slice none 0 0, .slice A m cc] rfl rfl (rd_new _ _ _) (HIT.out.one) (by omega) (by unfold maxLen; omega) (by have := HG6.out.lt; have := HF.out.bel.size; simp; omega) ?_; intro A7 c7 u7 hown7 hk7 hl7; rename_i Kc hKc; have HKc := Go.Lib.hid hKc; clear hKc; have HOW7 := Go.Lib.hid hown7; have HKP7 := Go.Lib.hid hk7; have HLI7 := Go.Lib.hid hl7; have hsr7 := (HSR6.out.below (bal (Below.refl _ _) _)).kp HKP7.out (HG6.out.far HTL.out); obtain ⟨x0, x1, x2, xf⟩ := cells3 hsr7.1; clear hown7 hk7 hl7 hsr7)
        obtain ⟨w7, hww7⟩ : ∃ x, x = World.setCell u7 ⟨w.heap.size + 1, 2, none⟩ (.slice A7 7 c7) := ⟨_, rfl⟩
        have hf7 := fr_put HG6.out HF.out.bel HIT.out HOW7.out HKP7.out HLI7.out
        rw [← hww7] at hf7 ⊢
        obtain ⟨cs7, hcs7⟩ : ∃ x : List Value, x = cs6 ++ [.bool true, .slice none 0 0, .slice A m cc] := ⟨_, rfl⟩
        rw [← hcs7] at hf7
        have HG7 := Go.Lib.hid hf7
        refine HKc.out _ _ ?_
        clear hf7 hww7 hcs7 HKc Kc x0 x1 x2 xf HOW7 HKP7 HLI7
        clear y0 y1 y2 yf z0 z1 z2 zf c0' c1' c2' c3' c4' c5' c6' c7' c8' cf
        have hby : Below w7.heap.size w7 (w7.alloc (.cells #[.bool false, .slice none 0 0, .slice none 0 0] 45)) := bal (Below.refl _ _) _
        have hmade : (w7.alloc (.cells #[.bool false, .slice none 0 0, .slice none 0 0] 45)).heap[w7.heap.size]? = some (.cells #[.bool false, .slice none 0 0, .slice none 0 0] 45 (0, 0)) := Go.heap_alloc_new w7 _
        have hit : RdT (w7.alloc (.cells #[.bool false, .slice none 0 0, .slice none 0 0] 45)) (fun g => w7.heap.size ≤ g) (boolT t.mak) (.bool false) (.slice none 0 0) (.slice none 0 0) := by
          rw [HMK.out]
          exact RdT.zero _ _
        have hsr7 : SR (w.heap.size + 1) w.heap.size A7 7 c7 (.int .u64 (t.a0 : Int)) (.int .u64 (t.a1 : Int)) (.int .u64 (t.a2 : Int)) (.int .u64 (t.a3 : Int)) (.int .u64 (t.a4 : Int)) (.int .u64 (t.a5 : Int)) (.slice AI m d) (.bool t.mak) (.slice BC k c) w7 := HG7.out.sr HTB.out HTL.out
        obtain ⟨x0, x1, x2, xf⟩ := cells3 hsr7.1
        obtain ⟨k0, k1, k2, k3, k4, k5, k6, c7c, k8, kf⟩ := cells9 hsr7.2
        have hs8 := hsr7.below hby
        have HSR7 := Go.Lib.hid hs8
        obtain ⟨y0, y1, y2, yf⟩ := cells3 hs8.1
        obtain ⟨z0, z1, z2, zf⟩ := cells3 hmade
        have HBY := Go.Lib.hid hby
        have HIT8 := Go.Lib.hid hit
        have hl7 := HG7.out.lt
        have hlt7 : w.heap.size < w7.heap.size := by omega
        have hne7 : w.heap.size ≠ w7.heap.size := by omega
        have hnf7 : w.heap.size + 1 ≠ w7.heap.size := by omega
        have hng7 : ¬ w7.heap.size = w.heap.size := by omega
        have hnh7 : ¬ w7.heap.size = w.heap.size + 1 := by omega
        have c7d : (w7.alloc (.cells #[.bool false, .slice none 0 0, .slice none 0 0] 45)).cell? ⟨w.heap.size, 7, none⟩ = some (.bool false) := ((bal (Below.refl _ _) _).cell (p := ⟨w.heap.size, 7, none⟩) hlt7).trans (c7c.trans (by rw [hq]))
        clear hsr7 hs8 hby hmade hit
        rw [hq] at c7c
        go_wp2_with (at_builtin; go_loud (refine wpList_append_o _ rfl _ _ 42 rfl 45 ii0 item0 3 56 Try.underlying42 hii hiz0 hiz1 hiz2 rfl (by decide) (w.heap.size + 1 + 1) A7 7 c7 cs7 rfl ((HG7.out.own.below HBY.out).alloc _) (some ⟨w7.heap.size + 1, 0, none⟩) 1 1 [.bool false, .slice none 0 0, .slice none 0 0] rfl rfl (by simpa using rd_new (w7.alloc (.cells #[.bool false, .slice none 0 0, .slice none 0 0] 45)) #[.bool false, .slice none 0 0, .slice none 0 0] 45) (HIT8.out.one) (by omega) (by unfold maxLen; omega) (by have := HG7.out.lt; have := HBY.out.size; simp; omega) ?_); intro A8 c8 u8 hown8 hk8 hl8; rename_i Kc hKc; have HKc := Go.Lib.hid hKc; clear hKc; have HOW8 := Go.Lib.hid hown8; have HKP8 := Go.Lib.hid hk8; have HLI8 := Go.Lib.hid hl8; have hsr8 := (HSR7.out.below (bal (Below.refl _ _) _)).kp HKP8.out (HG7.out.far HTL.out); obtain ⟨x0, x1, x2, xf⟩ := cells3 hsr8.1; clear hown8 hk8 hl8 hsr8)
        obtain ⟨w8, hww8⟩ : ∃ x, x = World.setCell u8 ⟨w.heap.size + 1, 2, none⟩ (.slice A8 8 c8) := ⟨_, rfl⟩
        have hf8 := fr_put HG7.out HBY.out HIT8.out HOW8.out HKP8.out HLI8.out
        rw [← hww8] at hf8 ⊢
        obtain ⟨cs8, hcs8⟩ : ∃ x : List Value, x = cs7 ++ [.bool false, .slice none 0 0, .slice none 0 0] := ⟨_, rfl⟩
        rw [← hcs8] at hf8
        have HG8 := Go.Lib.hid hf8
        refine HKc.out _ _ ?_
        clear hf8 hww8 hcs8 HKc Kc x0 x1 x2 xf HOW8 HKP8 HLI8
        clear y0 y1 y2 yf z0 z1 z2 zf k0 k1 k2 k3 k4 k5 k6 c7c c7d k8 kf hl7 hlt7 hne7 hnf7 hng7 hnh7
        have hsr8 : SR (w.heap.size + 1) w.heap.size A8 8 c8 (.int .u64 (t.a0 : Int)) (.int .u64 (t.a1 : Int)) (.int .u64 (t.a2 : Int)) (.int .u64 (t.a3 : Int)) (.int .u64 (t.a4 : Int)) (.int .u64 (t.a5 : Int)) (.slice AI m d) (.bool t.mak) (.slice BC k c) w8 := HG8.out.sr HTB.out HTL.out
        obtain ⟨x0, x1, x2, xf⟩ := cells3 hsr8.1
        obtain ⟨y0, y1, y2, y3, y4, y5, y6, y7, y8, yf⟩ := cells9 hsr8.2
        have HSR8 := Go.Lib.hid hsr8
        have hbc8 : Below w.heap.size w w8 := btr HBX.out (by have h := HG8.out.bel; rw [← HG8.out.at_] at h; exact h)
        have hic : RdT w8 (fun g => g < w.heap.size + 1) (.mk false t.code []) (.bool false) (.slice BC k c) (.slice none 0 0) := by
          refine RdT.text HKC.out hc hz (by omega) ?_
          by_cases h0 : t.code = []
          · rw [h0]
            exact RdP.nil _ _ _
          · obtain ⟨gb, ob, hgb, hgl, _⟩ := HBC.out.at_ (by rw [bs_length]; exact List.length_pos_iff.2 h0)
            refine RdP.of_rd (HBC.out.below hbc8) (fun g e _ => ?_) (Nat.succ_pos _)
            rw [hgb] at e
            injection e with e
            have : gb = g := e
            omega
        have HIC := Go.Lib.hid hic
        have hone : ∀ u ∈ [Value.bool false, .slice BC k c, .slice none 0 0], u.oneCell' = true := hic.one
        have HONE := Go.Lib.hid hone
        clear hsr8 hbc8 hic hone
        go_wp2_with (at_builtin; refine wpList_append_o _ rfl _ _ 42 rfl 45 ii0 item0 3 56 Try.underlying42 hii hiz0 hiz1 hiz2 rfl (by decide) (w.heap.size + 1 + 1) A8 8 c8 cs8 rfl (HG8.out.own.alloc _) (some ⟨w8.heap.size, 0, none⟩) 1 1 [.bool false, .slice BC k c, .slice none 0 0] rfl rfl (rd_new _ _ _) (HONE.out) (by omega) (by unfold maxLen; omega) (by have := HG8.out.lt; simp; omega) ?_; intro A9 c9 u9 hown9 hk9 hl9; rename_i Kc hKc; have HKc := Go.Lib.hid hKc; clear hKc; have HOW9 := Go.Lib.hid hown9; have HKP9 := Go.Lib.hid hk9; have HLI9 := Go.Lib.hid hl9; have hsr9 := (HSR8.out.below (bal (Below.refl _ _) _)).kp HKP9.out (HG8.out.far HTL.out); obtain ⟨x0, x1, x2, xf⟩ := cells3 hsr9.1; clear hown9 hk9 hl9 hsr9)
        obtain ⟨w9, hww9⟩ : ∃ x, x = World.setCell u9 ⟨w.heap.size + 1, 2, none⟩ (.slice A9 9 c9) := ⟨_, rfl⟩
        obtain ⟨hit9, hbe9⟩ := fr_last HG8.out (Below.refl _ _) HIC.out HOW9.out HKP9.out
        rw [← hww9] at hit9 hbe9 ⊢
        have HIT9 : Hid (RdT w9 (fun _ => True) (treeT t) (.bool true) (.slice none 0 0) (.slice A9 9 c9)) := Go.Lib.hid hit9
        have hb9 : Below w.heap.size w w9 := btr HBX.out (by rw [← HG8.out.at_] at hbe9; exact hbe9)
        have HB9 := Go.Lib.hid hb9
        refine HKc.out _ _ ?_
        have hx9 : w9.heap[w.heap.size + 1]? = some (.cells #[.bool true, .slice none 0 0, .slice A9 9 c9] 45 (0, 0)) := by
          have h6 := ((HSR8.out.below (bal (Below.refl _ _) _)).kp HKP9.out (HG8.out.far HTL.out)).1
          rw [hww9, heap_set_same h6 2 _]
          rfl
        clear HKc Kc x0 x1 x2 xf hww9 hit9 hbe9 hb9 HOW9 HKP9 HLI9
        obtain ⟨x0, x1, x2, xf⟩ := cells3 hx9
        obtain ⟨nl, hnl, _⟩ := tree_look (t := t) (by have := HM.out; omega) (by have := HKC.out; omega)
        go_wp2_with fail
        refine (ref_Bytes (treeT t) _ _ _ _ _ HIT9.out ⟨0, 0, nl, hnl⟩ (tree_small (by have := HM.out; omega) (by have := HKC.out; omega)).1).mono ?_
        rintro r w10 ⟨A10, n10, c10, rfl, hown10, hb10⟩
        have HO10 := Go.Lib.hid (hown10.more (b := w.heap.size) (fun g e => by have := (hown10.block_lt g e).1; have := HB9.out.size; omega))
        have HB10 := Go.Lib.hid (btr HB9.out hb10)
        clear hown10 hb10
        go_wp2_with fail
        go_ret
        exact ⟨A10, n10, c10, rfl, HO10.out, HB10.out⟩

end Go.Proofs.Ytgpaiphjbhkadaa
