/- Words for transactions in memory: numbers in a row; copy of whole items; a row of items that grows. -/
import Derived.Test.YtgpaiphjbhkadaaTxPure2
import Derived.Test.YtgpaiphjbhkadaaWdRefR
import Derived.Test.YtgpaiphjbhkadaaNsMake
import Derived.Test.YtgpaiphjbhkadaaNsREnc2
import Derived.Laws.CopyRow
namespace Go.Proofs.Ytgpaiphjbhkadaa
open Go.ChangeShapes Go.WideShapes Go.ChangeAt Go.RowKit
set_option linter.unusedVariables false
set_option maxRecDepth 100000

def u64v (n : Nat) : Value := .int .u64 (n : Int)
def u64s (l : List Nat) : List Value := l.map u64v
@[simp] theorem u64s_length (l : List Nat) : (u64s l).length = l.length := by simp [u64s]
theorem u64s_at (l : List Nat) (i : Nat) (h : i < l.length) : (u64s l)[i]? = some (.int .u64 ((l.getD i 0 : Nat) : Int)) := by
  simp [u64s, u64v, List.getD, h]
theorem u64s_one (l : List Nat) : ∀ u ∈ u64s l, u.oneCell' = true := by
  intro u hu
  obtain ⟨x, _, rfl⟩ := List.mem_map.1 hu
  rfl
theorem u64s_snoc (l : List Nat) (n : Nat) : u64s (l ++ [n]) = u64s l ++ [.int .u64 (n : Int)] := by simp [u64s, u64v]
theorem info_u64 : (Try.prog.info? 22).map (fun i => (i.zero, i.size, i.bytes)) = some (some (.int .u64 0), 1, 8) := by kernel_rfl

section
variable {P : Program}
/-- copy of elements of 'size' cells. -/
theorem run_copy_sz (w : World) (dT sT ty elem : TypeId) (g o dLen dCap : Nat) (a : Addr) (sLen sCap : Nat) (cur : Array Value) (t : TypeId) (cs : List Value) (size n : Nat)
    (hu : P.underlying dT = some (.slice elem)) (hs : (P.info? elem).map (·.size) = some size)
    (hg : w.heap[g]? = some (.cells cur t (0, 0))) (hn : Nat.min sLen dLen = n) (hcs : cs.length = n * size)
    (hsrc : ∀ j v, cs[j]? = some v → w.cell? (a.add j) = some v) (hfit : o + cs.length ≤ cur.size) (h1 : ∀ v ∈ cs, v.oneCell' = true) :
    (Builtin.copy_ #[dT, sT] ty #[.slice (some ⟨g, o, none⟩) dLen dCap, .slice (some a) sLen sCap]).run P w =
      .ok (goInt n) (w.setRow g (cur.toList.take o ++ cs ++ cur.toList.drop (o + cs.length)).toArray) := by
  have hl := run_loadCells_list (P := P) w a cs hsrc
  have hst := run_storeCells_at P g o t cs 0 cur w hg (by simpa using hfit) h1
  rw [hcs] at hl
  cases hq : P.info? elem with
  | none => simp [hq] at hs
  | some i =>
    have hi : i.size = size := by simpa [hq] using hs
    simp only [Nat.add_zero] at hst
    simp [Builtin.copy_, run_underlying hu, Builtin.lenOf, Builtin.firstCells, sizeOf, typeInfo, hq, hi, hn, hl, hst]
theorem wpList_copy_sz {w : World} {ops : Array Oper} {rest : List Oper} {o : Oper} {a : Act} {Q : Exit → Act → World → Prop} (hgd : o.guard = none) (d s : Operand) (dT sT : TypeId)
    (ho : o.op = .call { callee := .builtin .copy, args := #[d, s], argTypes := #[dT, sT] }) (elem : TypeId) (hu : P.underlying dT = some (.slice elem)) (size n : Nat) (hsz : (P.info? elem).map (·.size) = some size)
    (g off dLen dCap : Nat) (ad : Addr) (sLen sCap : Nat) (hd : a.eval d = .slice (some ⟨g, off, none⟩) dLen dCap) (hs : a.eval s = .slice (some ad) sLen sCap)
    (cur : Array Value) (t : TypeId) (hg : w.heap[g]? = some (.cells cur t (0, 0))) (cs : List Value) (hn : Nat.min sLen dLen = n) (hcs : cs.length = n * size)
    (hsrc : ∀ j v, cs[j]? = some v → w.cell? (ad.add j) = some v) (hfit : off + cs.length ≤ cur.size) (h1 : ∀ v ∈ cs, v.oneCell' = true)
    (h : ∀ w', Hid (w'.heap[g]? = some (.cells (cur.toList.take off ++ (cs ++ cur.toList.drop (off + cs.length))).toArray t (0, 0))) → Hid (Kp (fun k => k = g) w w') → wpList P ops Q rest (a.put o.dst (goInt n)) w') : wpList P ops Q (o :: rest) a w := by
  refine wpList_plain hgd fun K hK => ?_
  have hrun := run_copy_sz (P := P) w dT sT o.type elem g off dLen dCap ad sLen sCap cur t cs size n hu hsz hg hn hcs hsrc hfit h1
  unfold Oper.wp
  simp [execOp, ho, resolve, invoke, builtin, hd, hs, hrun, Result.andThen]
  exact hK _ _ (h _ (Go.Lib.hid (setRow_heap w g cur _ t _ hg)) (Go.Lib.hid ⟨rfl, rfl, rfl, by simp [World.setRow], fun k hk hs => setRow_other w g k _ hs⟩))
end

theorem RdL.append {w : World} {P : Nat → Prop} : ∀ {ts us : List Tree} {cs ds : List Value}, RdL w P ts cs → RdL w P us ds → RdL w P (ts ++ us) (cs ++ ds)
  | [], us, cs, ds, h, k => by
    simp only [RdL] at h
    subst h
    exact k
  | t :: ts, us, cs, ds, h, k => by
    simp only [RdL, List.cons_append] at h ⊢
    obtain ⟨v0, v1, v2, rest, rfl, h1, h2⟩ := h
    exact ⟨v0, v1, v2, rest ++ ds, rfl, h1, RdL.append h2 k⟩
theorem RdL.nil (w : World) (P : Nat → Prop) : RdL w P [] [] := by simp only [RdL]
theorem RdL.single {w : World} {P : Nat → Prop} {t : Tree} {v0 v1 v2 : Value} (h : RdT w P t v0 v1 v2) : RdL w P [t] [v0, v1, v2] := by
  simp only [RdL]
  exact ⟨v0, v1, v2, [], rfl, h, rfl⟩

/-- Nine cells. -/
theorem cells9 {w : World} {g : Nat} {a0 a1 a2 a3 a4 a5 a6 a7 a8 : Value} {t : TypeId} (h : w.heap[g]? = some (.cells #[a0, a1, a2, a3, a4, a5, a6, a7, a8] t (0, 0))) :
    w.cell? ⟨g, 0, none⟩ = some a0 ∧ w.cell? ⟨g, 1, none⟩ = some a1 ∧ w.cell? ⟨g, 2, none⟩ = some a2 ∧ w.cell? ⟨g, 3, none⟩ = some a3 ∧ w.cell? ⟨g, 4, none⟩ = some a4 ∧ w.cell? ⟨g, 5, none⟩ = some a5 ∧
      w.cell? ⟨g, 6, none⟩ = some a6 ∧ w.cell? ⟨g, 7, none⟩ = some a7 ∧ w.cell? ⟨g, 8, none⟩ = some a8 ∧ ∀ j, w.frozen? ⟨g, j, none⟩ = false := by
  refine ⟨?_, ?_, ?_, ?_, ?_, ?_, ?_, ?_, ?_, fun j => by simp [World.frozen?, h]⟩ <;> (rw [cell_of_row w g _ _ t (0, 0) h]; rfl)
/-- A row of nine items, six of them told. -/
def RowI (w : World) (g : Nat) (cs zs : List Value) : Prop := cs.length = 18 ∧ zs.length = 9 ∧ w.heap[g]? = some (.cells (cs ++ zs).toArray 45 (0, 0))
theorem RowI.below {w w' : World} {g : Nat} {cs zs : List Value} (h : RowI w g cs zs) (hb : Below w.heap.size w w') : RowI w' g cs zs :=
  ⟨h.1, h.2.1, box_keep h.2.2 hb⟩
theorem RowI.cell {w : World} {g : Nat} {cs zs : List Value} (h : RowI w g cs zs) (i : Nat) (u : Value) (hu : zs[i]? = some u) : w.cell? ⟨g, 18 + i, none⟩ = some u := by
  rw [cell_of_row w g _ _ _ (0, 0) h.2.2]
  simp [List.getElem?_append_right, h.1, hu]
theorem RowI.frozen {w : World} {g : Nat} {cs zs : List Value} (h : RowI w g cs zs) (j : Nat) : w.frozen? ⟨g, j, none⟩ = false := by
  simp [World.frozen?, h.2.2]
theorem RowI.set {w : World} {g : Nat} {cs zs : List Value} (h : RowI w g cs zs) (i : Nat) (u : Value) : RowI (w.setCell ⟨g, 18 + i, none⟩ u) g cs (zs.set i u) := by
  refine ⟨h.1, by rw [List.length_set]; exact h.2.1, ?_⟩
  rw [heap_set_same h.2.2]
  simp [List.set_append_right, h.1]
theorem RowI.rd {w : World} {g : Nat} {cs zs : List Value} (h : RowI w g cs zs) : Rd w (some ⟨g, 0, none⟩) (cs ++ zs) := fun _ =>
  ⟨g, 0, rfl, (Array.getElem?_eq_some_iff.1 h.2.2).1, fun j u hu => by
    rw [cell_of_row w g _ _ _ (0, 0) h.2.2]
    simpa using hu⟩

/-- A row of items grows by one that is new memory. -/
theorem list_put {wr w5 w6 : World} {base : Nat} {A A' : Option Addr} {j c c' : Nat} {cs : List Value} {t : Tree} {v0 v1 v2 : Value} {ts : List Tree} {o : Obj}
    (hown : Own wr base 45 3 A j c cs) (hrl : RdL wr (fun g => base ≤ g ∧ some g ≠ A.map (·.block)) ts cs) (hb5 : Below wr.heap.size wr w5) (ht : RdT w5 (fun g => wr.heap.size ≤ g) t v0 v1 v2)
    (hk6 : Kp (fun k => some k = A.map (·.block)) (w5.alloc o) w6) (hlie0 : Lie A' A (w5.alloc o).heap.size) (hbs : base ≤ wr.heap.size) :
    RdL w6 (fun g => base ≤ g ∧ some g ≠ A'.map (·.block)) (ts ++ [t]) (cs ++ [v0, v1, v2]) := by
  have hlie : Lie A' A (w5.heap.size + 1) := by simpa using hlie0
  have hbl := hown.block_lt
  have hs5 := hb5.size
  have hne' : ∀ g, g < w5.heap.size → some g ≠ A.map (·.block) → some g ≠ A'.map (·.block) := by
    intro g hg hB h
    rcases hlie with e | ⟨j, e, hj⟩
    · exact hB (h.trans e)
    · rw [e] at h
      injection h with h
      omega
  have r1 : RdL w5 (fun g => base ≤ g ∧ some g ≠ A.map (·.block)) ts cs := hrl.below hb5
  have r2 : RdT w5 (fun g => base ≤ g ∧ some g ≠ A.map (·.block)) t v0 v1 v2 := ht.mono fun g _ hg => ⟨by omega, fun h => by have := (hbl g h.symm).2; omega⟩
  have r3 := r1.snoc r2
  have r4 : RdL w5 (fun g => (base ≤ g ∧ some g ≠ A.map (·.block)) ∧ some g ≠ A'.map (·.block)) (ts ++ [t]) (cs ++ [v0, v1, v2]) := r3.mono fun g hl hg => ⟨hg, hne' g hl hg.2⟩
  have r5 := r4.below (bal (Below.refl _ _) o)
  have r6 := r5.kp hk6 fun g hg h => hg.1.2 h
  exact r6.mono fun g _ hg => ⟨hg.1.1, hg.2⟩
theorem own_three (w : World) (base : Nat) (hb : base ≤ w.heap.size) (v0 v1 v2 : Value) (E : TypeId) : Own (w.alloc (.cells #[v0, v1, v2] E)) base E 3 (some ⟨w.heap.size, 0, none⟩) 1 1 [v0, v1, v2] := by
  have := own_made w base E 3 #[v0, v1, v2] 1 1 hb (by simp [maxLen]) (Nat.le_refl _) rfl
  simpa using this

/-- A text of a word's bytes, in new memory. -/
theorem word_rd {w : World} {base n : Nat} {A : Option Addr} {m c : Nat} (h : Own w base 5 1 A m c (bs (wbytes n))) (hm : m = (wbytes n).length) (P : Nat → Prop) (hp : ∀ g, base ≤ g → g < w.heap.size → P g) :
    RdT w P (wordT n) (.bool false) (.slice A m c) (.slice none 0 0) := by
  have hcap := h.cap
  have := wbytes_len n
  exact RdT.text hm hcap.1 hcap.2 (by omega) (h.rdp P fun g _ h1 h2 => hp g h1 h2)

set_option maxHeartbeats 1000000 in
/-- The reference's word. -/
theorem ref_word16 (n : Nat) (hn : n < 18446744073709551616) (w : World) :
    Calls Try.prog 48 #[.int .u64 (n : Int)] w fun r w' => ∃ A m c, r = .returned (.agg #[.bool false, .slice A m c, .slice none 0 0]) ∧ RdT w' (fun g => w.heap.size ≤ g) (wordT n) (.bool false) (.slice A m c) (.slice none 0 0) ∧ Below w.heap.size w w' := by
  have HN := Go.Lib.hid hn
  clear hn
  go_enter Try.func48, Try.ntmps48
  go_wp2_with fail
  refine (ref_WBytes n HN.out _).mono ?_
  rintro r w1 ⟨A1, m1, c1, rfl, hm1, hown, hb⟩
  have hs1 : w.heap.size < w1.heap.size := by have := hb.size; simp at this; omega
  obtain ⟨p0, p1, p2, pf⟩ := cells3 ((hb.block w.heap.size (by simp)).trans (Go.heap_alloc_new w _))
  have HO := Go.Lib.hid hown
  have HB := Go.Lib.hid hb
  have HM := Go.Lib.hid hm1
  clear hown hb hm1
  go_wp2_with fail
  refine bodyPost_ret (v := .agg #[.bool false, .slice A1 m1 c1, .slice none 0 0]) (by simp [results, Try.results48, go_sem, p0, p1, p2]) rfl ⟨A1, m1, c1, rfl, ?_, ?_⟩
  · have h := (HO.out.kp (kp_set3 w1 w.heap.size (.bool false) (.slice A1 m1 c1) (.slice none 0 0)) (fun g e h => by have := (HO.out.block_lt g e).1; simp at this; omega)).more (b := w.heap.size) (fun g e => by have := (HO.out.block_lt g e).1; simp at this; omega)
    exact word_rd h HM.out _ fun g h _ => h
  · exact below_set3 (btr (bal (Below.refl _ _) _) HB.out) (Nat.le_refl _) _ _ _

end Go.Proofs.Ytgpaiphjbhkadaa
