/- Digests as values: whole arrays are loaded, stored, made and compared without looking at their cells. -/
import Derived.Test.YtkjdmjflppcofaaDgPrint
import Derived.Test.YtkjdmjflppcofaaDgParse2
import Derived.ChangeKeysEq
namespace Go.Proofs.Ytkjdmjflppcofaa
open Go.ChangeShapes Go.WideShapes Go.ChangeAt Go.RowKit
set_option linter.unusedVariables false

/-- The cells of a whole block, none of them frozen. -/
def rowOf (w : World) (g : Nat) : Option (Array Value) := match w.heap[g]? with
  | some (.cells c _ (0, 0)) => some c
  | _ => none

theorem rowOf_heap {w : World} {g : Nat} {c : Array Value} {t : TypeId} (h : w.heap[g]? = some (.cells c t (0, 0))) : rowOf w g = some c := by
  simp only [rowOf, h]
theorem heap_rowOf {w : World} {g : Nat} {c : Array Value} (h : rowOf w g = some c) : ∃ t, w.heap[g]? = some (.cells c t (0, 0)) := by
  unfold rowOf at h
  split at h
  · rename_i t heq
    injection h with h
    subst h
    exact ⟨t, heq⟩
  · cases h
@[simp, go_sem] theorem rowOf_drew (w : World) (g : Nat) : rowOf w.drew g = rowOf w g := rfl
@[simp, go_sem] theorem rowOf_drewN (w : World) (n g : Nat) : rowOf (w.drewN n) g = rowOf w g := rfl
@[simp, go_sem] theorem rowOf_new (w : World) (c : Array Value) (t : TypeId) : rowOf (w.alloc (.cells c t)) w.heap.size = some c := rowOf_heap (Go.heap_alloc_new w _)
@[simp, go_sem] theorem rowOf_old (w : World) (o : Obj) (g : Nat) (h : g < w.heap.size) : rowOf (w.alloc o) g = rowOf w g := by
  unfold rowOf; rw [Below.heap_alloc w o g h]
theorem rowOf_below {B : Nat} {w w' : World} (h : Below B w w') {g : Nat} (hg : g < B) : rowOf w' g = rowOf w g := by
  unfold rowOf; rw [h.block g hg]

theorem dA_one (f : Nat → Int) : (dA f).all (·.oneCell') = true := by simp [dA, Value.oneCell']

/-- What the model's own reading gives: behind a name. -/
noncomputable def loadRaw (g : Nat) (w : World) : Result Value := (loadVar 28 ⟨g, 0, none⟩).run Try.prog w
@[go_sem ↓] theorem load28 (g : Nat) (w : World) : (loadVar 28 ⟨g, 0, none⟩).run Try.prog w =
    match rowOf w g with
    | some c => if c.size = 32 then .ok (.agg c) w else loadRaw g w
    | none => loadRaw g w := by
  cases h : rowOf w g with
  | none => rfl
  | some c =>
    simp only []
    split
    · rename_i hs
      obtain ⟨t, ht⟩ := heap_rowOf h
      exact run_loadVar_row w g t 28 c (0, 0) _ ht Try.underlying28 rfl (by rw [hs]; exact size28)
    · rfl

/-- A load of a whole digest, and a store: behind names, so that nothing lays them open (the names come ahead of the laying open: '↓', and they take whatever address). -/
noncomputable def load28S (a : Addr) : Sem Value := loadVar 28 a
@[go_sem ↓] theorem loadVar28 (a : Addr) : loadVar 28 a = load28S a := rfl
@[go_sem] theorem load28S_run (g : Nat) (w : World) : (load28S ⟨g, 0, none⟩).run Try.prog w =
    match rowOf w g with
    | some c => if c.size = 32 then .ok (.agg c) w else loadRaw g w
    | none => loadRaw g w := load28 g w
noncomputable def store28S (a : Addr) (v : Value) : Sem Unit := storeVar 28 a v
@[go_sem ↓] theorem storeVar28 (a : Addr) (v : Value) : storeVar 28 a v = store28S a v := rfl
noncomputable def storeRaw (g : Nat) (v : Value) (w : World) : Result Unit := (storeVar 28 ⟨g, 0, none⟩ v).run Try.prog w
@[go_sem] theorem store28S_run (g : Nat) (f : Nat → Int) (w : World) : (store28S ⟨g, 0, none⟩ (.agg (dA f))).run Try.prog w =
    match rowOf w g with
    | some c => if c.size = 32 then .ok () (w.setRow g (dA f)) else storeRaw g (.agg (dA f)) w
    | none => storeRaw g (.agg (dA f)) w := by
  change storeRaw g (.agg (dA f)) w = _
  cases h : rowOf w g with
  | none => rfl
  | some c =>
    simp only []
    split
    · rename_i hs
      obtain ⟨t, ht⟩ := heap_rowOf h
      exact run_storeVar_row w g t 28 c (dA f) ht (size28d f) (hs.trans (dA_size f).symm) (dA_one f)
    · rfl
theorem setRow_new (w : World) (old cs : Array Value) (t : TypeId) : (w.alloc (.cells old t)).setRow w.heap.size cs = w.alloc (.cells cs t) := by
  unfold World.setRow World.alloc
  simp only
  congr 1
  apply Array.ext_getElem?
  intro i
  simp only [Array.getElem?_modify, Array.getElem?_push]
  by_cases h : i = w.heap.size
  · subst h; simp
  · simp [h, Ne.symm h]
attribute [go_sem] setRow_new

@[simp, go_sem] theorem dA_size' (f : Nat → Int) : (dA f).size = 32 := dA_size f

def zeroF : Nat → Int := fun _ => 0
theorem zero_lit : dA zeroF = #[.int .u8 0, .int .u8 0, .int .u8 0, .int .u8 0, .int .u8 0, .int .u8 0, .int .u8 0, .int .u8 0, .int .u8 0, .int .u8 0, .int .u8 0, .int .u8 0, .int .u8 0, .int .u8 0, .int .u8 0, .int .u8 0, .int .u8 0, .int .u8 0, .int .u8 0, .int .u8 0, .int .u8 0, .int .u8 0, .int .u8 0, .int .u8 0, .int .u8 0, .int .u8 0, .int .u8 0, .int .u8 0, .int .u8 0, .int .u8 0, .int .u8 0, .int .u8 0] := rfl

/-- 'Digest{}'. -/
@[go_sem ↓] theorem build28 (w : World) : (Instr.build 28 #[]).run Try.prog w = .ok (.agg (dA zeroF)) w := by
  rw [zero_lit]
  kernel_rfl

/-- Are two digests the same? -/
def eqD (f g : Nat → Int) : Bool := (List.range 32).all fun i => f i == g i
theorem eqD_refl (f : Nat → Int) : eqD f f = true := by simp [eqD]

theorem eqItems28 (f g : Nat → Int) (w : World) : ∀ is : List Nat, (∀ i ∈ is, i < 32) → (Op.eqItems 9999 5 1 (dA f) (dA g) is).run Try.prog w = .ok (is.all fun i => f i == g i) w
  | [], _ => by simp [Op.eqItems]
  | i :: is, h => by
    have hi := h i (by simp)
    have p1 : (part 5 (dA f) (i * 1)).run Try.prog w = .ok (.int .u8 (f i)) w := by
      simp [part, Try.isAgg5, dA_at f i hi]
    have p2 : (part 5 (dA g) (i * 1)).run Try.prog w = .ok (.int .u8 (g i)) w := by
      simp [part, Try.isAgg5, dA_at g i hi]
    have p3 := run_equalIn_int (P := Try.prog) w 9998 5 .u8 .u8 (f i) (g i) Try.underlying5
    have ih := eqItems28 f g w is (fun j hj => h j (by simp [hj]))
    simp only [Op.eqItems, Sem.run_bind, p1, p2, p3, Result.andThen_ok, List.all_cons]
    cases hb : f i == g i
    · simp
    · simpa using ih

@[go_sem ↓] theorem eq28 (f g : Nat → Int) (w : World) : (Op.equalIn 10000 28 (.agg (dA f)) (.agg (dA g))).run Try.prog w = .ok (eqD f g) w := by
  obtain ⟨i0, hi, hz0, hz1, hz2⟩ := info_parts info_u8
  have hc : Try.prog.cellsOf 5 = 1 := by kernel_rfl
  rw [run_equalIn_array w 9999 (dA f) (dA g) Try.underlying28 hi, hc]
  exact eqItems28 f g w _ (fun i hi => List.mem_range.1 hi)

end Go.Proofs.Ytkjdmjflppcofaa
