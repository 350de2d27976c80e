/- TxCosts: the walk. -/
import Derived.Test.YtgpaiphjbhkadaaTxOpen
import Derived.Test.YtgpaiphjbhkadaaTxAlive
import Derived.Test.YtgpaiphjbhkadaaShelf
import Derived.Test.YtgpaiphjbhkadaaDgB
import Derived.Test.YtgpaiphjbhkadaaLexKit
import Derived.ChangeKeysEq
namespace Go.Proofs.Ytgpaiphjbhkadaa
open Go.ChangeShapes Go.WideShapes Go.ChangeAt Go.RowKit
set_option linter.unusedVariables false
set_option maxRecDepth 100000
attribute [local go_sem ↓] Go.wp_at_zero Go.wp_at_succ

/-! ### Products -/
set_option maxHeartbeats 400000 in
theorem words_Mul_big (a b : Int) (h0 : 0 ≤ a) (h2 : a ≤ 18446744073709551615) (h1 : 0 ≤ b) (h3 : b ≤ 18446744073709551615) (h : 18446744073709551615 < a * b) (w : World) :
    Calls Try.prog 34 #[.int .u64 a, .int .u64 b] w fun e w' => e = .returned (.tuple #[.int .u64 0, .bool false]) ∧ w = w' := by
  obtain ⟨x, rfl⟩ := Int.eq_ofNat_of_zero_le h0
  obtain ⟨y, rfl⟩ := Int.eq_ofNat_of_zero_le h1
  have hm := Try.bits_Mul64 x y (by omega) (by omega)
  have hq : (0 : Int) < ((x * y / 18446744073709551616 : Nat) : Int) := by
    have : 18446744073709551616 ≤ x * y := by rw [← Int.natCast_mul] at h; omega
    have := (Nat.le_div_iff_mul_le (k := 18446744073709551616) (by decide) (x := 1) (y := x * y)).2 (by omega)
    omega
  generalize ((x * y / 18446744073709551616 : Nat) : Int) = q at *
  have HM := Go.Lib.hid hm
  clear hm h
  go_enter Try.func34, Try.ntmps34
  go_wp2_with (go_at_call 55; refine (HM.out _).mono ?_; rintro e w' ⟨rfl, rfl⟩)
  go_ret2
  exact ⟨rfl, rfl⟩

set_option maxHeartbeats 400000 in
theorem words_Mul_fits (a b : Int) (h0 : 0 ≤ a) (h2 : a ≤ 18446744073709551615) (h1 : 0 ≤ b) (h3 : b ≤ 18446744073709551615) (h : a * b ≤ 18446744073709551615) (w : World) :
    Calls Try.prog 34 #[.int .u64 a, .int .u64 b] w fun e w' => e = .returned (.tuple #[.int .u64 (a * b), .bool true]) ∧ w = w' := by
  obtain ⟨x, rfl⟩ := Int.eq_ofNat_of_zero_le h0
  obtain ⟨y, rfl⟩ := Int.eq_ofNat_of_zero_le h1
  have hm := Try.bits_Mul64 x y (by omega) (by omega)
  have hl : x * y < 18446744073709551616 := by
    rw [← Int.natCast_mul] at h; omega
  rw [Nat.div_eq_of_lt hl, Nat.mod_eq_of_lt hl] at hm
  rw [show ((x : Int) * (y : Int)) = ((x * y : Nat) : Int) from (Int.natCast_mul _ _).symm]
  generalize ((x * y : Nat) : Int) = q at *
  have HM := Go.Lib.hid hm
  clear hm h hl
  go_enter Try.func34, Try.ntmps34
  go_wp2_with (go_at_call 55; refine (HM.out _).mono ?_; rintro e w' ⟨rfl, rfl⟩)
  go_ret2
  exact ⟨rfl, rfl⟩

set_option maxHeartbeats 400000 in
theorem ref_Mul_zero (b : Int) (h1 : 0 ≤ b) (h3 : b ≤ 18446744073709551615) (w : World) :
    Calls Try.prog 35 #[.int .u64 0, .int .u64 b] w fun e w' => e = .returned (.tuple #[.int .u64 0, .bool true]) ∧ w = w' := by
  go_enter Try.func35, Try.ntmps35
  go_wp2
  go_ret2
  exact ⟨rfl, rfl⟩

set_option maxHeartbeats 400000 in
theorem ref_Mul_big (a b : Int) (h0 : 1 ≤ a) (h2 : a ≤ 18446744073709551615) (h1 : 0 ≤ b) (h3 : b ≤ 18446744073709551615) (h : 18446744073709551615 / a < b) (w : World) :
    Calls Try.prog 35 #[.int .u64 a, .int .u64 b] w fun e w' => e = .returned (.tuple #[.int .u64 0, .bool false]) ∧ w = w' := by
  have ha : (a != 0) = true := by rw [bne_iff_ne]; omega
  go_enter Try.func35, Try.ntmps35
  go_wp2
  go_ret2
  exact ⟨rfl, rfl⟩

set_option maxHeartbeats 400000 in
theorem ref_Mul_fits (a b : Int) (h0 : 1 ≤ a) (h2 : a ≤ 18446744073709551615) (h1 : 0 ≤ b) (h3 : b ≤ 18446744073709551615) (h : b ≤ 18446744073709551615 / a) (hm : a * b ≤ 18446744073709551615) (hm0 : 0 ≤ a * b) (w : World) :
    Calls Try.prog 35 #[.int .u64 a, .int .u64 b] w fun e w' => e = .returned (.tuple #[.int .u64 (a * b), .bool true]) ∧ w = w' := by
  have ha : (a != 0) = true := by rw [bne_iff_ne]; omega
  go_enter Try.func35, Try.ntmps35
  go_wp2
  go_ret2
  exact ⟨rfl, rfl⟩


def feeN (a b : Int) : Int := if a * b ≤ 18446744073709551615 then a * b else 0
def feeB (a b : Int) : Bool := decide (a * b ≤ 18446744073709551615)
theorem words_Mul_all (a b : Int) (h0 : 0 ≤ a) (h2 : a ≤ 18446744073709551615) (h1 : 0 ≤ b) (h3 : b ≤ 18446744073709551615) (w : World) :
    Calls Try.prog 34 #[.int .u64 a, .int .u64 b] w fun e w' => e = .returned (.tuple #[.int .u64 (feeN a b), .bool (feeB a b)]) ∧ w = w' := by
  unfold feeN feeB
  by_cases h : a * b ≤ 18446744073709551615
  · rw [if_pos h, decide_eq_true h]
    exact words_Mul_fits a b h0 h2 h1 h3 h w
  · rw [if_neg h, decide_eq_false h]
    exact words_Mul_big a b h0 h2 h1 h3 (by omega) w
theorem ref_Mul_all (a b : Int) (h0 : 0 ≤ a) (h2 : a ≤ 18446744073709551615) (h1 : 0 ≤ b) (h3 : b ≤ 18446744073709551615) (w : World) :
    Calls Try.prog 35 #[.int .u64 a, .int .u64 b] w fun e w' => e = .returned (.tuple #[.int .u64 (feeN a b), .bool (feeB a b)]) ∧ w = w' := by
  unfold feeN feeB
  by_cases hz : a = 0
  · subst hz
    rw [Int.zero_mul, if_pos (by omega), decide_eq_true (by omega)]
    exact ref_Mul_zero b h1 h3 w
  · have hp : 0 ≤ a * b := Int.mul_nonneg h0 h1
    by_cases h : a * b ≤ 18446744073709551615
    · rw [if_pos h, decide_eq_true h]
      have hd : b ≤ 18446744073709551615 / a := (Int.le_ediv_iff_mul_le (by omega)).2 (by rw [Int.mul_comm]; exact h)
      exact ref_Mul_fits a b (by omega) h2 h1 h3 hd h hp w
    · rw [if_neg h, decide_eq_false h]
      have hd : 18446744073709551615 / a < b := by
        refine Int.not_le.1 fun h' => h ?_
        have := (Int.le_ediv_iff_mul_le (c := a) (by omega)).1 h'
        rwa [Int.mul_comm] at this
      exact ref_Mul_big a b (by omega) h2 h1 h3 hd w

set_option maxHeartbeats 1000000 in
theorem tx_Fee (z0 z1 z2 z3 z4 z5 : Int) (A B : Option Addr) (m d k c : Nat) (mk : Bool) (w : World) (h0 : 0 ≤ z2) (h2 : z2 ≤ 18446744073709551615) (h1 : 0 ≤ z3) (h3 : z3 ≤ 18446744073709551615) :
    Calls Try.prog 19 #[.agg #[.int .u64 z0, .int .u64 z1, .int .u64 z2, .int .u64 z3, .int .u64 z4, .int .u64 z5, .slice A m d, .bool mk, .slice B k c]] w fun r w' => r = .returned (.tuple #[.int .u64 (feeN z2 z3), .bool (feeB z2 z3)]) ∧ Below w.heap.size w w' := by
  go_enter Try.func19, Try.ntmps19
  go_wp2_with (go_at_call 34; refine (words_Mul_all z2 z3 h0 h2 h1 h3 _).mono ?_; rintro e w' ⟨rfl, rfl⟩)
  go_ret2
  exact ⟨rfl, bal (Below.refl _ _) _⟩
set_option maxHeartbeats 1000000 in
theorem ref_Fee (z0 z1 z2 z3 z4 z5 : Int) (A B : Option Addr) (m d k c : Nat) (mk : Bool) (w : World) (h0 : 0 ≤ z2) (h2 : z2 ≤ 18446744073709551615) (h1 : 0 ≤ z3) (h3 : z3 ≤ 18446744073709551615) :
    Calls Try.prog 20 #[.agg #[.int .u64 z0, .int .u64 z1, .int .u64 z2, .int .u64 z3, .int .u64 z4, .int .u64 z5, .slice A m d, .bool mk, .slice B k c]] w fun r w' => r = .returned (.tuple #[.int .u64 (feeN z2 z3), .bool (feeB z2 z3)]) ∧ Below w.heap.size w w' := by
  go_enter Try.func20, Try.ntmps20
  go_wp2_with (go_at_call 35; refine (ref_Mul_all z2 z3 h0 h2 h1 h3 _).mono ?_; rintro e w' ⟨rfl, rfl⟩)
  go_ret2
  exact ⟨rfl, bal (Below.refl _ _) _⟩

/-! ### Least -/
def leastI (k m : Nat) : Int := IntKind.u64.wrap (100 + 2 * (k : Int) + IntKind.u64.wrap (4 * (m : Int)))
set_option maxHeartbeats 1000000 in
theorem tx_LeastI (z0 z1 z2 z3 z4 z5 : Int) (A B : Option Addr) (m d k c : Nat) (mk : Bool) (w : World) (hk : k ≤ 140737488351232) (hm : m ≤ 9223372036854775807) :
    Calls Try.prog 18 #[.agg #[.int .u64 z0, .int .u64 z1, .int .u64 z2, .int .u64 z3, .int .u64 z4, .int .u64 z5, .slice A m d, .bool mk, .slice B k c]] w fun r w' => r = .returned (.int .u64 (leastI k m)) ∧ Below w.heap.size w w' := by
  unfold leastI
  obtain ⟨q, hq⟩ : ∃ q, q = IntKind.u64.wrap (4 * (m : Int)) := ⟨_, rfl⟩
  rw [← hq]
  obtain ⟨r, hr⟩ : ∃ r, r = IntKind.u64.wrap (100 + 2 * (k : Int) + q) := ⟨_, rfl⟩
  rw [← hr]
  have e1 : IntKind.u64.wrap (k : Int) = (k : Int) := by rw [IntKind.wrap_u64]; omega
  have e2 : IntKind.u64.wrap (m : Int) = (m : Int) := by rw [IntKind.wrap_u64]; omega
  have e3 : IntKind.u64.wrap (2 * (k : Int)) = 2 * (k : Int) := by rw [IntKind.wrap_u64]; omega
  have e5 : IntKind.u64.wrap (100 + 2 * (k : Int)) = 100 + 2 * (k : Int) := by rw [IntKind.wrap_u64]; omega
  have e4 : IntKind.u64.wrap (4 * (m : Int)) = q := hq.symm
  have e6 : IntKind.u64.wrap (100 + 2 * (k : Int) + q) = r := hr.symm
  clear hq hr
  go_enter Try.func18, Try.ntmps18
  go_wp2
  go_ret
  exact ⟨rfl, bal (Below.refl _ _) _⟩

set_option maxHeartbeats 1000000 in
theorem ref_LeastI (z0 z1 z2 z3 z4 z5 : Int) (A B : Option Addr) (m d k c : Nat) (mk : Bool) (w : World) (hk : k ≤ 140737488351232) (hm : m ≤ 9223372036854775807) :
    Calls Try.prog 21 #[.agg #[.int .u64 z0, .int .u64 z1, .int .u64 z2, .int .u64 z3, .int .u64 z4, .int .u64 z5, .slice A m d, .bool mk, .slice B k c]] w fun r w' => r = .returned (.int .u64 (leastI k m)) ∧ Below w.heap.size w w' := by
  unfold leastI
  obtain ⟨q, hq⟩ : ∃ q, q = IntKind.u64.wrap (4 * (m : Int)) := ⟨_, rfl⟩
  rw [← hq]
  obtain ⟨r, hr⟩ : ∃ r, r = IntKind.u64.wrap (100 + 2 * (k : Int) + q) := ⟨_, rfl⟩
  rw [← hr]
  have e1 : IntKind.u64.wrap (k : Int) = (k : Int) := by rw [IntKind.wrap_u64]; omega
  have e2 : IntKind.u64.wrap (m : Int) = (m : Int) := by rw [IntKind.wrap_u64]; omega
  have e3 : IntKind.u64.wrap (2 * (k : Int)) = 2 * (k : Int) := by rw [IntKind.wrap_u64]; omega
  have e5 : IntKind.u64.wrap (100 + 2 * (k : Int)) = 100 + 2 * (k : Int) := by rw [IntKind.wrap_u64]; omega
  have e4 : IntKind.u64.wrap (4 * (m : Int)) = q := hq.symm
  have e6 : IntKind.u64.wrap (100 + 2 * (k : Int) + q) = r := hr.symm
  clear hq hr
  go_enter Try.func21, Try.ntmps21
  go_wp2
  go_ret
  exact ⟨rfl, bal (Below.refl _ _) _⟩


/-! ### Whole digests -/
/-- The cells of 32 bytes. -/
def dA (f : Nat → Int) : Array Value := ((List.range 32).map fun i => Value.int .u8 (f i)).toArray
theorem dA_size (f : Nat → Int) : (dA f).size = 32 := by simp [dA]
theorem dA_at (f : Nat → Int) (k : Nat) (hk : k < 32) : (dA f)[k]? = some (.int .u8 (f k)) := by simp [dA, hk]

theorem size28d (f : Nat → Int) : (Try.prog.info? 59).map (·.size) = some (dA f).size := by rw [dA_size]; exact size28

/-- The cells of a whole block, none of them frozen. -/
def rowOf (w : World) (g : Nat) : Option (Array Value) := match w.heap[g]? with
  | some (.cells c _ (0, 0)) => some c
  | _ => none

theorem rowOf_heap {w : World} {g : Nat} {c : Array Value} {t : TypeId} (h : w.heap[g]? = some (.cells c t (0, 0))) : rowOf w g = some c := by
  simp only [rowOf, h]
theorem heap_rowOf {w : World} {g : Nat} {c : Array Value} (h : rowOf w g = some c) : ∃ t, w.heap[g]? = some (.cells c t (0, 0)) := by
  unfold rowOf at h
  split at h
  · rename_i t heq
    injection h with h
    subst h
    exact ⟨t, heq⟩
  · cases h
@[simp, go_sem] theorem rowOf_drew (w : World) (g : Nat) : rowOf w.drew g = rowOf w g := rfl
@[simp, go_sem] theorem rowOf_drewN (w : World) (n g : Nat) : rowOf (w.drewN n) g = rowOf w g := rfl
@[simp, go_sem] theorem rowOf_new (w : World) (c : Array Value) (t : TypeId) : rowOf (w.alloc (.cells c t)) w.heap.size = some c := rowOf_heap (Go.heap_alloc_new w _)
@[simp, go_sem] theorem rowOf_old (w : World) (o : Obj) (g : Nat) (h : g < w.heap.size) : rowOf (w.alloc o) g = rowOf w g := by
  unfold rowOf; rw [Below.heap_alloc w o g h]
theorem rowOf_below {B : Nat} {w w' : World} (h : Below B w w') {g : Nat} (hg : g < B) : rowOf w' g = rowOf w g := by
  unfold rowOf; rw [h.block g hg]

theorem dA_one (f : Nat → Int) : (dA f).all (·.oneCell') = true := by simp [dA, Value.oneCell']

/-- What the model's own reading gives: behind a name. -/
noncomputable def loadRaw (g : Nat) (w : World) : Result Value := (loadVar 59 ⟨g, 0, none⟩).run Try.prog w
@[go_sem ↓] theorem load28 (g : Nat) (w : World) : (loadVar 59 ⟨g, 0, none⟩).run Try.prog w =
    match rowOf w g with
    | some c => if c.size = 32 then .ok (.agg c) w else loadRaw g w
    | none => loadRaw g w := by
  cases h : rowOf w g with
  | none => rfl
  | some c =>
    simp only []
    split
    · rename_i hs
      obtain ⟨t, ht⟩ := heap_rowOf h
      exact run_loadVar_row w g t 59 c (0, 0) _ ht Try.underlying59 rfl (by rw [hs]; exact size28)
    · rfl

/-- A load of a whole digest, and a store: behind names, so that nothing lays them open (the names come ahead of the laying open: '↓', and they take whatever address). -/
noncomputable def load28S (a : Addr) : Sem Value := loadVar 59 a
@[go_sem ↓] theorem loadVar28 (a : Addr) : loadVar 59 a = load28S a := rfl
@[go_sem] theorem load28S_run (g : Nat) (w : World) : (load28S ⟨g, 0, none⟩).run Try.prog w =
    match rowOf w g with
    | some c => if c.size = 32 then .ok (.agg c) w else loadRaw g w
    | none => loadRaw g w := load28 g w
noncomputable def store28S (a : Addr) (v : Value) : Sem Unit := storeVar 59 a v
@[go_sem ↓] theorem storeVar28 (a : Addr) (v : Value) : storeVar 59 a v = store28S a v := rfl
noncomputable def storeRaw (g : Nat) (v : Value) (w : World) : Result Unit := (storeVar 59 ⟨g, 0, none⟩ v).run Try.prog w
@[go_sem] theorem store28S_run (g : Nat) (f : Nat → Int) (w : World) : (store28S ⟨g, 0, none⟩ (.agg (dA f))).run Try.prog w =
    match rowOf w g with
    | some c => if c.size = 32 then .ok () (w.setRow g (dA f)) else storeRaw g (.agg (dA f)) w
    | none => storeRaw g (.agg (dA f)) w := by
  change storeRaw g (.agg (dA f)) w = _
  cases h : rowOf w g with
  | none => rfl
  | some c =>
    simp only []
    split
    · rename_i hs
      obtain ⟨t, ht⟩ := heap_rowOf h
      exact run_storeVar_row w g t 59 c (dA f) ht (size28d f) (hs.trans (dA_size f).symm) (dA_one f)
    · rfl
theorem setRow_new (w : World) (old cs : Array Value) (t : TypeId) : (w.alloc (.cells old t)).setRow w.heap.size cs = w.alloc (.cells cs t) := by
  unfold World.setRow World.alloc
  simp only
  congr 1
  apply Array.ext_getElem?
  intro i
  simp only [Array.getElem?_modify, Array.getElem?_push]
  by_cases h : i = w.heap.size
  · subst h; simp
  · simp [h, Ne.symm h]
attribute [go_sem] setRow_new

@[simp, go_sem] theorem dA_size' (f : Nat → Int) : (dA f).size = 32 := dA_size f

/-- 32 bytes as a list. -/
def digL (f : Nat → Int) : List UInt8 := (List.range 32).map fun i => UInt8.ofNat (f i).toNat
theorem digL_length (f : Nat → Int) : (digL f).length = 32 := by simp [digL]
theorem bv_ofNat (x : Int) (h : 0 ≤ x ∧ x ≤ 255) : bv (UInt8.ofNat x.toNat) = .int .u8 x := by
  unfold bv
  rw [UInt8.toNat_ofNat', Nat.mod_eq_of_lt (by omega), Int.toNat_of_nonneg h.1]
theorem dA_bs (f : Nat → Int) (hf : ∀ i, 0 ≤ f i ∧ f i ≤ 255) : (dA f).toList = bs (digL f) := by
  simp only [dA, bs, digL, List.map_map]
  refine List.map_congr_left fun i _ => ?_
  exact (bv_ofNat _ (hf i)).symm


theorem rd_take {w : World} {A : Option Addr} {xs : List UInt8} (h : Rd w A (bs xs)) (k : Nat) : Rd w A (bs (xs.take k)) := by
  intro hne
  obtain ⟨g, off, e, hg, hc⟩ := h (by
    intro e
    have : xs = [] := by simpa [bs] using e
    subst this
    simp [bs] at hne)
  refine ⟨g, off, e, hg, fun j u hu => hc j u ?_⟩
  simp only [bs, List.getElem?_map, List.getElem?_take] at hu ⊢
  split at hu
  · exact hu
  · cases hu

/-! ### Made -/
def madeB (a b : Nat) : List UInt8 := (digL (digB (be 8 a ++ be 8 b))).take 8
theorem madeB_length (a b : Nat) : (madeB a b).length = 8 := by simp [madeB, digL_length]

set_option maxHeartbeats 2000000 in
theorem tx_Made (a b : Nat) (w : World) :
    Calls Try.prog 22 #[.int .u64 (a : Int), .int .u64 (b : Int)] w fun r w' => r = .returned (.int .u64 ((wval (madeB a b) : Nat) : Int)) ∧ Below w.heap.size w w' := by
  obtain ⟨i0, hi, hz0, hz1, hz2⟩ := info_parts dg_info_u8
  go_enter Try.func22, Try.ntmps22
  go_wp2_with fail
  refine (words_Key a _).mono ?_
  rintro r w1 ⟨A1, rfl, hown1, hb1⟩
  have HO1 := Go.Lib.hid hown1
  have HB1 := Go.Lib.hid hb1
  clear hown1 hb1
  go_wp2_with fail
  refine (words_Key b _).mono ?_
  rintro r w2 ⟨A2, rfl, hown2, hb2⟩
  have HO1' := Go.Lib.hid (HO1.out.below hb2)
  have HO2 := Go.Lib.hid hown2
  have HB2 := Go.Lib.hid (btr HB1.out hb2)
  clear hown2 hb2
  go_wp2_with (at_builtin; refine wpList_append_o _ rfl _ _ 24 rfl 5 i0 (.int .u8 0) 1 1 Try.underlying24 hi hz0 hz1 hz2 rfl (by decide) w.heap.size A1 8 8 (bs (be 8 a)) rfl HO1'.out A2 8 8 (bs (be 8 b)) rfl (by simp) HO2.out.rd (bs_one _) (by omega) (by unfold maxLen; omega) (by have := HB2.out.size; omega) ?_; intro A3 c3 w3 hown3 hk3 hl3)
  have hb23 : Below w.heap.size w w3 := Kp.below HB2.out hk3 (fun i h => (HO1'.out.block_lt i h.symm).1)
  have hown3' : Own w3 w.heap.size 5 1 A3 16 c3 (bs (be 8 a ++ be 8 b)) := by simpa [bs] using hown3
  have HO3 := Go.Lib.hid hown3'
  have HB3 := Go.Lib.hid hb23
  clear hown3 hk3 hl3 hb23 hown3'
  obtain ⟨ys, hys⟩ : ∃ y, y = be 8 a ++ be 8 b := ⟨_, rfl⟩
  have hyl : ys.length = 16 := by rw [hys]; simp
  rw [← hys] at HO3
  have e0 : madeB a b = (digL (digB ys)).take 8 := by rw [hys]; rfl
  clear hys
  refine (digest_Of A3 16 c3 ys _ hyl.symm HO3.out.rd (by omega)).mono ?_
  rintro r w4 ⟨rfl, hb4⟩
  have HB4 := Go.Lib.hid (btr HB3.out hb4)
  have hfb : ∀ i, 0 ≤ digB ys i ∧ digB ys i ≤ 255 := fun i => outB_bd _ _
  obtain ⟨f, hf⟩ : ∃ f, f = digB ys := ⟨_, rfl⟩
  rw [← hf] at hfb e0 ⊢
  have HE0 := Go.Lib.hid e0
  have HR5 : Hid (Rd (w4.alloc (.cells (dA f) 59)) (some ⟨w4.heap.size, 0, none⟩) (bs ((digL f).take 8))) := Go.Lib.hid (rd_take (by
    rw [← dA_bs f hfb]
    exact rd_new w4 (dA f) _) 8)
  clear hb4 hf hfb hyl e0
  rw [show digV f = .agg (dA f) from rfl]
  go_wp2_with fail
  refine (words_Word_yes (some ⟨w4.heap.size, 0, none⟩) 8 32 ((digL f).take 8) _ HR5.out (by simp [digL_length]) rfl).mono ?_
  rintro r w5 ⟨rfl, rfl⟩
  go_wp2_with fail
  go_ret
  exact ⟨by rw [HE0.out]; rfl, bal HB4.out _⟩

set_option maxHeartbeats 2000000 in
theorem ref_Made (a b : Nat) (ha : a < 18446744073709551616) (hb : b < 18446744073709551616) (w : World) :
    Calls Try.prog 23 #[.int .u64 (a : Int), .int .u64 (b : Int)] w fun r w' => r = .returned (.int .u64 ((wval (madeB a b) : Nat) : Int)) ∧ Below w.heap.size w w' := by
  obtain ⟨i0, hi, hz0, hz1, hz2⟩ := info_parts dg_info_u8
  go_enter Try.func23, Try.ntmps23
  go_wp2_with fail
  refine (ref_WKey a ha _).mono ?_
  rintro r w1 ⟨A1, e1, rfl, hown1, hb1⟩
  have HO1 := Go.Lib.hid hown1
  have HB1 := Go.Lib.hid hb1
  clear hown1 hb1
  go_wp2_with (at_builtin; refine wpList_append_o _ rfl _ _ 24 rfl 5 i0 (.int .u8 0) 1 1 Try.underlying24 hi hz0 hz1 hz2 rfl (by decide) w.heap.size none 0 0 [] rfl (Own.nil _ _ _ _) A1 8 e1 (bs (be 8 a)) rfl (by simp) HO1.out.rd (bs_one _) (by omega) (by unfold maxLen; omega) (by have := HB1.out.size; omega) ?_; intro A2 c2 w2 hown2 hk2 hl2; have hb12 : Below w.heap.size w w2 := Kp.below HB1.out hk2 (fun i h => by simp at h); have hown2' : Own w2 w.heap.size 5 1 A2 8 c2 (bs (be 8 a)) := (by simpa using hown2); have HO2 := Go.Lib.hid hown2'; have HB2 := Go.Lib.hid hb12; clear hown2 hk2 hl2 hb12 hown2')
  refine (ref_WKey b hb _).mono ?_
  rintro r w3 ⟨A3', e3, rfl, hown3, hb3⟩
  have HO2' := Go.Lib.hid (HO2.out.below hb3)
  have HO4 := Go.Lib.hid hown3
  have HB5 := Go.Lib.hid (btr HB2.out hb3)
  clear hown3 hb3
  go_wp2_with (at_builtin; refine wpList_append_o _ rfl _ _ 24 rfl 5 i0 (.int .u8 0) 1 1 Try.underlying24 hi hz0 hz1 hz2 rfl (by decide) w.heap.size A2 8 c2 (bs (be 8 a)) rfl HO2'.out A3' 8 e3 (bs (be 8 b)) rfl (by simp) HO4.out.rd (bs_one _) (by omega) (by unfold maxLen; omega) (by have := HB5.out.size; omega) ?_; intro A3 c3 w3 hown3 hk3 hl3; have hb23 : Below w.heap.size w w3 := Kp.below HB5.out hk3 (fun i h => (HO2'.out.block_lt i h.symm).1); have hown3' : Own w3 w.heap.size 5 1 A3 16 c3 (bs (be 8 a ++ be 8 b)) := (by simpa [bs] using hown3); have HO3 := Go.Lib.hid hown3'; have HB3 := Go.Lib.hid hb23; clear hown3 hk3 hl3 hb23 hown3')
  obtain ⟨ys, hys⟩ : ∃ y, y = be 8 a ++ be 8 b := ⟨_, rfl⟩
  have hyl : ys.length = 16 := by rw [hys]; simp
  rw [← hys] at HO3
  have e0 : madeB a b = (digL (digB ys)).take 8 := by rw [hys]; rfl
  clear hys
  refine (ref_Of A3 16 c3 ys _ hyl.symm HO3.out.rd (by omega)).mono ?_
  rintro r w4 ⟨rfl, hb4⟩
  have HB4 := Go.Lib.hid (btr HB3.out hb4)
  have hfb : ∀ i, 0 ≤ digB ys i ∧ digB ys i ≤ 255 := fun i => outB_bd _ _
  obtain ⟨f, hf⟩ : ∃ f, f = digB ys := ⟨_, rfl⟩
  rw [← hf] at hfb e0 ⊢
  have HE0 := Go.Lib.hid e0
  have HR5 : Hid (Rd (w4.alloc (.cells (dA f) 59)) (some ⟨w4.heap.size, 0, none⟩) (bs ((digL f).take 8))) := Go.Lib.hid (rd_take (by
    rw [← dA_bs f hfb]
    exact rd_new w4 (dA f) _) 8)
  clear hb4 hf hfb hyl e0
  rw [show digV f = .agg (dA f) from rfl]
  go_wp2_with fail
  refine (ref_WWord_yes (some ⟨w4.heap.size, 0, none⟩) 32 ((digL f).take 8) _ HR5.out (by simp [digL_length])).mono ?_
  rintro r w5 ⟨rfl, rfl⟩
  go_wp2_with fail
  go_ret
  exact ⟨by rw [HE0.out]; rfl, bal HB4.out _⟩

set_option maxHeartbeats 4000000 in
theorem costs_walk (w : World) (t : TxD) (A : Option Addr) (d : Nat) (B : Option Addr) (c : Nat) (ht : TxIn w t A d B c) (z1 : Int) (hw1 : (Lit.int .u64 z1).wf = true) (z2 : Int) (hw2 : (Lit.int .u64 z2).wf = true) :
    Calls Try.prog 8 #[.agg #[.int .u64 (t.a0 : Int), .int .u64 (t.a1 : Int), .int .u64 (t.a2 : Int), .int .u64 (t.a3 : Int), .int .u64 (t.a4 : Int), .int .u64 (t.a5 : Int), .slice A t.inp.length d, .bool t.mak, .slice B t.code.length c], .int .u64 z1, .int .u64 z2] w fun r w' => r = .returned (.bool true) ∧ Below w.heap.size w w' := by
  have q1 := bounds_u64 hw1
  have q2 := bounds_u64 hw2
  obtain ⟨n1, rfl⟩ := Int.eq_ofNat_of_zero_le q1.1
  obtain ⟨n2, rfl⟩ := Int.eq_ofNat_of_zero_le q2.1
  have hn1 : n1 < 18446744073709551616 := by omega
  have hn2 : n2 < 18446744073709551616 := by omega
  clear q1 q2 hw1 hw2
  have hok := ht.ok
  have hd := ht.hd
  have hdm := ht.hdm
  have hc := ht.hc
  have hcm := ht.hcm
  have h2 := hok.h2
  have h3 := hok.h3
  obtain ⟨w1, hw1⟩ : ∃ w1, w1 = w.alloc (.cells #[.int .u64 (t.a0 : Int), .int .u64 (t.a1 : Int), .int .u64 (t.a2 : Int), .int .u64 (t.a3 : Int), .int .u64 (t.a4 : Int), .int .u64 (t.a5 : Int), .slice A t.inp.length d, .bool t.mak, .slice B t.code.length c] 26) := ⟨_, rfl⟩
  have hx1 : w1.heap[w.heap.size]? = some (.cells #[.int .u64 (t.a0 : Int), .int .u64 (t.a1 : Int), .int .u64 (t.a2 : Int), .int .u64 (t.a3 : Int), .int .u64 (t.a4 : Int), .int .u64 (t.a5 : Int), .slice A t.inp.length d, .bool t.mak, .slice B t.code.length c] 26 (0, 0)) := by rw [hw1]; exact Go.heap_alloc_new w _
  have hb1 : Below w.heap.size w w1 := by rw [hw1]; exact bal (Below.refl _ _) _
  have HW1 := Go.Lib.hid hw1
  have HX1 := Go.Lib.hid hx1
  have HB1 := Go.Lib.hid hb1
  clear ht hw1 hx1 hb1 hok
  go_enter Try.func8, Try.ntmps8
  go_wp2_with fail
  rw [← HW1.out]
  refine (tx_Fee _ _ (t.a2 : Int) (t.a3 : Int) _ _ _ _ _ _ _ _ _ _ (by omega) (by omega) (by omega) (by omega)).mono ?_
  rintro r w2 ⟨rfl, hb2⟩
  have HX2 := Go.Lib.hid (box_keep HX1.out hb2)
  have HB2 := Go.Lib.hid (btr HB1.out hb2)
  obtain ⟨x0, x1, x2, x3, x4, x5, x6, x7, x8, xf⟩ := cells9 HX2.out
  clear hb2
  go_wp2_with fail
  refine (ref_Fee _ _ (t.a2 : Int) (t.a3 : Int) _ _ _ _ _ _ _ _ _ _ (by omega) (by omega) (by omega) (by omega)).mono ?_
  rintro r w3 ⟨rfl, hb3⟩
  have HX3 := Go.Lib.hid (box_keep HX2.out hb3)
  have HB3 := Go.Lib.hid (btr HB2.out hb3)
  obtain ⟨fn, hfn⟩ : ∃ v, v = feeN (t.a2 : Int) (t.a3 : Int) := ⟨_, rfl⟩
  obtain ⟨fb, hfb⟩ : ∃ v, v = feeB (t.a2 : Int) (t.a3 : Int) := ⟨_, rfl⟩
  rw [← hfn, ← hfb]
  clear hb3 hfn hfb x0 x1 x2 x3 x4 x5 x6 x7 x8 xf
  go_wp2_with fail
  refine wp_region_held_drew (S := fun _ => True) (by kernel_rfl) trivial (fun hHeld => ?_)
  change wpAnyH _ _ _ _ _ 28 (List.toArray [false, false, false, false, false, false, false, false, false, false, false, false, false, false, false, false, false, false, false, false, false, false, false, false, false, false, false, false]) _ _
  refine wpAnyH_and (N := (fun W => Below w3.heap.size w3 W)) ?_
  have hHeld := And.intro hHeld ((show Below w3.heap.size w3 w3.drew from bdr (Below.refl _ _)))
  (try dsimp only at hHeld)
  refine wpAnyH_ready (rs := [0]) (by kernel_rfl) (by simp) ?_
  refine AllReadyH.cons rfl (fun Kq hKq => ?_) AllReadyH.nil
  go_simp
  refine (law_alive _).mono ?_
  rintro r w4 ⟨rfl, hb4⟩
  have hb34 : Below w3.heap.size w3 w4 := btr (bdr (Below.refl _ _)) hb4
  refine hKq.out _ _ (⟨trivial, hb34⟩) (fun hHeld => ?_)
  clear hKq Kq
  (try simp only [List.getElem_toArray]); (try simp only [List.getElem_cons_succ]); (try simp only [List.getElem_cons_zero]); (try simp only [Act.put]); (try simp only [List.setIfInBounds_toArray]); (try simp only [List.set_cons_succ]); (try simp only [List.set_cons_zero])
  have HB34 := Go.Lib.hid hb34
  clear hb4 hb34
  refine wpAnyH_take (i := 1) (v := ?_) rfl (by kernel_rfl) (by kernel_rfl) (by kernel_rfl) (fun _ _ _ h => h) (Or.inl ⟨by rfl, ?_⟩) (by assumption) ?_
  rotate_left
  focus (intro w hSw; (try dsimp only at hSw); (try simp only [List.getElem_toArray]); (try simp only [List.getElem_cons_succ]); (try simp only [List.getElem_cons_zero]); go_simp; (try with_reducible rfl); done)
  (try simp only [List.getElem_toArray]); (try simp only [List.getElem_cons_succ]); (try simp only [List.getElem_cons_zero]); (try simp only [Act.put]); (try simp only [List.setIfInBounds_toArray]); (try simp only [List.set_cons_succ]); (try simp only [List.set_cons_zero])
  refine wpAnyH_take (i := 2) (v := ?_) rfl (by kernel_rfl) (by kernel_rfl) (by kernel_rfl) (fun _ _ _ h => h) (Or.inl ⟨by rfl, ?_⟩) (by assumption) ?_
  rotate_left
  focus (intro w hSw; (try dsimp only at hSw); obtain ⟨_, hSb⟩ := hSw; obtain ⟨x0, x1, x2, x3, x4, x5, x6, x7, x8, xf⟩ := cells9 (box_keep HX3.out hSb); (try simp only [List.getElem_toArray]); (try simp only [List.getElem_cons_succ]); (try simp only [List.getElem_cons_zero]); go_simp; (try with_reducible rfl); done)
  (try simp only [List.getElem_toArray]); (try simp only [List.getElem_cons_succ]); (try simp only [List.getElem_cons_zero]); (try simp only [Act.put]); (try simp only [List.setIfInBounds_toArray]); (try simp only [List.set_cons_succ]); (try simp only [List.set_cons_zero])
  refine wpAnyH_take (i := 4) (v := ?_) rfl (by kernel_rfl) (by kernel_rfl) (by kernel_rfl) (fun _ _ _ h => h) (Or.inl ⟨by rfl, ?_⟩) (by assumption) ?_
  rotate_left
  focus (intro w hSw; (try dsimp only at hSw); obtain ⟨_, hSb⟩ := hSw; obtain ⟨x0, x1, x2, x3, x4, x5, x6, x7, x8, xf⟩ := cells9 (box_keep HX3.out hSb); (try simp only [List.getElem_toArray]); (try simp only [List.getElem_cons_succ]); (try simp only [List.getElem_cons_zero]); go_simp; (try with_reducible rfl); done)
  (try simp only [List.getElem_toArray]); (try simp only [List.getElem_cons_succ]); (try simp only [List.getElem_cons_zero]); (try simp only [Act.put]); (try simp only [List.setIfInBounds_toArray]); (try simp only [List.set_cons_succ]); (try simp only [List.set_cons_zero])
  refine wpAnyH_ready (rs := [3]) (by kernel_rfl) (by simp) ?_
  refine AllReadyH.cons rfl (fun Kq hKq => ?_) AllReadyH.nil
  go_simp
  refine (tx_LeastI _ _ _ _ _ _ _ _ t.inp.length _ t.code.length _ _ _ (by omega) (by omega)).mono ?_
  rintro r w5 ⟨rfl, hb5⟩
  have hb35 : Below w3.heap.size w3 w5 := btr HB34.out hb5
  refine hKq.out _ _ (⟨trivial, hb35⟩) (fun hHeld => ?_)
  clear hKq Kq
  (try simp only [List.getElem_toArray]); (try simp only [List.getElem_cons_succ]); (try simp only [List.getElem_cons_zero]); (try simp only [Act.put]); (try simp only [List.setIfInBounds_toArray]); (try simp only [List.set_cons_succ]); (try simp only [List.set_cons_zero])
  have HB35 := Go.Lib.hid hb35
  clear hb5 hb35
  refine wpAnyH_ready (rs := [5]) (by kernel_rfl) (by simp) ?_
  refine AllReadyH.cons rfl (fun Kq hKq => ?_) AllReadyH.nil
  go_simp
  refine (ref_LeastI _ _ _ _ _ _ _ _ t.inp.length _ t.code.length _ _ _ (by omega) (by omega)).mono ?_
  rintro r w6 ⟨rfl, hb6⟩
  have hb36 : Below w3.heap.size w3 w6 := btr HB35.out hb6
  refine hKq.out _ _ (⟨trivial, hb36⟩) (fun hHeld => ?_)
  clear hKq Kq
  (try simp only [List.getElem_toArray]); (try simp only [List.getElem_cons_succ]); (try simp only [List.getElem_cons_zero]); (try simp only [Act.put]); (try simp only [List.setIfInBounds_toArray]); (try simp only [List.set_cons_succ]); (try simp only [List.set_cons_zero])
  have HB36 := Go.Lib.hid hb36
  clear hb6 hb36
  obtain ⟨li, hli⟩ : ∃ v, v = leastI t.code.length t.inp.length := ⟨_, rfl⟩
  rw [← hli]
  clear hli
  refine wpAnyH_take (i := 6) (v := ?_) rfl (by kernel_rfl) (by kernel_rfl) (by kernel_rfl) (fun _ _ _ h => h) (Or.inl ⟨by rfl, ?_⟩) (by assumption) ?_
  rotate_left
  focus (intro w hSw; (try dsimp only at hSw); (try simp only [List.getElem_toArray]); (try simp only [List.getElem_cons_succ]); (try simp only [List.getElem_cons_zero]); go_simp; (try with_reducible rfl); done)
  (try simp only [List.getElem_toArray]); (try simp only [List.getElem_cons_succ]); (try simp only [List.getElem_cons_zero]); (try simp only [Act.put]); (try simp only [List.setIfInBounds_toArray]); (try simp only [List.set_cons_succ]); (try simp only [List.set_cons_zero])
  refine wpAnyH_take (i := 7) (v := ?_) rfl (by kernel_rfl) (by kernel_rfl) (by kernel_rfl) (fun _ _ _ h => h) (Or.inl ⟨by rfl, ?_⟩) (by assumption) ?_
  rotate_left
  focus (intro w hSw; (try dsimp only at hSw); (try simp only [List.getElem_toArray]); (try simp only [List.getElem_cons_succ]); (try simp only [List.getElem_cons_zero]); go_simp; (try with_reducible rfl); done)
  (try simp only [List.getElem_toArray]); (try simp only [List.getElem_cons_succ]); (try simp only [List.getElem_cons_zero]); (try simp only [Act.put]); (try simp only [List.setIfInBounds_toArray]); (try simp only [List.set_cons_succ]); (try simp only [List.set_cons_zero])
  refine wpAnyH_take (i := 8) (v := ?_) rfl (by kernel_rfl) (by kernel_rfl) (by kernel_rfl) (fun _ _ _ h => h) (Or.inl ⟨by rfl, ?_⟩) (by assumption) ?_
  rotate_left
  focus (intro w hSw; (try dsimp only at hSw); (try simp only [List.getElem_toArray]); (try simp only [List.getElem_cons_succ]); (try simp only [List.getElem_cons_zero]); go_simp; (try with_reducible rfl); done)
  (try simp only [List.getElem_toArray]); (try simp only [List.getElem_cons_succ]); (try simp only [List.getElem_cons_zero]); (try simp only [Act.put]); (try simp only [List.setIfInBounds_toArray]); (try simp only [List.set_cons_succ]); (try simp only [List.set_cons_zero])
  refine wpAnyH_take (i := 9) (v := ?_) rfl (by kernel_rfl) (by kernel_rfl) (by kernel_rfl) (fun _ _ _ h => h) (Or.inl ⟨by rfl, ?_⟩) (by assumption) ?_
  rotate_left
  focus (intro w hSw; (try dsimp only at hSw); (try simp only [List.getElem_toArray]); (try simp only [List.getElem_cons_succ]); (try simp only [List.getElem_cons_zero]); go_simp; (try with_reducible rfl); done)
  (try simp only [List.getElem_toArray]); (try simp only [List.getElem_cons_succ]); (try simp only [List.getElem_cons_zero]); (try simp only [Act.put]); (try simp only [List.setIfInBounds_toArray]); (try simp only [List.set_cons_succ]); (try simp only [List.set_cons_zero])
  refine wpAnyH_take (i := 10) (v := ?_) rfl (by kernel_rfl) (by kernel_rfl) (by kernel_rfl) (fun _ _ _ h => h) (Or.inl ⟨by rfl, ?_⟩) (by assumption) ?_
  rotate_left
  focus (intro w hSw; (try dsimp only at hSw); (try simp only [List.getElem_toArray]); (try simp only [List.getElem_cons_succ]); (try simp only [List.getElem_cons_zero]); go_simp; (try with_reducible rfl); done)
  (try simp only [List.getElem_toArray]); (try simp only [List.getElem_cons_succ]); (try simp only [List.getElem_cons_zero]); (try simp only [Act.put]); (try simp only [List.setIfInBounds_toArray]); (try simp only [List.set_cons_succ]); (try simp only [List.set_cons_zero])
  refine wpAnyH_take (i := 11) (v := ?_) rfl (by kernel_rfl) (by kernel_rfl) (by kernel_rfl) (fun _ _ _ h => h) (Or.inl ⟨by rfl, ?_⟩) (by assumption) ?_
  rotate_left
  focus (intro w hSw; (try dsimp only at hSw); (try simp only [List.getElem_toArray]); (try simp only [List.getElem_cons_succ]); (try simp only [List.getElem_cons_zero]); go_simp; (try with_reducible rfl); done)
  (try simp only [List.getElem_toArray]); (try simp only [List.getElem_cons_succ]); (try simp only [List.getElem_cons_zero]); (try simp only [Act.put]); (try simp only [List.setIfInBounds_toArray]); (try simp only [List.set_cons_succ]); (try simp only [List.set_cons_zero])
  refine wpAnyH_take (i := 12) (v := ?_) rfl (by kernel_rfl) (by kernel_rfl) (by kernel_rfl) (fun _ _ _ h => h) (Or.inl ⟨by rfl, ?_⟩) (by assumption) ?_
  rotate_left
  focus (intro w hSw; (try dsimp only at hSw); (try simp only [List.getElem_toArray]); (try simp only [List.getElem_cons_succ]); (try simp only [List.getElem_cons_zero]); go_simp; (try with_reducible rfl); done)
  (try simp only [List.getElem_toArray]); (try simp only [List.getElem_cons_succ]); (try simp only [List.getElem_cons_zero]); (try simp only [Act.put]); (try simp only [List.setIfInBounds_toArray]); (try simp only [List.set_cons_succ]); (try simp only [List.set_cons_zero])
  refine wpAnyH_take (i := 13) (v := ?_) rfl (by kernel_rfl) (by kernel_rfl) (by kernel_rfl) (fun _ _ _ h => h) (Or.inl ⟨by rfl, ?_⟩) (by assumption) ?_
  rotate_left
  focus (intro w hSw; (try dsimp only at hSw); (try simp only [List.getElem_toArray]); (try simp only [List.getElem_cons_succ]); (try simp only [List.getElem_cons_zero]); go_simp; (try with_reducible rfl); done)
  (try simp only [List.getElem_toArray]); (try simp only [List.getElem_cons_succ]); (try simp only [List.getElem_cons_zero]); (try simp only [Act.put]); (try simp only [List.setIfInBounds_toArray]); (try simp only [List.set_cons_succ]); (try simp only [List.set_cons_zero])
  refine wpAnyH_take (i := 14) (v := ?_) rfl (by kernel_rfl) (by kernel_rfl) (by kernel_rfl) (fun _ _ _ h => h) (Or.inl ⟨by rfl, ?_⟩) (by assumption) ?_
  rotate_left
  focus (intro w hSw; (try dsimp only at hSw); (try simp only [List.getElem_toArray]); (try simp only [List.getElem_cons_succ]); (try simp only [List.getElem_cons_zero]); go_simp; (try with_reducible rfl); done)
  (try simp only [List.getElem_toArray]); (try simp only [List.getElem_cons_succ]); (try simp only [List.getElem_cons_zero]); (try simp only [Act.put]); (try simp only [List.setIfInBounds_toArray]); (try simp only [List.set_cons_succ]); (try simp only [List.set_cons_zero])
  refine wpAnyH_take (i := 15) (v := ?_) rfl (by kernel_rfl) (by kernel_rfl) (by kernel_rfl) (fun _ _ _ h => h) (Or.inl ⟨by rfl, ?_⟩) (by assumption) ?_
  rotate_left
  focus (intro w hSw; (try dsimp only at hSw); (try simp only [List.getElem_toArray]); (try simp only [List.getElem_cons_succ]); (try simp only [List.getElem_cons_zero]); go_simp; (try with_reducible rfl); done)
  (try simp only [List.getElem_toArray]); (try simp only [List.getElem_cons_succ]); (try simp only [List.getElem_cons_zero]); (try simp only [Act.put]); (try simp only [List.setIfInBounds_toArray]); (try simp only [List.set_cons_succ]); (try simp only [List.set_cons_zero])
  refine wpAnyH_take (i := 16) (v := ?_) rfl (by kernel_rfl) (by kernel_rfl) (by kernel_rfl) (fun _ _ _ h => h) (Or.inl ⟨by rfl, ?_⟩) (by assumption) ?_
  rotate_left
  focus (intro w hSw; (try dsimp only at hSw); (try simp only [List.getElem_toArray]); (try simp only [List.getElem_cons_succ]); (try simp only [List.getElem_cons_zero]); go_simp; (try with_reducible rfl); done)
  (try simp only [List.getElem_toArray]); (try simp only [List.getElem_cons_succ]); (try simp only [List.getElem_cons_zero]); (try simp only [Act.put]); (try simp only [List.setIfInBounds_toArray]); (try simp only [List.set_cons_succ]); (try simp only [List.set_cons_zero])
  refine wpAnyH_take (i := 17) (v := ?_) rfl (by kernel_rfl) (by kernel_rfl) (by kernel_rfl) (fun _ _ _ h => h) (Or.inl ⟨by rfl, ?_⟩) (by assumption) ?_
  rotate_left
  focus (intro w hSw; (try dsimp only at hSw); (try simp only [List.getElem_toArray]); (try simp only [List.getElem_cons_succ]); (try simp only [List.getElem_cons_zero]); go_simp; (try with_reducible rfl); done)
  (try simp only [List.getElem_toArray]); (try simp only [List.getElem_cons_succ]); (try simp only [List.getElem_cons_zero]); (try simp only [Act.put]); (try simp only [List.setIfInBounds_toArray]); (try simp only [List.set_cons_succ]); (try simp only [List.set_cons_zero])
  refine wpAnyH_take (i := 18) (v := ?_) rfl (by kernel_rfl) (by kernel_rfl) (by kernel_rfl) (fun _ _ _ h => h) (Or.inl ⟨by rfl, ?_⟩) (by assumption) ?_
  rotate_left
  focus (intro w hSw; (try dsimp only at hSw); (try simp only [List.getElem_toArray]); (try simp only [List.getElem_cons_succ]); (try simp only [List.getElem_cons_zero]); go_simp; (try with_reducible rfl); done)
  (try simp only [List.getElem_toArray]); (try simp only [List.getElem_cons_succ]); (try simp only [List.getElem_cons_zero]); (try simp only [Act.put]); (try simp only [List.setIfInBounds_toArray]); (try simp only [List.set_cons_succ]); (try simp only [List.set_cons_zero])
  refine wpAnyH_take (i := 19) (v := ?_) rfl (by kernel_rfl) (by kernel_rfl) (by kernel_rfl) (fun _ _ _ h => h) (Or.inl ⟨by rfl, ?_⟩) (by assumption) ?_
  rotate_left
  focus (intro w hSw; (try dsimp only at hSw); (try simp only [List.getElem_toArray]); (try simp only [List.getElem_cons_succ]); (try simp only [List.getElem_cons_zero]); go_simp; (try with_reducible rfl); done)
  (try simp only [List.getElem_toArray]); (try simp only [List.getElem_cons_succ]); (try simp only [List.getElem_cons_zero]); (try simp only [Act.put]); (try simp only [List.setIfInBounds_toArray]); (try simp only [List.set_cons_succ]); (try simp only [List.set_cons_zero])
  refine wpAnyH_take (i := 20) (v := ?_) rfl (by kernel_rfl) (by kernel_rfl) (by kernel_rfl) (fun _ _ _ h => h) (Or.inl ⟨by rfl, ?_⟩) (by assumption) ?_
  rotate_left
  focus (intro w hSw; (try dsimp only at hSw); (try simp only [List.getElem_toArray]); (try simp only [List.getElem_cons_succ]); (try simp only [List.getElem_cons_zero]); go_simp; (try with_reducible rfl); done)
  (try simp only [List.getElem_toArray]); (try simp only [List.getElem_cons_succ]); (try simp only [List.getElem_cons_zero]); (try simp only [Act.put]); (try simp only [List.setIfInBounds_toArray]); (try simp only [List.set_cons_succ]); (try simp only [List.set_cons_zero])
  refine wpAnyH_take (i := 22) (v := ?_) rfl (by kernel_rfl) (by kernel_rfl) (by kernel_rfl) (fun _ _ _ h => h) (Or.inl ⟨by rfl, ?_⟩) (by assumption) ?_
  rotate_left
  focus (intro w hSw; (try dsimp only at hSw); (try simp only [List.getElem_toArray]); (try simp only [List.getElem_cons_succ]); (try simp only [List.getElem_cons_zero]); go_simp; (try with_reducible rfl); done)
  (try simp only [List.getElem_toArray]); (try simp only [List.getElem_cons_succ]); (try simp only [List.getElem_cons_zero]); (try simp only [Act.put]); (try simp only [List.setIfInBounds_toArray]); (try simp only [List.set_cons_succ]); (try simp only [List.set_cons_zero])
  refine wpAnyH_take (i := 23) (v := ?_) rfl (by kernel_rfl) (by kernel_rfl) (by kernel_rfl) (fun _ _ _ h => h) (Or.inl ⟨by rfl, ?_⟩) (by assumption) ?_
  rotate_left
  focus (intro w hSw; (try dsimp only at hSw); (try simp only [List.getElem_toArray]); (try simp only [List.getElem_cons_succ]); (try simp only [List.getElem_cons_zero]); go_simp; (try with_reducible rfl); done)
  (try simp only [List.getElem_toArray]); (try simp only [List.getElem_cons_succ]); (try simp only [List.getElem_cons_zero]); (try simp only [Act.put]); (try simp only [List.setIfInBounds_toArray]); (try simp only [List.set_cons_succ]); (try simp only [List.set_cons_zero])
  refine wpAnyH_ready (rs := [21]) (by kernel_rfl) (by simp) ?_
  refine AllReadyH.cons rfl (fun Kq hKq => ?_) AllReadyH.nil
  go_simp
  refine (tx_Made n1 n2 _).mono ?_
  rintro r w7 ⟨rfl, hb7⟩
  have hb37 : Below w3.heap.size w3 w7 := btr HB36.out hb7
  refine hKq.out _ _ (⟨trivial, hb37⟩) (fun hHeld => ?_)
  clear hKq Kq
  (try simp only [List.getElem_toArray]); (try simp only [List.getElem_cons_succ]); (try simp only [List.getElem_cons_zero]); (try simp only [Act.put]); (try simp only [List.setIfInBounds_toArray]); (try simp only [List.set_cons_succ]); (try simp only [List.set_cons_zero])
  have HB37 := Go.Lib.hid hb37
  clear hb7 hb37
  refine wpAnyH_ready (rs := [24]) (by kernel_rfl) (by simp) ?_
  refine AllReadyH.cons rfl (fun Kq hKq => ?_) AllReadyH.nil
  go_simp
  refine (ref_Made n1 n2 hn1 hn2 _).mono ?_
  rintro r w8 ⟨rfl, hb8⟩
  have hb38 : Below w3.heap.size w3 w8 := btr HB37.out hb8
  refine hKq.out _ _ (⟨trivial, hb38⟩) (fun hHeld => ?_)
  clear hKq Kq
  (try simp only [List.getElem_toArray]); (try simp only [List.getElem_cons_succ]); (try simp only [List.getElem_cons_zero]); (try simp only [Act.put]); (try simp only [List.setIfInBounds_toArray]); (try simp only [List.set_cons_succ]); (try simp only [List.set_cons_zero])
  have HB38 := Go.Lib.hid hb38
  clear hb8 hb38
  obtain ⟨mi, hmi⟩ : ∃ v, v = wval (madeB n1 n2) := ⟨_, rfl⟩
  rw [← hmi]
  clear hmi
  refine wpAnyH_take (i := 25) (v := ?_) rfl (by kernel_rfl) (by kernel_rfl) (by kernel_rfl) (fun _ _ _ h => h) (Or.inl ⟨by rfl, ?_⟩) (by assumption) ?_
  rotate_left
  focus (intro w hSw; (try dsimp only at hSw); (try simp only [List.getElem_toArray]); (try simp only [List.getElem_cons_succ]); (try simp only [List.getElem_cons_zero]); go_simp; (try with_reducible rfl); done)
  (try simp only [List.getElem_toArray]); (try simp only [List.getElem_cons_succ]); (try simp only [List.getElem_cons_zero]); (try simp only [Act.put]); (try simp only [List.setIfInBounds_toArray]); (try simp only [List.set_cons_succ]); (try simp only [List.set_cons_zero])
  refine wpAnyH_take (i := 26) (v := ?_) rfl (by kernel_rfl) (by kernel_rfl) (by kernel_rfl) (fun _ _ _ h => h) (Or.inl ⟨by rfl, ?_⟩) (by assumption) ?_
  rotate_left
  focus (intro w hSw; (try dsimp only at hSw); (try simp only [List.getElem_toArray]); (try simp only [List.getElem_cons_succ]); (try simp only [List.getElem_cons_zero]); go_simp; (try with_reducible rfl); done)
  (try simp only [List.getElem_toArray]); (try simp only [List.getElem_cons_succ]); (try simp only [List.getElem_cons_zero]); (try simp only [Act.put]); (try simp only [List.setIfInBounds_toArray]); (try simp only [List.set_cons_succ]); (try simp only [List.set_cons_zero])
  refine wpAnyH_take (i := 27) (v := ?_) rfl (by kernel_rfl) (by kernel_rfl) (by kernel_rfl) (fun _ _ _ h => h) (Or.inl ⟨by rfl, ?_⟩) (by assumption) ?_
  rotate_left
  focus (intro w hSw; (try dsimp only at hSw); (try simp only [List.getElem_toArray]); (try simp only [List.getElem_cons_succ]); (try simp only [List.getElem_cons_zero]); go_simp; (try with_reducible rfl); done)
  (try simp only [List.getElem_toArray]); (try simp only [List.getElem_cons_succ]); (try simp only [List.getElem_cons_zero]); (try simp only [Act.put]); (try simp only [List.setIfInBounds_toArray]); (try simp only [List.set_cons_succ]); (try simp only [List.set_cons_zero])
  refine wpAnyH_done (by kernel_rfl) ?_ _
  go_wp2_with fail
  go_ret
  exact ⟨rfl, btr HB3.out HB38.out⟩

end Go.Proofs.Ytgpaiphjbhkadaa
