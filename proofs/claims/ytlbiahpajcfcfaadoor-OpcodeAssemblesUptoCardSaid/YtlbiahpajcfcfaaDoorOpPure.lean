/- Operations: the table, pieces, marks. No program in sight. -/
import Derived.Test.YtlbiahpajcfcfaaDoorWdLaid
namespace Go.Proofs.YtlbiahpajcfcfaaDoor
open Go Go.RowKit
set_option linter.unusedVariables false
set_option maxRecDepth 100000

/-- What an operation is. -/
structure InfoD where
  word : List UInt8
  behind : Nat
  takes : Nat
  gives : Nat
  gas : Nat
def zeroI : InfoD := ⟨[], 0, 0, 0, 0⟩
def pushW : List UInt8 := [112, 117, 115, 104]
/-- All operations but the pushes. -/
def tbl : List (Nat × InfoD) := [
  (0, ⟨[115, 116, 111, 112], 0, 0, 0, 0⟩),
  (1, ⟨[97, 100, 100], 0, 2, 1, 1⟩),
  (2, ⟨[115, 117, 98], 0, 2, 1, 1⟩),
  (3, ⟨[109, 117, 108], 0, 2, 1, 2⟩),
  (4, ⟨[100, 105, 118], 0, 2, 1, 2⟩),
  (5, ⟨[109, 111, 100], 0, 2, 1, 2⟩),
  (6, ⟨[108, 101, 115, 115], 0, 2, 1, 1⟩),
  (7, ⟨[101, 113, 117, 97, 108], 0, 2, 1, 1⟩),
  (8, ⟨[110, 111, 116], 0, 1, 1, 1⟩),
  (48, ⟨[112, 111, 112], 0, 1, 0, 1⟩),
  (49, ⟨[100, 117, 112], 1, 0, 1, 1⟩),
  (50, ⟨[115, 119, 97, 112], 1, 0, 0, 1⟩),
  (64, ⟨[106, 117, 109, 112], 0, 1, 0, 3⟩),
  (65, ⟨[106, 117, 109, 112, 105, 102], 0, 2, 0, 3⟩),
  (66, ⟨[109, 97, 114, 107], 0, 0, 0, 1⟩),
  (80, ⟨[108, 111, 97, 100], 0, 1, 1, 10⟩),
  (81, ⟨[115, 116, 111, 114, 101], 0, 2, 0, 20⟩),
  (96, ⟨[115, 101, 108, 102], 0, 0, 1, 1⟩),
  (97, ⟨[99, 97, 108, 108, 101, 114], 0, 0, 1, 1⟩),
  (98, ⟨[118, 97, 108, 117, 101], 0, 0, 1, 1⟩),
  (99, ⟨[105, 110, 112, 117, 116], 0, 1, 1, 1⟩),
  (100, ⟨[98, 97, 108, 97, 110, 99, 101], 0, 1, 1, 8⟩),
  (101, ⟨[103, 97, 115], 0, 0, 1, 1⟩),
  (102, ⟨[110, 117, 109, 98, 101, 114], 0, 0, 1, 1⟩),
  (112, ⟨[99, 97, 108, 108], 0, 4, 1, 40⟩),
  (113, ⟨[114, 101, 115, 117, 108, 116], 0, 0, 1, 1⟩),
  (128, ⟨[114, 101, 116, 117, 114, 110], 0, 1, 0, 0⟩),
  (129, ⟨[114, 101, 118, 101, 114, 116], 0, 1, 0, 0⟩)]
def ofI (op : Nat) : Option InfoD := if 32 ≤ op ∧ op < 40 then some ⟨pushW, op - 32 + 1, 0, 1, 1⟩ else (tbl.find? fun r => r.1 == op).map (·.2)
def infoC (i : InfoD) : List Value := [.string ⟨i.word.toArray⟩, .int .i64 (i.behind : Int), .int .i64 (i.takes : Int), .int .i64 (i.gives : Int), .int .u64 (i.gas : Int)]
def rowC (r : Nat × InfoD) : List Value := .int .u8 (r.1 : Int) :: infoC r.2
def rowsC : List Value := tbl.flatMap rowC
theorem flat6 : ∀ (l : List (Nat × InfoD)) (j i : Nat) (h : j < l.length), i < 6 → (l.flatMap rowC)[j * 6 + i]? = (rowC l[j])[i]?
  | r :: l, 0, i, _, hi => by
    rw [List.flatMap_cons, List.getElem?_append_left (by simp [rowC, infoC]; omega), Nat.zero_mul, Nat.zero_add]
    rfl
  | r :: l, j + 1, i, h, hi => by
    rw [List.flatMap_cons, List.getElem?_append_right (by simp [rowC, infoC]; omega), show (j + 1) * 6 + i - (rowC r).length = j * 6 + i from by simp [rowC, infoC]; omega]
    exact flat6 l j i (by simpa using h) hi
def opJ (j : Nat) : Nat := (tbl.getD j (0, zeroI)).1
def inJ (j : Nat) : InfoD := (tbl.getD j (0, zeroI)).2
theorem tbl_length : tbl.length = 28 := rfl
theorem row_at (j i : Nat) (h : j < 28) (hi : i < 6) : rowsC[j * 6 + i]? = (rowC (opJ j, inJ j))[i]? := by
  have hl : j < tbl.length := h
  unfold rowsC
  rw [flat6 tbl j i hl hi]
  congr 2
  simp [opJ, inJ, List.getD, List.getElem?_eq_getElem hl]
theorem ofI_at {op j : Nat} (hp : ¬ (32 ≤ op ∧ op < 40)) (h : j < 28) (hj : opJ j = op) (hk : ∀ k, k < j → opJ k ≠ op) : ofI op = some (inJ j) := by
  have hl : j < tbl.length := h
  unfold ofI
  rw [if_neg hp]
  have e : tbl.find? (fun r => r.1 == op) = some tbl[j] := by
    rw [List.find?_eq_some_iff_getElem]
    refine ⟨?_, j, hl, rfl, fun k hk' => ?_⟩
    · simpa [opJ, List.getD, List.getElem?_eq_getElem hl] using hj
    · have := hk k hk'
      have hkl : k < tbl.length := by omega
      simpa [opJ, List.getD, List.getElem?_eq_getElem hkl] using this
  rw [e]
  simp [inJ, List.getD, List.getElem?_eq_getElem hl]
theorem ofI_none {op : Nat} (hp : ¬ (32 ≤ op ∧ op < 40)) (hk : ∀ k, k < 28 → opJ k ≠ op) : ofI op = none := by
  unfold ofI
  rw [if_neg hp]
  have e : tbl.find? (fun r => r.1 == op) = none := by
    rw [List.find?_eq_none]
    intro r hr
    obtain ⟨k, hk', rfl⟩ := List.getElem_of_mem hr
    have := hk k hk'
    simpa [opJ, List.getD, List.getElem?_eq_getElem hk'] using this
  rw [e]
  rfl
theorem behind_le : ∀ op i, ofI op = some i → i.behind ≤ 8 := by
  intro op i h
  unfold ofI at h
  split at h
  · injection h with h
    subst h
    simp only
    omega
  · have : ∀ r ∈ tbl, r.2.behind ≤ 8 := by decide
    rw [Option.map_eq_some_iff] at h
    obtain ⟨r, hr, rfl⟩ := h
    exact this r (List.mem_of_find?_eq_some hr)

end Go.Proofs.YtlbiahpajcfcfaaDoor
