/- Operations: pieces of a code, its marks, its text; the words of a text, the code of words. No program in sight. -/
import Derived.Test.YtlbiahpajcfcfaaDoorOpPure
namespace Go.Proofs.YtlbiahpajcfcfaaDoor
open Go Go.RowKit
set_option linter.unusedVariables false
set_option maxRecDepth 100000

/-- The operation of the piece that a code begins with. -/
def pieceI : List UInt8 → Option InfoD
  | [] => none
  | x :: ys => (ofI x.toNat).bind fun i => if ys.length + 1 ≤ i.behind then none else some i
def pieceN (xs : List UInt8) : Nat := ((pieceI xs).map (·.behind + 1)).getD 1
def pieceG (xs : List UInt8) : InfoD := (pieceI xs).getD zeroI
theorem pieceN_pos (xs : List UInt8) : 1 ≤ pieceN xs := by
  unfold pieceN
  cases pieceI xs <;> simp
theorem pieceI_behind {x : UInt8} {ys : List UInt8} {i : InfoD} (h : pieceI (x :: ys) = some i) : ofI x.toNat = some i ∧ i.behind ≤ ys.length ∧ i.behind ≤ 8 := by
  unfold pieceI at h
  rw [Option.bind_eq_some_iff] at h
  obtain ⟨j, hj, h⟩ := h
  by_cases hl : ys.length + 1 ≤ j.behind
  · rw [if_pos hl] at h; cases h
  · rw [if_neg hl] at h
    injection h with h
    subst h
    exact ⟨hj, by omega, behind_le _ _ hj⟩
theorem pieceN_le (x : UInt8) (ys : List UInt8) : pieceN (x :: ys) ≤ ys.length + 1 := by
  unfold pieceN
  cases h : pieceI (x :: ys) with
  | none => simp
  | some i => have := (pieceI_behind h).2.1; simp; omega
theorem pieceN_le9 (xs : List UInt8) : pieceN xs ≤ 9 := by
  unfold pieceN
  cases xs with
  | nil => simp [pieceI]
  | cons x ys =>
    cases h : pieceI (x :: ys) with
    | none => simp
    | some i => have := (pieceI_behind h).2.2; simp; omega

/-- The pieces of a code. -/
def pcs : Nat → List UInt8 → List (List UInt8)
  | 0, _ => []
  | _ + 1, [] => []
  | f + 1, x :: xs => (x :: xs).take (pieceN (x :: xs)) :: pcs f ((x :: xs).drop (pieceN (x :: xs)))
theorem pcs_fuel : ∀ (f g : Nat) (xs : List UInt8), xs.length ≤ f → xs.length ≤ g → pcs f xs = pcs g xs
  | 0, 0, _, _, _ => rfl
  | 0, _ + 1, [], _, _ => rfl
  | _ + 1, 0, [], _, _ => rfl
  | _ + 1, _ + 1, [], _, _ => rfl
  | f + 1, g + 1, x :: xs, hf, hg => by
    simp only [pcs]
    congr 1
    have := pieceN_pos (x :: xs)
    exact pcs_fuel f g _ (by simp at hf ⊢; omega) (by simp at hg ⊢; omega)
def pieces (xs : List UInt8) : List (List UInt8) := pcs xs.length xs
theorem pieces_nil : pieces [] = [] := rfl
theorem pieces_cons (x : UInt8) (xs : List UInt8) : pieces (x :: xs) = (x :: xs).take (pieceN (x :: xs)) :: pieces ((x :: xs).drop (pieceN (x :: xs))) := by
  show pcs (xs.length + 1) (x :: xs) = _
  simp only [pcs]
  congr 1
  have := pieceN_pos (x :: xs)
  exact pcs_fuel _ _ _ (by simp; omega) (Nat.le_refl _)

/-- The marks of a code that begins at a place. -/
def isMk (p : List UInt8) : Bool := (pieceI p).isSome && p.head? == some 66
def marksP : Nat → List (List UInt8) → List Nat
  | _, [] => []
  | at_, p :: ps => (if isMk p then [at_] else []) ++ marksP (at_ + p.length) ps
def marksL (xs : List UInt8) : List Nat := marksP 0 (pieces xs)

/-- A text as a list of letters. -/
def dupW : List UInt8 := [100, 117, 112]
def swapW : List UInt8 := [115, 119, 97, 112]
def byteW : List UInt8 := [98, 121, 116, 101]
def leastN (v : Nat) : Nat := max (wbytes v).length 1
/-- The words of a piece's statement. -/
def tellP (p : List UInt8) : List (List UInt8) :=
  match pieceI p with
  | none => [byteW, Lib.decDigits ((p.headD 0).toNat)]
  | some i => if i.behind = 0 then [i.word] else
      let v := wval (p.drop 1)
      [if i.word = pushW ∧ leastN v < i.behind then i.word ++ Lib.decDigits i.behind else i.word, Lib.decDigits v]
def joinB : List (List UInt8) → List UInt8
  | [] => []
  | [w] => w
  | w :: ws => w ++ 32 :: joinB ws
def printL (xs : List UInt8) : List UInt8 := joinB ((pieces xs).flatMap tellP)

/-- The words of a text, with their places. -/
def isBl (c : UInt8) : Bool := c == 32 || c == 10
def scanW : Nat → Option (Nat × List UInt8) → List UInt8 → List (List UInt8 × Nat)
  | _, none, [] => []
  | _, some (f, w), [] => [(w, f)]
  | at_, none, c :: cs => if isBl c then scanW (at_ + 1) none cs else scanW (at_ + 1) (some (at_, [c])) cs
  | at_, some (f, w), c :: cs => if isBl c then (w, f) :: scanW (at_ + 1) none cs else scanW (at_ + 1) (some (f, w ++ [c])) cs
def wordsL (s : List UInt8) : List (List UInt8 × Nat) := scanW 0 none s

/-- The operation without bytes of its own that a word names. -/
def simpleG (w : List UInt8) : Option Nat := (tbl.find? fun r => r.2.word == w && r.2.behind == 0).map (·.1)
/-- How many bytes a push's word says (0: none said); none: it is no push. -/
def wideG (w : List UInt8) : Option Nat :=
  if w.take 4 = pushW then
    if w.length = 4 then some 0 else (parW (w.drop 4)).bind fun n => if n < 1 ∨ 8 < n then none else some n
  else none
def pushG (n k : Nat) : Option (List UInt8) :=
  let k' := if k = 0 then leastN n else k
  if k' < leastN n then none else some (UInt8.ofNat (32 + k' - 1) :: (be 8 n).drop (8 - k'))
def numG (w : List UInt8) (n : Nat) : Option (List UInt8) :=
  match wideG w with
  | some k => pushG n k
  | none => if 255 < n then none else if w = dupW then some [49, UInt8.ofNat n] else if w = swapW then some [50, UInt8.ofNat n] else some [UInt8.ofNat n]
def takesN (w : List UInt8) : Bool := (wideG w).isSome || w == dupW || w == swapW || w == byteW
/-- The code of words, behind a code; or the place of the fault, and the error. -/
def asmL (slen : Nat) : List (List UInt8 × Nat) → List UInt8 → List UInt8 × Nat × Nat
  | [], code => (code, 0, 0)
  | (w, p) :: [], code => match simpleG w with
    | some op => if (code ++ [UInt8.ofNat op]).length > 256 then ([], p, 142) else (code ++ [UInt8.ofNat op], 0, 0)
    | none => if takesN w then ([], slen, 141) else ([], p, 140)
  | (w, p) :: (v, q) :: l, code => match simpleG w with
    | some op => if (code ++ [UInt8.ofNat op]).length > 256 then ([], p, 142) else asmL slen ((v, q) :: l) (code ++ [UInt8.ofNat op])
    | none => if takesN w then
        match (parW v).bind (numG w) with
        | none => ([], q, 141)
        | some b => if (code ++ b).length > 256 then ([], p, 142) else asmL slen l (code ++ b)
      else ([], p, 140)
def asmT (s : List UInt8) : List UInt8 × Nat × Nat := asmL s.length (wordsL s) []

end Go.Proofs.YtlbiahpajcfcfaaDoor
