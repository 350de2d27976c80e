/- Items and their encodings: the plain side. No program in sight. -/
import Derived.WalkKit
namespace Go.Proofs.Ytfolidaonnblbaa
open Go Go.RowKit
set_option linter.unusedVariables false

/-- An item: is it a list, its bytes, its items. -/
inductive Tree where
  | mk (l : Bool) (b : List UInt8) (its : List Tree) : Tree

def Tree.l : Tree → Bool | .mk l _ _ => l
def Tree.b : Tree → List UInt8 | .mk _ b _ => b
def Tree.its : Tree → List Tree | .mk _ _ its => its
def Tree.zero : Tree := .mk false [] []

/-- What bytes say, the highest first. -/
def beL (n : Nat) : List UInt8 → Nat
  | [] => n
  | c :: r => beL (n * 256 + c.toNat) r

/-! ### Reading -/
/-- The size of a body by what its first byte has above an empty one's, and how many bytes tell it. -/
def pSize (n : Nat) (b : List UInt8) : Except Int (Nat × Nat) :=
  if n ≤ 55 then .ok (n, 0)
  else if 58 < n then .error 23
  else if b.length < n - 55 then .error 22
  else if b.headD 0 = 0 ∨ beL 0 (b.take (n - 55)) ≤ 55 then .error 23
  else .ok (beL 0 (b.take (n - 55)), n - 55)

/-- Behind the first byte of a list; of a text. -/
def pList (lst : List UInt8 → Except Int (List Tree)) (n : Nat) (r : List UInt8) : Except Int (Tree × Nat) :=
  match pSize n r with
  | .error e => .error e
  | .ok (m, k) => if r.length - k < m then .error 22 else
    match lst ((r.drop k).take m) with
    | .error e => .error e
    | .ok l => .ok (.mk true [] l, 1 + k + m)
def pText (n : Nat) (r : List UInt8) : Except Int (Tree × Nat) :=
  match pSize n r with
  | .error e => .error e
  | .ok (m, k) => if r.length - k < m then .error 22 else
    if m = 1 ∧ (r.drop k).headD 0 < 128 then .error 23 else .ok (.mk false ((r.drop k).take m) [], 1 + k + m)
def pHead (lst : Option (List UInt8 → Except Int (List Tree))) : List UInt8 → Except Int (Tree × Nat)
  | [] => .error 22
  | c :: r =>
    if c < 128 then .ok (.mk false [c] [], 1)
    else if 192 ≤ c then
      match lst with
      | none => .error 21
      | some f => pList f (c.toNat - 192) r
    else pText (c.toNat - 128) r
def pLoop (p : List UInt8 → Except Int (Tree × Nat)) : Nat → List UInt8 → Except Int (List Tree)
  | 0, _ => .ok []
  | f + 1, b => if b = [] then .ok [] else
    match p b with
    | .error e => .error e
    | .ok (t, n) =>
      match pLoop p f (b.drop n) with
      | .error e => .error e
      | .ok l => .ok (t :: l)
/-- d: how many lists more may stand in one another. -/
def pItem : Nat → List UInt8 → Except Int (Tree × Nat)
  | 0 => pHead none
  | d + 1 => pHead (some fun b => pLoop (pItem d) b.length b)

/-- What has been read of a list, and what is to come. -/
def pThen (acc : List Tree) : Except Int (List Tree) → Except Int (List Tree)
  | .error e => .error e
  | .ok l => .ok (acc ++ l)
theorem pThen_nil (r : Except Int (List Tree)) : pThen [] r = r := by cases r <;> rfl

theorem pSize_err {n : Nat} {b : List UInt8} {e : Int} (h : pSize n b = .error e) : e = 22 ∨ e = 23 := by
  unfold pSize at h
  repeat' split at h
  all_goals first | (cases h; simp) | cases h
theorem pSize_ok {n : Nat} {b : List UInt8} {m k : Nat} (h : pSize n b = .ok (m, k)) : k ≤ 3 ∧ k ≤ b.length ∧ (n ≤ 55 ∧ k = 0 ∧ m = n ∨ 55 < n ∧ n ≤ 58 ∧ k = n - 55 ∧ m = beL 0 (b.take k) ∧ 55 < m ∧ b.headD 0 ≠ 0) := by
  unfold pSize at h
  split at h
  · cases h; omega
  · split at h
    · cases h
    · split at h
      · cases h
      · split at h
        · cases h
        · rename_i h4
          cases h
          refine ⟨by omega, by omega, .inr ⟨by omega, by omega, rfl, rfl, ?_, ?_⟩⟩
          · rcases Nat.lt_or_ge 55 (beL 0 (b.take (n - 55))) with h | h
            · exact h
            · exact absurd (.inr h) h4
          · intro h; exact h4 (.inl h)

theorem pText_ok {n : Nat} {r : List UInt8} {t : Tree} {m : Nat} (h : pText n r = .ok (t, m)) : 1 ≤ m ∧ m ≤ r.length + 1 := by
  unfold pText at h
  split at h
  · cases h
  · rename_i m' k hs
    have := pSize_ok hs
    split at h
    · cases h
    · split at h
      · cases h
      · cases h; omega
theorem pText_err {n : Nat} {r : List UInt8} {e : Int} (h : pText n r = .error e) : e = 21 ∨ e = 22 ∨ e = 23 := by
  unfold pText at h
  split at h
  · rename_i hs
    cases h
    have := pSize_err hs
    omega
  · split at h
    · cases h; omega
    · split at h <;> cases h
      omega
theorem pList_ok {f : List UInt8 → Except Int (List Tree)} {n : Nat} {r : List UInt8} {t : Tree} {m : Nat} (h : pList f n r = .ok (t, m)) : 1 ≤ m ∧ m ≤ r.length + 1 := by
  unfold pList at h
  split at h
  · cases h
  · rename_i m' k hs
    have := pSize_ok hs
    split at h
    · cases h
    · split at h
      · cases h
      · cases h; omega
theorem pList_err {f : List UInt8 → Except Int (List Tree)} (hf : ∀ b e, f b = .error e → e = 21 ∨ e = 22 ∨ e = 23) {n : Nat} {r : List UInt8} {e : Int} (h : pList f n r = .error e) : e = 21 ∨ e = 22 ∨ e = 23 := by
  unfold pList at h
  split at h
  · rename_i hs
    cases h
    have := pSize_err hs
    omega
  · split at h
    · cases h; omega
    · split at h
      · rename_i h2
        cases h
        exact hf _ _ h2
      · cases h
theorem pHead_ok {lst : Option (List UInt8 → Except Int (List Tree))} {b : List UInt8} {t : Tree} {m : Nat} (h : pHead lst b = .ok (t, m)) : 1 ≤ m ∧ m ≤ b.length := by
  unfold pHead at h
  split at h
  · cases h
  · split at h
    · cases h; simp
    · split at h
      · split at h
        · cases h
        · have := pList_ok h; simpa using this
      · have := pText_ok h; simpa using this
theorem pHead_err {lst : Option (List UInt8 → Except Int (List Tree))} (hf : ∀ f, lst = some f → ∀ b e, f b = .error e → e = 21 ∨ e = 22 ∨ e = 23) {b : List UInt8} {e : Int} (h : pHead lst b = .error e) : e = 21 ∨ e = 22 ∨ e = 23 := by
  unfold pHead at h
  split at h
  · cases h; omega
  · split at h
    · cases h
    · split at h
      · split at h
        · cases h; omega
        · exact pList_err (hf _ rfl) h
      · exact pText_err h
theorem pLoop_err {p : List UInt8 → Except Int (Tree × Nat)} (hp : ∀ b e, p b = .error e → e = 21 ∨ e = 22 ∨ e = 23) : ∀ (f : Nat) (b : List UInt8) (e : Int), pLoop p f b = .error e → e = 21 ∨ e = 22 ∨ e = 23
  | 0, b, e, h => by simp [pLoop] at h
  | f + 1, b, e, h => by
    unfold pLoop at h
    split at h
    · cases h
    · split at h
      · rename_i h2
        cases h
        exact hp _ _ h2
      · split at h
        · rename_i h2
          cases h
          exact pLoop_err hp f _ _ h2
        · cases h
theorem pItem_err : ∀ (d : Nat) (b : List UInt8) (e : Int), pItem d b = .error e → e = 21 ∨ e = 22 ∨ e = 23
  | 0, b, e, h => pHead_err (fun f hf => by cases hf) h
  | d + 1, b, e, h => pHead_err (fun f hf b e he => by
      cases hf
      exact pLoop_err (pItem_err d) _ _ _ he) h
theorem pItem_ok {d : Nat} {b : List UInt8} {t : Tree} {m : Nat} (h : pItem d b = .ok (t, m)) : 1 ≤ m ∧ m ≤ b.length := by
  cases d with
  | zero => exact pHead_ok h
  | succ d => exact pHead_ok h

/-- A round of a list's loop that reads an item; one that fails; the end. -/
theorem pLoop_step {p : List UInt8 → Except Int (Tree × Nat)} {f : Nat} {b : List UInt8} {t : Tree} {n : Nat} (hb : b ≠ []) (h : p b = .ok (t, n)) (hn : 1 ≤ n ∧ n ≤ b.length) (hf : b.length ≤ f) (acc : List Tree) :
    ∃ f', (b.drop n).length ≤ f' ∧ pThen acc (pLoop p f b) = pThen (acc ++ [t]) (pLoop p f' (b.drop n)) := by
  cases f with
  | zero => exact absurd (List.length_eq_zero_iff.1 (by omega)) hb
  | succ f =>
    refine ⟨f, by rw [List.length_drop]; omega, ?_⟩
    rw [pLoop, if_neg hb, h]
    simp only
    cases pLoop p f (b.drop n) <;> simp [pThen]
theorem pLoop_fail {p : List UInt8 → Except Int (Tree × Nat)} {f : Nat} {b : List UInt8} {e : Int} (hb : b ≠ []) (h : p b = .error e) (hf : b.length ≤ f) (acc : List Tree) :
    pThen acc (pLoop p f b) = .error e := by
  cases f with
  | zero => exact absurd (List.length_eq_zero_iff.1 (by omega)) hb
  | succ f =>
    rw [pLoop, if_neg hb, h]
    rfl
theorem pLoop_end (p : List UInt8 → Except Int (Tree × Nat)) (f : Nat) (acc : List Tree) : pThen acc (pLoop p f []) = .ok acc := by
  cases f <;> simp [pLoop, pThen]

/-! ### First, Decode -/
def pFirst (b : List UInt8) : Except Int (Tree × Nat) := pItem 8 b
def pDecode (b : List UInt8) : Except Int Tree :=
  match pFirst b with
  | .error e => .error e
  | .ok (t, n) => if n < b.length then .error 24 else .ok t

/-! ### Weighing -/
/-- An item's own weight, on top of what there is. -/
def wtOf (l : Bool) (deep wt : Nat) (b : List UInt8) : Nat := if l then (if deep = 0 then wt else wt + 1) else wt + max b.length 1
mutual
/-- What is amiss with an item in so many lists, with so much weight ahead of it; else the weight behind it. -/
def lookT (deep wt : Nat) : Tree → Except Int Nat
  | .mk l b its =>
    if l = true ∧ deep = 8 then .error 21
    else if (l = true ∧ b ≠ []) ∨ (l = false ∧ its ≠ []) then .error 23
    else if 16777215 < wtOf l deep wt b then .error 20
    else lookL (deep + 1) (wtOf l deep wt b) its
def lookL (deep wt : Nat) : List Tree → Except Int Nat
  | [] => .ok wt
  | t :: ts =>
    match lookT deep wt t with
    | .error e => .error e
    | .ok w => lookL deep w ts
end

/-! ### Writing -/
/-- How many bytes the number of a body's bytes has. -/
def numN (n : Nat) : Nat := if n = 0 then 0 else if n < 256 then 1 else if n < 65536 then 2 else if n < 16777216 then 3 else 4
/-- The k lowest bytes of a number, the highest first. -/
def beBytes : Nat → Nat → List UInt8
  | 0, _ => []
  | k + 1, n => beBytes k (n / 256) ++ [UInt8.ofNat n]
def headB (l : Bool) (n : Nat) : List UInt8 :=
  if n ≤ 55 then [UInt8.ofNat ((if l then 192 else 128) + n)] else UInt8.ofNat ((if l then 192 else 128) + 55 + numN n) :: beBytes (numN n) n
/-- Is an item a byte that stands for itself? -/
def plainT : Tree → Bool
  | .mk l b _ => !l && b.length == 1 && decide (b.headD 0 < 128)
mutual
def encT : Tree → List UInt8
  | .mk l b its => if plainT (.mk l b its) then b else headB l (b ++ encL its).length ++ (b ++ encL its)
def encL : List Tree → List UInt8
  | [] => []
  | t :: ts => encT t ++ encL ts
end
def bodyT : Tree → List UInt8 | .mk _ b its => b ++ encL its
def pEncode (t : Tree) : Except Int (List UInt8) :=
  match lookT 0 0 t with
  | .error e => .error e
  | .ok _ => if 16777215 < (bodyT t).length then .error 20 else .ok (encT t)

end Go.Proofs.Ytfolidaonnblbaa
