/- The digest as text: the reference's Print. -/
import Derived.Test.YtkjdmjflppcofaaDgRows
namespace Go.Proofs.Ytkjdmjflppcofaa
open Go.ChangeShapes Go.WideShapes Go.ChangeAt Go.RowKit
set_option linter.unusedVariables false

@[simp, go_sem] theorem dA_get (f : Nat → Int) (k : Nat) (h : k < (dA f).size) : (dA f)[k]'h = .int .u8 (f k) := by simp [dA]

def digits16 : ByteArray := { data := #[48, 49, 50, 51, 52, 53, 54, 55, 56, 57, 97, 98, 99, 100, 101, 102] }
theorem digits_cut (n : Int) (h0 : 0 ≤ n) (h1 : n ≤ 15) : digits16.extract n.toNat (n + 1).toNat = strOfNums [hexd n] := by
  have : n = 0 ∨ n = 1 ∨ n = 2 ∨ n = 3 ∨ n = 4 ∨ n = 5 ∨ n = 6 ∨ n = 7 ∨ n = 8 ∨ n = 9 ∨ n = 10 ∨ n = 11 ∨ n = 12 ∨ n = 13 ∨ n = 14 ∨ n = 15 := by omega
  rcases this with rfl | rfl | rfl | rfl | rfl | rfl | rfl | rfl | rfl | rfl | rfl | rfl | rfl | rfl | rfl | rfl <;> decide +kernel
theorem strOfNums_append (a b : List Int) : strOfNums a ++ strOfNums b = strOfNums (a ++ b) := by
  apply ByteArray.ext
  simp [strOfNums]
theorem hexI_step (f : Nat → Int) (k : Nat) : strOfNums (hexI f (k + 1)) = strOfNums (hexI f k) ++ strOfNums [hexd (f k / 16)] ++ strOfNums [hexd (f k % 16)] := by
  rw [strOfNums_append, strOfNums_append]
  simp [hexI]

set_option maxHeartbeats 1000000 in
set_option maxRecDepth 100000 in
theorem ref_Print (f : Nat → Int) (hf : ∀ i, 0 ≤ f i ∧ f i ≤ 255) (w : World) :
    Calls Try.prog 23 #[.agg (dA f)] w fun e w' => e = .returned (.string (strOfNums (hexI f 32))) ∧ Below w.heap.size w w' := by
  go_enter Try.func23, Try.ntmps23
  go_wp2
  go_loopg [4, 5, 6, 7] 32 (fun gk sv iv _ _ wr => ∃ (k nd : Nat), k ≤ 32 ∧ gk = 32 - k ∧ iv = .int .i64 k ∧ sv = .string (strOfNums (hexI f k)) ∧ wr = (w.alloc (.cells (dA f) 28)).drewN nd)
  case atStart => exact ⟨0, 0, by omega, rfl, rfl, rfl, rfl⟩
  case round =>
    obtain ⟨k, nd, hk, rfl, rfl, rfl, rfl⟩ := hrel
    by_cases hlt : k < 32
    · have hfk := hf k
      have hda := dA_at f k hlt
      have hb1 : 0 ≤ f k / 16 ∧ f k / 16 ≤ 15 := by omega
      have hb2 : 0 ≤ f k % 16 ∧ f k % 16 ≤ 15 := by omega
      have hl0 : ByteArray.size { data := #[48, 49, 50, 51, 52, 53, 54, 55, 56, 57, 97, 98, 99, 100, 101, 102] } = 16 := rfl
      have hc1 : ByteArray.extract { data := #[48, 49, 50, 51, 52, 53, 54, 55, 56, 57, 97, 98, 99, 100, 101, 102] } (f k / 16).toNat (f k / 16 + 1).toNat = strOfNums [hexd (f k / 16)] := digits_cut (f k / 16) hb1.1 hb1.2
      have hc2 : ByteArray.extract { data := #[48, 49, 50, 51, 52, 53, 54, 55, 56, 57, 97, 98, 99, 100, 101, 102] } (f k % 16).toNat (f k % 16 + 1).toNat = strOfNums [hexd (f k % 16)] := digits_cut (f k % 16) hb2.1 hb2.2
      have hsz : (strOfNums (hexI f k)).size = 2 * k := by rw [strOfNums_size, hexI_length]
      have hsz2 : (strOfNums (hexI f k) ++ strOfNums [hexd (f k / 16)]).size = 2 * k + 1 := by rw [ByteArray.size_append, hsz, strOfNums_size]; rfl
      have hs1 : (strOfNums [hexd (f k / 16)]).size = 1 := by rw [strOfNums_size]; rfl
      have hs2 : (strOfNums [hexd (f k % 16)]).size = 1 := by rw [strOfNums_size]; rfl
      have HST := Go.Lib.hid (hexI_step f k)
      have hw1 : IntKind.i64.wrap (f k / 16 + 1) = f k / 16 + 1 := IntWalk.i64_in _ (by omega)
      have hw2 : IntKind.i64.wrap (f k % 16 + 1) = f k % 16 + 1 := IntWalk.i64_in _ (by omega)
      have hj1 : 0 ≤ f k / 16 + 1 ∧ f k / 16 + 1 ≤ 16 := by omega
      have hj2 : 0 ≤ f k % 16 + 1 ∧ f k % 16 + 1 ≤ 16 := by omega
      have hj3 : 0 ≤ f k / 16 ∧ f k / 16 ≤ f k / 16 + 1 := by omega
      have hj4 : 0 ≤ f k % 16 ∧ f k % 16 ≤ f k % 16 + 1 := by omega
      go_wp2
      go_region
      all_goals
        go_wp2
        go_roundg (32 - (k + 1))
        case measure => omega
        case rel => exact ⟨k + 1, nd + 1, by omega, rfl, by go_num, by rw [HST.out], rfl⟩
    · obtain rfl : k = 32 := by omega
      go_wp2
      go_ret
      exact ⟨rfl, bdn (bal (Below.refl _ _) _) _⟩

/-- Which of two comes first, by the first place where they differ, from a place on. -/
def lessK (f g : Nat → Int) : Nat → Nat → Bool
  | 0, _ => false
  | n + 1, i => if f i = g i then lessK f g n (i + 1) else decide (f i < g i)

set_option maxHeartbeats 1000000 in
theorem ref_Less (f g : Nat → Int) (hf : ∀ i, 0 ≤ f i ∧ f i ≤ 255) (hg : ∀ i, 0 ≤ g i ∧ g i ≤ 255) (w : World) :
    Calls Try.prog 30 #[.agg (dA f), .agg (dA g)] w fun e w' => e = .returned (.bool (lessK f g 32 0)) ∧ Below w.heap.size w w' := by
  obtain ⟨b, hb⟩ : ∃ b, b = lessK f g 32 0 := ⟨_, rfl⟩
  rw [← hb]
  have HB := Go.Lib.hid hb
  clear hb
  go_enter Try.func30, Try.ntmps30
  go_wp2
  go_loopg [5] 32 (fun gk iv wr => ∃ (k nd : Nat), k ≤ 32 ∧ gk = 32 - k ∧ iv = .int .i64 k ∧ Hid (b = lessK f g (32 - k) k) ∧ wr = ((w.alloc (.cells (dA f) 28)).alloc (.cells (dA g) 28)).drewN nd)
  case atStart => exact ⟨0, 0, by omega, rfl, rfl, HB, rfl⟩
  case round =>
    obtain ⟨k, nd, hk, rfl, rfl, HL, rfl⟩ := hrel
    by_cases hlt : k < 32
    · have hfk := hf k
      have hgk := hg k
      have hda := dA_at f k hlt
      have hdb := dA_at g k hlt
      have e32 : 32 - k = (32 - (k + 1)) + 1 := by omega
      by_cases he : f k = g k
      · have HL2 : Hid (b = lessK f g (32 - (k + 1)) (k + 1)) := Go.Lib.hid (by rw [HL.out, e32, lessK, if_pos he])
        clear e32 HL
        go_wp2
        go_region
        all_goals
          go_wp2
          go_roundg (32 - (k + 1))
          case measure => omega
          case rel => exact ⟨k + 1, nd + 1, by omega, rfl, by go_num, HL2, rfl⟩
      · have HL2 : Hid (b = decide (f k < g k)) := Go.Lib.hid (by rw [HL.out, e32, lessK, if_neg he])
        clear e32 HL
        go_wp2
        go_region
        all_goals
          go_wp2
          go_region
          all_goals
            go_wp2
            go_ret
            refine ⟨?_, ?_⟩
            · rw [HL2.out]
              rfl
            · exact bdr (bdr (bdn (bal (bal (Below.refl _ _) _) _) _))
    · obtain rfl : k = 32 := by omega
      have e := HL.out
      simp only [Nat.sub_self, lessK] at e
      subst e
      go_wp2
      go_ret
      exact ⟨rfl, bdn (bal (bal (Below.refl _ _) _) _) _⟩

end Go.Proofs.Ytkjdmjflppcofaa
