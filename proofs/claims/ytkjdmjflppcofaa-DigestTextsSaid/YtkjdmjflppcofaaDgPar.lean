/- What a text says, as a digest: Parse in one contract. -/
import Derived.Test.YtkjdmjflppcofaaDgAlive
namespace Go.Proofs.Ytkjdmjflppcofaa
open Go.ChangeShapes Go.WideShapes Go.ChangeAt Go.RowKit
set_option linter.unusedVariables false

attribute [simp, go_sem] eqD_refl

def pv32 (g : Nat → Int) (i : Nat) : Int := if i < 32 then pvI g i else 0
theorem dA_pv32 (g : Nat → Int) : dA (pv32 g) = dA (pvI g) := dA_congr fun i hi => if_pos hi
theorem pv32_bd (g : Nat → Int) (h : okHex g 64) (i : Nat) : 0 ≤ pv32 g i ∧ pv32 g i ≤ 255 := by
  unfold pv32
  split
  · rename_i hi
    have h1 := h (2 * i) (by omega)
    have h2 := h (2 * i + 1) (by omega)
    have h3 := digitI_bd (g (2 * i))
    have h4 := digitI_bd (g (2 * i + 1))
    unfold pvI
    omega
  · omega

open Classical in
/-- What a text says: 32 bytes; none: zeros. -/
noncomputable def parG (s : ByteArray) : Nat → Int := if s.size = 64 ∧ okHex (sb s) 64 then pv32 (sb s) else zeroF
open Classical in
noncomputable def parB (s : ByteArray) : Bool := if s.size = 64 ∧ okHex (sb s) 64 then true else false
theorem parG_bd (s : ByteArray) (i : Nat) : 0 ≤ parG s i ∧ parG s i ≤ 255 := by
  unfold parG
  split
  · rename_i h
    exact pv32_bd _ h.2 i
  · simp [zeroF]

theorem par_some (s : ByteArray) (h : s.size = 64 ∧ okHex (sb s) 64) : digV (pvI (sb s)) = .agg (dA (parG s)) ∧ parB s = true := by
  unfold parG parB
  rw [if_pos h, if_pos h, dA_pv32]
  exact ⟨rfl, rfl⟩
theorem par_none (s : ByteArray) (h : ¬ (s.size = 64 ∧ okHex (sb s) 64)) : digV (fun _ => 0) = .agg (dA (parG s)) ∧ parB s = false := by
  unfold parG parB
  rw [if_neg h, if_neg h]
  exact ⟨rfl, rfl⟩

theorem digest_Parse (s : ByteArray) (w : World) (hm : s.size ≤ 140737488351232) :
    Calls Try.prog 20 #[.string s] w fun e w' => e = .returned (.tuple #[.agg (dA (parG s)), .bool (parB s)]) ∧ Below w.heap.size w w' := by
  by_cases h1 : s.size = 64
  · by_cases h2 : okHex (sb s) 64
    · refine (digest_Parse_ok s w h1 h2).mono ?_
      rintro e w' ⟨rfl, hb⟩
      have h := par_some s ⟨h1, h2⟩
      exact ⟨by rw [h.1, h.2], hb⟩
    · refine (digest_Parse_bad s w h1 h2).mono ?_
      rintro e w' ⟨rfl, hb⟩
      have h := par_none s (fun h => h2 h.2)
      exact ⟨by rw [h.1, h.2], hb⟩
  · refine (digest_Parse_len s w h1 (by omega)).mono ?_
    rintro e w' ⟨rfl, hb⟩
    have h := par_none s (fun h => h1 h.1)
    exact ⟨by rw [h.1, h.2], hb⟩

theorem ref_Parse (s : ByteArray) (w : World) (hm : s.size ≤ 140737488351232) :
    Calls Try.prog 21 #[.string s] w fun e w' => e = .returned (.tuple #[.agg (dA (parG s)), .bool (parB s)]) ∧ Below w.heap.size w w' := by
  by_cases h1 : s.size = 64
  · by_cases h2 : okHex (sb s) 64
    · refine (ref_Parse_ok s w h1 h2).mono ?_
      rintro e w' ⟨rfl, hb⟩
      have h := par_some s ⟨h1, h2⟩
      exact ⟨by rw [h.1, h.2], hb⟩
    · refine (ref_Parse_bad s w h1 h2).mono ?_
      rintro e w' ⟨rfl, hb⟩
      have h := par_none s (fun h => h2 h.2)
      exact ⟨by rw [h.1, h.2], hb⟩
  · refine (ref_Parse_len s w h1 (by omega)).mono ?_
    rintro e w' ⟨rfl, hb⟩
    have h := par_none s (fun h => h1 h.1)
    exact ⟨by rw [h.1, h.2], hb⟩

theorem sb_ext {a b : ByteArray} (h : a.size = b.size) (hi : ∀ i, i < a.size → sb a i = sb b i) : a = b := by
  apply ByteArray.ext
  apply Array.ext
  · exact h
  · intro i h1 h2
    have h3 : i < a.size := h1
    have h4 : i < b.size := h2
    have e := hi i h3
    rw [← sb_eq a i h3, ← sb_eq b i h4] at e
    exact UInt8.toNat_inj.1 (by exact_mod_cast e)
/-- What is read is written as it was. -/
theorem print_parse (s : ByteArray) (h : parB s = true) : strOfNums (hexI (parG s) 32) = s := by
  by_cases hs : s.size = 64 ∧ okHex (sb s) 64
  · have e : parG s = pv32 (sb s) := by unfold parG; rw [if_pos hs]
    rw [e]
    have hbd := pv32_bd (sb s) hs.2
    refine sb_ext ((back_size _).trans hs.1.symm) fun i hi => ?_
    rw [back_size] at hi
    have hb := back_at (pv32 (sb s)) hbd (i / 2) (by omega)
    have hp : pv32 (sb s) (i / 2) = pvI (sb s) (i / 2) := if_pos (by omega)
    have d1 := digitI_bd (sb s (2 * (i / 2)))
    have d2 := digitI_bd (sb s (2 * (i / 2) + 1))
    have o1 := hs.2 (2 * (i / 2)) (by omega)
    have o2 := hs.2 (2 * (i / 2) + 1) (by omega)
    rw [hp] at hb
    unfold pvI at hb
    rw [show (digitI (sb s (2 * (i / 2))) * 16 + digitI (sb s (2 * (i / 2) + 1))) / 16 = digitI (sb s (2 * (i / 2))) from by omega,
      show (digitI (sb s (2 * (i / 2))) * 16 + digitI (sb s (2 * (i / 2) + 1))) % 16 = digitI (sb s (2 * (i / 2) + 1)) from by omega,
      hexd_digit _ o1, hexd_digit _ o2] at hb
    rcases (by omega : i = 2 * (i / 2) ∨ i = 2 * (i / 2) + 1) with h | h
    · rw [h]
      exact hb.1
    · rw [h]
      exact hb.2
  · rw [(par_none s hs).2] at h
    cases h

end Go.Proofs.Ytkjdmjflppcofaa
