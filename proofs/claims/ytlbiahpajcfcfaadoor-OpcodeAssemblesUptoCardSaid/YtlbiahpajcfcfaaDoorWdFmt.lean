/- Words as texts: strconv.FormatUint at base 10; Print of the program and of the reference. -/
import Derived.Test.YtlbiahpajcfcfaaDoorWdRef
import Derived.Test.YtlbiahpajcfcfaaDoorWdConv
import Derived.Test.YtlbiahpajcfcfaaDoorWdDec
import Derived.Test.YtlbiahpajcfcfaaDoorShelf
import Derived.Lib.AppendIntMem
namespace Go.Proofs.YtlbiahpajcfcfaaDoor
open Go.ChangeShapes Go.WideShapes Go.ChangeAt Go.RowKit Go.Sort Go.Lib
set_option linter.unusedVariables false
set_option maxRecDepth 100000

/-- The variables of the library's that are read. -/
structure WL (w : World) : Prop where
  tab : Lib.TabIs Tryd.prog w "internal/strconv.uint64pow10" .u64 Lib.pow10Tab
  syn : ∃ tp p, w.var? Tryd.prog "strconv.ErrSyntax" = some #[.iface tp p]
  rng : ∃ tp p, w.var? Tryd.prog "strconv.ErrRange" = some #[.iface tp p]
theorem var_below {P : Program} {w w' : World} {n : String} {x : Array Value} (h : w.var? P n = some x) (hb : Below w.heap.size w w') : w'.var? P n = some x := by
  unfold World.var? at *
  cases hg : P.globalNamed n with
  | none => simp [hg] at h
  | some g =>
    simp only [hg, Option.bind_some] at h ⊢
    have hlt : g < w.heap.size := by
      rcases Nat.lt_or_ge g w.heap.size with h1 | h1
      · exact h1
      · rw [Array.getElem?_eq_none h1] at h
        simp at h
    rw [hb.block g hlt]
    exact h
theorem WL.below {w w' : World} (h : WL w) (hb : Below w.heap.size w w') : WL w' :=
  ⟨var_below h.tab hb, by obtain ⟨tp, p, e⟩ := h.syn; exact ⟨tp, p, var_below e hb⟩, by obtain ⟨tp, p, e⟩ := h.rng; exact ⟨tp, p, var_below e hb⟩⟩

set_option maxHeartbeats 2000000 in
set_option maxRecDepth 100000 in
theorem fmt_inner (u : Nat) (hu64 : u < 18446744073709551616) (w : World) (hw : WL w) :
    Calls Tryd.prog 59 #[.int .u64 (u : Int), .int .i64 10] w fun e w' => e = .returned (.string ⟨(Lib.decDigits u).toArray⟩) ∧ Below w.heap.size w w' := by
  have htab := hw.tab
  by_cases hs : u < 100
  · have hs1 : (u : Int) < 100 := by omega
    have HW := Lib.hid hw
    clear htab hw
    go_enter Tryd.func59, Tryd.ntmps59
    go_wp2_with (go_at_call 69; refine (Tryd.internal_strconv_small u hs _).mono ?_; rintro e w' ⟨rfl, rfl⟩)
    go_ret
    exact ⟨rfl, Below.refl _ _⟩
  · have hs1 : ¬ (u : Int) < 100 := by omega
    have hu1 : 1 ≤ u := by omega
    have hnd20 : Lib.nDigits u ≤ 20 := nDigits_le20 hu64
    have hal : Tryd.prog.arrayLen 103 = 24 := by kernel_rfl
    have hsl1 : ∀ W, (Instr.sliceAt 103 (.pointer (some ⟨w.heap.size, 0, none⟩)) none (some (.int .i64 (Lib.nDigits u : Int))) none).run Tryd.prog W = .ok (.slice (some ⟨w.heap.size, 0, none⟩) (Lib.nDigits u) 24) W := fun W => by
      rw [run_sliceAt_array_h W 103 ⟨w.heap.size, 0, none⟩ Tryd.underlying103 .i64 (Lib.nDigits u : Int) (by omega) (by rw [hal]; omega)]
      go_simp
      first | done | omega
    have hH0 := Lib.holds_zero0 w 103 (Lib.nDigits u) (by omega)
    have hfmt := Tryd.internal_strconv_formatBase10 w.heap.size 0 24 u (Array.replicate (Lib.nDigits u) 0) (w.alloc (.cells Lib.zeros24 103)) hH0 (by rw [Array.size_replicate]; exact Lib.lt_pow_nDigits u) hu64 (by rw [Array.size_replicate]; omega)
    rw [Array.size_replicate] at hfmt
    have HH0 := Lib.hid hH0
    have HF := Lib.hid hfmt
    have HT := Lib.hid htab
    have H64 := Lib.hid hu64
    clear hH0 hal hfmt htab hw hu64
    go_enter Tryd.func59, Tryd.ntmps59
    go_wp2_with (go_at_call 70; refine (Tryd.internal_strconv_numDigits u hu1 H64.out _ (Lib.tabIs_alloc HT.out _)).mono ?_; rintro e w' ⟨rfl, rfl⟩)
    refine HF.out.mono ?_
    rintro e w' ⟨rfl, k, v', dk, rfl, hF⟩
    have hcv : (convert 32 9 (.slice (some ⟨w.heap.size, 0, none⟩) (Lib.nDigits u) 24)).run Tryd.prog ((putRow (fun (b : UInt8) => Value.int .u8 (b.toNat : Int)) (w.alloc (.cells Lib.zeros24 103)) w.heap.size 0 dk).drewN k) = .ok (.string ⟨(Lib.decDigits u).toArray⟩) ((putRow (fun (b : UInt8) => Value.int .u8 (b.toNat : Int)) (w.alloc (.cells Lib.zeros24 103)) w.heap.size 0 dk).drewN k) := by
      have h := run_convert_bytes_back (P := Tryd.prog) ((putRow (fun (b : UInt8) => Value.int .u8 (b.toNat : Int)) (w.alloc (.cells Lib.zeros24 103)) w.heap.size 0 dk).drewN k) 32 9 5 ⟨w.heap.size, 0, none⟩ 24 (Lib.decDigits u) Tryd.underlying32 Tryd.underlying5 Tryd.underlying9 (fun j hj => by
        rw [Lib.row_is_numeral hF j hj, Lib.add_plain, World.cell?_drewN]
        exact cell?_putRow (fun (b : UInt8) => Value.int .u8 (b.toNat : Int)) _ w.heap.size 0 _ dk HH0.out (by rw [hF.size, Array.size_replicate]) j (by rw [hF.size]; rw [Lib.decDigits_length] at hj; exact hj))
      rw [Lib.decDigits_length] at h
      exact h
    go_wp2
    go_ret
    obtain ⟨os, eo⟩ := Lib.fin_at w (.cells Lib.zeros24 103) dk k 0
    exact ⟨rfl, by rw [eo]; exact Lib.below_grow _ _ (Nat.le_refl _) _ _⟩

set_option maxHeartbeats 400000 in
theorem fmt_uint (u : Nat) (hu64 : u < 18446744073709551616) (w : World) (hw : WL w) :
    Calls Tryd.prog 46 #[.int .u64 (u : Int), .int .i64 10] w fun e w' => e = .returned (.string ⟨(Lib.decDigits u).toArray⟩) ∧ Below w.heap.size w w' := by
  have H64 := Lib.hid hu64
  have HW := Lib.hid hw
  clear hu64 hw
  go_enter Tryd.func46, Tryd.ntmps46
  go_wp2_with (go_at_call 59; refine (fmt_inner u H64.out _ HW.out).mono ?_; rintro e w' ⟨rfl, hb⟩; have HB := Lib.hid hb; clear hb)
  go_ret
  exact ⟨rfl, HB.out⟩
set_option maxHeartbeats 400000 in
theorem words_Print (u : Nat) (hu64 : u < 18446744073709551616) (w : World) (hw : WL w) :
    Calls Tryd.prog 34 #[.int .u64 (u : Int)] w fun e w' => e = .returned (.string ⟨(Lib.decDigits u).toArray⟩) ∧ Below w.heap.size w w' := by
  have H64 := Lib.hid hu64
  have HW := Lib.hid hw
  clear hu64 hw
  go_enter Tryd.func34, Tryd.ntmps34
  go_wp2_with (go_at_call 46; refine (fmt_uint u H64.out _ HW.out).mono ?_; rintro e w' ⟨rfl, hb⟩; have HB := Lib.hid hb; clear hb)
  go_ret
  exact ⟨rfl, HB.out⟩

end Go.Proofs.YtlbiahpajcfcfaaDoor
