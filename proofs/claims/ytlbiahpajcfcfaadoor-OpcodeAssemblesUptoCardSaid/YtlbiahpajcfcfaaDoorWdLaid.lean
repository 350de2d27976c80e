/- Words: what the rows list of variables gives the walks; a start that fits. -/
import Derived.Test.YtlbiahpajcfcfaaDoorWdPar
import Derived.Stop.LaidErr
import Derived.Lib.LaidTab
import Derived.Deep.DeepLaidRun
import Derived.SizedLaws
import Derived.ChangeSame
import Derived.ChangeVars
import Derived.ChangeMaps5
import Derived.JoinedOf
import Derived.JoinedAt
import Derived.RowKit3
import Derived.RowKitTokens
import Derived.LaidLaws
namespace Go.Proofs.YtlbiahpajcfcfaaDoor
open Go.ChangeShapes Go.WideShapes Go.ChangeAt Go.RowKit
set_option linter.unusedVariables false
set_option maxRecDepth 100000

theorem gES : Tryd.prog.globalNamed "strconv.ErrSyntax" = some 0 := by kernel_rfl
theorem gESType : (Tryd.prog.globals[0]?).map (·.type) = some 79 := by kernel_rfl
theorem gER : Tryd.prog.globalNamed "strconv.ErrRange" = some 1 := by kernel_rfl
theorem gERType : (Tryd.prog.globals[1]?).map (·.type) = some 79 := by kernel_rfl
theorem gTab : Tryd.prog.globalNamed "internal/strconv.uint64pow10" = some 2 := by kernel_rfl
theorem gTabType : (Tryd.prog.globals[2]?).map (·.type) = some 116 := by kernel_rfl
theorem tabEq : (Rows.laid_internal_strconv_uint64pow10 : DataW Unit) = Lib.tabData .u64 Lib.pow10Tab := by kernel_rfl

theorem star : "*" ++ "errors.errorString" = "*errors.errorString" := by decide
theorem row_es (u : TypeId) (h : Tryd.prog.typeName? 3 u = some "*errors.errorString") : u = 121 :=
  typeName_ptr_named (nm := "errors.errorString") (by rw [star]; kernel_rfl) (by kernel_rfl) (by decide) u (by rw [star]; exact h)

theorem wl_of_laid {W : World} {x1 x2 : String × DataW Unit} {r : List (String × DataW Unit)} (hL : laidMet Tryd.prog (x1 :: x2 :: ("internal/strconv.uint64pow10", Rows.laid_internal_strconv_uint64pow10) :: ("strconv.ErrRange", Rows.laid_strconv_ErrRange) :: ("strconv.ErrSyntax", Rows.laid_strconv_ErrSyntax) :: r) W) : WL W := by
  have h3 := hL.tail.tail
  have h4 := h3.tail
  have h5 := h4.tail
  rw [tabEq] at h3
  unfold Rows.laid_strconv_ErrRange at h4
  unfold Rows.laid_strconv_ErrSyntax at h5
  refine ⟨Lib.tabIs_of_head gTab gTabType Tryd.underlying116 Tryd.underlying22 (by kernel_rfl) (by kernel_rfl) h3, ?_, ?_⟩
  · obtain ⟨a, s, hv, -, -, -⟩ := laid_sentinel h5 gES gESType Tryd.underlying79 row_es Tryd.underlying121 Tryd.underlying123 rfl rfl Tryd.underlying9 (by kernel_rfl) (by kernel_rfl)
    exact ⟨_, _, hv⟩
  · obtain ⟨a, s, hv, -, -, -⟩ := laid_sentinel h4 gER gERType Tryd.underlying79 row_es Tryd.underlying121 Tryd.underlying123 rfl rfl Tryd.underlying9 (by kernel_rfl) (by kernel_rfl)
    exact ⟨_, _, hv⟩

theorem nat_u64 {z : Int} (h : (Lit.int .u64 z).wf = true) : ∃ n : Nat, z = (n : Int) ∧ n < 18446744073709551616 := by
  have := bounds_u64 h
  exact ⟨z.toNat, by omega, by omega⟩
theorem nat_u8 {z : Int} (h : (Lit.int .u8 z).wf = true) : ∃ n : Nat, z = (n : Int) ∧ n < 256 := by
  have := bounds_u8 h
  exact ⟨z.toNat, by omega, by omega⟩

/-! ### One start that fits -/
abbrev synS : ByteArray := { data := #[105, 110, 118, 97, 108, 105, 100, 32, 115, 121, 110, 116, 97, 120] }
abbrev rngS : ByteArray := { data := #[118, 97, 108, 117, 101, 32, 111, 117, 116, 32, 111, 102, 32, 114, 97, 110, 103, 101] }
noncomputable def lowB : Nat := (World.holding Tryd.prog default ⟨#[], #[], []⟩).heap.size
def cellsOfLaid : DataW Unit → Array Value
  | .agg l => (l.filterMap fun | .lit (.int k z) => some (Value.int k z) | _ => none).toArray
  | _ => #[]
def putCells (cs : Array Value) : Obj → Obj
  | .cells _ t frozen => .cells cs t frozen
  | o => o
/-- The settled world with two blocks more, each an errors.errorString; the variables as their initialisers lay them. -/
noncomputable def laidWorld (os : Os) : World :=
  let w0 := World.holding Tryd.prog os ⟨#[.cells #[.string synS] 123, .cells #[.string rngS] 123], #[], []⟩
  { w0 with heap := ((((w0.heap.modify 0 (putCells #[.iface 121 (.pointer (some ⟨lowB, 0, none⟩))])).modify 1 (putCells #[.iface 121 (.pointer (some ⟨lowB + 1, 0, none⟩))])).modify
      2 (putCells (cellsOfLaid Rows.laid_internal_strconv_uint64pow10))).modify 4 (putCells (cellsOfLaid Rows.laid_math_bits_deBruijn32tab))).modify 5 (putCells (cellsOfLaid Rows.laid_math_bits_deBruijn64tab)) }
theorem laidWorld_met (os : Os) (args : Array Value) : laidMet Tryd.prog [("math/bits.deBruijn32tab", Rows.laid_math_bits_deBruijn32tab), ("math/bits.deBruijn64tab", Rows.laid_math_bits_deBruijn64tab), ("internal/strconv.uint64pow10", Rows.laid_internal_strconv_uint64pow10), ("strconv.ErrRange", Rows.laid_strconv_ErrRange), ("strconv.ErrSyntax", Rows.laid_strconv_ErrSyntax)] ((laidWorld os).forCall (fun _ _ => 0) ⟨#[], args, []⟩).memory :=
  laidMet_of_run3 8 (by kernel_rfl) (by kernel_rfl) (by kernel_rfl)

end Go.Proofs.YtlbiahpajcfcfaaDoor
