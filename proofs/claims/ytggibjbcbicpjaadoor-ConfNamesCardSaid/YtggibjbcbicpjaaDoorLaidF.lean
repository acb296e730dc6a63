/- What the rows list of package-level variables: the cells that the walks read. -/
import Derived.Test.YtggibjbcbicpjaaDoorRows
import Derived.Test.YtggibjbcbicpjaaDoorLex
import Derived.Stop.LaidErr
import Derived.Lib.LaidTab
import Derived.LaidLaws
import Derived.LaidSub
namespace Go.Proofs.YtggibjbcbicpjaaDoor.Num
open Go Go.RowKit
set_option linter.unusedVariables false
set_option linter.unusedSimpArgs false
theorem gS : Tryd.prog.globalNamed "strconv.ErrSyntax" = some 0 := by kernel_rfl
theorem gR : Tryd.prog.globalNamed "strconv.ErrRange" = some 1 := by kernel_rfl
theorem gP : Tryd.prog.globalNamed "internal/strconv.uint64pow10" = some 2 := by kernel_rfl
theorem gB : Tryd.prog.globalNamed "math/bits.deBruijn64tab" = some 4 := by kernel_rfl
theorem gST : (Tryd.prog.globals[0]?).map (·.type) = some 63 := by kernel_rfl
theorem gRT : (Tryd.prog.globals[1]?).map (·.type) = some 63 := by kernel_rfl
theorem gPT : (Tryd.prog.globals[2]?).map (·.type) = some 112 := by kernel_rfl
theorem gBT : (Tryd.prog.globals[4]?).map (·.type) = some 121 := by kernel_rfl
theorem star : "*" ++ "errors.errorString" = "*errors.errorString" := by decide
theorem row116 (u : TypeId) (h : Tryd.prog.typeName? 3 u = some "*errors.errorString") : u = 116 :=
  typeName_ptr_named (nm := "errors.errorString") (by rw [star]; kernel_rfl) (by kernel_rfl) (by decide) u (by rw [star]; exact h)
theorem c118 : Tryd.prog.cellsOf 118 = 1 := by kernel_rfl
theorem c9 : Tryd.prog.cellsOf 9 = 1 := by kernel_rfl
theorem c66 : Tryd.prog.cellsOf 66 = 1 := by kernel_rfl
theorem c5 : Tryd.prog.cellsOf 5 = 1 := by kernel_rfl
theorem c112 : Tryd.prog.cellsOf 112 = 20 := by kernel_rfl
theorem c121 : Tryd.prog.cellsOf 121 = 64 := by kernel_rfl
theorem laidW_of {W : World} (hL : laidMet Tryd.prog Rows.lexBackRow.laid W) : LaidW W := by
  obtain ⟨a0, s0, hv0, -, -, -⟩ := laid_sentinel hL.tail.tail.tail gR gRT Tryd.underlying63 row116 Tryd.underlying116 Tryd.underlying118 rfl rfl Tryd.underlying9 c118 c9
  obtain ⟨a1, s1, hv1, -, -, -⟩ := laid_sentinel hL.tail.tail.tail.tail gS gST Tryd.underlying63 row116 Tryd.underlying116 Tryd.underlying118 rfl rfl Tryd.underlying9 c118 c9
  have hP := Lib.tabIs_of_head (k := .u64) (zs := Lib.pow10Tab) gP gPT Tryd.underlying112 Tryd.underlying66 c66 c112 (show laidMet Tryd.prog (("internal/strconv.uint64pow10", Lib.tabData .u64 Lib.pow10Tab) :: _) W from hL.tail.tail)
  obtain ⟨ps, ⟨g', t', cs, fuel, p, q, hg', ht', hvar, _⟩, _⟩ := hL.tail
  refine ⟨hP, ⟨116, .pointer (some a1), ?_⟩, ⟨116, .pointer (some a0), ?_⟩, ?_⟩
  · have h0 := World.var?_cell gS hv1 0
    simpa using h0
  · have h0 := World.var?_cell gR hv0 0
    simpa using h0
  · unfold World.var? at hvar
    rw [gB] at hvar
    simp only [Option.bind_some] at hvar
    rcases Nat.lt_or_ge 4 W.heap.size with h | h
    · exact h
    · rw [Array.getElem?_eq_none h] at hvar
      cases hvar
/-! ### One start that fits: the variables as their initialisers lay them -/
abbrev synS : ByteArray := ⟨#[105, 110, 118, 97, 108, 105, 100, 32, 115, 121, 110, 116, 97, 120]⟩
abbrev rngS : ByteArray := ⟨#[118, 97, 108, 117, 101, 32, 111, 117, 116, 32, 111, 102, 32, 114, 97, 110, 103, 101]⟩
def setC (cs : Array Value) : Obj → Obj
  | .cells _ t z => .cells cs t z
  | o => o
def litV : DataW Unit → Value
  | .lit (.int k n) => .int k n
  | _ => .nilIface
def tabV : DataW Unit → Array Value
  | .agg l => (l.map litV).toArray
  | _ => #[]
noncomputable def low : Nat := (World.holding Tryd.prog default ⟨#[], #[], []⟩).heap.size
noncomputable def laidWorld (os : Os) : World :=
  let w0 := World.holding Tryd.prog os ⟨#[.cells #[.string synS] 118, .cells #[.string rngS] 118], #[], []⟩
  { w0 with heap := ((((w0.heap.modify 0 (setC #[.iface 116 (.pointer (some ⟨low, 0, none⟩))])).modify 1 (setC #[.iface 116 (.pointer (some ⟨low + 1, 0, none⟩))])).modify 2 (setC (tabV Rows.laid_internal_strconv_uint64pow10))).modify 3 (setC (tabV Rows.laid_math_bits_deBruijn32tab))).modify 4 (setC (tabV Rows.laid_math_bits_deBruijn64tab)) }
theorem laidWorld_met (os : Os) (args : Array Value) : laidMet Tryd.prog Rows.lexBackRow.laid ((laidWorld os).forCall (fun _ _ => 0) ⟨#[], args, []⟩).memory :=
  laidMet_of_run' 8 (by kernel_rfl) (by kernel_rfl)
end Go.Proofs.YtggibjbcbicpjaaDoor.Num
