/-
  What a row of this seat gives the walks that read the table of the powers of ten.
-/
import Derived.Test.YtdmpapoabeljfaaGreatDoorGm
import Derived.Test.YtdmpapoabeljfaaGreatDoorNa
set_option linter.unusedVariables false
set_option maxRecDepth 100000
namespace Go.Proofs.YtdmpapoabeljfaaGreatDoor
open Go.ChangeShapes Go.WideShapes Go.ChangeAt Go.RowKit

theorem pow_eq : (Rows.laid_internal_strconv_uint64pow10 : DataW Unit) = Lib.tabData .u64 Lib.pow10Tab := by kernel_rfl
theorem pow_of {laid : List (String × DataW Unit)} {W : World} (hL : laidMetH Tryz.prog laid W) (hp : (laid.all fun x => x.2.handleName?.isNone) = true) (m : ("internal/strconv.uint64pow10", Rows.laid_internal_strconv_uint64pow10) ∈ laid) : Pow W := by
  rw [MakeChecks.laidMetH_plain _ _ _ hp] at hL
  have r := Lib.laidMet.reads hL m
  rw [pow_eq] at r
  obtain ⟨g', t', cs, fuel, p, h1, h2, h3, h4⟩ := r
  have hg : Tryz.prog.globalNamed "internal/strconv.uint64pow10" = some 7 := by kernel_rfl
  have hty : (Tryz.prog.globals[7]?).map (·.type) = some 203 := by kernel_rfl
  obtain rfl := Option.some.inj (hg.symm.trans h1)
  obtain rfl := Option.some.inj (hty.symm.trans h2)
  unfold Pow Lib.TabIs
  rw [h3, ← Lib.cells_of_tab (n := 20) Tryz.underlying203 Tryz.underlying146 (by kernel_rfl) (by kernel_rfl) h4]
end Go.Proofs.YtdmpapoabeljfaaGreatDoor
