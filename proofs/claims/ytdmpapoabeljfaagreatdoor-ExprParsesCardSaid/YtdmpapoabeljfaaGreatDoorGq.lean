/-
  What a row of this seat gives the walks that read the reference's signs too.
-/
import Derived.Test.YtdmpapoabeljfaaGreatDoorGm
import Derived.Test.YtdmpapoabeljfaaGreatDoorRj
set_option linter.unusedVariables false
set_option linter.unusedSimpArgs false
set_option maxRecDepth 100000
set_option maxHeartbeats 2000000
namespace Go.Proofs.YtdmpapoabeljfaaGreatDoor
open Go.ChangeShapes Go.WideShapes Go.ChangeAt Go.RowKit

theorem refsigns_eq : (Rows.laid_reach_reachref3_signs : DataW Unit) = .agg (REFL.map fun b => .lit (.string b)) := rfl
theorem gr_of {laid : List (String × DataW Unit)} {W : World} (hL : laidMetH Tryz.prog laid W) (hp : (laid.all fun x => x.2.handleName?.isNone) = true) (hsh : W.ShapedOpen Tryz.prog)
    (m1 : ("unicode/utf8.first", Rows.laid_unicode_utf8_first) ∈ laid) (m2 : ("unicode/utf8.acceptRanges", Rows.laid_unicode_utf8_acceptRanges) ∈ laid)
    (m3 : ("strconv.ErrSyntax", Rows.laid_strconv_ErrSyntax) ∈ laid) (m4 : ("strconv.ErrRange", Rows.laid_strconv_ErrRange) ∈ laid) (m5 : ("reach/scan.signs", Rows.laid_reach_scan_signs) ∈ laid)
    (m6 : ("reach/reachref3.signs", Rows.laid_reach_reachref3_signs) ∈ laid) : Gr W := by
  have hG := gs_of hL hp hsh m1 m2 m3 m4 m5
  rw [MakeChecks.laidMetH_plain _ _ _ hp] at hL
  have r := Lib.laidMet.reads hL m6
  rw [refsigns_eq] at r
  exact { toGs := hG, refsigns := strings_var (l := REFL) (t := 137) (e := 9) (by kernel_rfl) (by kernel_rfl) Tryz.underlying137 Tryz.underlying9 (by kernel_rfl) (by kernel_rfl) r }
end Go.Proofs.YtdmpapoabeljfaaGreatDoor
