/-
  What a row of this seat gives the walks that read the signs' table too.
-/
import Derived.Test.YtpknablklencdaaGreatDoorGl
import Derived.Test.YtpknablklencdaaGreatDoorYa
import Derived.OpenShut
set_option linter.unusedVariables false
set_option linter.unusedSimpArgs false
set_option maxRecDepth 100000
set_option maxHeartbeats 2000000
namespace Go.Proofs.YtpknablklencdaaGreatDoor
open Go.ChangeShapes Go.WideShapes Go.ChangeAt Go.RowKit

/-- A variable that is an array of strings. -/
theorem strings_var {W : World} {name : String} {l : List (List UInt8)} {g t e : Nat} (hg : Tryz.prog.globalNamed name = some g) (hty : (Tryz.prog.globals[g]?).map (·.type) = some t) (ht : Tryz.prog.underlying t = some (.array l.length e)) (he : Tryz.prog.underlying e = some .string) (hc : Tryz.prog.cellsOf e = 1) (hct : Tryz.prog.cellsOf t = l.length)
    (h : Lib.VarReads Tryz.prog W name (.agg (l.map fun b => .lit (.string b)))) : ∃ ty fr, W.heap[g]? = some (.cells (l.map fun b => Value.string ⟨b.toArray⟩).toArray ty fr) := by
  obtain ⟨g', t', cs, fuel, p, h1, h2, h3, h4⟩ := h
  obtain rfl := Option.some.inj (hg.symm.trans h1)
  obtain rfl := Option.some.inj (hty.symm.trans h2)
  obtain ⟨xs, m, _, hx, hlen, hxl, hel⟩ := DataW.trod_array ht h4
  have hcs : cs.toList = l.map fun b => Value.string ⟨b.toArray⟩ := by
    apply List.ext_getElem?
    intro i
    rcases Nat.lt_or_ge i l.length with hi | hi
    · have hb := hel i hi
      rw [hc, Nat.mul_one] at hb
      have hix : i < xs.length := by omega
      have hic : i < cs.toList.length := by omega
      rw [List.getElem?_eq_getElem hix] at hb
      obtain ⟨s, hs1, hs2, _⟩ := DataW.trod_string he hb
      have hd : (cs.toList.drop i).take 1 = [cs.toList[i]'hic] := by
        rw [List.drop_eq_getElem_cons hic]
        rfl
      rw [hd] at hs1
      have hs1' : cs.toList[i]'hic = .string s := by injection hs1
      have hd2 : (xs.map (·.1))[i]? = ((l.map fun b => DataW.lit (.string b)) : List (DataW Unit))[i]? := by
        have := congrArg Prod.fst hx
        injection this with this
        rw [this]
      rw [List.getElem?_map, List.getElem?_map, List.getElem?_eq_getElem hix, List.getElem?_eq_getElem hi, hs2] at hd2
      simp only [Option.map_some, Option.some.injEq] at hd2
      injection hd2 with hd2
      injection hd2 with hd2
      rw [List.getElem?_map, List.getElem?_eq_getElem hic, List.getElem?_eq_getElem hi, hs1', ← hd2]
      rfl
    · rw [List.getElem?_eq_none (by omega), List.getElem?_eq_none (by rw [List.length_map]; exact hi)]
  unfold World.var? at h3
  rw [hg] at h3
  simp only [Option.bind_some] at h3
  split at h3
  · rename_i cs' ty fr hh
    injection h3 with h3
    refine ⟨ty, fr, ?_⟩
    rw [hh, h3]
    congr 2
    apply Array.toList_inj.1
    rw [hcs]
  · cases h3
theorem signs_eq : (Rows.laid_reach_scan_signs : DataW Unit) = .agg (SIGNL.map fun b => .lit (.string b)) := rfl
theorem gs_of {laid : List (String × DataW Unit)} {W : World} (hL : laidMetH Tryz.prog laid W) (hp : (laid.all fun x => x.2.handleName?.isNone) = true) (hsh : W.ShapedOpen Tryz.prog)
    (m1 : ("unicode/utf8.first", Rows.laid_unicode_utf8_first) ∈ laid) (m2 : ("unicode/utf8.acceptRanges", Rows.laid_unicode_utf8_acceptRanges) ∈ laid)
    (m3 : ("strconv.ErrSyntax", Rows.laid_strconv_ErrSyntax) ∈ laid) (m4 : ("strconv.ErrRange", Rows.laid_strconv_ErrRange) ∈ laid) (m5 : ("reach/scan.signs", Rows.laid_reach_scan_signs) ∈ laid) : Gs W := by
  have hG := gl_of hL hp hsh m1 m2 m3 m4
  rw [MakeChecks.laidMetH_plain _ _ _ hp] at hL
  have r := Lib.laidMet.reads hL m5
  rw [signs_eq] at r
  exact { toGl := hG, signs := strings_var (l := SIGNL) (t := 153) (e := 9) (by kernel_rfl) (by kernel_rfl) Tryz.underlying153 Tryz.underlying9 (by kernel_rfl) (by kernel_rfl) r }
end Go.Proofs.YtpknablklencdaaGreatDoor
