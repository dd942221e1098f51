/-
  What a row of this seat gives the walks: the listed variables as the program's text lays them, and the one that the world's shape pays for.
-/
import Derived.Test.YtpknablklencdaaGreatDoorWg
import Derived.Test.YtpknablklencdaaGreatDoorCards
import Derived.Test.YtpknablklencdaaGreatDoorTie
import Derived.WalkKit
import Derived.ProofKit
import Derived.OpenShut
import Derived.LaidLaws
import Derived.Lay
import Derived.PinnedBridge
import Derived.MakeChecks
import Derived.Deep.DeepHandedRow
import Derived.Lib.LaidU8T
import Derived.SevenTiedAt
set_option linter.unusedVariables false
set_option linter.unusedSimpArgs false
set_option maxRecDepth 100000
set_option maxHeartbeats 2000000
namespace Go.Proofs.YtpknablklencdaaGreatDoor
open Go.ChangeShapes Go.WideShapes Go.ChangeAt Go.RowKit

theorem own : ownKnob Tryz.prog.godebug = none := by kernel_rfl

theorem accept_eq : (Rows.laid_unicode_utf8_acceptRanges : DataW Unit) = Lib.acceptData := by kernel_rfl
theorem first_eq : Rows.laid_unicode_utf8_first = Lib.firstData := Pinned.utf8First_eq

/-- A variable of interface type that reads as a value holds one. -/
theorem iface_var {W : World} {name tn : String} {d : DataW Unit} {g t : Nat} {ms : Array (String × TypeId)} (hg : Tryz.prog.globalNamed name = some g) (hty : (Tryz.prog.globals[g]?).map (·.type) = some t) (ht : Tryz.prog.underlying t = some (.interface ms))
    (h : Lib.VarReads Tryz.prog W name (.iface tn d)) : ∃ ev, W.cell? ⟨g, 0, none⟩ = some ev ∧ (ev = .nilIface ∨ ∃ te pe, ev = .iface te pe) := by
  obtain ⟨g', t', cs, fuel, p, h1, h2, h3, h4⟩ := h
  obtain rfl := Option.some.inj (hg.symm.trans h1)
  obtain rfl := Option.some.inj (hty.symm.trans h2)
  obtain ⟨f', u, v, hcs, _, _⟩ := iface_of_trod ht h4
  refine ⟨.iface u v, ?_, Or.inr ⟨u, v, rfl⟩⟩
  have := World.var?_cell hg h3 0
  rw [this, ← Array.getElem?_toList, hcs]
  rfl

theorem gl_of {laid : List (String × DataW Unit)} {W : World} (hL : laidMetH Tryz.prog laid W) (hp : (laid.all fun x => x.2.handleName?.isNone) = true) (hsh : W.ShapedOpen Tryz.prog)
    (m1 : ("unicode/utf8.first", Rows.laid_unicode_utf8_first) ∈ laid) (m2 : ("unicode/utf8.acceptRanges", Rows.laid_unicode_utf8_acceptRanges) ∈ laid)
    (m3 : ("strconv.ErrSyntax", Rows.laid_strconv_ErrSyntax) ∈ laid) (m4 : ("strconv.ErrRange", Rows.laid_strconv_ErrRange) ∈ laid) : Gl W := by
  rw [MakeChecks.laidMetH_plain _ _ _ hp] at hL
  have r1 := Lib.laidMet.reads hL m1
  have r2 := Lib.laidMet.reads hL m2
  have r3 := Lib.laidMet.reads hL m3
  have r4 := Lib.laidMet.reads hL m4
  rw [first_eq] at r1
  rw [accept_eq] at r2
  exact {
    tabs := utf8Tabs_of_readsT (U8Types.of260 Tryz.lays260) ⟨by kernel_rfl, by kernel_rfl, by kernel_rfl, by kernel_rfl, by kernel_rfl, by kernel_rfl, by kernel_rfl⟩ r1 r2
    syn := iface_var (g := 6) (t := 174) (by kernel_rfl) (by kernel_rfl) Tryz.underlying174 r3
    ran := iface_var (g := 7) (t := 174) (by kernel_rfl) (by kernel_rfl) Tryz.underlying174 r4
    maxLen := Tryz.laysM143.s1_3 W hsh }
end Go.Proofs.YtpknablklencdaaGreatDoor
