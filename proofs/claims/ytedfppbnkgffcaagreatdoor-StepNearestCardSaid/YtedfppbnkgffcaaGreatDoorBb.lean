/-
 THE LAW StepAgain (chapter 10).
-/
import Derived.Test.YtedfppbnkgffcaaGreatDoorAk
import Derived.Test.YtedfppbnkgffcaaGreatDoorBa
set_option linter.unusedVariables false
set_option linter.unusedSimpArgs false
set_option maxRecDepth 100000
set_option maxHeartbeats 8000000
namespace Go.Proofs.YtedfppbnkgffcaaGreatDoor
open Go.RowKit
theorem pts_any {B:Nat} {v:Value} {xs:List PathV} {w:World} (h:PtsAt B v xs w):∃ A c,v=.slice A xs.length c∧∀ W,Below w.heap.size w W→∀ (i:Nat) (x:PathV),xs[i]?=some x→∃ g o,A=some ⟨g,o,none⟩∧∃ A1 k1 A2 k2,W.cell? ⟨g,o+i * 3,none⟩=some (.slice A1 x.path.ports.length k1)∧W.cell? ⟨g,o+i * 3+1,none⟩=some (.slice A2 x.path.entries.length k2)∧W.cell? ⟨g,o+i * 3+2,none⟩=some (.string x.path.header)∧IV W A1 x.path.ports∧x.path.ports.length≤k1:=by
 by_cases hne:xs=[]
 ·obtain⟨A,c,e⟩:=pts_slice h;exact⟨A,c,e,fun W _ i x hx=>by rw [hne] at hx;simp at hx⟩
 ·obtain⟨g,o,c,e,hat⟩:=pts_at h hne;exact⟨_,c,e,fun W hW i x hx=>⟨g,o,rfl,hat W hW i x hx⟩⟩
namespace Sp
end Sp
end Go.Proofs.YtedfppbnkgffcaaGreatDoor
