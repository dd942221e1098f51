/-
 The rounds of step.Loop in plain terms: what a round keeps, and what each way out of the loop says (chapter 10; no program in sight).
-/
import Derived.Test.YtedfppbnkgffcaaGreatDoorAx
set_option linter.unusedVariables false
set_option linter.unusedSimpArgs false
namespace Go.Proofs.YtedfppbnkgffcaaGreatDoor
open Go.RowKit
namespace Sp
theorem beg_ok {n:Net} {s:Nat} {h:ByteArray} {hops:Int} (hc:checkE n (s:Int) h=0∧0≤hops∧hops≤64) {b:Path} (hB:BegR n s h b true):GOk n s h hops b∧∃ f,pathsV n (s:Int) h hops=walkV n hops f b:=by
 rcases hB with⟨h1,_,rfl⟩ | ⟨h1,m,r,h2,_,rfl⟩ | ⟨_,_,h3,_⟩
 ·obtain⟨a,e⟩:=begin_in hc h1;exact⟨a,_,e⟩
 ·obtain⟨a,_,e⟩:=begin_link hc h1 h2;exact⟨a,_,e⟩
 ·cases h3
end Sp
end Go.Proofs.YtedfppbnkgffcaaGreatDoor
