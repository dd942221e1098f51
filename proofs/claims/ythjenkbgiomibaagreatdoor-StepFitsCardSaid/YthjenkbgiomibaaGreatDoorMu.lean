/-
  THE CONTRACT of the iterator that step.moves hands back, for a loop whose body appends (chapter 10).
-/
import Derived.Test.YthjenkbgiomibaaGreatDoorMq
set_option linter.unusedVariables false
set_option maxRecDepth 100000
set_option maxHeartbeats 4000000
namespace Go.Proofs.YthjenkbgiomibaaGreatDoor
open Go.RowKit
/-- What a state wants of its network so that its ways on can be told. -/
def Sp.MvOk (n : Sp.Net) (p : Nat) (h : ByteArray) : Prop := (∃ q, n.ports[p]? = some q ∧ q.inn = false ∧ n.ports.length ≤ 1000000) ∨ ∃ q g t, Sp.InOk n p h q g t
theorem moves_stops (m N Bn Bs Bo : Nat) (n : Sp.Net) (p : Nat) (h : ByteArray) (hok : Sp.MvOk n p h) (w0 w : World) (hm : 1 ≤ m) (hn : NetAt w0 N n) (hw0 : Below w0.heap.size w0 w) (hb0 : w0.heap.size ≤ Bo) (hbo : Bo < w.heap.size) (hbon : Bo ≠ Bn) (hbos : Bo ≠ Bs) (hrow : rowAt w Bo = none)
    (hbn : w.cell? ⟨Bn, 0, none⟩ = some (.pointer (some ⟨N, 0, none⟩))) (hs0 : w.cell? ⟨Bs, 0, none⟩ = some (.int .i64 (p : Int))) (hs1 : w.cell? ⟨Bs, 1, none⟩ = some (.string h)) :
    SeqStopsK Fence.wide m Tryz.prog 47 #[.pointer (some ⟨Bn, 0, none⟩), .pointer (some ⟨Bs, 0, none⟩)] (fun x => #[mvC x]) (SaveRow w0.heap.size Bo) (fun xs => xs = Sp.movesV n p h) (fun pre => pre <+: Sp.movesV n p h) (Sp.movesV n p h).length w := by
  intro l J Jx W hW hJ hJx hY h0
  show CallsIn Fence.wide m Tryz.prog 47 #[.func (.yield l) #[] #[], .pointer (some ⟨Bn, 0, none⟩), .pointer (some ⟨Bs, 0, none⟩)] W _
  have hbnW := (hW.cell (p := ⟨Bn, 0, none⟩) (xcell_lt hbn)).trans hbn
  have hs0W := (hW.cell (p := ⟨Bs, 0, none⟩) (xcell_lt hs0)).trans hs0
  have hs1W := (hW.cell (p := ⟨Bs, 1, none⟩) (xcell_lt hs1)).trans hs1
  have hw0W : Below w0.heap.size w0 W := hw0.trans (hW.mono hw0.size)
  rcases hok with ⟨q, hq, hin, hlp⟩ | ⟨q, g, t, ok⟩
  · refine moves1_link m l Bn Bs N w0.heap.size n p h q hq hin J Jx W hJ (fun pre x W1 hj hl => ?_) hm (hn.more hw0W) hbnW hs0W hs1W hlp h0
    refine (hY pre x W1 hj hl).mono ?_
    rintro e W2 (⟨h1, h2, h3⟩ | hx)
    · exact .inl ⟨h1, h2, h3.below⟩
    · exact .inr hx
  · exact moves1_in m l Bn Bs N Bo n p h q g t ok J Jx w0 W hJ hY hm hn hw0W hb0 (Nat.lt_of_lt_of_le hbo hW.size) hbon hbos ((rowAt_same (hW.cell (p := ⟨Bo, 0, none⟩) hbo)).trans hrow) hbnW hs0W hs1W h0
end Go.Proofs.YthjenkbgiomibaaGreatDoor
