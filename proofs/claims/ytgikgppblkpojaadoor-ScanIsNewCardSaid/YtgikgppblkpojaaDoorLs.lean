/-
  THE WALK of reachlaw3.same (chapter 3).
-/
import Derived.Test.YtgikgppblkpojaaDoorLa
set_option linter.unusedVariables false
set_option linter.unusedSimpArgs false
set_option maxRecDepth 100000
set_option maxHeartbeats 8000000
namespace Go.Proofs.YtgikgppblkpojaaDoor
open Go.RowKit

theorem same_refl (k l c : Int) (t : ByteArray) (w : World) :
    Calls Tryd.prog 7 #[.agg #[.int .i64 k, .string t, .int .i64 l, .int .i64 c], .agg #[.int .i64 k, .string t, .int .i64 l, .int .i64 c]] w fun e w' => e = .returned (.bool true) ∧ Below w.heap.size w w' := by
  have q1 : (k == k) = true := beq_self_eq_true k
  have q2 : (t.toList == t.toList) = true := by simp
  have q3 : (l == l) = true := beq_self_eq_true l
  have q4 : (c == c) = true := beq_self_eq_true c
  go_enter Tryd.func7, Tryd.ntmps7
  go_wp2
  go_ret
  exact ⟨by simp, ((Below.refl _ _).alloc (Nat.le_refl _) _).alloc (by simp) _⟩
end Go.Proofs.YtgikgppblkpojaaDoor
