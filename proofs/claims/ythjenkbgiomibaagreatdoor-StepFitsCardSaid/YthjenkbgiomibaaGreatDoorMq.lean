/-
  THE WALK of step.moves (chapter 10): it boxes the pointer and the state, and hands the iterator back.
-/
import Derived.Test.YthjenkbgiomibaaGreatDoorMp
set_option linter.unusedVariables false
set_option linter.unusedSimpArgs false
set_option maxRecDepth 100000
set_option maxHeartbeats 4000000
namespace Go.Proofs.YthjenkbgiomibaaGreatDoor
open Go.RowKit
theorem step_moves (m N p : Nat) (h : ByteArray) (w : World) :
    CallsIn Fence.wide m Tryz.prog 29 #[.pointer (some ⟨N, 0, none⟩), .agg #[.int .i64 (p : Int), .string h]] w fun e w' =>
      e = .returned (.func (.func 47) #[] #[.pointer (some ⟨w.heap.size, 0, none⟩), .pointer (some ⟨w.heap.size + 1, 0, none⟩)]) ∧
      w' = (w.alloc (.cells #[.pointer (some ⟨N, 0, none⟩)] 70)).alloc (.cells #[.int .i64 (p : Int), .string h] 28) := by
  refine callsIn_of_wp Tryz.func29 rfl trivial ?_ rfl
  simp only [Tryz.ntmps29, List.size_toArray, List.length_cons, List.length_nil, Nat.reduceAdd, Nat.reduceSub, Array.replicate_succ, Array.replicate_zero, List.push_toArray, List.append_toArray, List.nil_append, List.cons_append]
  gi_wp2
  refine bodyPost_ret (results_tmp rfl _ _ _) rfl ?_
  exact ⟨rfl, rfl⟩
end Go.Proofs.YthjenkbgiomibaaGreatDoor
