/-
  WALK: trees of expressions: nesting, all (chapter 5).
-/
import Derived.Test.YtdmpapoabeljfaaGreatDoorKb
set_option linter.unusedVariables false
set_option linter.unusedSimpArgs false
set_option maxRecDepth 100000
set_option maxHeartbeats 2000000
namespace Go.Proofs.YtdmpapoabeljfaaGreatDoor
open Go.RowKit

theorem or_nesting (a b : Sp.Tr) (w : World) (ha : Meth a "reach/expr.nesting" (Gives (.int .i64 (a.nest : Nat)))) (hb : Meth b "reach/expr.nesting" (Gives (.int .i64 (b.nest : Nat)))) (h1 : a.nest ≤ 10000) (h2 : b.nest ≤ 10000) :
    Calls Tryz.prog 216 #[.agg #[tv a, tv b]] w (Gives (.int .i64 ((Sp.Tr.or a b).nest : Nat)) w) := by
  have HD := Lib.hid (fun W => pair_deeper a b 0 (Sp.one b.isOr) W ha hb h1 h2 (Nat.zero_le _) (Sp.one_le _))
  have HJ := Lib.hid (expr_isOr b)
  have HX := Lib.hid expr_count
  have hn : (Sp.Tr.or a b).nest = max (a.nest + 0) (b.nest + Sp.one b.isOr) := rfl
  rw [← hn] at HD
  clear hn
  generalize (Sp.Tr.or a b).nest = R at HD ⊢
  generalize b.isOr = jb at HD HJ
  generalize tv a = va at HD ⊢
  generalize tv b = vb at HD HJ ⊢
  have hwa : Below w.heap.size w (w.alloc (.cells #[va, vb] 94)) := (Below.refl _ _).alloc (Nat.le_refl _) _
  have hc0 : (w.alloc (.cells #[va, vb] 94)).cell? ⟨w.heap.size, 0, none⟩ = some va := Blk.cell (Blk.new w _ _) 0
  have hc1 : (w.alloc (.cells #[va, vb] 94)).cell? ⟨w.heap.size, 1, none⟩ = some vb := Blk.cell (Blk.new w _ _) 1
  have hlt : w.heap.size < (w.alloc (.cells #[va, vb] 94)).heap.size := by simp
  obtain ⟨W, hW⟩ : ∃ W, w.alloc (.cells #[va, vb] 94) = W := ⟨_, rfl⟩
  obtain ⟨N, hN⟩ : ∃ N, w.heap.size = N := ⟨_, rfl⟩
  rw [hW, hN] at hc0 hc1 hlt
  rw [hW] at hwa
  have HW := Lib.hid hW
  have HN := Lib.hid hN
  have HWA := Lib.hid hwa
  have HLT := Lib.hid hlt
  clear ha hb h1 h2 hW hN hwa hlt
  go_enter Tryz.func216, Tryz.ntmps216
  go_wp2_with fail
  rw [HW.out, HN.out]
  have hS : Below W.heap.size W W ∧ W.cell? ⟨N, 0, none⟩ = some va ∧ W.cell? ⟨N, 1, none⟩ = some vb := ⟨Below.refl _ _, hc0, hc1⟩
  have HK : Hid (∀ w3 w4, (Below W.heap.size W w3 ∧ w3.cell? ⟨N, 0, none⟩ = some va ∧ w3.cell? ⟨N, 1, none⟩ = some vb) → Below w3.heap.size w3 w4 → (Below W.heap.size W w4 ∧ w4.cell? ⟨N, 0, none⟩ = some va ∧ w4.cell? ⟨N, 1, none⟩ = some vb)) := by
    intro w3 w4 h hb
    have hl : N < w3.heap.size := Nat.lt_of_lt_of_le HLT.out h.1.size
    exact ⟨h.1.trans (hb.mono h.1.size), (hb.cell (p := ⟨N, 0, none⟩) hl).trans h.2.1, (hb.cell (p := ⟨N, 1, none⟩) hl).trans h.2.2⟩
  go_region_held3 (fun w' => Below W.heap.size W w' ∧ w'.cell? ⟨N, 0, none⟩ = some va ∧ w'.cell? ⟨N, 1, none⟩ = some vb)
      (first | assumption | exact ks | exact HK.out _ _ hS ⟨rfl, rfl, rfl, Nat.le_refl _, fun _ _ => rfl⟩)
      ((first
        | (go_at_call 214; refine (HJ.out _).mono ?_; rintro e w4 ⟨rfl, hw4⟩; subst hw4)
        | (go_at_call 213; refine (HX.out _ _).mono ?_; rintro e w4 ⟨rfl, hw4⟩; subst hw4)
        | (go_at_call 208; refine (HD.out _).mono ?_; rintro e w4 ⟨rfl, hb4⟩; have ks := HK.out _ w4 (by assumption) hb4)))
  all_goals
    go_wp2_with fail
    go_ret
    refine ⟨by rfl, ?_⟩
    have hB := HWA.out.trans ((ks.1).mono HWA.out.size)
    rw [HN.out]
    rw [HN.out] at hB
    exact hB
theorem cfn_leaf (v : Value) (w : World) : (callFunc 199 #[v]).run Tryz.prog w = .ok (.enter 199 #[v]) w := by kernel_rfl
theorem cfn_test (v : Value) (w : World) : (callFunc 190 #[v]).run Tryz.prog w = .ok (.enter 190 #[v]) w := by kernel_rfl
theorem cfn_no (v : Value) (w : World) : (callFunc 203 #[v]).run Tryz.prog w = .ok (.enter 203 #[v]) w := by kernel_rfl
theorem cfn_and (v : Value) (w : World) : (callFunc 210 #[v]).run Tryz.prog w = .ok (.enter 210 #[v]) w := by kernel_rfl
theorem cfn_or (v : Value) (w : World) : (callFunc 216 #[v]).run Tryz.prog w = .ok (.enter 216 #[v]) w := by kernel_rfl
theorem nest_all : ∀ T : Sp.Tr, T.size ≤ 1000 → Meth T "reach/expr.nesting" (Gives (.int .i64 (T.nest : Nat)))
  | .leaf b, _ => ⟨_, _, _, rfl, meth_leaf _, cfn_leaf _, fun w => leaf_nesting b w⟩
  | .test d, _ => ⟨_, _, _, rfl, meth_test _, cfn_test _, fun w => test_nesting d w⟩
  | .no t, h => by
    have h1 : t.size + 1 ≤ 1000 := h
    have := Sp.nest_le t
    exact ⟨_, _, _, rfl, meth_no _, cfn_no _, fun w => not_nesting t w (nest_all t (by omega)) (by omega)⟩
  | .both a b, h => by
    have h1 : a.size + b.size + 1 ≤ 1000 := h
    have := Sp.nest_le a
    have := Sp.nest_le b
    exact ⟨_, _, _, rfl, meth_and _, cfn_and _, fun w => and_nesting a b w (nest_all a (by omega)) (nest_all b (by omega)) (by omega) (by omega)⟩
  | .or a b, h => by
    have h1 : a.size + b.size + 1 ≤ 1000 := h
    have := Sp.nest_le a
    have := Sp.nest_le b
    exact ⟨_, _, _, rfl, meth_or _, cfn_or _, fun w => or_nesting a b w (nest_all a (by omega)) (nest_all b (by omega)) (by omega) (by omega)⟩
end Go.Proofs.YtdmpapoabeljfaaGreatDoor
