/-
  WALK: trees of expressions: the small ones (chapter 5).
-/
import Derived.Test.YtdmpapoabeljfaaGreatDoorKa
import Derived.Test.YtdmpapoabeljfaaGreatDoorEe
set_option linter.unusedVariables false
set_option linter.unusedSimpArgs false
set_option maxRecDepth 100000
set_option maxHeartbeats 2000000
namespace Go.Proofs.YtdmpapoabeljfaaGreatDoor
open Go.RowKit

/-- A test's seven cells. -/
def testCells (d : Sp.Nd) : List Value := [.string ⟨d.field.toArray⟩, .int .i64 d.op, .int .i64 d.form, .int .i64 d.lo, .int .i64 d.hi, .int .i64 d.len, .string ⟨d.pat.toArray⟩]
/-- A tree as a value. -/
def tv : Sp.Tr → Value
  | .leaf b => .iface 87 (.agg #[.bool b])
  | .test d => .iface 67 (.agg (testCells d).toArray)
  | .no t => .iface 89 (.agg #[tv t])
  | .both a b => .iface 93 (.agg #[tv a, tv b])
  | .or a b => .iface 94 (.agg #[tv a, tv b])

theorem expr_count (b : Bool) (w : World) : Calls Tryz.prog 213 #[.bool b] w fun e w' => e = .returned (.int .i64 (Sp.one b : Nat)) ∧ w = w' := by
  cases b
  · go_enter Tryz.func213, Tryz.ntmps213
    go_wp2
    go_ret
    exact ⟨rfl, rfl⟩
  · go_enter Tryz.func213, Tryz.ntmps213
    go_wp2
    go_ret
    exact ⟨rfl, rfl⟩
theorem as_and (ty : TypeId) (h : ty = 87 ∨ ty = 67 ∨ ty = 89 ∨ ty = 94) (v : Value) (w : World) : (Instr.typeAssert (.iface ty v) 63 93 true).run Tryz.prog w = .ok (.tuple #[.agg #[.nilIface, .nilIface], .bool false]) w := by
  rcases h with rfl | rfl | rfl | rfl <;> kernel_rfl
theorem as_and_yes (v : Value) (w : World) : (Instr.typeAssert (.iface 93 v) 63 93 true).run Tryz.prog w = .ok (.tuple #[v, .bool true]) w := by kernel_rfl
theorem as_or (ty : TypeId) (h : ty = 87 ∨ ty = 67 ∨ ty = 89 ∨ ty = 93) (v : Value) (w : World) : (Instr.typeAssert (.iface ty v) 63 94 true).run Tryz.prog w = .ok (.tuple #[.agg #[.nilIface, .nilIface], .bool false]) w := by
  rcases h with rfl | rfl | rfl | rfl <;> kernel_rfl
theorem as_or_yes (v : Value) (w : World) : (Instr.typeAssert (.iface 94 v) 63 94 true).run Tryz.prog w = .ok (.tuple #[v, .bool true]) w := by kernel_rfl
/-- What is asked of a tree's type. -/
theorem tv_and (T : Sp.Tr) : ∃ z, ∀ w, (Instr.typeAssert (tv T) 63 93 true).run Tryz.prog w = .ok (.tuple #[z, .bool (T.joined && !T.isOr)]) w := by
  cases T with
  | leaf b => exact ⟨_, fun w => as_and _ (by simp) _ w⟩
  | test d => exact ⟨_, fun w => as_and _ (by simp) _ w⟩
  | no t => exact ⟨_, fun w => as_and _ (by simp) _ w⟩
  | both a b => exact ⟨_, fun w => as_and_yes _ w⟩
  | or a b => exact ⟨_, fun w => as_and _ (by simp) _ w⟩
theorem tv_or (T : Sp.Tr) : ∃ z, ∀ w, (Instr.typeAssert (tv T) 63 94 true).run Tryz.prog w = .ok (.tuple #[z, .bool T.isOr]) w := by
  cases T with
  | leaf b => exact ⟨_, fun w => as_or _ (by simp) _ w⟩
  | test d => exact ⟨_, fun w => as_or _ (by simp) _ w⟩
  | no t => exact ⟨_, fun w => as_or _ (by simp) _ w⟩
  | both a b => exact ⟨_, fun w => as_or _ (by simp) _ w⟩
  | or a b => exact ⟨_, fun w => as_or_yes _ w⟩
theorem expr_joined (T : Sp.Tr) (w : World) : Calls Tryz.prog 206 #[tv T] w fun e w' => e = .returned (.bool T.joined) ∧ w = w' := by
  obtain ⟨z1, h1⟩ := tv_and T
  obtain ⟨z2, h2⟩ := tv_or T
  have hj : T.joined = true ∧ T.isOr = false ∨ T.joined = true ∧ T.isOr = true ∨ T.joined = false ∧ T.isOr = false := by cases T <;> simp [Sp.Tr.joined, Sp.Tr.isOr]
  generalize tv T = V at h1 h2 ⊢
  rcases hj with ⟨j1, j2⟩ | ⟨j1, j2⟩ | ⟨j1, j2⟩ <;> rw [j1, j2] at h1 <;> rw [j2] at h2 <;> rw [j1] <;> clear j1 j2
  · replace h1 : ∀ w : World, (Instr.typeAssert V 63 93 true).run Tryz.prog w = .ok (.tuple #[z1, .bool true]) w := h1
    go_enter Tryz.func206, Tryz.ntmps206
    go_wp2
    go_ret
    exact ⟨rfl, rfl⟩
  · replace h1 : ∀ w : World, (Instr.typeAssert V 63 93 true).run Tryz.prog w = .ok (.tuple #[z1, .bool false]) w := h1
    go_enter Tryz.func206, Tryz.ntmps206
    go_wp2
    go_ret
    exact ⟨rfl, rfl⟩
  · replace h1 : ∀ w : World, (Instr.typeAssert V 63 93 true).run Tryz.prog w = .ok (.tuple #[z1, .bool false]) w := h1
    go_enter Tryz.func206, Tryz.ntmps206
    go_wp2
    go_ret
    exact ⟨rfl, rfl⟩
theorem expr_isOr (T : Sp.Tr) (w : World) : Calls Tryz.prog 214 #[tv T] w fun e w' => e = .returned (.bool T.isOr) ∧ w = w' := by
  obtain ⟨z2, h2⟩ := tv_or T
  generalize tv T = V at h2 ⊢
  generalize T.isOr = j at h2 ⊢
  cases j
  · go_enter Tryz.func214, Tryz.ntmps214
    go_wp2
    go_ret
    exact ⟨rfl, rfl⟩
  · go_enter Tryz.func214, Tryz.ntmps214
    go_wp2
    go_ret
    exact ⟨rfl, rfl⟩
theorem leaf_nesting (b : Bool) (w : World) : Calls Tryz.prog 199 #[.agg #[.bool b]] w fun e w' => e = .returned (.int .i64 0) ∧ Below w.heap.size w w' := by
  go_enter Tryz.func199, Tryz.ntmps199
  go_wp2
  go_ret
  exact ⟨rfl, (Below.refl _ _).alloc (Nat.le_refl _) _⟩
theorem test_nesting (d : Sp.Nd) (w : World) : Calls Tryz.prog 190 #[.agg (testCells d).toArray] w fun e w' => e = .returned (.int .i64 0) ∧ Below w.heap.size w w' := by
  unfold testCells
  go_enter Tryz.func190, Tryz.ntmps190
  go_wp2
  go_ret
  exact ⟨rfl, (Below.refl _ _).alloc (Nat.le_refl _) _⟩

/-- A method of a tree, by its contract. -/
def Meth (T : Sp.Tr) (name : String) (R : World → Ending → World → Prop) : Prop :=
  ∃ ty rc F, tv T = .iface ty rc ∧ (∀ w : World, (method 344 ty rc name).run Tryz.prog w = .ok (F, rc) w) ∧ (∀ w : World, (callFunc F #[rc]).run Tryz.prog w = .ok (.enter F #[rc]) w) ∧ ∀ w : World, Calls Tryz.prog F #[rc] w (R w)
def Gives (v : Value) (w : World) (e : Ending) (w' : World) : Prop := e = .returned v ∧ Below w.heap.size w w'
theorem not_nesting (T : Sp.Tr) (w : World) (hN : Meth T "reach/expr.nesting" (Gives (.int .i64 (T.nest : Nat)))) (hl : T.nest ≤ 10000) : Calls Tryz.prog 203 #[.agg #[tv T]] w (Gives (.int .i64 ((Sp.Tr.no T).nest : Nat)) w) := by
  obtain ⟨ty, V, F, hT, hm, hcf, hC⟩ := hN
  have hj := expr_joined T
  have hn : (Sp.Tr.no T).nest = T.nest + Sp.one T.joined + 1 := rfl
  rw [hn]
  rw [hT] at hj ⊢
  generalize T.joined = j at *
  generalize T.nest = k at *
  have HJ := Lib.hid hj
  have HC := Lib.hid hC
  clear hj hC hn hT
  cases j
  · have q1 : IntKind.i64.wrap ((k : Int) + 1) = ((k + 1 : Nat) : Int) := by rw [IntKind.wrap_i64]; omega
    clear hl
    go_enter Tryz.func203, Tryz.ntmps203
    go_wp2_with fail
    refine (HJ.out _).mono ?_
    rintro e w2 ⟨rfl, hw2⟩
    subst hw2
    go_wp2_with fail
    refine (HC.out _).mono ?_
    rintro e w3 ⟨rfl, h3⟩
    have HB := Lib.hid (((Below.refl _ _).alloc (Nat.le_refl _) _).trans (h3.mono (by simp)))
    clear h3
    go_wp2_with fail
    go_ret
    exact ⟨by rfl, HB.out⟩
  · have q1 : IntKind.i64.wrap ((k : Int) + 2) = ((k + 1 + 1 : Nat) : Int) := by rw [IntKind.wrap_i64]; omega
    clear hl
    go_enter Tryz.func203, Tryz.ntmps203
    go_wp2_with fail
    refine (HJ.out _).mono ?_
    rintro e w2 ⟨rfl, hw2⟩
    subst hw2
    go_wp2_with fail
    refine (HC.out _).mono ?_
    rintro e w3 ⟨rfl, h3⟩
    have HB := Lib.hid (((Below.refl _ _).alloc (Nat.le_refl _) _).trans (h3.mono (by simp)))
    clear h3
    go_wp2_with fail
    go_ret
    exact ⟨by rfl, HB.out⟩
theorem pair_deeper (a b : Sp.Tr) (x y : Nat) (w : World) (ha : Meth a "reach/expr.nesting" (Gives (.int .i64 (a.nest : Nat)))) (hb : Meth b "reach/expr.nesting" (Gives (.int .i64 (b.nest : Nat)))) (h1 : a.nest ≤ 10000) (h2 : b.nest ≤ 10000) (hx : x ≤ 1) (hy : y ≤ 1) :
    Calls Tryz.prog 208 #[.agg #[tv a, tv b], .int .i64 (x : Nat), .int .i64 (y : Nat)] w (Gives (.int .i64 (max (a.nest + x) (b.nest + y) : Nat)) w) := by
  obtain ⟨ty1, V1, F1, hT1, hm1, hcf1, hC1⟩ := ha
  obtain ⟨ty2, V2, F2, hT2, hm2, hcf2, hC2⟩ := hb
  rw [hT1, hT2]
  generalize a.nest = k1 at *
  generalize b.nest = k2 at *
  have q1 : IntKind.i64.wrap ((k1 : Int) + x) = ((k1 + x : Nat) : Int) := by rw [IntKind.wrap_i64]; omega
  have q2 : IntKind.i64.wrap ((k2 : Int) + y) = ((k2 + y : Nat) : Int) := by rw [IntKind.wrap_i64]; omega
  have hmx : max ((k1 : Int) + x) ((k2 : Int) + y) = ((max (k1 + x) (k2 + y) : Nat) : Int) := by omega
  have HMX := Lib.hid hmx
  have HC1 := Lib.hid hC1
  have HC2 := Lib.hid hC2
  have hwa : Below w.heap.size w (w.alloc (.cells #[.iface ty1 V1, .iface ty2 V2] 91)) := (Below.refl _ _).alloc (Nat.le_refl _) _
  have hc0 : (w.alloc (.cells #[.iface ty1 V1, .iface ty2 V2] 91)).cell? ⟨w.heap.size, 0, none⟩ = some (.iface ty1 V1) := Blk.cell (Blk.new w _ _) 0
  have hc1 : (w.alloc (.cells #[.iface ty1 V1, .iface ty2 V2] 91)).cell? ⟨w.heap.size, 1, none⟩ = some (.iface ty2 V2) := Blk.cell (Blk.new w _ _) 1
  have hlt : w.heap.size < (w.alloc (.cells #[.iface ty1 V1, .iface ty2 V2] 91)).heap.size := by simp
  obtain ⟨W, hW⟩ : ∃ W, w.alloc (.cells #[.iface ty1 V1, .iface ty2 V2] 91) = W := ⟨_, rfl⟩
  obtain ⟨N, hN⟩ : ∃ N, w.heap.size = N := ⟨_, rfl⟩
  rw [hW, hN] at hc0 hc1 hlt
  rw [hW] at hwa
  have HW := Lib.hid hW
  have HN := Lib.hid hN
  have HWA := Lib.hid hwa
  have HLT := Lib.hid hlt
  clear hC1 hC2 hT1 hT2 h1 h2 hx hy hW hN hwa hlt hmx
  go_enter Tryz.func208, Tryz.ntmps208
  go_wp2_with fail
  rw [HW.out, HN.out]
  have hS : Below W.heap.size W W ∧ W.cell? ⟨N, 0, none⟩ = some (.iface ty1 V1) ∧ W.cell? ⟨N, 1, none⟩ = some (.iface ty2 V2) := ⟨Below.refl _ _, hc0, hc1⟩
  have HK : Hid (∀ w3 w4, (Below W.heap.size W w3 ∧ w3.cell? ⟨N, 0, none⟩ = some (.iface ty1 V1) ∧ w3.cell? ⟨N, 1, none⟩ = some (.iface ty2 V2)) → Below w3.heap.size w3 w4 → (Below W.heap.size W w4 ∧ w4.cell? ⟨N, 0, none⟩ = some (.iface ty1 V1) ∧ w4.cell? ⟨N, 1, none⟩ = some (.iface ty2 V2))) := by
    intro w3 w4 h hb
    have hl : N < w3.heap.size := Nat.lt_of_lt_of_le HLT.out h.1.size
    exact ⟨h.1.trans (hb.mono h.1.size), (hb.cell (p := ⟨N, 0, none⟩) hl).trans h.2.1, (hb.cell (p := ⟨N, 1, none⟩) hl).trans h.2.2⟩
  go_region_held3 (fun w' => Below W.heap.size W w' ∧ w'.cell? ⟨N, 0, none⟩ = some (.iface ty1 V1) ∧ w'.cell? ⟨N, 1, none⟩ = some (.iface ty2 V2))
      (first | exact ks | exact HK.out _ _ hS ⟨rfl, rfl, rfl, Nat.le_refl _, fun _ _ => rfl⟩)
      (((first | (refine (HC1.out _).mono ?_) | (refine (HC2.out _).mono ?_)); rintro e w4 ⟨rfl, hb4⟩; have ks := HK.out _ w4 (by assumption) hb4))
  all_goals
    go_wp2_with fail
    go_ret
    refine ⟨by rw [HMX.out]; rfl, ?_⟩
    have hB := HWA.out.trans ((ks.1).mono HWA.out.size)
    rw [HN.out]
    rw [HN.out] at hB
    exact hB

/-! nesting, all -/
theorem meth_leaf (v : Value) (w : World) : (method 344 87 v "reach/expr.nesting").run Tryz.prog w = .ok (199, v) w := by kernel_rfl
theorem meth_test (v : Value) (w : World) : (method 344 67 v "reach/expr.nesting").run Tryz.prog w = .ok (190, v) w := by kernel_rfl
theorem meth_no (v : Value) (w : World) : (method 344 89 v "reach/expr.nesting").run Tryz.prog w = .ok (203, v) w := by kernel_rfl
theorem meth_and (v : Value) (w : World) : (method 344 93 v "reach/expr.nesting").run Tryz.prog w = .ok (210, v) w := by kernel_rfl
theorem meth_or (v : Value) (w : World) : (method 344 94 v "reach/expr.nesting").run Tryz.prog w = .ok (216, v) w := by kernel_rfl
theorem and_nesting (a b : Sp.Tr) (w : World) (ha : Meth a "reach/expr.nesting" (Gives (.int .i64 (a.nest : Nat)))) (hb : Meth b "reach/expr.nesting" (Gives (.int .i64 (b.nest : Nat)))) (h1 : a.nest ≤ 10000) (h2 : b.nest ≤ 10000) :
    Calls Tryz.prog 210 #[.agg #[tv a, tv b]] w (Gives (.int .i64 ((Sp.Tr.both a b).nest : Nat)) w) := by
  have HD := Lib.hid (fun W => pair_deeper a b (Sp.one a.isOr) (Sp.one b.joined) W ha hb h1 h2 (Sp.one_le _) (Sp.one_le _))
  have HO := Lib.hid (expr_isOr a)
  have HJ := Lib.hid (expr_joined b)
  have HX := Lib.hid expr_count
  have hn : (Sp.Tr.both a b).nest = max (a.nest + Sp.one a.isOr) (b.nest + Sp.one b.joined) := rfl
  rw [← hn] at HD
  clear hn
  generalize (Sp.Tr.both a b).nest = R at HD ⊢
  generalize a.isOr = ja at HD HO
  generalize b.joined = jb at HD HJ
  generalize tv a = va at HD HO ⊢
  generalize tv b = vb at HD HJ ⊢
  have hwa : Below w.heap.size w (w.alloc (.cells #[va, vb] 93)) := (Below.refl _ _).alloc (Nat.le_refl _) _
  have hc0 : (w.alloc (.cells #[va, vb] 93)).cell? ⟨w.heap.size, 0, none⟩ = some va := Blk.cell (Blk.new w _ _) 0
  have hc1 : (w.alloc (.cells #[va, vb] 93)).cell? ⟨w.heap.size, 1, none⟩ = some vb := Blk.cell (Blk.new w _ _) 1
  have hlt : w.heap.size < (w.alloc (.cells #[va, vb] 93)).heap.size := by simp
  obtain ⟨W, hW⟩ : ∃ W, w.alloc (.cells #[va, vb] 93) = W := ⟨_, rfl⟩
  obtain ⟨N, hN⟩ : ∃ N, w.heap.size = N := ⟨_, rfl⟩
  rw [hW, hN] at hc0 hc1 hlt
  rw [hW] at hwa
  have HW := Lib.hid hW
  have HN := Lib.hid hN
  have HWA := Lib.hid hwa
  have HLT := Lib.hid hlt
  clear ha hb h1 h2 hW hN hwa hlt
  go_enter Tryz.func210, Tryz.ntmps210
  go_wp2_with fail
  rw [HW.out, HN.out]
  have hS : Below W.heap.size W W ∧ W.cell? ⟨N, 0, none⟩ = some va ∧ W.cell? ⟨N, 1, none⟩ = some vb := ⟨Below.refl _ _, hc0, hc1⟩
  have HK : Hid (∀ w3 w4, (Below W.heap.size W w3 ∧ w3.cell? ⟨N, 0, none⟩ = some va ∧ w3.cell? ⟨N, 1, none⟩ = some vb) → Below w3.heap.size w3 w4 → (Below W.heap.size W w4 ∧ w4.cell? ⟨N, 0, none⟩ = some va ∧ w4.cell? ⟨N, 1, none⟩ = some vb)) := by
    intro w3 w4 h hb
    have hl : N < w3.heap.size := Nat.lt_of_lt_of_le HLT.out h.1.size
    exact ⟨h.1.trans (hb.mono h.1.size), (hb.cell (p := ⟨N, 0, none⟩) hl).trans h.2.1, (hb.cell (p := ⟨N, 1, none⟩) hl).trans h.2.2⟩
  go_region_held3 (fun w' => Below W.heap.size W w' ∧ w'.cell? ⟨N, 0, none⟩ = some va ∧ w'.cell? ⟨N, 1, none⟩ = some vb)
      (first | assumption | exact ks | exact HK.out _ _ hS ⟨rfl, rfl, rfl, Nat.le_refl _, fun _ _ => rfl⟩)
      ((first
        | (go_at_call 214; refine (HO.out _).mono ?_; rintro e w4 ⟨rfl, hw4⟩; subst hw4)
        | (go_at_call 206; refine (HJ.out _).mono ?_; rintro e w4 ⟨rfl, hw4⟩; subst hw4)
        | (go_at_call 213; refine (HX.out _ _).mono ?_; rintro e w4 ⟨rfl, hw4⟩; subst hw4)
        | (go_at_call 208; refine (HD.out _).mono ?_; rintro e w4 ⟨rfl, hb4⟩; have ks := HK.out _ w4 (by assumption) hb4)))
  all_goals
    go_wp2_with fail
    go_ret
    refine ⟨by rfl, ?_⟩
    have hB := HWA.out.trans ((ks.1).mono HWA.out.size)
    rw [HN.out]
    rw [HN.out] at hB
    exact hB
end Go.Proofs.YtdmpapoabeljfaaGreatDoor
