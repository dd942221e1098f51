/-
  WALK: trees of expressions as texts (chapter 5).
-/
import Derived.Test.YtdmpapoabeljfaaGreatDoorKd
set_option linter.unusedVariables false
set_option linter.unusedSimpArgs false
set_option maxRecDepth 100000
set_option maxHeartbeats 8000000
namespace Go.Proofs.YtdmpapoabeljfaaGreatDoor
open Go.RowKit

/-- The method text of a tree, by its contract. -/
def MethT (T : Sp.Tr) : Prop :=
  ∃ ty rc F, tv T = .iface ty rc ∧ (∀ w : World, (method 344 ty rc "reach/expr.text").run Tryz.prog w = .ok (F, rc) w) ∧ (∀ w : World, (callFunc F #[rc]).run Tryz.prog w = .ok (.enter F #[rc]) w) ∧ ∀ w : World, Pow w → Calls Tryz.prog F #[rc] w (Gives (.string (bs T.text)) w)

theorem expr_bracketed (T : Sp.Tr) (b : Bool) (w : World) (hm : MethT T) (hl : T.text.length ≤ 900000) (hT : Pow w) :
    Calls Tryz.prog 207 #[tv T, .bool b] w (Gives (.string (bs (Sp.brk b T.text))) w) := by
  obtain ⟨ty, V, F, hT1, hm1, hcf, hC⟩ := hm
  have HC := Lib.hid (hC w hT)
  rw [hT1]
  generalize T.text = X at *
  have r1 : ∀ W, (Op.stringOp .add (⟨#[40]⟩ : ByteArray) (bs X)).run Tryz.prog W = .ok (.string (bs (40 :: X))) W := fun W => radd [40] X (by simp only [List.length_cons, List.length_nil]; omega) W
  have r2 : ∀ W, (Op.stringOp .add (bs (40 :: X)) (⟨#[41]⟩ : ByteArray)).run Tryz.prog W = .ok (.string (bs (40 :: (X ++ [41])))) W := fun W => radd (40 :: X) [41] (by simp only [List.length_cons, List.length_nil]; omega) W
  clear hC hT1 hl hT
  cases b
  · go_enter Tryz.func207, Tryz.ntmps207
    go_wp2_with fail
    refine HC.out.mono ?_
    rintro e w2 ⟨rfl, h2⟩
    have HB := Lib.hid h2
    clear h2
    go_wp2_with fail
    go_ret
    exact ⟨by rfl, HB.out⟩
  · go_enter Tryz.func207, Tryz.ntmps207
    go_wp2_with fail
    refine HC.out.mono ?_
    rintro e w2 ⟨rfl, h2⟩
    have HB := Lib.hid h2
    clear h2
    go_wp2_with fail
    go_ret
    exact ⟨by rfl, HB.out⟩

theorem leaf_text (b : Bool) (w : World) : Calls Tryz.prog 201 #[.agg #[.bool b]] w (Gives (.string (bs (Sp.Tr.leaf b).text)) w) := by
  cases b
  · go_enter Tryz.func201, Tryz.ntmps201
    go_wp2
    go_ret
    exact ⟨rfl, (Below.refl _ _).alloc (Nat.le_refl _) _⟩
  · go_enter Tryz.func201, Tryz.ntmps201
    go_wp2
    go_ret
    exact ⟨rfl, (Below.refl _ _).alloc (Nat.le_refl _) _⟩

theorem not_text (T : Sp.Tr) (w : World) (hm : MethT T) (hl : T.text.length ≤ 800000) (hT : Pow w) :
    Calls Tryz.prog 205 #[.agg #[tv T]] w (Gives (.string (bs (Sp.Tr.no T).text)) w) := by
  have HBR := Lib.hid (fun W (h : Pow W) => expr_bracketed T T.joined W hm (by omega) h)
  have HJ := Lib.hid (expr_joined T)
  have hn : (Sp.Tr.no T).text = 33 :: Sp.brk T.joined T.text := rfl
  have hbl := Sp.brk_len T.joined T.text
  rw [hn]
  generalize Sp.brk T.joined T.text = X at *
  generalize T.joined = j at *
  generalize tv T = va at *
  have r1 : ∀ W, (Op.stringOp .add (⟨#[33]⟩ : ByteArray) (bs X)).run Tryz.prog W = .ok (.string (bs (33 :: X))) W := fun W => radd [33] X (by simp only [List.length_cons, List.length_nil]; omega) W
  have hPw : ∀ W, Below w.heap.size w W → Pow W := fun W hb => hT.below hb
  have hwa : Below w.heap.size w (w.alloc (.cells #[va] 89)) := (Below.refl _ _).alloc (Nat.le_refl _) _
  have hc0 : (w.alloc (.cells #[va] 89)).cell? ⟨w.heap.size, 0, none⟩ = some va := Blk.cell (Blk.new w _ _) 0
  have hlt : w.heap.size < (w.alloc (.cells #[va] 89)).heap.size := by simp
  obtain ⟨W, hW⟩ : ∃ W, w.alloc (.cells #[va] 89) = W := ⟨_, rfl⟩
  obtain ⟨N, hN⟩ : ∃ N, w.heap.size = N := ⟨_, rfl⟩
  rw [hW, hN] at hc0 hlt
  rw [hW] at hwa
  have HW := Lib.hid hW
  have HN := Lib.hid hN
  have HWA := Lib.hid hwa
  have HLT := Lib.hid hlt
  have HPW := Lib.hid hPw
  clear hm hl hT hn hbl hPw hW hN hwa hlt
  go_enter Tryz.func205, Tryz.ntmps205
  go_wp2_with fail
  rw [HW.out, HN.out]
  have hS : Below W.heap.size W W ∧ W.cell? ⟨N, 0, none⟩ = some va := ⟨Below.refl _ _, hc0⟩
  have HK : Hid (∀ w3 w4, (Below W.heap.size W w3 ∧ w3.cell? ⟨N, 0, none⟩ = some va) → Below w3.heap.size w3 w4 → (Below W.heap.size W w4 ∧ w4.cell? ⟨N, 0, none⟩ = some va)) := by
    intro w3 w4 h hb
    have hl : N < w3.heap.size := Nat.lt_of_lt_of_le HLT.out h.1.size
    exact ⟨h.1.trans (hb.mono h.1.size), (hb.cell (p := ⟨N, 0, none⟩) hl).trans h.2⟩
  have HPK : Hid (∀ w3, (Below W.heap.size W w3 ∧ w3.cell? ⟨N, 0, none⟩ = some va) → Pow w3) := fun w3 h => HPW.out w3 (HWA.out.trans (h.1.mono HWA.out.size))
  go_region_held3 (fun w' => Below W.heap.size W w' ∧ w'.cell? ⟨N, 0, none⟩ = some va)
      (first | assumption | exact ks | exact HK.out _ _ hS ⟨rfl, rfl, rfl, Nat.le_refl _, fun _ _ => rfl⟩)
      ((first
        | (go_at_call 206; refine (HJ.out _).mono ?_; rintro e w4 ⟨rfl, hw4⟩; subst hw4)
        | (go_at_call 207; refine (HBR.out _ (HPK.out _ (by assumption))).mono ?_; rintro e w4 ⟨rfl, hb4⟩; have ks := HK.out _ w4 (by assumption) hb4)))
  all_goals
    go_wp2_with fail
    go_ret
    refine ⟨by rfl, ?_⟩
    have hB := HWA.out.trans ((ks.1).mono HWA.out.size)
    rw [HN.out]
    rw [HN.out] at hB
    exact hB

theorem and_text (a b : Sp.Tr) (w : World) (ha : MethT a) (hb : MethT b) (h1 : a.text.length ≤ 300000) (h2 : b.text.length ≤ 300000) (hT : Pow w) :
    Calls Tryz.prog 212 #[.agg #[tv a, tv b]] w (Gives (.string (bs (Sp.Tr.both a b).text)) w) := by
  have HB1 := Lib.hid (fun W (h : Pow W) => expr_bracketed a a.isOr W ha (by omega) h)
  have HB2 := Lib.hid (fun W (h : Pow W) => expr_bracketed b b.joined W hb (by omega) h)
  have HO := Lib.hid (expr_isOr a)
  have HJ := Lib.hid (expr_joined b)
  have hn : (Sp.Tr.both a b).text = Sp.brk a.isOr a.text ++ 32 :: 38 :: 32 :: Sp.brk b.joined b.text := rfl
  have hl1 := Sp.brk_len a.isOr a.text
  have hl2 := Sp.brk_len b.joined b.text
  rw [hn]
  generalize Sp.brk a.isOr a.text = X at *
  generalize Sp.brk b.joined b.text = Y at *
  generalize a.isOr = ja at *
  generalize b.joined = jb at *
  generalize tv a = va at *
  generalize tv b = vb at *
  have r1 : ∀ W, (Op.stringOp .add (bs X) (⟨#[32, 38, 32]⟩ : ByteArray)).run Tryz.prog W = .ok (.string (bs (X ++ [32, 38, 32]))) W := fun W => radd X [32, 38, 32] (by simp only [List.length_cons, List.length_nil]; omega) W
  have r2 : ∀ W, (Op.stringOp .add (bs (X ++ [32, 38, 32])) (bs Y)).run Tryz.prog W = .ok (.string (bs (X ++ 32 :: 38 :: 32 :: Y))) W := fun W => (radd (X ++ [32, 38, 32]) Y (by simp only [List.length_append, List.length_cons, List.length_nil]; omega) W).trans (by simp)
  have hPw : ∀ W, Below w.heap.size w W → Pow W := fun W hb => hT.below hb
  have hwa : Below w.heap.size w (w.alloc (.cells #[va, vb] 93)) := (Below.refl _ _).alloc (Nat.le_refl _) _
  have hc0 : (w.alloc (.cells #[va, vb] 93)).cell? ⟨w.heap.size, 0, none⟩ = some va := Blk.cell (Blk.new w _ _) 0
  have hc1 : (w.alloc (.cells #[va, vb] 93)).cell? ⟨w.heap.size, 1, none⟩ = some vb := Blk.cell (Blk.new w _ _) 1
  have hlt : w.heap.size < (w.alloc (.cells #[va, vb] 93)).heap.size := by simp
  obtain ⟨W, hW⟩ : ∃ W, w.alloc (.cells #[va, vb] 93) = W := ⟨_, rfl⟩
  obtain ⟨N, hN⟩ : ∃ N, w.heap.size = N := ⟨_, rfl⟩
  rw [hW, hN] at hc0 hc1 hlt
  rw [hW] at hwa
  have HW := Lib.hid hW
  have HN := Lib.hid hN
  have HWA := Lib.hid hwa
  have HLT := Lib.hid hlt
  have HPW := Lib.hid hPw
  clear ha hb h1 h2 hT hn hl1 hl2 hPw hW hN hwa hlt
  go_enter Tryz.func212, Tryz.ntmps212
  go_wp2_with fail
  rw [HW.out, HN.out]
  have hS : Below W.heap.size W W ∧ W.cell? ⟨N, 0, none⟩ = some va ∧ W.cell? ⟨N, 1, none⟩ = some vb := ⟨Below.refl _ _, hc0, hc1⟩
  have HK : Hid (∀ w3 w4, (Below W.heap.size W w3 ∧ w3.cell? ⟨N, 0, none⟩ = some va ∧ w3.cell? ⟨N, 1, none⟩ = some vb) → Below w3.heap.size w3 w4 → (Below W.heap.size W w4 ∧ w4.cell? ⟨N, 0, none⟩ = some va ∧ w4.cell? ⟨N, 1, none⟩ = some vb)) := by
    intro w3 w4 h hb
    have hl : N < w3.heap.size := Nat.lt_of_lt_of_le HLT.out h.1.size
    exact ⟨h.1.trans (hb.mono h.1.size), (hb.cell (p := ⟨N, 0, none⟩) hl).trans h.2.1, (hb.cell (p := ⟨N, 1, none⟩) hl).trans h.2.2⟩
  have HPK : Hid (∀ w3, (Below W.heap.size W w3 ∧ w3.cell? ⟨N, 0, none⟩ = some va ∧ w3.cell? ⟨N, 1, none⟩ = some vb) → Pow w3) := fun w3 h => HPW.out w3 (HWA.out.trans (h.1.mono HWA.out.size))
  go_region_held3 (fun w' => Below W.heap.size W w' ∧ w'.cell? ⟨N, 0, none⟩ = some va ∧ w'.cell? ⟨N, 1, none⟩ = some vb)
      (first | assumption | exact ks | exact HK.out _ _ hS ⟨rfl, rfl, rfl, Nat.le_refl _, fun _ _ => rfl⟩)
      ((first
        | (go_at_call 214; refine (HO.out _).mono ?_; rintro e w4 ⟨rfl, hw4⟩; subst hw4)
        | (go_at_call 206; refine (HJ.out _).mono ?_; rintro e w4 ⟨rfl, hw4⟩; subst hw4)
        | (go_at_call 207; (first | ((with_reducible show Calls _ _ #[va, _] _ _); refine (HB1.out _ (HPK.out _ (by assumption))).mono ?_) | ((with_reducible show Calls _ _ #[vb, _] _ _); refine (HB2.out _ (HPK.out _ (by assumption))).mono ?_)); rintro e w4 ⟨rfl, hb4⟩; have ks := HK.out _ w4 (by assumption) hb4)))
  all_goals
    go_wp2_with fail
    go_ret
    refine ⟨by rfl, ?_⟩
    have hB := HWA.out.trans ((ks.1).mono HWA.out.size)
    rw [HN.out]
    rw [HN.out] at hB
    exact hB

theorem or_text (a b : Sp.Tr) (w : World) (ha : MethT a) (hb : MethT b) (h1 : a.text.length ≤ 300000) (h2 : b.text.length ≤ 300000) (hT : Pow w) :
    Calls Tryz.prog 218 #[.agg #[tv a, tv b]] w (Gives (.string (bs (Sp.Tr.or a b).text)) w) := by
  have HB2 := Lib.hid (fun W (h : Pow W) => expr_bracketed b b.isOr W hb (by omega) h)
  have HO := Lib.hid (expr_isOr b)
  obtain ⟨ty, V, F, hT1, hm1, hcf, hC⟩ := ha
  have hn : (Sp.Tr.or a b).text = a.text ++ 32 :: 124 :: 32 :: Sp.brk b.isOr b.text := rfl
  have hl2 := Sp.brk_len b.isOr b.text
  rw [hn, hT1]
  generalize Sp.brk b.isOr b.text = Y at *
  generalize a.text = X at *
  generalize b.isOr = jb at *
  generalize tv b = vb at *
  have HC := Lib.hid hC
  have r1 : ∀ W, (Op.stringOp .add (bs X) (⟨#[32, 124, 32]⟩ : ByteArray)).run Tryz.prog W = .ok (.string (bs (X ++ [32, 124, 32]))) W := fun W => radd X [32, 124, 32] (by simp only [List.length_cons, List.length_nil]; omega) W
  have r2 : ∀ W, (Op.stringOp .add (bs (X ++ [32, 124, 32])) (bs Y)).run Tryz.prog W = .ok (.string (bs (X ++ 32 :: 124 :: 32 :: Y))) W := fun W => (radd (X ++ [32, 124, 32]) Y (by simp only [List.length_append, List.length_cons, List.length_nil]; omega) W).trans (by simp)
  have hPw : ∀ W, Below w.heap.size w W → Pow W := fun W hb => hT.below hb
  have hwa : Below w.heap.size w (w.alloc (.cells #[.iface ty V, vb] 94)) := (Below.refl _ _).alloc (Nat.le_refl _) _
  have hc0 : (w.alloc (.cells #[.iface ty V, vb] 94)).cell? ⟨w.heap.size, 0, none⟩ = some (.iface ty V) := Blk.cell (Blk.new w _ _) 0
  have hc1 : (w.alloc (.cells #[.iface ty V, vb] 94)).cell? ⟨w.heap.size, 1, none⟩ = some vb := Blk.cell (Blk.new w _ _) 1
  have hlt : w.heap.size < (w.alloc (.cells #[.iface ty V, vb] 94)).heap.size := by simp
  obtain ⟨W, hW⟩ : ∃ W, w.alloc (.cells #[.iface ty V, vb] 94) = W := ⟨_, rfl⟩
  obtain ⟨N, hN⟩ : ∃ N, w.heap.size = N := ⟨_, rfl⟩
  rw [hW, hN] at hc0 hc1 hlt
  rw [hW] at hwa
  have HW := Lib.hid hW
  have HN := Lib.hid hN
  have HWA := Lib.hid hwa
  have HLT := Lib.hid hlt
  have HPW := Lib.hid hPw
  clear hC hb h1 h2 hT hn hl2 hPw hW hN hwa hlt hT1
  go_enter Tryz.func218, Tryz.ntmps218
  go_wp2_with fail
  rw [HW.out, HN.out]
  have hS : Below W.heap.size W W ∧ W.cell? ⟨N, 0, none⟩ = some (.iface ty V) ∧ W.cell? ⟨N, 1, none⟩ = some vb := ⟨Below.refl _ _, hc0, hc1⟩
  have HK : Hid (∀ w3 w4, (Below W.heap.size W w3 ∧ w3.cell? ⟨N, 0, none⟩ = some (.iface ty V) ∧ w3.cell? ⟨N, 1, none⟩ = some vb) → Below w3.heap.size w3 w4 → (Below W.heap.size W w4 ∧ w4.cell? ⟨N, 0, none⟩ = some (.iface ty V) ∧ w4.cell? ⟨N, 1, none⟩ = some vb)) := by
    intro w3 w4 h hb
    have hl : N < w3.heap.size := Nat.lt_of_lt_of_le HLT.out h.1.size
    exact ⟨h.1.trans (hb.mono h.1.size), (hb.cell (p := ⟨N, 0, none⟩) hl).trans h.2.1, (hb.cell (p := ⟨N, 1, none⟩) hl).trans h.2.2⟩
  have HPK : Hid (∀ w3, (Below W.heap.size W w3 ∧ w3.cell? ⟨N, 0, none⟩ = some (.iface ty V) ∧ w3.cell? ⟨N, 1, none⟩ = some vb) → Pow w3) := fun w3 h => HPW.out w3 (HWA.out.trans (h.1.mono HWA.out.size))
  go_region_held3 (fun w' => Below W.heap.size W w' ∧ w'.cell? ⟨N, 0, none⟩ = some (.iface ty V) ∧ w'.cell? ⟨N, 1, none⟩ = some vb)
      (first | assumption | exact ks | exact HK.out _ _ hS ⟨rfl, rfl, rfl, Nat.le_refl _, fun _ _ => rfl⟩)
      ((first
        | (go_at_call 214; refine (HO.out _).mono ?_; rintro e w4 ⟨rfl, hw4⟩; subst hw4)
        | (go_at_call 207; refine (HB2.out _ (HPK.out _ (by assumption))).mono ?_; rintro e w4 ⟨rfl, hb4⟩; have ks := HK.out _ w4 (by assumption) hb4)
        | ((with_reducible show Calls _ F #[V] _ _); refine (HC.out _ (HPK.out _ (by assumption))).mono ?_; rintro e w4 ⟨rfl, hb4⟩; have ks := HK.out _ w4 (by assumption) hb4)))
  all_goals
    go_wp2_with fail
    go_ret
    refine ⟨by rfl, ?_⟩
    have hB := HWA.out.trans ((ks.1).mono HWA.out.size)
    rw [HN.out]
    rw [HN.out] at hB
    exact hB
theorem metx_leaf (v : Value) (w : World) : (method 344 87 v "reach/expr.text").run Tryz.prog w = .ok (201, v) w := by kernel_rfl
theorem cfx_leaf (v : Value) (w : World) : (callFunc 201 #[v]).run Tryz.prog w = .ok (.enter 201 #[v]) w := by kernel_rfl
theorem metx_test (v : Value) (w : World) : (method 344 67 v "reach/expr.text").run Tryz.prog w = .ok (192, v) w := by kernel_rfl
theorem cfx_test (v : Value) (w : World) : (callFunc 192 #[v]).run Tryz.prog w = .ok (.enter 192 #[v]) w := by kernel_rfl
theorem metx_no (v : Value) (w : World) : (method 344 89 v "reach/expr.text").run Tryz.prog w = .ok (205, v) w := by kernel_rfl
theorem cfx_no (v : Value) (w : World) : (callFunc 205 #[v]).run Tryz.prog w = .ok (.enter 205 #[v]) w := by kernel_rfl
theorem metx_and (v : Value) (w : World) : (method 344 93 v "reach/expr.text").run Tryz.prog w = .ok (212, v) w := by kernel_rfl
theorem cfx_and (v : Value) (w : World) : (callFunc 212 #[v]).run Tryz.prog w = .ok (.enter 212 #[v]) w := by kernel_rfl
theorem metx_or (v : Value) (w : World) : (method 344 94 v "reach/expr.text").run Tryz.prog w = .ok (218, v) w := by kernel_rfl
theorem cfx_or (v : Value) (w : World) : (callFunc 218 #[v]).run Tryz.prog w = .ok (.enter 218 #[v]) w := by kernel_rfl
theorem text_all : ∀ T : Sp.Tr, T.wr = true → T.size ≤ 1000 → MethT T
  | .leaf b, _, _ => ⟨_, _, _, rfl, metx_leaf _, cfx_leaf _, fun w _ => leaf_text b w⟩
  | .test d, hw, _ => ⟨_, _, _, rfl, metx_test _, cfx_test _, fun w hT => test_text d w hw hT⟩
  | .no t, hw, h => by
    have h1 : t.size + 1 ≤ 1000 := h
    have hw1 : t.wr = true := hw
    have := Sp.text_len t hw1
    exact ⟨_, _, _, rfl, metx_no _, cfx_no _, fun w hT => not_text t w (text_all t hw1 (by omega)) (by omega) hT⟩
  | .both a b, hw, h => by
    have h1 : a.size + b.size + 1 ≤ 1000 := h
    rw [Sp.Tr.wr, Bool.and_eq_true] at hw
    have := Sp.text_len a hw.1
    have := Sp.text_len b hw.2
    exact ⟨_, _, _, rfl, metx_and _, cfx_and _, fun w hT => and_text a b w (text_all a hw.1 (by omega)) (text_all b hw.2 (by omega)) (by omega) (by omega) hT⟩
  | .or a b, hw, h => by
    have h1 : a.size + b.size + 1 ≤ 1000 := h
    rw [Sp.Tr.wr, Bool.and_eq_true] at hw
    have := Sp.text_len a hw.1
    have := Sp.text_len b hw.2
    exact ⟨_, _, _, rfl, metx_or _, cfx_or _, fun w hT => or_text a b w (text_all a hw.1 (by omega)) (text_all b hw.2 (by omega)) (by omega) (by omega) hT⟩
end Go.Proofs.YtdmpapoabeljfaaGreatDoor
