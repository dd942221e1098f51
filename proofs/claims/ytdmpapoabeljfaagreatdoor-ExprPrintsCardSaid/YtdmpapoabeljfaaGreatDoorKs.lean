/-
  WALKS: how the reference writes tests and leaves; its brackets (chapter 5).
-/
import Derived.Test.YtdmpapoabeljfaaGreatDoorKq
set_option linter.unusedVariables false
set_option linter.unusedSimpArgs false
set_option maxRecDepth 100000
set_option maxHeartbeats 4000000
namespace Go.Proofs.YtdmpapoabeljfaaGreatDoor
open Go.RowKit

theorem q_same {f : FuncId} {args : Array Value} {w : World} {n : Nat} {v : Value} (h : Calls Tryz.prog f args (w.drewN n) fun e w' => e = .returned v ∧ w.drewN n = w') : Calls Tryz.prog f args (w.drewN n) fun e w'' => e = .returned v ∧ ∃ m, w'' = w.drewN m :=
  Calls.quiet_of_same (h.mono fun _ _ ⟨a, b⟩ => ⟨a, b.symm⟩)
theorem q_add {f : FuncId} {args : Array Value} {w : World} {a n : Nat} {v : Value} (h : Calls Tryz.prog f args (w.drewN (a + n)) (GivesQ v (w.drewN (a + n)))) : Calls Tryz.prog f args (w.drewN (a + n)) fun e w'' => e = .returned v ∧ ∃ m, w'' = w.drewN (a + m) :=
  h.mono fun _ _ ⟨he, m, hm⟩ => ⟨he, n + m, by rw [hm, World.drewN_drewN, Nat.add_assoc]⟩
theorem ref5_testText (d : Sp.Nd) (w : World) (hw : Sp.wrB d = true) :
    Calls Tryz.prog 66 #[.agg (testCells d).toArray] w (Gives (.string (bs (Sp.textN d))) w) := by
  obtain ⟨h1, ho1, ho6, h4, h5, h6, h7⟩ := Sp.wrB_parts hw
  have hfl : d.field.length ≤ 24 := by
    unfold Sp.nameB at h1
    simp only [Bool.and_eq_true, decide_eq_true_eq] at h1
    exact h1.2
  have hsl := Sp.signS_len d.op
  obtain ⟨R, hR⟩ : ∃ R, Sp.textN d = R := ⟨_, rfl⟩
  rw [hR]
  obtain ⟨k, F, op, fo, lo, hi, le, pa⟩ := d
  show Calls Tryz.prog 66 #[.agg #[.string (bs F), .int .i64 op, .int .i64 fo, .int .i64 lo, .int .i64 hi, .int .i64 le, .string (bs pa)]] w (Gives (.string (bs R)) w)
  simp only [] at ho1 ho6 h4 h5 h6 h7 hfl hsl
  have HSG := Lib.hid (fun W => ref5_signOf op W)
  obtain ⟨S, hS⟩ : ∃ S, Sp.signS op = S := ⟨_, rfl⟩
  have hR2 : R = F ++ 32 :: (S ++ 32 :: Sp.restS ⟨k, F, op, fo, lo, hi, le, pa⟩) := by rw [← hR, ← hS]; rfl
  rw [hS] at HSG hsl
  have r1 : ∀ W, (Op.stringOp .add (bs F) (⟨#[32]⟩ : ByteArray)).run Tryz.prog W = .ok (.string (bs (F ++ [32]))) W := fun W => radd F [32] (by simp only [List.length_cons, List.length_nil]; omega) W
  have r2 : ∀ W, (Op.stringOp .add (bs (F ++ [32])) (bs S)).run Tryz.prog W = .ok (.string (bs (F ++ 32 :: S))) W := fun W => (radd (F ++ [32]) S (by simp only [List.length_append, List.length_cons, List.length_nil]; omega) W).trans (by simp)
  have r3 : ∀ W, (Op.stringOp .add (bs (F ++ 32 :: S)) (⟨#[32]⟩ : ByteArray)).run Tryz.prog W = .ok (.string (bs (F ++ 32 :: (S ++ [32])))) W := fun W => (radd (F ++ 32 :: S) [32] (by simp only [List.length_append, List.length_cons, List.length_nil]; omega) W).trans (by simp)
  obtain ⟨H, hH⟩ : ∃ H, F ++ 32 :: (S ++ [32]) = H := ⟨_, rfl⟩
  have hHl : H.length ≤ 30 := by rw [← hH]; simp only [List.length_append, List.length_cons, List.length_nil]; omega
  have hR3 : R = H ++ Sp.restS ⟨k, F, op, fo, lo, hi, le, pa⟩ := by rw [hR2, ← hH]; simp
  rw [hH] at r3
  have HR := Lib.hid hR3
  have HNL := Lib.hid (fun W => ref5_number lo true W h4)
  have HNLf := Lib.hid (fun W => ref5_number lo false W h4)
  have HNH := Lib.hid (fun W => ref5_number hi false W h5)
  have HNE := Lib.hid (fun W => ref5_number le false W h6)
  have n1 := Sp.numS_len h4 true
  have n2 := Sp.numS_len h4 (Sp.bigB lo)
  have n3 := Sp.numS_len h5 (Sp.bigB hi)
  have n4 := Sp.numS_len h6 (Sp.bigB le)
  rw [Bool.true_or] at HNL
  rw [Bool.false_or] at HNLf HNH HNE
  have HB := Lib.hid ((Below.refl w.heap.size w).alloc (Nat.le_refl _) (.cells #[.string (bs F), .int .i64 op, .int .i64 fo, .int .i64 lo, .int .i64 hi, .int .i64 le, .string (bs pa)] 54))
  have HFO := Lib.hid h7
  clear hw h1 ho1 ho6 h5 h6 h4 h7 hfl hsl hR hR2 hR3 hS hH
  by_cases f2 : fo = 2
  · subst f2
    have HE := Lib.hid (show R = H ++ (Sp.numS lo true ++ 47 :: Sp.numS le (Sp.bigB le)) by rw [HR.out]; unfold Sp.restS; rw [if_pos rfl])
    generalize Sp.numS lo true = X at *
    generalize Sp.numS le (Sp.bigB le) = Y at *
    have t1 : ∀ W, (Op.stringOp .add (bs H) (bs X)).run Tryz.prog W = .ok (.string (bs (H ++ X))) W := fun W => radd H X (by omega) W
    have t2 : ∀ W, (Op.stringOp .add (bs (H ++ X)) (⟨#[47]⟩ : ByteArray)).run Tryz.prog W = .ok (.string (bs (H ++ (X ++ [47])))) W := fun W => (radd (H ++ X) [47] (by simp only [List.length_append, List.length_cons, List.length_nil]; omega) W).trans (by simp)
    have t3 : ∀ W, (Op.stringOp .add (bs (H ++ (X ++ [47]))) (bs Y)).run Tryz.prog W = .ok (.string (bs (H ++ (X ++ 47 :: Y)))) W := fun W => (radd (H ++ (X ++ [47])) Y (by simp only [List.length_append, List.length_cons, List.length_nil]; omega) W).trans (by simp)
    clear n1 n2 n3 n4 hHl
    go_enter Tryz.func66, Tryz.ntmps66
    go_wp2_with fail
    go_quiet ((go_at_call 47; ((with_reducible exact q_same (HSG.out _)))))
    go_wp2_with fail
    revert nq; intro nqa
    go_quiet ((go_at_call 84; (first | (with_reducible exact q_add (HNL.out _)) | (with_reducible exact q_add (HNE.out _)))))
    go_wp2_with fail
    go_ret
    first | exact ⟨by rw [HE.out]; rfl, below_drewN' HB.out _⟩ | exact ⟨by rw [HE.out]; rfl, below_drewN' (below_drewN' HB.out _) _⟩
  by_cases f3 : fo = 3
  · subst f3
    have HE := Lib.hid (show R = H ++ (Sp.numS lo (Sp.bigB lo) ++ 46 :: 46 :: Sp.numS hi (Sp.bigB hi)) by rw [HR.out]; unfold Sp.restS; rw [if_neg (show ¬ (3 : Int) = 2 by decide), if_pos rfl])
    generalize Sp.numS lo (Sp.bigB lo) = X at *
    generalize Sp.numS hi (Sp.bigB hi) = Y at *
    have t1 : ∀ W, (Op.stringOp .add (bs H) (bs X)).run Tryz.prog W = .ok (.string (bs (H ++ X))) W := fun W => radd H X (by omega) W
    have t2 : ∀ W, (Op.stringOp .add (bs (H ++ X)) (⟨#[46, 46]⟩ : ByteArray)).run Tryz.prog W = .ok (.string (bs (H ++ (X ++ [46, 46])))) W := fun W => (radd (H ++ X) [46, 46] (by simp only [List.length_append, List.length_cons, List.length_nil]; omega) W).trans (by simp)
    have t3 : ∀ W, (Op.stringOp .add (bs (H ++ (X ++ [46, 46]))) (bs Y)).run Tryz.prog W = .ok (.string (bs (H ++ (X ++ 46 :: 46 :: Y)))) W := fun W => (radd (H ++ (X ++ [46, 46])) Y (by simp only [List.length_append, List.length_cons, List.length_nil]; omega) W).trans (by simp)
    clear n1 n2 n3 n4 hHl f2
    go_enter Tryz.func66, Tryz.ntmps66
    go_wp2_with fail
    go_quiet ((go_at_call 47; ((with_reducible exact q_same (HSG.out _)))))
    go_wp2_with fail
    revert nq; intro nqa
    go_quiet ((go_at_call 84; (first | (with_reducible exact q_add (HNLf.out _)) | (with_reducible exact q_add (HNH.out _)))))
    go_wp2_with fail
    go_ret
    first | exact ⟨by rw [HE.out]; rfl, below_drewN' HB.out _⟩ | exact ⟨by rw [HE.out]; rfl, below_drewN' (below_drewN' HB.out _) _⟩
  by_cases f4 : fo = 4
  · subst f4
    have HE := Lib.hid (show R = H ++ 37 :: pa by rw [HR.out]; unfold Sp.restS; rw [if_neg (show ¬ (4 : Int) = 2 by decide), if_neg (show ¬ (4 : Int) = 3 by decide), if_pos rfl])
    have hpl : pa.length ≤ 32 := by
      have := HFO.out
      unfold Sp.formB at this
      rw [if_neg (show ¬ (4 : Int) = 1 by decide), if_neg (show ¬ (4 : Int) = 2 by decide), if_neg (show ¬ (4 : Int) = 3 by decide), if_pos rfl] at this
      simp only [Bool.and_eq_true] at this
      have h2 := this.2
      unfold Sp.patV at h2
      rw [Bool.and_eq_true, decide_eq_true_eq] at h2
      exact h2.2
    have t2 : ∀ W, (Op.stringOp .add (bs H) (⟨#[37]⟩ : ByteArray)).run Tryz.prog W = .ok (.string (bs (H ++ [37]))) W := fun W => radd H [37] (by simp only [List.length_cons, List.length_nil]; omega) W
    have t3 : ∀ W, (Op.stringOp .add (bs (H ++ [37])) (bs pa)).run Tryz.prog W = .ok (.string (bs (H ++ 37 :: pa))) W := fun W => (radd (H ++ [37]) pa (by simp only [List.length_append, List.length_cons, List.length_nil]; omega) W).trans (by simp)
    clear n1 n2 n3 n4 hHl f2 f3 hpl
    go_enter Tryz.func66, Tryz.ntmps66
    go_wp2_with fail
    go_quiet ((go_at_call 47; ((with_reducible exact q_same (HSG.out _)))))
    go_wp2_with fail
    go_ret
    first | exact ⟨by rw [HE.out]; rfl, below_drewN' HB.out _⟩ | exact ⟨by rw [HE.out]; rfl, below_drewN' (below_drewN' HB.out _) _⟩
  · have HE := Lib.hid (show R = H ++ Sp.numS lo (Sp.bigB lo) by rw [HR.out]; unfold Sp.restS; rw [if_neg f2, if_neg f3, if_neg f4])
    generalize Sp.numS lo (Sp.bigB lo) = X at *
    have t1 : ∀ W, (Op.stringOp .add (bs H) (bs X)).run Tryz.prog W = .ok (.string (bs (H ++ X))) W := fun W => radd H X (by omega) W
    have g2 : (fo == 2) = false := beq_eq_false_iff_ne.2 f2
    have g3 : (fo == 3) = false := beq_eq_false_iff_ne.2 f3
    have g4 : (fo == 4) = false := beq_eq_false_iff_ne.2 f4
    clear n1 n2 n3 n4 hHl f2 f3 f4
    go_enter Tryz.func66, Tryz.ntmps66
    go_wp2_with fail
    go_quiet ((go_at_call 47; ((with_reducible exact q_same (HSG.out _)))))
    go_wp2_with fail
    refine (HNLf.out _).mono ?_
    rintro e w1 ⟨rfl, k1, rfl⟩
    go_wp2_with fail
    go_ret
    first | exact ⟨by rw [HE.out]; rfl, below_drewN' HB.out _⟩ | exact ⟨by rw [HE.out]; rfl, below_drewN' (below_drewN' HB.out _) _⟩
/-- A leaf's text. -/
def leafS (d : Sp.Nd) : List UInt8 := if d.kind = 1 then Sp.anyW else if d.kind = 2 then Sp.noneW else Sp.textN d
theorem ref5_leaf (d : Sp.Nd) (w : World) (hw : d.kind = 1 ∨ d.kind = 2 ∨ Sp.wrB d = true) :
    Calls Tryz.prog 50 #[.agg (ndCell d).toArray] w (Gives (.string (bs (leafS d))) w) := by
  have hC : (d.kind ≠ 1 ∧ d.kind ≠ 2) → ∀ W, Calls Tryz.prog 66 #[.agg (testCells d).toArray] W (Gives (.string (bs (Sp.textN d))) W) := fun h W => ref5_testText d W (by rcases hw with h1 | h1 | h1; exact absurd h1 h.1; exact absurd h1 h.2; exact h1)
  obtain ⟨R, hR⟩ : ∃ R, leafS d = R := ⟨_, rfl⟩
  rw [hR]
  obtain ⟨X, hX⟩ : ∃ X, Sp.textN d = X := ⟨_, rfl⟩
  rw [hX] at hC
  obtain ⟨k, F, op, fo, lo, hi, le, pa⟩ := d
  unfold leafS at hR
  simp only [] at hR hC
  rw [hX] at hR
  have HB := Lib.hid ((Below.refl w.heap.size w).alloc (Nat.le_refl _) (.cells #[.int .i64 k, .string ⟨F.toArray⟩, .int .i64 op, .int .i64 fo, .int .i64 lo, .int .i64 hi, .int .i64 le, .string ⟨pa.toArray⟩] 56))
  show Calls Tryz.prog 50 #[.agg #[.int .i64 k, .string ⟨F.toArray⟩, .int .i64 op, .int .i64 fo, .int .i64 lo, .int .i64 hi, .int .i64 le, .string ⟨pa.toArray⟩]] w (Gives (.string (bs R)) w)
  clear hX hw
  by_cases k1 : k = 1
  · subst k1
    have HE := Lib.hid (show R = Sp.anyW by rw [← hR, if_pos rfl])
    clear hR hC
    go_enter Tryz.func50, Tryz.ntmps50
    go_wp2_with fail
    go_ret
    exact ⟨by rw [HE.out]; rfl, HB.out⟩
  by_cases k2 : k = 2
  · subst k2
    have HE := Lib.hid (show R = Sp.noneW by rw [← hR, if_neg (show ¬ (2 : Int) = 1 by decide), if_pos rfl])
    clear hR hC
    go_enter Tryz.func50, Tryz.ntmps50
    go_wp2_with fail
    go_ret
    exact ⟨by rw [HE.out]; rfl, HB.out⟩
  have HE := Lib.hid (show R = X by rw [← hR, if_neg k1, if_neg k2])
  have HC := Lib.hid (hC ⟨k1, k2⟩)
  have q1 : (k == 1) = false := beq_eq_false_iff_ne.2 k1
  have q2 : (k == 2) = false := beq_eq_false_iff_ne.2 k2
  clear hR hC k1 k2
  go_enter Tryz.func50, Tryz.ntmps50
  go_wp2_with fail
  refine (HC.out _).mono ?_
  rintro e w1 ⟨rfl, h1⟩
  have HB2 := Lib.hid (HB.out.trans (h1.mono HB.out.size))
  clear h1
  go_wp2_with fail
  go_ret
  exact ⟨by rw [HE.out]; rfl, HB2.out⟩
theorem ref5_greater (a b : Nat) (w : World) (h1 : a ≤ 1000000) (h2 : b ≤ 1000000) :
    Calls Tryz.prog 52 #[.int .i64 (a : Nat), .int .i64 (b : Nat)] w fun e w' => e = .returned (.int .i64 (max a b : Nat)) ∧ w = w' := by
  by_cases h : b < a
  · have q1 : decide (a > b) = true := decide_eq_true h
    have q2 : decide (b < a) = true := decide_eq_true h
    have q3 : decide ((a : Int) > b) = true := decide_eq_true (by omega)
    have q4 : decide ((b : Int) < a) = true := decide_eq_true (by omega)
    have HE := Lib.hid (show max a b = a by omega)
    clear h
    go_enter Tryz.func52, Tryz.ntmps52
    go_wp2_with fail
    go_ret
    exact ⟨by rw [HE.out]; rfl, rfl⟩
  · have q1 : decide (a > b) = false := decide_eq_false h
    have q2 : decide (b < a) = false := decide_eq_false h
    have q3 : decide ((a : Int) > b) = false := decide_eq_false (by omega)
    have q4 : decide ((b : Int) < a) = false := decide_eq_false (by omega)
    have HE := Lib.hid (show max a b = b by omega)
    clear h
    go_enter Tryz.func52, Tryz.ntmps52
    go_wp2_with fail
    go_ret
    exact ⟨by rw [HE.out]; rfl, rfl⟩
/-- A piece. -/
def pcCell (T : List UInt8) (b k : Nat) : List Value := [.string (bs T), .int .i64 (b : Nat), .int .i64 (k : Nat)]
theorem ref5_in (T : List UInt8) (b k : Nat) (m : Bool) (w : World) (h1 : T.length ≤ 900000) (h2 : k ≤ 1000000) :
    Calls Tryz.prog 51 #[.agg (pcCell T b k).toArray, .bool m] w (Gives (.agg (pcCell (Sp.brk m T) (if m then 3 else b) (if m then k + 1 else k)).toArray) w) := by
  have r1 : ∀ W, (Op.stringOp .add (⟨#[40]⟩ : ByteArray) (bs T)).run Tryz.prog W = .ok (.string (bs (40 :: T))) W := fun W => radd [40] T (by simp only [List.length_cons, List.length_nil]; omega) W
  have r2 : ∀ W, (Op.stringOp .add (bs (40 :: T)) (⟨#[41]⟩ : ByteArray)).run Tryz.prog W = .ok (.string (bs (40 :: (T ++ [41])))) W := fun W => radd (40 :: T) [41] (by simp only [List.length_cons, List.length_nil]; omega) W
  have k1 : (0 : Int) ≤ (k : Int) := by omega
  have k2 : (k : Int) ≤ 1000000 := by omega
  clear h1 h2
  obtain ⟨N, hN⟩ : ∃ N, w.heap.size = N := ⟨_, rfl⟩
  show Calls Tryz.prog 51 #[.agg #[.string (bs T), .int .i64 (b : Nat), .int .i64 (k : Nat)], .bool m] w _
  cases m
  · go_enter Tryz.func51, Tryz.ntmps51
    go_wp2_with fail
    refine bodyPost_ret (results_cell_row rfl _ _ (N + 1) 71 (pcCell T b k).toArray (0, 0) _ rfl (two_new w hN #[.string (bs T), .int .i64 (b : Nat), .int .i64 (k : Nat)] #[.string (bs T), .int .i64 (b : Nat), .int .i64 (k : Nat)] 71 71).2.2 Tryz.underlying71 rfl (by kernel_rfl)) rfl ?_
    exact ⟨rfl, (two_new w hN _ _ 71 71).1⟩
  · go_enter Tryz.func51, Tryz.ntmps51
    go_wp2_with fail
    refine bodyPost_ret (results_cell_row rfl _ _ (N + 1) 71 #[.string (bs (40 :: (T ++ [41]))), .int .i64 3, .int .i64 ((k : Int) + 1)] (0, 0) _ rfl (two_new w hN #[.string (bs T), .int .i64 (b : Nat), .int .i64 (k : Nat)] #[.string (bs (40 :: (T ++ [41]))), .int .i64 3, .int .i64 ((k : Int) + 1)] 71 71).2.2 Tryz.underlying71 rfl (by kernel_rfl)) rfl ?_
    exact ⟨rfl, (two_new w hN _ _ 71 71).1⟩
end Go.Proofs.YtdmpapoabeljfaaGreatDoor
