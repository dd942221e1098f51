/-
  WALK: numbers and tests as texts (chapter 5).
-/
import Derived.Test.YtdmpapoabeljfaaGreatDoorKc
import Derived.Test.YtdmpapoabeljfaaGreatDoorNa
import Derived.Test.YtdmpapoabeljfaaGreatDoorEi
set_option linter.unusedVariables false
set_option linter.unusedSimpArgs false
set_option maxRecDepth 100000
set_option maxHeartbeats 8000000
namespace Go.Proofs.YtdmpapoabeljfaaGreatDoor
open Go.RowKit

/-- A list of bytes as a string. -/
def bs (l : List UInt8) : ByteArray := ⟨l.toArray⟩
theorem bs_app (a b : List UInt8) : bs a ++ bs b = bs (a ++ b) := by
  apply ByteArray.ext
  simp [bs]
theorem bs_list (a : List UInt8) : (bs a).toList = a := by
  rw [Lib.toList_data]
  rfl
theorem bs_size (a : List UInt8) : (bs a).size = a.length := by
  rw [Lib.size_eq]
  rfl
theorem radd (a b : List UInt8) (h : a.length + b.length ≤ 1000000) (W : World) : (Op.stringOp .add (bs a) (bs b)).run Tryz.prog W = .ok (.string (bs (a ++ b))) W := by
  have := run_string_add_sum (P := Tryz.prog) (w := W) (bs a) (bs b) (by rw [bs_size, bs_size]; omega)
  rw [bs_app] at this
  exact this

theorem scan_num (v : Int) (b : Bool) (w : World) (h : Sp.fitB v = true) (hT : Pow w) :
    Calls Tryz.prog 193 #[.int .i64 v, .bool b] w (Gives (.tuple #[.string (bs (Sp.numS v b)), .int .i64 0]) w) := by
  unfold Sp.fitB at h
  rw [Bool.and_eq_true, decide_eq_true_eq, decide_eq_true_eq] at h
  obtain ⟨u, rfl⟩ : ∃ u : Nat, v = u := ⟨v.toNat, by omega⟩
  cases b with
  | true => exact scan_Number_dots u (by omega) w hT
  | false => exact scan_Number_plain u (by omega) w hT
theorem say_num (v : Int) (w : World) (h : Sp.fitB v = true) (hT : Pow w) :
    Calls Tryz.prog 194 #[.int .i64 v] w (Gives (.string (bs (Sp.numS v (Sp.bigB v)))) w) := by
  have HC := Lib.hid (scan_num v (Sp.bigB v) w h hT)
  have hb : Sp.bigB v = true ∧ 65536 ≤ v ∨ Sp.bigB v = false ∧ ¬ 65536 ≤ v := by
    unfold Sp.bigB
    by_cases h : 65536 ≤ v
    · exact Or.inl ⟨decide_eq_true h, h⟩
    · exact Or.inr ⟨decide_eq_false h, h⟩
  generalize Sp.numS v (Sp.bigB v) = R at HC ⊢
  clear h hT
  rcases hb with ⟨b1, b2⟩ | ⟨b1, b2⟩ <;> rw [b1] at HC <;> clear b1
  · have q1 : decide (v ≥ 65536) = true := decide_eq_true b2
    have q2 : decide (65536 ≤ v) = true := decide_eq_true b2
    clear b2
    go_enter Tryz.func194, Tryz.ntmps194
    go_wp2_with fail
    refine HC.out.mono ?_
    rintro e w1 ⟨rfl, h1⟩
    have HB := Lib.hid h1
    clear h1
    go_wp2_with fail
    go_ret
    exact ⟨by rfl, HB.out⟩
  · have q1 : decide (v ≥ 65536) = false := decide_eq_false b2
    have q2 : decide (65536 ≤ v) = false := decide_eq_false b2
    clear b2
    go_enter Tryz.func194, Tryz.ntmps194
    go_wp2_with fail
    refine HC.out.mono ?_
    rintro e w1 ⟨rfl, h1⟩
    have HB := Lib.hid h1
    clear h1
    go_wp2_with fail
    go_ret
    exact ⟨by rfl, HB.out⟩
theorem say_sign (op : Int) (h1 : 1 ≤ op) (h6 : op ≤ 6) (w : World) : Calls Tryz.prog 85 #[.int .i64 op] w fun e w' => e = .returned (.string (bs (Sp.signS op))) ∧ w = w' := by
  obtain ⟨k1, k2, k3, k4, k5, k6⟩ := expr_signOf w
  rcases (show op = 1 ∨ op = 2 ∨ op = 3 ∨ op = 4 ∨ op = 5 ∨ op = 6 by omega) with rfl | rfl | rfl | rfl | rfl | rfl
  · exact k1
  · exact k2
  · exact k3
  · exact k4
  · exact k5
  · exact k6
theorem sign_ne (op : Int) (h1 : 1 ≤ op) (h6 : op ≤ 6) : Sp.signS op ≠ [] := by
  rcases (show op = 1 ∨ op = 2 ∨ op = 3 ∨ op = 4 ∨ op = 5 ∨ op = 6 by omega) with rfl | rfl | rfl | rfl | rfl | rfl <;> simp [Sp.signS]

theorem test_text (d : Sp.Nd) (w : World) (hw : Sp.wrB d = true) (hT : Pow w) : Calls Tryz.prog 192 #[.agg (testCells d).toArray] w (Gives (.string (bs (Sp.textN d))) w) := by
  obtain ⟨h1, ho1, ho6, h4, h5, h6, h7⟩ := Sp.wrB_parts hw
  have hfl : d.field.length ≤ 24 := by
    unfold Sp.nameB at h1
    simp only [Bool.and_eq_true, decide_eq_true_eq] at h1
    exact h1.2
  have hsl := Sp.signS_len d.op
  have hsg := say_sign d.op ho1 ho6
  have hne := sign_ne d.op ho1 ho6
  have htl := Sp.textN_len hw
  have hTx : Sp.textN d = d.field ++ 32 :: (Sp.signS d.op ++ 32 :: Sp.restS d) := rfl
  have hrl : (Sp.restS d).length ≤ 130 := by
    rw [hTx] at htl
    simp only [List.length_append, List.length_cons] at htl
    omega
  have hRd : Sp.restS d = if d.form = 2 then Sp.numS d.lo true ++ 47 :: Sp.numS d.len (Sp.bigB d.len) else if d.form = 3 then Sp.numS d.lo (Sp.bigB d.lo) ++ 46 :: 46 :: Sp.numS d.hi (Sp.bigB d.hi) else if d.form = 4 then 37 :: d.pat else Sp.numS d.lo (Sp.bigB d.lo) := rfl
  rw [hTx]
  obtain ⟨F, op, fo, lo, hi, le, pa, hd⟩ : ∃ F op fo lo hi le pa, d = { kind := d.kind, field := F, op := op, form := fo, lo := lo, hi := hi, len := le, pat := pa } := ⟨_, _, _, _, _, _, _, rfl⟩
  have e : testCells d = [.string (bs F), .int .i64 op, .int .i64 fo, .int .i64 lo, .int .i64 hi, .int .i64 le, .string (bs pa)] := by rw [hd]; rfl
  rw [e]
  have e1 : d.field = F := by rw [hd]
  have e2 : d.op = op := by rw [hd]
  have e3 : d.form = fo := by rw [hd]
  have e4 : d.lo = lo := by rw [hd]
  have e5 : d.hi = hi := by rw [hd]
  have e6 : d.len = le := by rw [hd]
  have e7 : d.pat = pa := by rw [hd]
  rw [e1] at hfl
  rw [e2] at hsl hsg hne
  rw [e4] at h4
  rw [e5] at h5
  rw [e6] at h6
  rw [e3, e4, e5, e6, e7] at hRd
  rw [e1, e2]
  generalize Sp.signS op = sg at *
  generalize Sp.restS d = R at *
  clear hd e e1 e2 e3 e4 e5 e6 e7 hw h7 hTx htl h1
  have hnl := fun (b : Bool) (W : World) (h : Sp.fitB lo = true) (hT : Pow W) => scan_num lo b W h hT
  have hN1 := fun W hT => say_num lo W h4 hT
  have hN2 := fun W hT => say_num hi W h5 hT
  have hN3 := fun W hT => say_num le W h6 hT
  have hNl := Sp.numS_len h4 (Sp.bigB lo)
  have hNh := Sp.numS_len h5 (Sp.bigB hi)
  have hNe := Sp.numS_len h6 (Sp.bigB le)
  have q1 : (bs sg).toList.isEmpty = false := by
    rw [bs_list]
    cases sg with
    | nil => exact absurd rfl hne
    | cons _ _ => rfl
  have r1 : ∀ W, (Op.stringOp .add (⟨#[32]⟩ : ByteArray) (bs sg)).run Tryz.prog W = .ok (.string (bs (32 :: sg))) W := fun W => radd [32] sg (by simp only [List.length_cons, List.length_nil]; omega) W
  have r2 : ∀ W, (Op.stringOp .add (bs (32 :: sg)) (⟨#[32]⟩ : ByteArray)).run Tryz.prog W = .ok (.string (bs (32 :: (sg ++ [32])))) W := fun W => radd (32 :: sg) [32] (by simp only [List.length_cons, List.length_nil]; omega) W
  have r3 : ∀ W, (Op.stringOp .add (bs F) (bs (32 :: (sg ++ [32])))).run Tryz.prog W = .ok (.string (bs (F ++ (32 :: (sg ++ [32]))))) W := fun W => radd F _ (by simp only [List.length_append, List.length_cons, List.length_nil]; omega) W
  obtain ⟨H, hH⟩ : ∃ H, F ++ (32 :: (sg ++ [32])) = H := ⟨_, rfl⟩
  have hHl : H.length ≤ 30 := by rw [← hH]; simp only [List.length_append, List.length_cons, List.length_nil]; omega
  have hfin : ∀ X, R = X → F ++ 32 :: (sg ++ 32 :: R) = H ++ X := by
    intro X hX
    rw [← hH, hX]
    simp
  rw [hH] at r3
  have hnf : Sp.fitB lo = true := h4
  have hPw : ∀ W, Below w.heap.size w W → Pow W := fun W hb => hT.below hb
  have hwa : Below w.heap.size w (w.alloc (.cells #[.string (bs F), .int .i64 op, .int .i64 fo, .int .i64 lo, .int .i64 hi, .int .i64 le, .string (bs pa)] 67)) := (Below.refl _ _).alloc (Nat.le_refl _) _
  have c0 : (w.alloc (.cells #[.string (bs F), .int .i64 op, .int .i64 fo, .int .i64 lo, .int .i64 hi, .int .i64 le, .string (bs pa)] 67)).cell? ⟨w.heap.size, 0, none⟩ = some (.string (bs F)) := Blk.cell (Blk.new w _ _) 0
  have c1 : (w.alloc (.cells #[.string (bs F), .int .i64 op, .int .i64 fo, .int .i64 lo, .int .i64 hi, .int .i64 le, .string (bs pa)] 67)).cell? ⟨w.heap.size, 1, none⟩ = some (.int .i64 op) := Blk.cell (Blk.new w _ _) 1
  have c2 : (w.alloc (.cells #[.string (bs F), .int .i64 op, .int .i64 fo, .int .i64 lo, .int .i64 hi, .int .i64 le, .string (bs pa)] 67)).cell? ⟨w.heap.size, 2, none⟩ = some (.int .i64 fo) := Blk.cell (Blk.new w _ _) 2
  have c3 : (w.alloc (.cells #[.string (bs F), .int .i64 op, .int .i64 fo, .int .i64 lo, .int .i64 hi, .int .i64 le, .string (bs pa)] 67)).cell? ⟨w.heap.size, 3, none⟩ = some (.int .i64 lo) := Blk.cell (Blk.new w _ _) 3
  have c4 : (w.alloc (.cells #[.string (bs F), .int .i64 op, .int .i64 fo, .int .i64 lo, .int .i64 hi, .int .i64 le, .string (bs pa)] 67)).cell? ⟨w.heap.size, 4, none⟩ = some (.int .i64 hi) := Blk.cell (Blk.new w _ _) 4
  have c5 : (w.alloc (.cells #[.string (bs F), .int .i64 op, .int .i64 fo, .int .i64 lo, .int .i64 hi, .int .i64 le, .string (bs pa)] 67)).cell? ⟨w.heap.size, 5, none⟩ = some (.int .i64 le) := Blk.cell (Blk.new w _ _) 5
  have c6 : (w.alloc (.cells #[.string (bs F), .int .i64 op, .int .i64 fo, .int .i64 lo, .int .i64 hi, .int .i64 le, .string (bs pa)] 67)).cell? ⟨w.heap.size, 6, none⟩ = some (.string (bs pa)) := Blk.cell (Blk.new w _ _) 6
  have hlt : w.heap.size < (w.alloc (.cells #[.string (bs F), .int .i64 op, .int .i64 fo, .int .i64 lo, .int .i64 hi, .int .i64 le, .string (bs pa)] 67)).heap.size := by simp
  obtain ⟨W, hW⟩ : ∃ W, w.alloc (.cells #[.string (bs F), .int .i64 op, .int .i64 fo, .int .i64 lo, .int .i64 hi, .int .i64 le, .string (bs pa)] 67) = W := ⟨_, rfl⟩
  obtain ⟨N, hN⟩ : ∃ N, w.heap.size = N := ⟨_, rfl⟩
  rw [hW, hN] at c0 c1 c2 c3 c4 c5 c6 hlt
  rw [hW] at hwa
  have HSG := Lib.hid hsg
  have HPW := Lib.hid hPw
  have HFIN := Lib.hid hfin
  have HRD := Lib.hid hRd
  have HWA := Lib.hid hwa
  have HW := Lib.hid hW
  have HN := Lib.hid hN
  have HLT := Lib.hid hlt
  have HNL := Lib.hid (hnl true)
  have HN1 := Lib.hid hN1
  have HN2 := Lib.hid hN2
  have HN3 := Lib.hid hN3
  have HFT := Lib.hid hnf
  have HN0l := Sp.numS_len h4 true
  generalize Sp.numS lo true = n0 at *
  generalize Sp.numS lo (Sp.bigB lo) = n1 at *
  generalize Sp.numS hi (Sp.bigB hi) = n2 at *
  generalize Sp.numS le (Sp.bigB le) = n3 at *
  clear hsg hPw hfin hRd hwa hW hN hlt hnl hN1 hN2 hN3 hnf h4 h5 h6 hsl hfl hne hH ho1 ho6 hT
  by_cases f2 : fo = 2
  · subst f2
    have HX := Lib.hid (HFIN.out _ (show R = n0 ++ 47 :: n3 by rw [HRD.out, if_pos rfl]))
    have t1 : ∀ W, (Op.stringOp .add (bs H) (bs n0)).run Tryz.prog W = .ok (.string (bs (H ++ n0))) W := fun W => radd H n0 (by omega) W
    have t2 : ∀ W, (Op.stringOp .add (bs (H ++ n0)) (⟨#[47]⟩ : ByteArray)).run Tryz.prog W = .ok (.string (bs (H ++ (n0 ++ [47])))) W := fun W => (radd (H ++ n0) [47] (by simp only [List.length_append, List.length_cons, List.length_nil]; omega) W).trans (by rw [List.append_assoc])
    have t3 : ∀ W, (Op.stringOp .add (bs (H ++ (n0 ++ [47]))) (bs n3)).run Tryz.prog W = .ok (.string (bs (H ++ (n0 ++ 47 :: n3)))) W := fun W => (radd (H ++ (n0 ++ [47])) n3 (by simp only [List.length_append, List.length_cons, List.length_nil]; omega) W).trans (by simp)
    clear hHl hrl hNl hNh hNe HN0l
    go_enter Tryz.func192, Tryz.ntmps192
    go_wp2_with fail
    rw [HW.out, HN.out]
    refine (HSG.out _).mono ?_
    rintro e w2 ⟨rfl, hw2⟩
    subst hw2
    go_wp2_with fail
    refine (HNL.out W HFT.out (HPW.out W HWA.out)).mono ?_
    rintro e w3 ⟨rfl, h3⟩
    have x5 := (h3.cell (p := ⟨N, 5, none⟩) HLT.out).trans c5
    have HB3 := Lib.hid h3
    have HT3 := Lib.hid (HPW.out w3 (HWA.out.trans (h3.mono HWA.out.size)))
    clear h3 c0 c1 c2 c3 c4 c5 c6
    go_wp2_with fail
    refine (HN3.out w3 HT3.out).mono ?_
    rintro e w4 ⟨rfl, h4⟩
    have HB4 := Lib.hid (HB3.out.trans (h4.mono HB3.out.size))
    clear h4
    go_wp2_with fail
    go_ret
    refine ⟨by rw [HX.out]; rfl, ?_⟩
    have hB := HWA.out.trans (HB4.out.mono HWA.out.size)
    rw [HN.out]
    rw [HN.out] at hB
    exact hB
  by_cases f3 : fo = 3
  · subst f3
    have HX := Lib.hid (HFIN.out _ (show R = n1 ++ 46 :: 46 :: n2 by rw [HRD.out, if_neg (by omega), if_pos rfl]))
    have t1 : ∀ W, (Op.stringOp .add (bs H) (bs n1)).run Tryz.prog W = .ok (.string (bs (H ++ n1))) W := fun W => radd H n1 (by omega) W
    have t2 : ∀ W, (Op.stringOp .add (bs (H ++ n1)) (⟨#[46, 46]⟩ : ByteArray)).run Tryz.prog W = .ok (.string (bs (H ++ (n1 ++ [46, 46])))) W := fun W => (radd (H ++ n1) [46, 46] (by simp only [List.length_append, List.length_cons, List.length_nil]; omega) W).trans (by rw [List.append_assoc])
    have t3 : ∀ W, (Op.stringOp .add (bs (H ++ (n1 ++ [46, 46]))) (bs n2)).run Tryz.prog W = .ok (.string (bs (H ++ (n1 ++ 46 :: 46 :: n2)))) W := fun W => (radd (H ++ (n1 ++ [46, 46])) n2 (by simp only [List.length_append, List.length_cons, List.length_nil]; omega) W).trans (by simp)
    clear hHl hrl hNl hNh hNe HN0l
    go_enter Tryz.func192, Tryz.ntmps192
    go_wp2_with fail
    rw [HW.out, HN.out]
    refine (HSG.out _).mono ?_
    rintro e w2 ⟨rfl, hw2⟩
    subst hw2
    go_wp2_with fail
    have hS : Below W.heap.size W W ∧ W.cell? ⟨N, 3, none⟩ = some (.int .i64 lo) ∧ W.cell? ⟨N, 4, none⟩ = some (.int .i64 hi) := ⟨Below.refl _ _, c3, c4⟩
    have HK : Hid (∀ w3 w4, (Below W.heap.size W w3 ∧ w3.cell? ⟨N, 3, none⟩ = some (.int .i64 lo) ∧ w3.cell? ⟨N, 4, none⟩ = some (.int .i64 hi)) → Below w3.heap.size w3 w4 → (Below W.heap.size W w4 ∧ w4.cell? ⟨N, 3, none⟩ = some (.int .i64 lo) ∧ w4.cell? ⟨N, 4, none⟩ = some (.int .i64 hi))) := by
      intro w3 w4 h hb
      have hl : N < w3.heap.size := Nat.lt_of_lt_of_le HLT.out h.1.size
      exact ⟨h.1.trans (hb.mono h.1.size), (hb.cell (p := ⟨N, 3, none⟩) hl).trans h.2.1, (hb.cell (p := ⟨N, 4, none⟩) hl).trans h.2.2⟩
    have HPK : Hid (∀ w3, (Below W.heap.size W w3 ∧ w3.cell? ⟨N, 3, none⟩ = some (.int .i64 lo) ∧ w3.cell? ⟨N, 4, none⟩ = some (.int .i64 hi)) → Pow w3) := fun w3 h => HPW.out w3 (HWA.out.trans (h.1.mono HWA.out.size))
    clear c0 c1 c2 c3 c4 c5 c6
    go_region_held3 (fun w' => Below W.heap.size W w' ∧ w'.cell? ⟨N, 3, none⟩ = some (.int .i64 lo) ∧ w'.cell? ⟨N, 4, none⟩ = some (.int .i64 hi))
      (first | assumption | exact ks | exact HK.out _ _ hS ⟨rfl, rfl, rfl, Nat.le_refl _, fun _ _ => rfl⟩)
      ((first
        | (go_at_call 194; (first | ((with_reducible show Calls _ _ #[Value.int .i64 lo] _ _); refine (HN1.out _ (HPK.out _ (by assumption))).mono ?_) | ((with_reducible show Calls _ _ #[Value.int .i64 hi] _ _); refine (HN2.out _ (HPK.out _ (by assumption))).mono ?_)); rintro e w4 ⟨rfl, hb4⟩; have ks := HK.out _ w4 (by assumption) hb4)))
    all_goals
      go_wp2_with fail
      go_ret
      refine ⟨by rw [HX.out]; rfl, ?_⟩
      have hB := HWA.out.trans (ks.1.mono HWA.out.size)
      rw [HN.out]
      rw [HN.out] at hB
      exact hB
  by_cases f4 : fo = 4
  · subst f4
    have HX := Lib.hid (HFIN.out _ (show R = 37 :: pa by rw [HRD.out, if_neg (by omega), if_neg (by omega), if_pos rfl]))
    have hpl : pa.length ≤ 130 := by
      have := HRD.out
      rw [if_neg (by omega), if_neg (by omega), if_pos rfl] at this
      rw [this, List.length_cons] at hrl
      omega
    have t2 : ∀ W, (Op.stringOp .add (bs H) (⟨#[37]⟩ : ByteArray)).run Tryz.prog W = .ok (.string (bs (H ++ [37]))) W := fun W => radd H [37] (by simp only [List.length_append, List.length_cons, List.length_nil]; omega) W
    have t3 : ∀ W, (Op.stringOp .add (bs (H ++ [37])) (bs pa)).run Tryz.prog W = .ok (.string (bs (H ++ 37 :: pa))) W := fun W => (radd (H ++ [37]) pa (by simp only [List.length_append, List.length_cons, List.length_nil]; omega) W).trans (by simp)
    clear hpl
    clear hHl hrl hNl hNh hNe HN0l
    go_enter Tryz.func192, Tryz.ntmps192
    go_wp2_with fail
    rw [HW.out, HN.out]
    refine (HSG.out _).mono ?_
    rintro e w2 ⟨rfl, hw2⟩
    subst hw2
    go_wp2_with fail
    go_ret
    refine ⟨by rw [HX.out]; rfl, ?_⟩
    have hB := HWA.out.trans (Below.refl _ _)
    rw [HN.out]
    rw [HN.out] at hB
    exact hB
  · have HX := Lib.hid (HFIN.out _ (show R = n1 by rw [HRD.out, if_neg f2, if_neg f3, if_neg f4]))
    have t1 : ∀ W, (Op.stringOp .add (bs H) (bs n1)).run Tryz.prog W = .ok (.string (bs (H ++ n1))) W := fun W => radd H n1 (by omega) W
    have p2 : (fo == 2) = false := beq_eq_false_iff_ne.2 f2
    have p3 : (fo == 3) = false := beq_eq_false_iff_ne.2 f3
    have p4 : (fo == 4) = false := beq_eq_false_iff_ne.2 f4
    clear f2 f3 f4
    clear hHl hrl hNl hNh hNe HN0l
    go_enter Tryz.func192, Tryz.ntmps192
    go_wp2_with fail
    rw [HW.out, HN.out]
    refine (HSG.out _).mono ?_
    rintro e w2 ⟨rfl, hw2⟩
    subst hw2
    go_wp2_with fail
    refine (HN1.out W (HPW.out W HWA.out)).mono ?_
    rintro e w3 ⟨rfl, h3⟩
    have HB3 := Lib.hid h3
    clear h3 c0 c1 c2 c3 c4 c5 c6
    go_wp2_with fail
    go_ret
    refine ⟨by rw [HX.out]; rfl, ?_⟩
    have hB := HWA.out.trans (HB3.out.mono HWA.out.size)
    rw [HN.out]
    rw [HN.out] at hB
    exact hB
end Go.Proofs.YtdmpapoabeljfaaGreatDoor
