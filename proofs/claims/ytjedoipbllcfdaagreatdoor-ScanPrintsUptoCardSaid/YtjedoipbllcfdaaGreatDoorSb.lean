/-
  THE WALK of scan.spaced (chapter 3).
-/
import Derived.Test.YtjedoipbllcfdaaGreatDoorSa
set_option linter.unusedVariables false
set_option linter.unusedSimpArgs false
set_option maxRecDepth 100000
set_option maxHeartbeats 4000000
namespace Go.Proofs.YtjedoipbllcfdaaGreatDoor
open Go.RowKit

def L1 : List (List UInt8) := [[40], [47], [46, 46], [58]]
def L2 : List (List UInt8) := [[41], [44], [47], [46, 46], [58]]
theorem spaced_eq (k k2 : Int) (t t2 : List UInt8) : Sp.spacedV (k, t) (k2, t2) = if k = 1 ∨ k2 = 1 then false else if sgnL k t L1 then false else if sgnL k2 t2 L2 then false else !(sgnL k t [[33]] && (k2 == 2 || sgnL k2 t2 [[40], [33]])) := by
  have e1 : (Sp.sgn (k, t) [40] || Sp.sgn (k, t) [47] || Sp.sgn (k, t) [46, 46] || Sp.sgn (k, t) [58]) = sgnL k t L1 := by
    unfold Sp.sgn sgnL L1
    simp only [List.contains_cons, List.contains_nil, Bool.or_false]
    cases (k == 7) <;> simp [Bool.or_assoc]
  have e2 : (Sp.sgn (k2, t2) [41] || Sp.sgn (k2, t2) [44] || Sp.sgn (k2, t2) [47] || Sp.sgn (k2, t2) [46, 46] || Sp.sgn (k2, t2) [58]) = sgnL k2 t2 L2 := by
    unfold Sp.sgn sgnL L2
    simp only [List.contains_cons, List.contains_nil, Bool.or_false]
    cases (k2 == 7) <;> simp [Bool.or_assoc]
  have e3 : Sp.sgn (k, t) [33] = sgnL k t [[33]] := by
    unfold Sp.sgn sgnL
    simp only [List.contains_cons, List.contains_nil, Bool.or_false]
  have e4 : (k2 == 2 || Sp.sgn (k2, t2) [40] || Sp.sgn (k2, t2) [33]) = (k2 == 2 || sgnL k2 t2 [[40], [33]]) := by
    unfold Sp.sgn sgnL
    simp only [List.contains_cons, List.contains_nil, Bool.or_false]
    cases (k2 == 7) <;> simp [Bool.or_assoc]
  unfold Sp.spacedV
  simp only []
  rw [e1, e2, e3, e4]

theorem strs_at {W : World} {h : Nat} {ls : List (List UInt8)} (hc : ∀ i, W.cell? ⟨h, i, none⟩ = ((ls.map fun b => Value.string ⟨b.toArray⟩).toArray)[i]?) : ∀ i x, ls[i]? = some x → W.cell? ⟨h, i, none⟩ = some (.string ⟨x.toArray⟩) := by
  intro i x hx
  rw [hc]
  simp [hx]

theorem isSign_new (k l c : Int) (t : ByteArray) (ls : List (List UInt8)) (hnb : ls.length ≤ 100) (W : World) (ty : TypeId) (n : Nat) (hn : ls.length = n) :
    Calls Tryz.prog 29 #[.agg #[.int .i64 k, .string t, .int .i64 l, .int .i64 c], .slice (some ⟨W.heap.size, 0, none⟩) n n] (W.alloc (.cells (ls.map fun b => Value.string ⟨b.toArray⟩).toArray ty)) fun e w' => e = .returned (.bool (sgnL k t.data.toList ls)) ∧ Below W.heap.size W w' := by
  refine (scan_isSign k l c t ls W.heap.size n n _ hn (by omega) (by simp) (strs_at (fun i => World.cell?_alloc_at _ _ _ _ rfl))).mono ?_
  rintro e w' ⟨rfl, hb⟩
  exact ⟨rfl, ((Below.refl _ _).alloc (Nat.le_refl _) _).trans (hb.mono (by simp))⟩

/-- Two tokens in two boxes. -/
def Box8 (w : World) (H : Nat) (k l c : Int) (t : ByteArray) (k2 l2 c2 : Int) (t2 : ByteArray) : Prop :=
  w.cell? ⟨H, 0, none⟩ = some (.int .i64 k) ∧ w.cell? ⟨H, 1, none⟩ = some (.string t) ∧ w.cell? ⟨H, 2, none⟩ = some (.int .i64 l) ∧ w.cell? ⟨H, 3, none⟩ = some (.int .i64 c) ∧
  w.cell? ⟨H + 1, 0, none⟩ = some (.int .i64 k2) ∧ w.cell? ⟨H + 1, 1, none⟩ = some (.string t2) ∧ w.cell? ⟨H + 1, 2, none⟩ = some (.int .i64 l2) ∧ w.cell? ⟨H + 1, 3, none⟩ = some (.int .i64 c2)
theorem Box8.below {w w' : World} {B H : Nat} {k l c : Int} {t : ByteArray} {k2 l2 c2 : Int} {t2 : ByteArray} (h : Box8 w H k l c t k2 l2 c2 t2) (hb : Below B w w') (hB : H + 1 < B) : Box8 w' H k l c t k2 l2 c2 t2 := by
  obtain ⟨a0, a1, a2, a3, b0, b1, b2, b3⟩ := h
  exact ⟨(hb.cell (p := ⟨H, 0, none⟩) (by show H < B; omega)).trans a0, (hb.cell (p := ⟨H, 1, none⟩) (by show H < B; omega)).trans a1, (hb.cell (p := ⟨H, 2, none⟩) (by show H < B; omega)).trans a2, (hb.cell (p := ⟨H, 3, none⟩) (by show H < B; omega)).trans a3,
    (hb.cell (p := ⟨H + 1, 0, none⟩) hB).trans b0, (hb.cell (p := ⟨H + 1, 1, none⟩) hB).trans b1, (hb.cell (p := ⟨H + 1, 2, none⟩) hB).trans b2, (hb.cell (p := ⟨H + 1, 3, none⟩) hB).trans b3⟩

theorem scan_spaced (k l c : Int) (t : ByteArray) (k2 l2 c2 : Int) (t2 : ByteArray) (w : World) :
    Calls Tryz.prog 18 #[.agg #[.int .i64 k, .string t, .int .i64 l, .int .i64 c], .agg #[.int .i64 k2, .string t2, .int .i64 l2, .int .i64 c2]] w fun e w' => e = .returned (.bool (Sp.spacedV (k, t.data.toList) (k2, t2.data.toList))) ∧ Below w.heap.size w w' := by
  obtain ⟨R, hR⟩ : ∃ R, Sp.spacedV (k, t.data.toList) (k2, t2.data.toList) = R := ⟨_, rfl⟩
  rw [hR]
  rw [spaced_eq] at hR
  obtain ⟨W4, hW4⟩ : ∃ W4, (((w.alloc (.cells #[.int .i64 k, .string t, .int .i64 l, .int .i64 c] 25)).alloc (.cells #[.int .i64 k2, .string t2, .int .i64 l2, .int .i64 c2] 25)).alloc (.cells (L1.map fun b => Value.string ⟨b.toArray⟩).toArray 9)).alloc (.cells (L2.map fun b => Value.string ⟨b.toArray⟩).toArray 9) = W4 := ⟨_, rfl⟩
  have hz4 : W4.heap.size = w.heap.size + 4 := by rw [← hW4]; simp
  have hb4 : Below w.heap.size w W4 := by
    rw [← hW4]
    exact ((((Below.refl _ _).alloc (Nat.le_refl _) _).alloc (by simp) _).alloc (by simp; omega) _).alloc (by simp; omega) _
  have ca : ∀ i, W4.cell? ⟨w.heap.size, i, none⟩ = (#[.int .i64 k, .string t, .int .i64 l, .int .i64 c] : Array Value)[i]? := by
    intro i
    rw [← hW4, World.cell?_alloc_lt _ _ _ (by simp; omega), World.cell?_alloc_lt _ _ _ (by simp; omega), World.cell?_alloc_lt _ _ _ (by simp)]
    exact World.cell?_alloc_at _ _ _ _ rfl
  have cb : ∀ i, W4.cell? ⟨w.heap.size + 1, i, none⟩ = (#[.int .i64 k2, .string t2, .int .i64 l2, .int .i64 c2] : Array Value)[i]? := by
    intro i
    rw [← hW4, World.cell?_alloc_lt _ _ _ (by simp), World.cell?_alloc_lt _ _ _ (by simp)]
    exact World.cell?_alloc_at _ _ _ _ (by simp)
  have cs1 : ∀ i, W4.cell? ⟨w.heap.size + 1 + 1, i, none⟩ = ((L1.map fun b => Value.string ⟨b.toArray⟩).toArray)[i]? := by
    intro i
    rw [← hW4, World.cell?_alloc_lt _ _ _ (by simp)]
    exact World.cell?_alloc_at _ _ _ _ (by simp)
  have cs2 : ∀ i, W4.cell? ⟨w.heap.size + 1 + 1 + 1, i, none⟩ = ((L2.map fun b => Value.string ⟨b.toArray⟩).toArray)[i]? := by
    intro i
    rw [← hW4]
    exact World.cell?_alloc_at _ _ _ _ (by simp)
  have hB8 : Box8 W4 w.heap.size k l c t k2 l2 c2 t2 := ⟨ca 0, ca 1, ca 2, ca 3, cb 0, cb 1, cb 2, cb 3⟩
  have hC1 := scan_isSign k l c t L1 (w.heap.size + 1 + 1) 4 4 W4 rfl (by omega) (by omega) (strs_at cs1)
  have hC2 : ∀ W, Below W4.heap.size W4 W → Calls Tryz.prog 29 #[.agg #[.int .i64 k2, .string t2, .int .i64 l2, .int .i64 c2], .slice (some ⟨w.heap.size + 1 + 1 + 1, 0, none⟩) 5 5] W fun e w' => e = .returned (.bool (sgnL k2 t2.data.toList L2)) ∧ Below W.heap.size W w' := fun W hb =>
    scan_isSign k2 l2 c2 t2 L2 (w.heap.size + 1 + 1 + 1) 5 5 W rfl (by omega) (by have := hb.size; omega) (fun i x hx => (hb.cell (p := ⟨w.heap.size + 1 + 1 + 1, i, none⟩) (by show w.heap.size + 1 + 1 + 1 < _; omega)).trans (strs_at cs2 i x hx))
  have hC3 := fun W => isSign_new k l c t [[33]] (by simp) W 9 1 rfl
  have hC4 := fun W => isSign_new k2 l2 c2 t2 [[40], [33]] (by simp) W 9 2 rfl
  obtain ⟨e1, he1⟩ : ∃ e1, sgnL k t.data.toList L1 = e1 := ⟨_, rfl⟩
  obtain ⟨e2, he2⟩ : ∃ e2, sgnL k2 t2.data.toList L2 = e2 := ⟨_, rfl⟩
  obtain ⟨e3, he3⟩ : ∃ e3, sgnL k t.data.toList [[33]] = e3 := ⟨_, rfl⟩
  obtain ⟨e4, he4⟩ : ∃ e4, sgnL k2 t2.data.toList [[40], [33]] = e4 := ⟨_, rfl⟩
  rw [he1, he2, he3, he4] at hR
  rw [he1] at hC1
  simp only [he2] at hC2
  simp only [he3] at hC3
  simp only [he4] at hC4
  have HW := Lib.hid hW4
  have HB4 := Lib.hid hb4
  have HB8 := Lib.hid hB8
  have HC1 := Lib.hid hC1
  have HC2 := Lib.hid hC2
  have HC3 := Lib.hid hC3
  have HC4 := Lib.hid hC4
  have HR := Lib.hid hR
  have HZ4 := Lib.hid hz4
  obtain ⟨a0, a1, a2, a3, b0, b1, b2, b3⟩ := hB8
  have tok1 : True := trivial
  clear hW4 hb4 hC1 hC2 hC3 hC4 ca cb cs1 cs2 he1 he2 he3 he4 hz4 hR
  by_cases hk : k = 1
  · have q0 : ((k : Int) == 1) = true := beq_iff_eq.2 hk
    have hr : false = R := by have := HR.out; rw [if_pos (Or.inl hk)] at this; exact this
    have HR2 := Lib.hid hr
    clear hk HR hr
    go_enter Tryz.func18, Tryz.ntmps18
    go_wp2_with fail
    go_ret
    have h9 := HB4.out
    rw [← HW.out] at h9
    exact ⟨ret_bool HR2.out, h9⟩
  have q0 : ((k : Int) == 1) = false := beq_eq_false_iff_ne.2 hk
  by_cases hk2 : k2 = 1
  · have q1 : ((k2 : Int) == 1) = true := beq_iff_eq.2 hk2
    have hr : false = R := by have := HR.out; rw [if_pos (Or.inr hk2)] at this; exact this
    have HR2 := Lib.hid hr
    clear hk hk2 HR hr
    go_enter Tryz.func18, Tryz.ntmps18
    go_wp2_with fail
    go_ret
    have h9 := HB4.out
    rw [← HW.out] at h9
    exact ⟨ret_bool HR2.out, h9⟩
  have q1 : ((k2 : Int) == 1) = false := beq_eq_false_iff_ne.2 hk2
  have hR := HR.out
  rw [if_neg (by rintro (h | h); exact hk h; exact hk2 h)] at hR
  clear HR
  cases e1 with
  | true =>
    rw [if_pos rfl] at hR
    have HR2 := Lib.hid hR
    clear hk hk2 hR
    go_enter Tryz.func18, Tryz.ntmps18
    go_wp2_with (first
      | (have _t := tok1; go_at_call 29; (have HX := HC1.out; rw [← HW.out] at HX; refine HX.mono ?_; rw [HW.out]; clear HX tok1 _t; rintro e w5 ⟨rfl, hb5⟩; have h8 := HB8.out.below hb5 (by have := HZ4.out; omega); have HB8' := Lib.hid h8; obtain ⟨a0, a1, a2, a3, b0, b1, b2, b3⟩ := h8; have tok2 : True := trivial))
      | (have _t := tok2; go_at_call 29; refine (HC2.out _ hb5).mono ?_; clear tok2 _t; rintro e w6 ⟨rfl, hb6⟩; have h8 := HB8'.out.below hb6 (by have := HZ4.out; have := hb5.size; omega); have HB8'' := Lib.hid h8; obtain ⟨a0, a1, a2, a3, b0, b1, b2, b3⟩ := h8; have tok3 : True := trivial)
      | (have _t := tok3; go_at_call 29; refine (HC3.out _).mono ?_; clear tok3 _t; rintro e w7 ⟨rfl, hb7⟩; have h8 := HB8''.out.below hb7 (by have := HZ4.out; have := hb5.size; have := hb6.size; omega); obtain ⟨a0, a1, a2, a3, b0, b1, b2, b3⟩ := h8; have tok4 : True := trivial)
      | (have _t := tok4; go_at_call 29; refine (HC4.out _).mono ?_; clear tok4 _t; rintro e w8 ⟨rfl, hb8⟩))
    go_ret
    exact ⟨ret_bool HR2.out, HB4.out.trans (hb5.mono HB4.out.size)⟩
  | false =>
    rw [if_neg (by simp)] at hR
    cases e2 with
    | true =>
      rw [if_pos rfl] at hR
      have HR2 := Lib.hid hR
      clear hk hk2 hR
      go_enter Tryz.func18, Tryz.ntmps18
      go_wp2_with (first
        | (have _t := tok1; go_at_call 29; (have HX := HC1.out; rw [← HW.out] at HX; refine HX.mono ?_; rw [HW.out]; clear HX tok1 _t; rintro e w5 ⟨rfl, hb5⟩; have h8 := HB8.out.below hb5 (by have := HZ4.out; omega); have HB8' := Lib.hid h8; obtain ⟨a0, a1, a2, a3, b0, b1, b2, b3⟩ := h8; have tok2 : True := trivial))
        | (have _t := tok2; go_at_call 29; refine (HC2.out _ hb5).mono ?_; clear tok2 _t; rintro e w6 ⟨rfl, hb6⟩; have h8 := HB8'.out.below hb6 (by have := HZ4.out; have := hb5.size; omega); have HB8'' := Lib.hid h8; obtain ⟨a0, a1, a2, a3, b0, b1, b2, b3⟩ := h8; have tok3 : True := trivial)
        | (have _t := tok3; go_at_call 29; refine (HC3.out _).mono ?_; clear tok3 _t; rintro e w7 ⟨rfl, hb7⟩; have h8 := HB8''.out.below hb7 (by have := HZ4.out; have := hb5.size; have := hb6.size; omega); obtain ⟨a0, a1, a2, a3, b0, b1, b2, b3⟩ := h8; have tok4 : True := trivial)
        | (have _t := tok4; go_at_call 29; refine (HC4.out _).mono ?_; clear tok4 _t; rintro e w8 ⟨rfl, hb8⟩))
      go_ret
      exact ⟨ret_bool HR2.out, (HB4.out.trans (hb5.mono HB4.out.size)).trans (hb6.mono (by have := hb5.size; have := HB4.out.size; omega))⟩
    | false =>
      rw [if_neg (by simp)] at hR
      cases e3 with
      | false =>
        have HR2 := Lib.hid hR
        clear hk hk2 hR
        go_enter Tryz.func18, Tryz.ntmps18
        go_wp2_with (first
          | (have _t := tok1; go_at_call 29; (have HX := HC1.out; rw [← HW.out] at HX; refine HX.mono ?_; rw [HW.out]; clear HX tok1 _t; rintro e w5 ⟨rfl, hb5⟩; have h8 := HB8.out.below hb5 (by have := HZ4.out; omega); have HB8' := Lib.hid h8; obtain ⟨a0, a1, a2, a3, b0, b1, b2, b3⟩ := h8; have tok2 : True := trivial))
          | (have _t := tok2; go_at_call 29; refine (HC2.out _ hb5).mono ?_; clear tok2 _t; rintro e w6 ⟨rfl, hb6⟩; have h8 := HB8'.out.below hb6 (by have := HZ4.out; have := hb5.size; omega); have HB8'' := Lib.hid h8; obtain ⟨a0, a1, a2, a3, b0, b1, b2, b3⟩ := h8; have tok3 : True := trivial)
          | (have _t := tok3; go_at_call 29; refine (HC3.out _).mono ?_; clear tok3 _t; rintro e w7 ⟨rfl, hb7⟩; have h8 := HB8''.out.below hb7 (by have := HZ4.out; have := hb5.size; have := hb6.size; omega); obtain ⟨a0, a1, a2, a3, b0, b1, b2, b3⟩ := h8; have tok4 : True := trivial)
          | (have _t := tok4; go_at_call 29; refine (HC4.out _).mono ?_; clear tok4 _t; rintro e w8 ⟨rfl, hb8⟩))
        go_ret
        exact ⟨ret_bool HR2.out, ((HB4.out.trans (hb5.mono HB4.out.size)).trans (hb6.mono (by have := hb5.size; have := HB4.out.size; omega))).trans (hb7.mono (by have := hb6.size; have := hb5.size; have := HB4.out.size; omega))⟩
      | true =>
        by_cases h22 : k2 = 2
        · have q2 : ((k2 : Int) == 2) = true := beq_iff_eq.2 h22
          rw [q2] at hR
          have HR2 := Lib.hid hR
          clear hk hk2 hR h22
          go_enter Tryz.func18, Tryz.ntmps18
          go_wp2_with (first
            | (have _t := tok1; go_at_call 29; (have HX := HC1.out; rw [← HW.out] at HX; refine HX.mono ?_; rw [HW.out]; clear HX tok1 _t; rintro e w5 ⟨rfl, hb5⟩; have h8 := HB8.out.below hb5 (by have := HZ4.out; omega); have HB8' := Lib.hid h8; obtain ⟨a0, a1, a2, a3, b0, b1, b2, b3⟩ := h8; have tok2 : True := trivial))
            | (have _t := tok2; go_at_call 29; refine (HC2.out _ hb5).mono ?_; clear tok2 _t; rintro e w6 ⟨rfl, hb6⟩; have h8 := HB8'.out.below hb6 (by have := HZ4.out; have := hb5.size; omega); have HB8'' := Lib.hid h8; obtain ⟨a0, a1, a2, a3, b0, b1, b2, b3⟩ := h8; have tok3 : True := trivial)
            | (have _t := tok3; go_at_call 29; refine (HC3.out _).mono ?_; clear tok3 _t; rintro e w7 ⟨rfl, hb7⟩; have h8 := HB8''.out.below hb7 (by have := HZ4.out; have := hb5.size; have := hb6.size; omega); obtain ⟨a0, a1, a2, a3, b0, b1, b2, b3⟩ := h8; have tok4 : True := trivial)
            | (have _t := tok4; go_at_call 29; refine (HC4.out _).mono ?_; clear tok4 _t; rintro e w8 ⟨rfl, hb8⟩))
          go_ret
          exact ⟨ret_bool HR2.out, ((HB4.out.trans (hb5.mono HB4.out.size)).trans (hb6.mono (by have := hb5.size; have := HB4.out.size; omega))).trans (hb7.mono (by have := hb6.size; have := hb5.size; have := HB4.out.size; omega))⟩
        · have q2 : ((k2 : Int) == 2) = false := beq_eq_false_iff_ne.2 h22
          rw [q2] at hR
          have HR2 := Lib.hid hR
          clear hk hk2 hR h22
          cases e4 with
          | true =>
            go_enter Tryz.func18, Tryz.ntmps18
            go_wp2_with (first
              | (have _t := tok1; go_at_call 29; (have HX := HC1.out; rw [← HW.out] at HX; refine HX.mono ?_; rw [HW.out]; clear HX tok1 _t; rintro e w5 ⟨rfl, hb5⟩; have h8 := HB8.out.below hb5 (by have := HZ4.out; omega); have HB8' := Lib.hid h8; obtain ⟨a0, a1, a2, a3, b0, b1, b2, b3⟩ := h8; have tok2 : True := trivial))
              | (have _t := tok2; go_at_call 29; refine (HC2.out _ hb5).mono ?_; clear tok2 _t; rintro e w6 ⟨rfl, hb6⟩; have h8 := HB8'.out.below hb6 (by have := HZ4.out; have := hb5.size; omega); have HB8'' := Lib.hid h8; obtain ⟨a0, a1, a2, a3, b0, b1, b2, b3⟩ := h8; have tok3 : True := trivial)
              | (have _t := tok3; go_at_call 29; refine (HC3.out _).mono ?_; clear tok3 _t; rintro e w7 ⟨rfl, hb7⟩; have h8 := HB8''.out.below hb7 (by have := HZ4.out; have := hb5.size; have := hb6.size; omega); obtain ⟨a0, a1, a2, a3, b0, b1, b2, b3⟩ := h8; have tok4 : True := trivial)
              | (have _t := tok4; go_at_call 29; refine (HC4.out _).mono ?_; clear tok4 _t; rintro e w8 ⟨rfl, hb8⟩))
            go_ret
            exact ⟨ret_bool HR2.out, (((HB4.out.trans (hb5.mono HB4.out.size)).trans (hb6.mono (by have := hb5.size; have := HB4.out.size; omega))).trans (hb7.mono (by have := hb6.size; have := hb5.size; have := HB4.out.size; omega))).trans (hb8.mono (by have := hb7.size; have := hb6.size; have := hb5.size; have := HB4.out.size; omega))⟩
          | false =>
            go_enter Tryz.func18, Tryz.ntmps18
            go_wp2_with (first
              | (have _t := tok1; go_at_call 29; (have HX := HC1.out; rw [← HW.out] at HX; refine HX.mono ?_; rw [HW.out]; clear HX tok1 _t; rintro e w5 ⟨rfl, hb5⟩; have h8 := HB8.out.below hb5 (by have := HZ4.out; omega); have HB8' := Lib.hid h8; obtain ⟨a0, a1, a2, a3, b0, b1, b2, b3⟩ := h8; have tok2 : True := trivial))
              | (have _t := tok2; go_at_call 29; refine (HC2.out _ hb5).mono ?_; clear tok2 _t; rintro e w6 ⟨rfl, hb6⟩; have h8 := HB8'.out.below hb6 (by have := HZ4.out; have := hb5.size; omega); have HB8'' := Lib.hid h8; obtain ⟨a0, a1, a2, a3, b0, b1, b2, b3⟩ := h8; have tok3 : True := trivial)
              | (have _t := tok3; go_at_call 29; refine (HC3.out _).mono ?_; clear tok3 _t; rintro e w7 ⟨rfl, hb7⟩; have h8 := HB8''.out.below hb7 (by have := HZ4.out; have := hb5.size; have := hb6.size; omega); obtain ⟨a0, a1, a2, a3, b0, b1, b2, b3⟩ := h8; have tok4 : True := trivial)
              | (have _t := tok4; go_at_call 29; refine (HC4.out _).mono ?_; clear tok4 _t; rintro e w8 ⟨rfl, hb8⟩))
            go_ret
            exact ⟨ret_bool HR2.out, (((HB4.out.trans (hb5.mono HB4.out.size)).trans (hb6.mono (by have := hb5.size; have := HB4.out.size; omega))).trans (hb7.mono (by have := hb6.size; have := hb5.size; have := HB4.out.size; omega))).trans (hb8.mono (by have := hb7.size; have := hb6.size; have := hb5.size; have := HB4.out.size; omega))⟩
end Go.Proofs.YtjedoipbllcfdaaGreatDoor
