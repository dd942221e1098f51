/-
  THE WALK of the reader's method put (chapter 5).
-/
import Derived.Test.YtdmpapoabeljfaaGreatDoorEe
set_option linter.unusedVariables false
set_option linter.unusedSimpArgs false
set_option maxRecDepth 100000
set_option maxHeartbeats 4000000
namespace Go.Proofs.YtdmpapoabeljfaaGreatDoor
open Go.RowKit

theorem ba_eta (f : ByteArray) : (⟨f.data.toList.toArray⟩ : ByteArray) = f := by
  cases f
  simp

theorem expr_put (W0 : World) (N : Nat) (A : Option Addr) (n cap p m op : Nat) (ns : List Sp.Nd) (w : World) (hM : RSt W0 N A n cap p m op ns w) (hn : ns.length ≤ 100000) (k : Int) (f : ByteArray) (o fm lo hi ln : Int) (pt : ByteArray) :
    Calls Tryz.prog 32 #[.pointer (some ⟨N, 0, none⟩), .int .i64 k, .agg #[.string f, .int .i64 o, .int .i64 fm, .int .i64 lo, .int .i64 hi, .int .i64 ln, .string pt]] w fun e w' => e = .returned (.bool true) ∧ RSt W0 N A n cap p m op (ns ++ [{ kind := k, field := f.data.toList, op := o, form := fm, lo := lo, hi := hi, len := ln, pat := pt.data.toList }]) w' := by
  obtain ⟨tv, hm, ht, hb⟩ := hM
  have hNw := hm.lt
  obtain ⟨W1, hW1⟩ : ∃ W1, w.alloc (.cells #[.string f, .int .i64 o, .int .i64 fm, .int .i64 lo, .int .i64 hi, .int .i64 ln, .string pt] 54) = W1 := ⟨_, rfl⟩
  have hz1 : W1.heap.size = w.heap.size + 1 := by rw [← hW1]; simp
  have bt : ∀ j, W1.cell? ⟨w.heap.size, j, none⟩ = (#[.string f, .int .i64 o, .int .i64 fm, .int .i64 lo, .int .i64 hi, .int .i64 ln, .string pt] : Array Value)[j]? := fun j => by rw [← hW1]; exact World.cell?_alloc_at _ _ _ _ rfl
  have hm1 : Rdr W1 N A n cap p tv m op 0 := by rw [← hW1]; exact hm.alloc _
  have ht1 : Nds W1 (N + 1) tv ns := by rw [← hW1]; exact World.ownsRow.alloc ht _
  have hb1 : Below N W0 W1 := by rw [← hW1]; exact hb.alloc (by omega) _
  obtain ⟨M, hMe⟩ : ∃ M, w.heap.size = M := ⟨_, rfl⟩
  rw [hMe] at bt hz1
  have t0 : W1.cell? ⟨M, 0, none⟩ = some (.string f) := bt 0
  have t1 : W1.cell? ⟨M, 1, none⟩ = some (.int .i64 o) := bt 1
  have t2 : W1.cell? ⟨M, 2, none⟩ = some (.int .i64 fm) := bt 2
  have t3 : W1.cell? ⟨M, 3, none⟩ = some (.int .i64 lo) := bt 3
  have t4 : W1.cell? ⟨M, 4, none⟩ = some (.int .i64 hi) := bt 4
  have t5 : W1.cell? ⟨M, 5, none⟩ = some (.int .i64 ln) := bt 5
  have t6 : W1.cell? ⟨M, 6, none⟩ = some (.string pt) := bt 6
  have c2 : W1.cell? ⟨N, 2, none⟩ = some tv := hm1.cell 2
  have f2 := hm1.frozen 2
  have hNw1 := hm1.lt
  have hMw1 : M < W1.heap.size := by omega
  obtain ⟨i0, hi0, hz0, hz4, hz2⟩ := info_parts ninfo
  have hne := nds_ne ht1
  have hneM : tv.ownBlock ≠ some M := by
    intro e
    have := (World.ownsRow.lt ht M e).2
    omega
  have hS0 : W1.cell? ⟨N, 2, none⟩ = some tv ∧ W1.cell? ⟨M, 0, none⟩ = some (.string f) ∧ W1.cell? ⟨M, 1, none⟩ = some (.int .i64 o) ∧ W1.cell? ⟨M, 2, none⟩ = some (.int .i64 fm) ∧ W1.cell? ⟨M, 3, none⟩ = some (.int .i64 lo) ∧ W1.cell? ⟨M, 4, none⟩ = some (.int .i64 hi) ∧ W1.cell? ⟨M, 5, none⟩ = some (.int .i64 ln) ∧ W1.cell? ⟨M, 6, none⟩ = some (.string pt) := ⟨c2, t0, t1, t2, t3, t4, t5, t6⟩
  have hFA : ∀ o, (W1.alloc o).frozen? ⟨N, 2, none⟩ = false := fun o => (World.frozen?_alloc_past _ _ _ hNw1).trans f2
  have hCA : ∀ x, (W1.alloc x).cell? ⟨N, 2, none⟩ = some tv ∧ (W1.alloc x).cell? ⟨M, 0, none⟩ = some (.string f) ∧ (W1.alloc x).cell? ⟨M, 1, none⟩ = some (.int .i64 o) ∧ (W1.alloc x).cell? ⟨M, 2, none⟩ = some (.int .i64 fm) ∧ (W1.alloc x).cell? ⟨M, 3, none⟩ = some (.int .i64 lo) ∧ (W1.alloc x).cell? ⟨M, 4, none⟩ = some (.int .i64 hi) ∧ (W1.alloc x).cell? ⟨M, 5, none⟩ = some (.int .i64 ln) ∧ (W1.alloc x).cell? ⟨M, 6, none⟩ = some (.string pt) := fun x =>
    ⟨(World.cell?_alloc_lt W1 x ⟨N, 2, none⟩ hNw1).trans c2, (World.cell?_alloc_lt W1 x ⟨M, 0, none⟩ hMw1).trans t0, (World.cell?_alloc_lt W1 x ⟨M, 1, none⟩ hMw1).trans t1, (World.cell?_alloc_lt W1 x ⟨M, 2, none⟩ hMw1).trans t2, (World.cell?_alloc_lt W1 x ⟨M, 3, none⟩ hMw1).trans t3, (World.cell?_alloc_lt W1 x ⟨M, 4, none⟩ hMw1).trans t4, (World.cell?_alloc_lt W1 x ⟨M, 5, none⟩ hMw1).trans t5, (World.cell?_alloc_lt W1 x ⟨M, 6, none⟩ hMw1).trans t6⟩
  have HFA := Lib.hid hFA
  have HCA := Lib.hid hCA
  have HTOK : Hid (ndCell { kind := k, field := f.data.toList, op := o, form := fm, lo := lo, hi := hi, len := ln, pat := pt.data.toList } = [.int .i64 k, .string f, .int .i64 o, .int .i64 fm, .int .i64 lo, .int .i64 hi, .int .i64 ln, .string pt]) := by
    show _ = _
    unfold ndCell
    simp only [ba_eta]
  have HW := Lib.hid hW1
  have HME := Lib.hid hMe
  have HM := Lib.hid hm1
  have HT := Lib.hid ht1
  have HB := Lib.hid hb1
  have HS0 := Lib.hid hS0
  clear hFA hCA t0 t1 t2 t3 t4 t5 t6 c2 bt hm ht hb hW1 hMe hz1 hS0
  go_enter Tryz.func32, Tryz.ntmps32
  go_wp2
  rw [HW.out, HME.out]
  have hS0 := HS0.out
  refine wp_region_K 12 (fun w' => w'.cell? ⟨N, 2, none⟩ = some tv ∧ w'.cell? ⟨M, 0, none⟩ = some (.string f) ∧ w'.cell? ⟨M, 1, none⟩ = some (.int .i64 o) ∧ w'.cell? ⟨M, 2, none⟩ = some (.int .i64 fm) ∧ w'.cell? ⟨M, 3, none⟩ = some (.int .i64 lo) ∧ w'.cell? ⟨M, 4, none⟩ = some (.int .i64 hi) ∧ w'.cell? ⟨M, 5, none⟩ = some (.int .i64 ln) ∧ w'.cell? ⟨M, 6, none⟩ = some (.string pt)) (by kernel_rfl) (fun hcl => ?_)
  have hS : (fun w' : World => w'.cell? ⟨N, 2, none⟩ = some tv ∧ w'.cell? ⟨M, 0, none⟩ = some (.string f) ∧ w'.cell? ⟨M, 1, none⟩ = some (.int .i64 o) ∧ w'.cell? ⟨M, 2, none⟩ = some (.int .i64 fm) ∧ w'.cell? ⟨M, 3, none⟩ = some (.int .i64 lo) ∧ w'.cell? ⟨M, 4, none⟩ = some (.int .i64 hi) ∧ w'.cell? ⟨M, 5, none⟩ = some (.int .i64 ln) ∧ w'.cell? ⟨M, 6, none⟩ = some (.string pt)) W1.drew := hS0
  refine wpAnyK_take (i := 0) (v := ?_) hcl hS rfl (by kernel_rfl) (fun _ _ _ h => h) (by rfl) ?_ (fun hcl2 => ?_)
  rotate_left
  · (intro w hSw; (try dsimp only at hSw); first | (go_simp; done) | (go_simp; with_reducible rfl))
  (try simp only [Act.put, List.setIfInBounds_toArray, List.set_cons_zero, List.set_cons_succ])
  clear hcl; have hcl := hcl2; clear hcl2
  refine wpAnyK_take (i := 1) (v := ?_) hcl hS rfl (by kernel_rfl) (fun _ _ _ h => h) (by rfl) ?_ (fun hcl2 => ?_)
  rotate_left
  · (intro w hSw; (try dsimp only at hSw); first | (go_simp; done) | (go_simp; with_reducible rfl))
  (try simp only [Act.put, List.setIfInBounds_toArray, List.set_cons_zero, List.set_cons_succ])
  clear hcl; have hcl := hcl2; clear hcl2
  refine wpAnyK_take (i := 2) (v := ?_) hcl hS rfl (by kernel_rfl) (fun _ _ _ h => h) (by rfl) ?_ (fun hcl2 => ?_)
  rotate_left
  · (intro w hSw; (try dsimp only at hSw); first | (go_simp; done) | (go_simp; with_reducible rfl))
  (try simp only [Act.put, List.setIfInBounds_toArray, List.set_cons_zero, List.set_cons_succ])
  clear hcl; have hcl := hcl2; clear hcl2
  refine wpAnyK_take (i := 3) (v := ?_) hcl hS rfl (by kernel_rfl) (fun _ _ _ h => h) (by rfl) ?_ (fun hcl2 => ?_)
  rotate_left
  · (intro w hSw; (try dsimp only at hSw); first | (go_simp; done) | (go_simp; with_reducible rfl))
  (try simp only [Act.put, List.setIfInBounds_toArray, List.set_cons_zero, List.set_cons_succ])
  clear hcl; have hcl := hcl2; clear hcl2
  refine wpAnyK_take (i := 4) (v := ?_) hcl hS rfl (by kernel_rfl) (fun _ _ _ h => h) (by rfl) ?_ (fun hcl2 => ?_)
  rotate_left
  · (intro w hSw; (try dsimp only at hSw); first | (go_simp; done) | (go_simp; with_reducible rfl))
  (try simp only [Act.put, List.setIfInBounds_toArray, List.set_cons_zero, List.set_cons_succ])
  clear hcl; have hcl := hcl2; clear hcl2
  refine wpAnyK_take (i := 5) (v := ?_) hcl hS rfl (by kernel_rfl) (fun _ _ _ h => h) (by rfl) ?_ (fun hcl2 => ?_)
  rotate_left
  · (intro w hSw; (try dsimp only at hSw); first | (go_simp; done) | (go_simp; with_reducible rfl))
  (try simp only [Act.put, List.setIfInBounds_toArray, List.set_cons_zero, List.set_cons_succ])
  clear hcl; have hcl := hcl2; clear hcl2
  refine wpAnyK_take (i := 6) (v := ?_) hcl hS rfl (by kernel_rfl) (fun _ _ _ h => h) (by rfl) ?_ (fun hcl2 => ?_)
  rotate_left
  · (intro w hSw; (try dsimp only at hSw); first | (go_simp; done) | (go_simp; with_reducible rfl))
  (try simp only [Act.put, List.setIfInBounds_toArray, List.set_cons_zero, List.set_cons_succ])
  clear hcl; have hcl := hcl2; clear hcl2
  refine wpAnyK_take (i := 7) (v := ?_) hcl hS rfl (by kernel_rfl) (fun _ _ _ h => h) (by rfl) ?_ (fun hcl2 => ?_)
  rotate_left
  · (intro w hSw; (try dsimp only at hSw); first | (go_simp; done) | (go_simp; with_reducible rfl))
  (try simp only [Act.put, List.setIfInBounds_toArray, List.set_cons_zero, List.set_cons_succ])
  clear hcl; have hcl := hcl2; clear hcl2
  refine wpAnyK_one (i := 8) hcl (by kernel_rfl) rfl (by rfl) (fun K hK => ?_)
  go_simp
  refine hK.out _ _ (Or.inr (HCA.out _)) (fun hcl2 => ?_)
  clear hK K hcl hS
  have hcl := hcl2
  clear hcl2
  refine wpAnyK_one (i := 9) hcl (by kernel_rfl) rfl (by rfl) (fun K hK => ?_)
  refine wp_append_lies _ _ _ _ (by rfl) (N + 1) 56 i0 _ 8 80 Tryz.underlying25 hi0 hz0 hz4 hz2 rfl (by omega) tv ns.length (ndCells ns) (by rfl) ((HT.out.alloc _).drew) ⟨W1.heap.size, 0, none⟩ 1 1 [.int .i64 k, .string f, .int .i64 o, .int .i64 fm, .int .i64 lo, .int .i64 hi, .int .i64 ln, .string pt] (by rfl) (by rfl) (World.news_of_block (cs := #[.int .i64 k, .string f, .int .i64 o, .int .i64 fm, .int .i64 lo, .int .i64 hi, .int .i64 ln, .string pt]) (t := 56) (fr := (0, 0)) (heap_alloc_new W1 _)) (by simp [Value.oneCell']) (by omega) (by unfold maxLen; omega) (by omega) (by simp; omega) (W1.heap.size + 1) (by simp) ?_
  intro gg cp w1 hown1 hgrow hat hlt
  have f2' : w1.frozen? ⟨N, 2, none⟩ = false := (hgrow.frozen_far ⟨N, 2, none⟩ (by simp; omega) (Ne.symm hne)).trans (HFA.out _)
  have far : ∀ j, w1.cell? ⟨M, j, none⟩ = _ := fun j => hgrow.cell_far ⟨M, j, none⟩ (by simp; omega) (Ne.symm hneM)
  have hS1 : w1.cell? ⟨N, 2, none⟩ = some tv ∧ w1.cell? ⟨M, 0, none⟩ = some (.string f) ∧ w1.cell? ⟨M, 1, none⟩ = some (.int .i64 o) ∧ w1.cell? ⟨M, 2, none⟩ = some (.int .i64 fm) ∧ w1.cell? ⟨M, 3, none⟩ = some (.int .i64 lo) ∧ w1.cell? ⟨M, 4, none⟩ = some (.int .i64 hi) ∧ w1.cell? ⟨M, 5, none⟩ = some (.int .i64 ln) ∧ w1.cell? ⟨M, 6, none⟩ = some (.string pt) :=
    ⟨(hgrow.cell_far ⟨N, 2, none⟩ (by simp; omega) (Ne.symm hne)).trans (HCA.out _).1, (far 0).trans (HCA.out _).2.1, (far 1).trans (HCA.out _).2.2.1, (far 2).trans (HCA.out _).2.2.2.1, (far 3).trans (HCA.out _).2.2.2.2.1, (far 4).trans (HCA.out _).2.2.2.2.2.1, (far 5).trans (HCA.out _).2.2.2.2.2.2.1, (far 6).trans (HCA.out _).2.2.2.2.2.2.2⟩
  have c2' := hS1.1
  refine hK.out _ _ (Or.inr hS1) (fun hcl2 => ?_)
  clear hK K hcl far
  have hcl := hcl2
  clear hcl2
  have hS : (fun w' : World => w'.cell? ⟨N, 2, none⟩ = some tv ∧ w'.cell? ⟨M, 0, none⟩ = some (.string f) ∧ w'.cell? ⟨M, 1, none⟩ = some (.int .i64 o) ∧ w'.cell? ⟨M, 2, none⟩ = some (.int .i64 fm) ∧ w'.cell? ⟨M, 3, none⟩ = some (.int .i64 lo) ∧ w'.cell? ⟨M, 4, none⟩ = some (.int .i64 hi) ∧ w'.cell? ⟨M, 5, none⟩ = some (.int .i64 ln) ∧ w'.cell? ⟨M, 6, none⟩ = some (.string pt)) w1 := hS1
  (try simp only [Act.put, List.setIfInBounds_toArray, List.set_cons_zero, List.set_cons_succ])
  refine wpAnyK_take (i := 10) (v := ?_) hcl hS rfl (by kernel_rfl) (fun _ _ _ h => h) (by rfl) ?_ (fun hcl2 => ?_)
  rotate_left
  · (intro w hSw; (try dsimp only at hSw); first | (go_simp; done) | (go_simp; with_reducible rfl))
  (try simp only [Act.put, List.setIfInBounds_toArray, List.set_cons_zero, List.set_cons_succ])
  clear hcl; have hcl := hcl2; clear hcl2
  refine wpAnyK_take (i := 11) (v := ?_) hcl hS rfl (by kernel_rfl) (fun _ _ _ h => h) (by rfl) ?_ (fun hcl2 => ?_)
  rotate_left
  · (intro w hSw; (try dsimp only at hSw); first | (go_simp; done) | (go_simp; with_reducible rfl))
  (try simp only [Act.put, List.setIfInBounds_toArray, List.set_cons_zero, List.set_cons_succ])
  clear hcl; have hcl := hcl2; clear hcl2
  clear hS1 hS0
  refine wpAnyK_one (i := 12) hcl (by kernel_rfl) rfl (by rfl) (fun K hK => ?_)
  go_simp
  refine hK.out _ _ (Or.inl (by kernel_rfl)) (fun hcl2 => ?_)
  clear hK K hcl hcl2 hS
  refine wpAnyK_done (by kernel_rfl) ?_ _
  have hm1 : Rdr w1 N A n cap p tv m op 0 := ((HM.out.alloc _).drewN 1).grown hgrow (Ne.symm hne)
  have hm2 : Rdr _ N A n cap p _ m op 0 := hm1.set_ 2 (.slice (some ⟨gg, 0, none⟩) (ns.length + 1) cp)
  have ht2 : Nds (w1.setCell ⟨N, 2, none⟩ (.slice (some ⟨gg, 0, none⟩) (ns.length + 1) cp)) (N + 1) (.slice (some ⟨gg, 0, none⟩) (ns.length + 1) cp) (ns ++ [{ kind := k, field := f.data.toList, op := o, form := fm, lo := lo, hi := hi, len := ln, pat := pt.data.toList }]) := by
    unfold Nds
    rw [List.length_append, List.length_singleton, ndCells_append, ndCells_one, HTOK.out]
    exact ownsRow_setCell_below hown1 (a := ⟨N, 2, none⟩) (Nat.lt_succ_self N) (.slice (some ⟨gg, 0, none⟩) (ns.length + 1) cp)
  have hb2 := (Below.grown ((HB.out.alloc (by omega) (.cells #[.int .i64 k, .string f, .int .i64 o, .int .i64 fm, .int .i64 lo, .int .i64 hi, .int .i64 ln, .string pt] 56)).drew) hgrow (by simp; omega) (fun g e => by have := (World.ownsRow.lt HT.out g e).1; omega)).setCell (p := ⟨N, 2, none⟩) (Nat.le_refl _) (.slice (some ⟨gg, 0, none⟩) (ns.length + 1) cp)
  have hfin : RSt W0 N A n cap p m op (ns ++ [{ kind := k, field := f.data.toList, op := o, form := fm, lo := lo, hi := hi, len := ln, pat := pt.data.toList }]) (w1.setCell ⟨N, 2, none⟩ (.slice (some ⟨gg, 0, none⟩) (ns.length + 1) cp)) := ⟨_, hm2, ht2, hb2⟩
  obtain ⟨w2, hw2⟩ : ∃ w2, w1.setCell ⟨N, 2, none⟩ (.slice (some ⟨gg, 0, none⟩) (ns.length + 1) cp) = w2 := ⟨_, rfl⟩
  rw [hw2] at hfin ⊢
  have HF := Lib.hid hfin
  clear hw2 hown1 hgrow hat hlt hm1 c2' f2' f2 hm2 ht2 hb2 hfin
  go_wp2_with fail
  go_ret
  exact ⟨rfl, HF.out⟩
end Go.Proofs.YtdmpapoabeljfaaGreatDoor
