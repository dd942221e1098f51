/-
  Tokens in memory; THE WALKS of the machine's methods endLine and put (chapter 3).
-/
import Derived.Test.YtjedoipbllcfdaaDoorTa
import Derived.Test.YtjedoipbllcfdaaDoorRk
set_option linter.unusedVariables false
set_option linter.unusedSimpArgs false
set_option maxRecDepth 100000
set_option maxHeartbeats 2000000
namespace Go.Proofs.YtjedoipbllcfdaaDoor
open Go.RowKit

def tokCell (t : Sp.Tok) : List Value := [.int .i64 (t.1 : Nat), .string ⟨t.2.1.toArray⟩, .int .i64 (t.2.2.1 : Nat), .int .i64 (t.2.2.2 : Nat)]
def tokCells (ts : List Sp.Tok) : List Value := ts.flatMap tokCell
theorem tokCells_append (a b : List Sp.Tok) : tokCells (a ++ b) = tokCells a ++ tokCells b := List.flatMap_append
theorem tokCells_one (t : Sp.Tok) : tokCells [t] = tokCell t := by simp [tokCells]
theorem tinfo : (Tryd.prog.info? 41).map (fun i => (i.zero, i.size, i.bytes)) = some (some (.agg #[.int .i64 0, .string ⟨#[]⟩, .int .i64 0, .int .i64 0]), 4, 40) := by kernel_rfl
/-- A slice of the call's own that holds these tokens. -/
def Toks (w : World) (B : Nat) (v : Value) (ts : List Sp.Tok) : Prop := w.ownsRow B 41 4 v ts.length (tokCells ts)

/-- The machine at block N, its tokens in memory of its own; below N all is as it was. -/
def MSt (W0 : World) (N : Nat) (s : ByteArray) (p line col : Nat) (op : Bool) (acc : List Sp.Tok) (w : World) : Prop :=
  ∃ tv, Mach w N s p line col op tv ∧ Toks w (N + 1) tv acc ∧ Below N W0 w

theorem toks_ne {w : World} {N : Nat} {tv : Value} {ts : List Sp.Tok} (h : Toks w (N + 1) tv ts) : tv.ownBlock ≠ some N := by
  intro e
  have := (World.ownsRow.lt h N e).1
  omega
theorem toks_grown {w w' : World} {N : Nat} {tv : Value} {ts : List Sp.Tok} (h : Toks w (N + 1) tv ts) (hg : w.grownBy w' (some N)) : Toks w' (N + 1) tv ts :=
  World.ownsRow.kept h hg (Or.inr (toks_ne h))
theorem below_only {W0 w w' : World} {N : Nat} (h : Below N W0 w) (hN : N ≤ w.heap.size) {row : Option Nat} (hg : w.grownBy w' row) (hr : ∀ g, row = some g → N ≤ g) : Below N W0 w' :=
  h.grown hg hN hr

theorem mst_forward (W0 : World) (s : ByteArray) (N p line col : Nat) (n : Nat) (op : Bool) (acc : List Sp.Tok) (w : World) (hM : MSt W0 N s p line col op acc w) (hs : s.size ≤ 1073741824) (hpn : p + n ≤ s.size) (hcol : col ≤ 1073741824) :
    Calls Tryd.prog 53 #[.pointer (some ⟨N, 0, none⟩), .int .i64 n] w fun e w' => e = .returned (.tuple #[]) ∧ MSt W0 N s (p + n) line (col + Sp.chars ((s.data.toList.drop p).take n)) op acc w' := by
  obtain ⟨tv, hm, ht, hb⟩ := hM
  refine (mach_forward s N p n line col op tv w hm hs hpn hcol).mono ?_
  rintro e w' ⟨rfl, h1, h2⟩
  exact ⟨rfl, tv, h1, toks_grown ht h2, below_only hb (by have := hm.lt; omega) h2 (fun g e => by injection e with e; omega)⟩

theorem mst_endLine_no (W0 : World) (s : ByteArray) (N p line col : Nat) (acc : List Sp.Tok) (w : World) (hM : MSt W0 N s p line col false acc w) (hp : p ≤ 1073741824) (hl : line ≤ 1073741824) :
    Calls Tryd.prog 55 #[.pointer (some ⟨N, 0, none⟩)] w fun e w' => e = .returned (.tuple #[]) ∧ MSt W0 N s (p + 1) (line + 1) 1 false acc w' := by
  obtain ⟨tv, hm, ht, hb⟩ := hM
  have c1 : w.cell? ⟨N, 1, none⟩ = some (.int .i64 p) := hm.cell 1
  have c2 : w.cell? ⟨N, 2, none⟩ = some (.int .i64 line) := hm.cell 2
  have c3 : w.cell? ⟨N, 3, none⟩ = some (.int .i64 col) := hm.cell 3
  have c4 : w.cell? ⟨N, 4, none⟩ = some (.bool false) := hm.cell 4
  have f1 := hm.frozen 1
  have f2 := hm.frozen 2
  have f3 := hm.frozen 3
  have f4 := hm.frozen 4
  have HM := Lib.hid hm
  have HT := Lib.hid ht
  have HB := Lib.hid hb
  clear hm ht hb
  go_enter Tryd.func55, Tryd.ntmps55
  go_wp2
  go_end0
  have hg : w.grownBy _ (some N) := only_setCell (only_setCell (only_setCell (only_setCell (World.grownBy.refl w (some N)) (Or.inl rfl) (.bool false) (p := ⟨N, 4, none⟩)) (Or.inl rfl) (.int .i64 ((p : Int) + 1)) (p := ⟨N, 1, none⟩)) (Or.inl rfl) (.int .i64 ((line : Int) + 1)) (p := ⟨N, 2, none⟩)) (Or.inl rfl) (.int .i64 1) (p := ⟨N, 3, none⟩)
  exact ⟨rfl, tv, ((((HM.out.set_ 4 _).set_ 1 _).set_ 2 _).set_ 3 _), toks_grown HT.out hg, below_only HB.out (by have := HM.out.lt; omega) hg (fun g e => by injection e with e; omega)⟩

theorem mst_endLine_yes (W0 : World) (s : ByteArray) (N p line col : Nat) (acc : List Sp.Tok) (w : World) (hM : MSt W0 N s p line col true acc w) (hp : p ≤ 1073741824) (hl : line ≤ 1073741824) (hn : acc.length ≤ 1073741824) :
    Calls Tryd.prog 55 #[.pointer (some ⟨N, 0, none⟩)] w fun e w' => e = .returned (.tuple #[]) ∧ MSt W0 N s (p + 1) (line + 1) 1 false (acc ++ [(1, [10], line, col)]) w' := by
  obtain ⟨tv, hm, ht, hb⟩ := hM
  have c1 : w.cell? ⟨N, 1, none⟩ = some (.int .i64 p) := hm.cell 1
  have c2 : w.cell? ⟨N, 2, none⟩ = some (.int .i64 line) := hm.cell 2
  have c3 : w.cell? ⟨N, 3, none⟩ = some (.int .i64 col) := hm.cell 3
  have c4 : w.cell? ⟨N, 4, none⟩ = some (.bool true) := hm.cell 4
  have c5 : w.cell? ⟨N, 5, none⟩ = some tv := hm.cell 5
  have f1 := hm.frozen 1
  have f2 := hm.frozen 2
  have f3 := hm.frozen 3
  have f4 := hm.frozen 4
  have f5 := hm.frozen 5
  have hNw := hm.lt
  obtain ⟨i0, hi0, hz0, hz1, hz2⟩ := info_parts tinfo
  have hne := toks_ne ht
  have hFA : ∀ o, (w.alloc o).frozen? ⟨N, 5, none⟩ = false := fun o => (World.frozen?_alloc_past _ _ _ hNw).trans f5
  have hCA : ∀ o, (w.alloc o).cell? ⟨N, 5, none⟩ = some tv ∧ (w.alloc o).cell? ⟨N, 2, none⟩ = some (.int .i64 line) ∧ (w.alloc o).cell? ⟨N, 3, none⟩ = some (.int .i64 col) := fun o => ⟨(World.cell?_alloc_lt w o ⟨N, 5, none⟩ hNw).trans c5, (World.cell?_alloc_lt w o ⟨N, 2, none⟩ hNw).trans c2, (World.cell?_alloc_lt w o ⟨N, 3, none⟩ hNw).trans c3⟩
  have HFA := Lib.hid hFA
  have HCA := Lib.hid hCA
  clear hFA hCA
  have HM := Lib.hid hm
  have HT := Lib.hid ht
  have HB := Lib.hid hb
  clear hm ht hb
  go_enter Tryd.func55, Tryd.ntmps55
  go_wp2
  refine wp_region_K 18 (fun w' => w'.cell? ⟨N, 5, none⟩ = some tv ∧ w'.cell? ⟨N, 2, none⟩ = some (.int .i64 line) ∧ w'.cell? ⟨N, 3, none⟩ = some (.int .i64 col)) (by kernel_rfl) (fun hcl => ?_)
  have hS : (fun w' : World => w'.cell? ⟨N, 5, none⟩ = some tv ∧ w'.cell? ⟨N, 2, none⟩ = some (.int .i64 line) ∧ w'.cell? ⟨N, 3, none⟩ = some (.int .i64 col)) w.drew := ⟨c5, c2, c3⟩
  refine wpAnyK_take (i := 0) (v := ?_) hcl hS rfl (by kernel_rfl) (fun _ _ _ h => h) (by rfl) ?_ (fun hcl2 => ?_)
  rotate_left
  · (intro w hSw; (try dsimp only at hSw); first | (go_simp; done) | (go_simp; with_reducible rfl))
  (try simp only [Act.put, List.setIfInBounds_toArray, List.set_cons_zero, List.set_cons_succ])
  clear hcl; have hcl := hcl2; clear hcl2
  refine wpAnyK_take (i := 1) (v := ?_) hcl hS rfl (by kernel_rfl) (fun _ _ _ h => h) (by rfl) ?_ (fun hcl2 => ?_)
  rotate_left
  · (intro w hSw; (try dsimp only at hSw); first | (go_simp; done) | (go_simp; with_reducible rfl))
  (try simp only [Act.put, List.setIfInBounds_toArray, List.set_cons_zero, List.set_cons_succ])
  clear hcl; have hcl := hcl2; clear hcl2
  refine wpAnyK_take (i := 2) (v := ?_) hcl hS rfl (by kernel_rfl) (fun _ _ _ h => h) (by rfl) ?_ (fun hcl2 => ?_)
  rotate_left
  · (intro w hSw; (try dsimp only at hSw); first | (go_simp; done) | (go_simp; with_reducible rfl))
  (try simp only [Act.put, List.setIfInBounds_toArray, List.set_cons_zero, List.set_cons_succ])
  clear hcl; have hcl := hcl2; clear hcl2
  refine wpAnyK_take (i := 3) (v := ?_) hcl hS rfl (by kernel_rfl) (fun _ _ _ h => h) (by rfl) ?_ (fun hcl2 => ?_)
  rotate_left
  · (intro w hSw; (try dsimp only at hSw); first | (go_simp; done) | (go_simp; with_reducible rfl))
  (try simp only [Act.put, List.setIfInBounds_toArray, List.set_cons_zero, List.set_cons_succ])
  clear hcl; have hcl := hcl2; clear hcl2
  refine wpAnyK_take (i := 4) (v := ?_) hcl hS rfl (by kernel_rfl) (fun _ _ _ h => h) (by rfl) ?_ (fun hcl2 => ?_)
  rotate_left
  · (intro w hSw; (try dsimp only at hSw); first | (go_simp; done) | (go_simp; with_reducible rfl))
  (try simp only [Act.put, List.setIfInBounds_toArray, List.set_cons_zero, List.set_cons_succ])
  clear hcl; have hcl := hcl2; clear hcl2
  refine wpAnyK_take (i := 5) (v := ?_) hcl hS rfl (by kernel_rfl) (fun _ _ _ h => h) (by rfl) ?_ (fun hcl2 => ?_)
  rotate_left
  · (intro w hSw; (try dsimp only at hSw); first | (go_simp; done) | (go_simp; with_reducible rfl))
  (try simp only [Act.put, List.setIfInBounds_toArray, List.set_cons_zero, List.set_cons_succ])
  clear hcl; have hcl := hcl2; clear hcl2
  refine wpAnyK_take (i := 6) (v := ?_) hcl hS rfl (by kernel_rfl) (fun _ _ _ h => h) (by rfl) ?_ (fun hcl2 => ?_)
  rotate_left
  · (intro w hSw; (try dsimp only at hSw); first | (go_simp; done) | (go_simp; with_reducible rfl))
  (try simp only [Act.put, List.setIfInBounds_toArray, List.set_cons_zero, List.set_cons_succ])
  clear hcl; have hcl := hcl2; clear hcl2
  refine wpAnyK_take (i := 7) (v := ?_) hcl hS rfl (by kernel_rfl) (fun _ _ _ h => h) (by rfl) ?_ (fun hcl2 => ?_)
  rotate_left
  · (intro w hSw; (try dsimp only at hSw); first | (go_simp; done) | (go_simp; with_reducible rfl))
  (try simp only [Act.put, List.setIfInBounds_toArray, List.set_cons_zero, List.set_cons_succ])
  clear hcl; have hcl := hcl2; clear hcl2
  refine wpAnyK_take (i := 8) (v := ?_) hcl hS rfl (by kernel_rfl) (fun _ _ _ h => h) (by rfl) ?_ (fun hcl2 => ?_)
  rotate_left
  · (intro w hSw; (try dsimp only at hSw); first | (go_simp; done) | (go_simp; with_reducible rfl))
  (try simp only [Act.put, List.setIfInBounds_toArray, List.set_cons_zero, List.set_cons_succ])
  clear hcl; have hcl := hcl2; clear hcl2
  refine wpAnyK_take (i := 9) (v := ?_) hcl hS rfl (by kernel_rfl) (fun _ _ _ h => h) (by rfl) ?_ (fun hcl2 => ?_)
  rotate_left
  · (intro w hSw; (try dsimp only at hSw); first | (go_simp; done) | (go_simp; with_reducible rfl))
  (try simp only [Act.put, List.setIfInBounds_toArray, List.set_cons_zero, List.set_cons_succ])
  clear hcl; have hcl := hcl2; clear hcl2
  refine wpAnyK_take (i := 10) (v := ?_) hcl hS rfl (by kernel_rfl) (fun _ _ _ h => h) (by rfl) ?_ (fun hcl2 => ?_)
  rotate_left
  · (intro w hSw; (try dsimp only at hSw); first | (go_simp; done) | (go_simp; with_reducible rfl))
  (try simp only [Act.put, List.setIfInBounds_toArray, List.set_cons_zero, List.set_cons_succ])
  clear hcl; have hcl := hcl2; clear hcl2
  refine wpAnyK_take (i := 11) (v := ?_) hcl hS rfl (by kernel_rfl) (fun _ _ _ h => h) (by rfl) ?_ (fun hcl2 => ?_)
  rotate_left
  · (intro w hSw; (try dsimp only at hSw); first | (go_simp; done) | (go_simp; with_reducible rfl))
  (try simp only [Act.put, List.setIfInBounds_toArray, List.set_cons_zero, List.set_cons_succ])
  clear hcl; have hcl := hcl2; clear hcl2
  refine wpAnyK_take (i := 12) (v := ?_) hcl hS rfl (by kernel_rfl) (fun _ _ _ h => h) (by rfl) ?_ (fun hcl2 => ?_)
  rotate_left
  · (intro w hSw; (try dsimp only at hSw); first | (go_simp; done) | (go_simp; with_reducible rfl))
  (try simp only [Act.put, List.setIfInBounds_toArray, List.set_cons_zero, List.set_cons_succ])
  clear hcl; have hcl := hcl2; clear hcl2
  refine wpAnyK_take (i := 13) (v := ?_) hcl hS rfl (by kernel_rfl) (fun _ _ _ h => h) (by rfl) ?_ (fun hcl2 => ?_)
  rotate_left
  · (intro w hSw; (try dsimp only at hSw); first | (go_simp; done) | (go_simp; with_reducible rfl))
  (try simp only [Act.put, List.setIfInBounds_toArray, List.set_cons_zero, List.set_cons_succ])
  clear hcl; have hcl := hcl2; clear hcl2
  refine wpAnyK_one (i := 14) hcl (by kernel_rfl) rfl (by rfl) (fun K hK => ?_)
  go_simp
  refine hK.out _ _ (Or.inr (HCA.out _)) (fun hcl2 => ?_)
  clear hK K hcl hS
  have hcl := hcl2
  clear hcl2
  refine wpAnyK_one (i := 15) hcl (by kernel_rfl) rfl (by rfl) (fun K hK => ?_)
  refine wp_append_lies _ _ _ _ (by rfl) (N + 1) 41 i0 _ 4 40 Tryd.underlying34 hi0 hz0 hz1 hz2 rfl (by omega) tv acc.length (tokCells acc) (by rfl) ((HT.out.alloc _).drew) ⟨w.heap.size, 0, none⟩ 1 1 (tokCell (1, [10], line, col)) (by rfl) (by rfl) (World.news_of_block (cs := #[.int .i64 1, .string ⟨#[10]⟩, .int .i64 line, .int .i64 col]) (t := 41) (fr := (0, 0)) (heap_alloc_new w _)) (by simp [Value.oneCell', tokCell]) (by omega) (by unfold maxLen; omega) (by omega) (by simp; omega) (w.heap.size + 1) (by simp) ?_
  intro gg cap w1 hown1 hgrow hat hlt
  have f5' : w1.frozen? ⟨N, 5, none⟩ = false := (hgrow.frozen_far ⟨N, 5, none⟩ (by simp; omega) (Ne.symm hne)).trans (HFA.out _)
  have c5' : w1.cell? ⟨N, 5, none⟩ = some tv := (hgrow.cell_far ⟨N, 5, none⟩ (by simp; omega) (Ne.symm hne)).trans (HCA.out _).1
  have c2' : w1.cell? ⟨N, 2, none⟩ = some (.int .i64 line) := (hgrow.cell_far ⟨N, 2, none⟩ (by simp; omega) (Ne.symm hne)).trans (HCA.out _).2.1
  have c3' : w1.cell? ⟨N, 3, none⟩ = some (.int .i64 col) := (hgrow.cell_far ⟨N, 3, none⟩ (by simp; omega) (Ne.symm hne)).trans (HCA.out _).2.2
  refine hK.out _ _ (Or.inr ⟨c5', c2', c3'⟩) (fun hcl2 => ?_)
  clear hK K hcl
  have hcl := hcl2
  clear hcl2
  have hS : (fun w' : World => w'.cell? ⟨N, 5, none⟩ = some tv ∧ w'.cell? ⟨N, 2, none⟩ = some (.int .i64 line) ∧ w'.cell? ⟨N, 3, none⟩ = some (.int .i64 col)) w1 := ⟨c5', c2', c3'⟩
  (try simp only [Act.put, List.setIfInBounds_toArray, List.set_cons_zero, List.set_cons_succ])
  refine wpAnyK_take (i := 16) (v := ?_) hcl hS rfl (by kernel_rfl) (fun _ _ _ h => h) (by rfl) ?_ (fun hcl2 => ?_)
  rotate_left
  · (intro w hSw; (try dsimp only at hSw); first | (go_simp; done) | (go_simp; with_reducible rfl))
  (try simp only [Act.put, List.setIfInBounds_toArray, List.set_cons_zero, List.set_cons_succ])
  clear hcl; have hcl := hcl2; clear hcl2
  refine wpAnyK_take (i := 17) (v := ?_) hcl hS rfl (by kernel_rfl) (fun _ _ _ h => h) (by rfl) ?_ (fun hcl2 => ?_)
  rotate_left
  · (intro w hSw; (try dsimp only at hSw); first | (go_simp; done) | (go_simp; with_reducible rfl))
  (try simp only [Act.put, List.setIfInBounds_toArray, List.set_cons_zero, List.set_cons_succ])
  clear hcl; have hcl := hcl2; clear hcl2
  refine wpAnyK_one (i := 18) hcl (by kernel_rfl) rfl (by rfl) (fun K hK => ?_)
  go_simp
  refine hK.out _ _ (Or.inl (by kernel_rfl)) (fun hcl2 => ?_)
  clear hK K hcl hcl2 hS
  refine wpAnyK_done (by kernel_rfl) ?_ _
  have hm1 : Mach w1 N s p line col true tv := ((HM.out.alloc _).drewN 1).grown hgrow (Ne.symm hne)
  have hm2 : Mach _ N s p line col true _ := hm1.set_ 5 (.slice (some ⟨gg, 0, none⟩) (acc.length + 1) cap)
  have ht2 : Toks (w1.setCell ⟨N, 5, none⟩ (.slice (some ⟨gg, 0, none⟩) (acc.length + 1) cap)) (N + 1) (.slice (some ⟨gg, 0, none⟩) (acc.length + 1) cap) (acc ++ [(1, [10], line, col)]) := by
    unfold Toks
    rw [List.length_append, List.length_singleton, tokCells_append, tokCells_one]
    exact ownsRow_setCell_below hown1 (a := ⟨N, 5, none⟩) (Nat.lt_succ_self N) (.slice (some ⟨gg, 0, none⟩) (acc.length + 1) cap)
  have hb2 := (Below.grown ((HB.out.alloc (by omega) (.cells #[.int .i64 1, .string ⟨#[10]⟩, .int .i64 line, .int .i64 col] 41)).drew) hgrow (by simp; omega) (fun g e => by have := (World.ownsRow.lt HT.out g e).1; omega)).setCell (p := ⟨N, 5, none⟩) (Nat.le_refl _) (.slice (some ⟨gg, 0, none⟩) (acc.length + 1) cap)
  obtain ⟨w2, hw2⟩ : ∃ w2, w1.setCell ⟨N, 5, none⟩ (.slice (some ⟨gg, 0, none⟩) (acc.length + 1) cap) = w2 := ⟨_, rfl⟩
  rw [hw2] at hm2 ht2 hb2 ⊢
  clear hw2 hown1 hgrow hat hlt hm1 c5' c2' c3' f5' c1 c2 c3 c4 c5 f1 f2 f3 f4 f5
  have c1 : w2.cell? ⟨N, 1, none⟩ = some (.int .i64 p) := hm2.cell 1
  have c2 : w2.cell? ⟨N, 2, none⟩ = some (.int .i64 line) := hm2.cell 2
  have f1 := hm2.frozen 1
  have f2 := hm2.frozen 2
  have f3 := hm2.frozen 3
  have f4 := hm2.frozen 4
  have c3 : w2.cell? ⟨N, 3, none⟩ = some (.int .i64 col) := hm2.cell 3
  have c4 : w2.cell? ⟨N, 4, none⟩ = some (.bool true) := hm2.cell 4
  have HM2 := Lib.hid hm2
  have HT2 := Lib.hid ht2
  have HB2 := Lib.hid hb2
  clear hm2 ht2 hb2
  go_wp2
  go_end0
  have hg : w2.grownBy _ (some N) := only_setCell (only_setCell (only_setCell (only_setCell (World.grownBy.refl w2 (some N)) (Or.inl rfl) (.bool false) (p := ⟨N, 4, none⟩)) (Or.inl rfl) (.int .i64 ((p : Int) + 1)) (p := ⟨N, 1, none⟩)) (Or.inl rfl) (.int .i64 ((line : Int) + 1)) (p := ⟨N, 2, none⟩)) (Or.inl rfl) (.int .i64 1) (p := ⟨N, 3, none⟩)
  exact ⟨rfl, _, ((((HM2.out.set_ 4 _).set_ 1 _).set_ 2 _).set_ 3 _), toks_grown HT2.out hg, below_only HB2.out (by have := HM2.out.lt; omega) hg (fun g e => by injection e with e; omega)⟩

theorem mst_endLine (W0 : World) (s : ByteArray) (N p line col : Nat) (op : Bool) (acc : List Sp.Tok) (w : World) (hM : MSt W0 N s p line col op acc w) (hp : p ≤ 1073741824) (hl : line ≤ 1073741824) (hn : acc.length ≤ 1073741824) :
    Calls Tryd.prog 55 #[.pointer (some ⟨N, 0, none⟩)] w fun e w' => e = .returned (.tuple #[]) ∧ MSt W0 N s (p + 1) (line + 1) 1 false (Sp.endT op acc line col) w' := by
  cases op with
  | true => exact mst_endLine_yes W0 s N p line col acc w hM hp hl hn
  | false => exact mst_endLine_no W0 s N p line col acc w hM hp hl

theorem ext_mk (s : ByteArray) (p n : Nat) : s.extract p (p + n) = ⟨((s.data.toList.drop p).take n).toArray⟩ := by
  apply ByteArray.ext
  apply Array.toList_inj.1
  rw [Lib.extract_data]
  show _ = (s.data.toList.drop p).take n
  congr 1
  omega

theorem mst_put (W0 : World) (s : ByteArray) (N p line col k n : Nat) (op : Bool) (acc : List Sp.Tok) (w : World) (hM : MSt W0 N s p line col op acc w) (hs : s.size ≤ 1073741824) (hpn : p + n ≤ s.size) (hcol : col ≤ 1073741824) (hn : acc.length ≤ 1073741824) :
    Calls Tryd.prog 54 #[.pointer (some ⟨N, 0, none⟩), .int .i64 k, .int .i64 n] w fun e w' => e = .returned (.tuple #[]) ∧ MSt W0 N s (p + n) line (col + Sp.chars ((s.data.toList.drop p).take n)) true (acc ++ [(k, (s.data.toList.drop p).take n, line, col)]) w' := by
  obtain ⟨tv, hm, ht, hb⟩ := hM
  have c0 : w.cell? ⟨N, 0, none⟩ = some (.string s) := hm.cell 0
  have c1 : w.cell? ⟨N, 1, none⟩ = some (.int .i64 p) := hm.cell 1
  have c2 : w.cell? ⟨N, 2, none⟩ = some (.int .i64 line) := hm.cell 2
  have c3 : w.cell? ⟨N, 3, none⟩ = some (.int .i64 col) := hm.cell 3
  have c5 : w.cell? ⟨N, 5, none⟩ = some tv := hm.cell 5
  have f5 := hm.frozen 5
  have hNw := hm.lt
  have b1 : (0 : Int) ≤ (p : Int) := by omega
  have b2 : (p : Int) + n ≤ s.size := by omega
  have b3 : (s.size : Int) ≤ 1073741824 := by omega
  have b4 : (p : Int) ≤ (p : Int) + n := by omega
  have b5 : (0 : Int) ≤ (p : Int) + n := by omega
  have w1 : IntKind.i64.wrap ((p : Int) + n) = (p : Int) + n := by rw [IntKind.wrap_i64]; omega
  have w2 : ((p : Int) + n).toNat = p + n := by omega
  obtain ⟨i0, hi0, hz0, hz1, hz2⟩ := info_parts tinfo
  have hne := toks_ne ht
  have hS0 : w.cell? ⟨N, 5, none⟩ = some tv ∧ w.cell? ⟨N, 0, none⟩ = some (.string s) ∧ w.cell? ⟨N, 1, none⟩ = some (.int .i64 p) ∧ w.cell? ⟨N, 2, none⟩ = some (.int .i64 line) ∧ w.cell? ⟨N, 3, none⟩ = some (.int .i64 col) := ⟨c5, c0, c1, c2, c3⟩
  have hFA : ∀ o, (w.alloc o).frozen? ⟨N, 5, none⟩ = false := fun o => (World.frozen?_alloc_past _ _ _ hNw).trans f5
  have hCA : ∀ o, (w.alloc o).cell? ⟨N, 5, none⟩ = some tv ∧ (w.alloc o).cell? ⟨N, 0, none⟩ = some (.string s) ∧ (w.alloc o).cell? ⟨N, 1, none⟩ = some (.int .i64 p) ∧ (w.alloc o).cell? ⟨N, 2, none⟩ = some (.int .i64 line) ∧ (w.alloc o).cell? ⟨N, 3, none⟩ = some (.int .i64 col) := fun o =>
    ⟨(World.cell?_alloc_lt w o ⟨N, 5, none⟩ hNw).trans c5, (World.cell?_alloc_lt w o ⟨N, 0, none⟩ hNw).trans c0, (World.cell?_alloc_lt w o ⟨N, 1, none⟩ hNw).trans c1, (World.cell?_alloc_lt w o ⟨N, 2, none⟩ hNw).trans c2, (World.cell?_alloc_lt w o ⟨N, 3, none⟩ hNw).trans c3⟩
  have HFA := Lib.hid hFA
  have HCA := Lib.hid hCA
  have HTOK : Hid (tokCell (k, (s.data.toList.drop p).take n, line, col) = [.int .i64 k, .string (s.extract p (p + n)), .int .i64 line, .int .i64 col]) := by
    show _ = _
    rw [ext_mk]
    rfl
  clear hFA hCA c0 c1 c2 c3 c5
  have HM := Lib.hid hm
  have HT := Lib.hid ht
  have HB := Lib.hid hb
  clear hm ht hb
  go_enter Tryd.func54, Tryd.ntmps54
  go_wp2
  refine wp_region_K 34 (fun w' => w'.cell? ⟨N, 5, none⟩ = some tv ∧ w'.cell? ⟨N, 0, none⟩ = some (.string s) ∧ w'.cell? ⟨N, 1, none⟩ = some (.int .i64 p) ∧ w'.cell? ⟨N, 2, none⟩ = some (.int .i64 line) ∧ w'.cell? ⟨N, 3, none⟩ = some (.int .i64 col)) (by kernel_rfl) (fun hcl => ?_)
  have hS : (fun w' : World => w'.cell? ⟨N, 5, none⟩ = some tv ∧ w'.cell? ⟨N, 0, none⟩ = some (.string s) ∧ w'.cell? ⟨N, 1, none⟩ = some (.int .i64 p) ∧ w'.cell? ⟨N, 2, none⟩ = some (.int .i64 line) ∧ w'.cell? ⟨N, 3, none⟩ = some (.int .i64 col)) w.drew := hS0
  refine wpAnyK_take (i := 0) (v := ?_) hcl hS rfl (by kernel_rfl) (fun _ _ _ h => h) (by rfl) ?_ (fun hcl2 => ?_)
  rotate_left
  · (intro w hSw; (try dsimp only at hSw); first | (go_simp; done) | (go_simp; with_reducible rfl))
  (try simp only [Act.put, List.setIfInBounds_toArray, List.set_cons_zero, List.set_cons_succ])
  clear hcl; have hcl := hcl2; clear hcl2
  refine wpAnyK_take (i := 1) (v := ?_) hcl hS rfl (by kernel_rfl) (fun _ _ _ h => h) (by rfl) ?_ (fun hcl2 => ?_)
  rotate_left
  · (intro w hSw; (try dsimp only at hSw); first | (go_simp; done) | (go_simp; with_reducible rfl))
  (try simp only [Act.put, List.setIfInBounds_toArray, List.set_cons_zero, List.set_cons_succ])
  clear hcl; have hcl := hcl2; clear hcl2
  refine wpAnyK_take (i := 2) (v := ?_) hcl hS rfl (by kernel_rfl) (fun _ _ _ h => h) (by rfl) ?_ (fun hcl2 => ?_)
  rotate_left
  · (intro w hSw; (try dsimp only at hSw); first | (go_simp; done) | (go_simp; with_reducible rfl))
  (try simp only [Act.put, List.setIfInBounds_toArray, List.set_cons_zero, List.set_cons_succ])
  clear hcl; have hcl := hcl2; clear hcl2
  refine wpAnyK_take (i := 3) (v := ?_) hcl hS rfl (by kernel_rfl) (fun _ _ _ h => h) (by rfl) ?_ (fun hcl2 => ?_)
  rotate_left
  · (intro w hSw; (try dsimp only at hSw); first | (go_simp; done) | (go_simp; with_reducible rfl))
  (try simp only [Act.put, List.setIfInBounds_toArray, List.set_cons_zero, List.set_cons_succ])
  clear hcl; have hcl := hcl2; clear hcl2
  refine wpAnyK_take (i := 4) (v := ?_) hcl hS rfl (by kernel_rfl) (fun _ _ _ h => h) (by rfl) ?_ (fun hcl2 => ?_)
  rotate_left
  · (intro w hSw; (try dsimp only at hSw); first | (go_simp; done) | (go_simp; with_reducible rfl))
  (try simp only [Act.put, List.setIfInBounds_toArray, List.set_cons_zero, List.set_cons_succ])
  clear hcl; have hcl := hcl2; clear hcl2
  refine wpAnyK_take (i := 5) (v := ?_) hcl hS rfl (by kernel_rfl) (fun _ _ _ h => h) (by rfl) ?_ (fun hcl2 => ?_)
  rotate_left
  · (intro w hSw; (try dsimp only at hSw); first | (go_simp; done) | (go_simp; with_reducible rfl))
  (try simp only [Act.put, List.setIfInBounds_toArray, List.set_cons_zero, List.set_cons_succ])
  clear hcl; have hcl := hcl2; clear hcl2
  refine wpAnyK_take (i := 6) (v := ?_) hcl hS rfl (by kernel_rfl) (fun _ _ _ h => h) (by rfl) ?_ (fun hcl2 => ?_)
  rotate_left
  · (intro w hSw; (try dsimp only at hSw); first | (go_simp; done) | (go_simp; with_reducible rfl))
  (try simp only [Act.put, List.setIfInBounds_toArray, List.set_cons_zero, List.set_cons_succ])
  clear hcl; have hcl := hcl2; clear hcl2
  refine wpAnyK_take (i := 7) (v := ?_) hcl hS rfl (by kernel_rfl) (fun _ _ _ h => h) (by rfl) ?_ (fun hcl2 => ?_)
  rotate_left
  · (intro w hSw; (try dsimp only at hSw); first | (go_simp; done) | (go_simp; with_reducible rfl))
  (try simp only [Act.put, List.setIfInBounds_toArray, List.set_cons_zero, List.set_cons_succ])
  clear hcl; have hcl := hcl2; clear hcl2
  refine wpAnyK_take (i := 8) (v := ?_) hcl hS rfl (by kernel_rfl) (fun _ _ _ h => h) (by rfl) ?_ (fun hcl2 => ?_)
  rotate_left
  · (intro w hSw; (try dsimp only at hSw); first | (go_simp; done) | (go_simp; with_reducible rfl))
  (try simp only [Act.put, List.setIfInBounds_toArray, List.set_cons_zero, List.set_cons_succ])
  clear hcl; have hcl := hcl2; clear hcl2
  refine wpAnyK_take (i := 9) (v := ?_) hcl hS rfl (by kernel_rfl) (fun _ _ _ h => h) (by rfl) ?_ (fun hcl2 => ?_)
  rotate_left
  · (intro w hSw; (try dsimp only at hSw); first | (go_simp; done) | (go_simp; with_reducible rfl))
  (try simp only [Act.put, List.setIfInBounds_toArray, List.set_cons_zero, List.set_cons_succ])
  clear hcl; have hcl := hcl2; clear hcl2
  refine wpAnyK_take (i := 10) (v := ?_) hcl hS rfl (by kernel_rfl) (fun _ _ _ h => h) (by rfl) ?_ (fun hcl2 => ?_)
  rotate_left
  · (intro w hSw; (try dsimp only at hSw); first | (go_simp; done) | (go_simp; with_reducible rfl))
  (try simp only [Act.put, List.setIfInBounds_toArray, List.set_cons_zero, List.set_cons_succ])
  clear hcl; have hcl := hcl2; clear hcl2
  refine wpAnyK_take (i := 11) (v := ?_) hcl hS rfl (by kernel_rfl) (fun _ _ _ h => h) (by rfl) ?_ (fun hcl2 => ?_)
  rotate_left
  · (intro w hSw; (try dsimp only at hSw); first | (go_simp; done) | (go_simp; with_reducible rfl))
  (try simp only [Act.put, List.setIfInBounds_toArray, List.set_cons_zero, List.set_cons_succ])
  clear hcl; have hcl := hcl2; clear hcl2
  refine wpAnyK_take (i := 12) (v := ?_) hcl hS rfl (by kernel_rfl) (fun _ _ _ h => h) (by rfl) ?_ (fun hcl2 => ?_)
  rotate_left
  · (intro w hSw; (try dsimp only at hSw); first | (go_simp; done) | (go_simp; with_reducible rfl))
  (try simp only [Act.put, List.setIfInBounds_toArray, List.set_cons_zero, List.set_cons_succ])
  clear hcl; have hcl := hcl2; clear hcl2
  refine wpAnyK_take (i := 13) (v := ?_) hcl hS rfl (by kernel_rfl) (fun _ _ _ h => h) (by rfl) ?_ (fun hcl2 => ?_)
  rotate_left
  · (intro w hSw; (try dsimp only at hSw); first | (go_simp; done) | (go_simp; with_reducible rfl))
  (try simp only [Act.put, List.setIfInBounds_toArray, List.set_cons_zero, List.set_cons_succ])
  clear hcl; have hcl := hcl2; clear hcl2
  refine wpAnyK_take (i := 14) (v := ?_) hcl hS rfl (by kernel_rfl) (fun _ _ _ h => h) (by rfl) ?_ (fun hcl2 => ?_)
  rotate_left
  · (intro w hSw; (try dsimp only at hSw); first | (go_simp; done) | (go_simp; with_reducible rfl))
  (try simp only [Act.put, List.setIfInBounds_toArray, List.set_cons_zero, List.set_cons_succ])
  clear hcl; have hcl := hcl2; clear hcl2
  refine wpAnyK_take (i := 15) (v := ?_) hcl hS rfl (by kernel_rfl) (fun _ _ _ h => h) (by rfl) ?_ (fun hcl2 => ?_)
  rotate_left
  · (intro w hSw; (try dsimp only at hSw); first | (go_simp; done) | (go_simp; with_reducible rfl))
  (try simp only [Act.put, List.setIfInBounds_toArray, List.set_cons_zero, List.set_cons_succ])
  clear hcl; have hcl := hcl2; clear hcl2
  refine wpAnyK_take (i := 16) (v := ?_) hcl hS rfl (by kernel_rfl) (fun _ _ _ h => h) (by rfl) ?_ (fun hcl2 => ?_)
  rotate_left
  · (intro w hSw; (try dsimp only at hSw); first | (go_simp; done) | (go_simp; with_reducible rfl))
  (try simp only [Act.put, List.setIfInBounds_toArray, List.set_cons_zero, List.set_cons_succ])
  clear hcl; have hcl := hcl2; clear hcl2
  refine wpAnyK_take (i := 17) (v := ?_) hcl hS rfl (by kernel_rfl) (fun _ _ _ h => h) (by rfl) ?_ (fun hcl2 => ?_)
  rotate_left
  · (intro w hSw; (try dsimp only at hSw); first | (go_simp; done) | (go_simp; with_reducible rfl))
  (try simp only [Act.put, List.setIfInBounds_toArray, List.set_cons_zero, List.set_cons_succ])
  clear hcl; have hcl := hcl2; clear hcl2
  refine wpAnyK_take (i := 18) (v := ?_) hcl hS rfl (by kernel_rfl) (fun _ _ _ h => h) (by rfl) ?_ (fun hcl2 => ?_)
  rotate_left
  · (intro w hSw; (try dsimp only at hSw); first | (go_simp; done) | (go_simp; with_reducible rfl))
  (try simp only [Act.put, List.setIfInBounds_toArray, List.set_cons_zero, List.set_cons_succ])
  clear hcl; have hcl := hcl2; clear hcl2
  refine wpAnyK_take (i := 19) (v := ?_) hcl hS rfl (by kernel_rfl) (fun _ _ _ h => h) (by rfl) ?_ (fun hcl2 => ?_)
  rotate_left
  · (intro w hSw; (try dsimp only at hSw); first | (go_simp; done) | (go_simp; with_reducible rfl))
  (try simp only [Act.put, List.setIfInBounds_toArray, List.set_cons_zero, List.set_cons_succ])
  clear hcl; have hcl := hcl2; clear hcl2
  refine wpAnyK_take (i := 20) (v := ?_) hcl hS rfl (by kernel_rfl) (fun _ _ _ h => h) (by rfl) ?_ (fun hcl2 => ?_)
  rotate_left
  · (intro w hSw; (try dsimp only at hSw); first | (go_simp; done) | (go_simp; with_reducible rfl))
  (try simp only [Act.put, List.setIfInBounds_toArray, List.set_cons_zero, List.set_cons_succ])
  clear hcl; have hcl := hcl2; clear hcl2
  refine wpAnyK_take (i := 21) (v := ?_) hcl hS rfl (by kernel_rfl) (fun _ _ _ h => h) (by rfl) ?_ (fun hcl2 => ?_)
  rotate_left
  · (intro w hSw; (try dsimp only at hSw); first | (go_simp; done) | (go_simp; with_reducible rfl))
  (try simp only [Act.put, List.setIfInBounds_toArray, List.set_cons_zero, List.set_cons_succ])
  clear hcl; have hcl := hcl2; clear hcl2
  refine wpAnyK_take (i := 22) (v := ?_) hcl hS rfl (by kernel_rfl) (fun _ _ _ h => h) (by rfl) ?_ (fun hcl2 => ?_)
  rotate_left
  · (intro w hSw; (try dsimp only at hSw); first | (go_simp; done) | (go_simp; with_reducible rfl))
  (try simp only [Act.put, List.setIfInBounds_toArray, List.set_cons_zero, List.set_cons_succ])
  clear hcl; have hcl := hcl2; clear hcl2
  refine wpAnyK_take (i := 23) (v := ?_) hcl hS rfl (by kernel_rfl) (fun _ _ _ h => h) (by rfl) ?_ (fun hcl2 => ?_)
  rotate_left
  · (intro w hSw; (try dsimp only at hSw); first | (go_simp; done) | (go_simp; with_reducible rfl))
  (try simp only [Act.put, List.setIfInBounds_toArray, List.set_cons_zero, List.set_cons_succ])
  clear hcl; have hcl := hcl2; clear hcl2
  refine wpAnyK_take (i := 24) (v := ?_) hcl hS rfl (by kernel_rfl) (fun _ _ _ h => h) (by rfl) ?_ (fun hcl2 => ?_)
  rotate_left
  · (intro w hSw; (try dsimp only at hSw); first | (go_simp; done) | (go_simp; with_reducible rfl))
  (try simp only [Act.put, List.setIfInBounds_toArray, List.set_cons_zero, List.set_cons_succ])
  clear hcl; have hcl := hcl2; clear hcl2
  refine wpAnyK_take (i := 25) (v := ?_) hcl hS rfl (by kernel_rfl) (fun _ _ _ h => h) (by rfl) ?_ (fun hcl2 => ?_)
  rotate_left
  · (intro w hSw; (try dsimp only at hSw); first | (go_simp; done) | (go_simp; with_reducible rfl))
  (try simp only [Act.put, List.setIfInBounds_toArray, List.set_cons_zero, List.set_cons_succ])
  clear hcl; have hcl := hcl2; clear hcl2
  refine wpAnyK_take (i := 26) (v := ?_) hcl hS rfl (by kernel_rfl) (fun _ _ _ h => h) (by rfl) ?_ (fun hcl2 => ?_)
  rotate_left
  · (intro w hSw; (try dsimp only at hSw); first | (go_simp; done) | (go_simp; with_reducible rfl))
  (try simp only [Act.put, List.setIfInBounds_toArray, List.set_cons_zero, List.set_cons_succ])
  clear hcl; have hcl := hcl2; clear hcl2
  refine wpAnyK_take (i := 27) (v := ?_) hcl hS rfl (by kernel_rfl) (fun _ _ _ h => h) (by rfl) ?_ (fun hcl2 => ?_)
  rotate_left
  · (intro w hSw; (try dsimp only at hSw); first | (go_simp; done) | (go_simp; with_reducible rfl))
  (try simp only [Act.put, List.setIfInBounds_toArray, List.set_cons_zero, List.set_cons_succ])
  clear hcl; have hcl := hcl2; clear hcl2
  refine wpAnyK_take (i := 28) (v := ?_) hcl hS rfl (by kernel_rfl) (fun _ _ _ h => h) (by rfl) ?_ (fun hcl2 => ?_)
  rotate_left
  · (intro w hSw; (try dsimp only at hSw); first | (go_simp; done) | (go_simp; with_reducible rfl))
  (try simp only [Act.put, List.setIfInBounds_toArray, List.set_cons_zero, List.set_cons_succ])
  clear hcl; have hcl := hcl2; clear hcl2
  refine wpAnyK_take (i := 29) (v := ?_) hcl hS rfl (by kernel_rfl) (fun _ _ _ h => h) (by rfl) ?_ (fun hcl2 => ?_)
  rotate_left
  · (intro w hSw; (try dsimp only at hSw); first | (go_simp; done) | (go_simp; with_reducible rfl))
  (try simp only [Act.put, List.setIfInBounds_toArray, List.set_cons_zero, List.set_cons_succ])
  clear hcl; have hcl := hcl2; clear hcl2
  refine wpAnyK_one (i := 30) hcl (by kernel_rfl) rfl (by rfl) (fun K hK => ?_)
  go_simp
  refine hK.out _ _ (Or.inr (HCA.out _)) (fun hcl2 => ?_)
  clear hK K hcl hS
  have hcl := hcl2
  clear hcl2
  refine wpAnyK_one (i := 31) hcl (by kernel_rfl) rfl (by rfl) (fun K hK => ?_)
  refine wp_append_lies _ _ _ _ (by rfl) (N + 1) 41 i0 _ 4 40 Tryd.underlying34 hi0 hz0 hz1 hz2 rfl (by omega) tv acc.length (tokCells acc) (by rfl) ((HT.out.alloc _).drew) ⟨w.heap.size, 0, none⟩ 1 1 [.int .i64 k, .string (s.extract p (p + n)), .int .i64 line, .int .i64 col] (by rfl) (by rfl) (World.news_of_block (cs := #[.int .i64 k, .string (s.extract p (p + n)), .int .i64 line, .int .i64 col]) (t := 41) (fr := (0, 0)) (heap_alloc_new w _)) (by simp [Value.oneCell']) (by omega) (by unfold maxLen; omega) (by omega) (by simp; omega) (w.heap.size + 1) (by simp) ?_
  intro gg cap w1 hown1 hgrow hat hlt
  have f5' : w1.frozen? ⟨N, 5, none⟩ = false := (hgrow.frozen_far ⟨N, 5, none⟩ (by simp; omega) (Ne.symm hne)).trans (HFA.out _)
  have hS1 : w1.cell? ⟨N, 5, none⟩ = some tv ∧ w1.cell? ⟨N, 0, none⟩ = some (.string s) ∧ w1.cell? ⟨N, 1, none⟩ = some (.int .i64 p) ∧ w1.cell? ⟨N, 2, none⟩ = some (.int .i64 line) ∧ w1.cell? ⟨N, 3, none⟩ = some (.int .i64 col) :=
    ⟨(hgrow.cell_far ⟨N, 5, none⟩ (by simp; omega) (Ne.symm hne)).trans (HCA.out _).1, (hgrow.cell_far ⟨N, 0, none⟩ (by simp; omega) (Ne.symm hne)).trans (HCA.out _).2.1, (hgrow.cell_far ⟨N, 1, none⟩ (by simp; omega) (Ne.symm hne)).trans (HCA.out _).2.2.1, (hgrow.cell_far ⟨N, 2, none⟩ (by simp; omega) (Ne.symm hne)).trans (HCA.out _).2.2.2.1, (hgrow.cell_far ⟨N, 3, none⟩ (by simp; omega) (Ne.symm hne)).trans (HCA.out _).2.2.2.2⟩
  have c5' := hS1.1
  refine hK.out _ _ (Or.inr hS1) (fun hcl2 => ?_)
  clear hK K hcl
  have hcl := hcl2
  clear hcl2
  have hS : (fun w' : World => w'.cell? ⟨N, 5, none⟩ = some tv ∧ w'.cell? ⟨N, 0, none⟩ = some (.string s) ∧ w'.cell? ⟨N, 1, none⟩ = some (.int .i64 p) ∧ w'.cell? ⟨N, 2, none⟩ = some (.int .i64 line) ∧ w'.cell? ⟨N, 3, none⟩ = some (.int .i64 col)) w1 := hS1
  (try simp only [Act.put, List.setIfInBounds_toArray, List.set_cons_zero, List.set_cons_succ])
  refine wpAnyK_take (i := 32) (v := ?_) hcl hS rfl (by kernel_rfl) (fun _ _ _ h => h) (by rfl) ?_ (fun hcl2 => ?_)
  rotate_left
  · (intro w hSw; (try dsimp only at hSw); first | (go_simp; done) | (go_simp; with_reducible rfl))
  (try simp only [Act.put, List.setIfInBounds_toArray, List.set_cons_zero, List.set_cons_succ])
  clear hcl; have hcl := hcl2; clear hcl2
  refine wpAnyK_take (i := 33) (v := ?_) hcl hS rfl (by kernel_rfl) (fun _ _ _ h => h) (by rfl) ?_ (fun hcl2 => ?_)
  rotate_left
  · (intro w hSw; (try dsimp only at hSw); first | (go_simp; done) | (go_simp; with_reducible rfl))
  (try simp only [Act.put, List.setIfInBounds_toArray, List.set_cons_zero, List.set_cons_succ])
  clear hcl; have hcl := hcl2; clear hcl2
  clear hS1
  refine wpAnyK_one (i := 34) hcl (by kernel_rfl) rfl (by rfl) (fun K hK => ?_)
  go_simp
  refine hK.out _ _ (Or.inl (by kernel_rfl)) (fun hcl2 => ?_)
  clear hK K hcl hcl2 hS
  refine wpAnyK_done (by kernel_rfl) ?_ _
  have hm1 : Mach w1 N s p line col op tv := ((HM.out.alloc _).drewN 1).grown hgrow (Ne.symm hne)
  have hm2 : Mach _ N s p line col op _ := hm1.set_ 5 (.slice (some ⟨gg, 0, none⟩) (acc.length + 1) cap)
  have ht2 : Toks (w1.setCell ⟨N, 5, none⟩ (.slice (some ⟨gg, 0, none⟩) (acc.length + 1) cap)) (N + 1) (.slice (some ⟨gg, 0, none⟩) (acc.length + 1) cap) (acc ++ [(k, (s.data.toList.drop p).take n, line, col)]) := by
    unfold Toks
    rw [List.length_append, List.length_singleton, tokCells_append, tokCells_one, HTOK.out]
    exact ownsRow_setCell_below hown1 (a := ⟨N, 5, none⟩) (Nat.lt_succ_self N) (.slice (some ⟨gg, 0, none⟩) (acc.length + 1) cap)
  have hb2 := (Below.grown ((HB.out.alloc (by omega) (.cells #[.int .i64 k, .string (s.extract p (p + n)), .int .i64 line, .int .i64 col] 41)).drew) hgrow (by simp; omega) (fun g e => by have := (World.ownsRow.lt HT.out g e).1; omega)).setCell (p := ⟨N, 5, none⟩) (Nat.le_refl _) (.slice (some ⟨gg, 0, none⟩) (acc.length + 1) cap)
  obtain ⟨w2, hw2⟩ : ∃ w2, w1.setCell ⟨N, 5, none⟩ (.slice (some ⟨gg, 0, none⟩) (acc.length + 1) cap) = w2 := ⟨_, rfl⟩
  rw [hw2] at hm2 ht2 hb2 ⊢
  have f4 := hm2.frozen 4
  have c4 : w2.cell? ⟨N, 4, none⟩ = some (.bool op) := hm2.cell 4
  have hg : w2.grownBy (w2.setCell ⟨N, 4, none⟩ (.bool true)) (some N) := only_setCell (World.grownBy.refl w2 (some N)) (Or.inl rfl) (.bool true) (p := ⟨N, 4, none⟩)
  have hfin : MSt W0 N s p line col true (acc ++ [(k, (s.data.toList.drop p).take n, line, col)]) (w2.setCell ⟨N, 4, none⟩ (.bool true)) :=
    ⟨_, hm2.set_ 4 _, toks_grown ht2 hg, below_only hb2 (by have := hm2.lt; omega) hg (fun g e => by injection e with e; omega)⟩
  have hfw := mst_forward W0 s N p line col n true _ _ hfin hs hpn hcol
  have HF := Lib.hid hfw
  clear hw2 hown1 hgrow hat hlt hm1 c5' f5' f5 hm2 ht2 hb2 hg hfin hfw hS0
  go_wp2_with (go_at_call 53; refine HF.out.mono ?_; rintro e w3 ⟨rfl, hm3⟩)
  go_end0
  exact ⟨rfl, hm3⟩
end Go.Proofs.YtjedoipbllcfdaaDoor
