/-
  THE WALKS of strings.Builder's copyCheck, WriteByte, WriteString at this seat (the shelf's own do not fit its dump); chapter 3 writes its tokens through them.
-/
import Derived.Test.YtjedoipbllcfdaaGreatDoorSb
import Derived.Test.YtjedoipbllcfdaaGreatDoorShelf
import Derived.Lib.Builder
import Derived.Lib.AppendStr
import Derived.Lib.UnsafeStr
import Derived.Laws.Externs
set_option linter.unusedVariables false
set_option linter.unusedSimpArgs false
set_option maxRecDepth 100000
set_option maxHeartbeats 4000000
namespace Go.Proofs.YtjedoipbllcfdaaGreatDoor
open Go.RowKit

/-- A builder of the call's own that holds these bytes. -/
def Bld (w : World) (B b : Nat) (l : List UInt8) : Prop := Lib.IsBuilder 44 5 B b (Lib.byteCells l) w
/-- .. that has been written. -/
def BldU (w : World) (B b : Nat) (l : List UInt8) : Prop := Lib.BuilderAt 44 5 B b (.pointer (some ⟨b, 0, none⟩)) (Lib.byteCells l) w

theorem bld_size : ∃ j, Tryz.prog.info? 44 = some j ∧ j.size ≠ 0 := by
  have h : (Tryz.prog.info? 44).map (fun j => decide (j.size ≠ 0)) = some true := by kernel_rfl
  obtain ⟨j, hj, h2⟩ := Option.map_eq_some_iff.1 h
  exact ⟨j, hj, of_decide_eq_true h2⟩

/-- Boxes of tokens are as they were. -/
def KeepT (w w' : World) : Prop := ∀ g cs, Blk w g 25 cs → Blk w' g 25 cs
theorem KeepT.refl (w : World) : KeepT w w := fun _ _ h => h
theorem KeepT.trans {a b c : World} (h : KeepT a b) (k : KeepT b c) : KeepT a c := fun g cs x => k g cs (h g cs x)
theorem KeepT.far {w : World} {b : Nat} {cs : Array Value} {fr : Nat × Nat} (hb : w.heap[b]? = some (.cells cs 44 fr)) (i : Nat) (u : Value) : KeepT w (w.setCell ⟨b, i, none⟩ u) := by
  intro g cs2 h
  refine h.far ?_ u
  show g ≠ b
  rintro rfl
  unfold Blk at h
  rw [hb] at h
  injection h with h
  injection h with h1 h2
  exact absurd h2 (by decide)
theorem KeepT.grown {w w' : World} {B n : Nat} {v : Value} {xs : List Value} (ho : w.ownsRow B 5 1 v n xs) (hg : w.grownBy w' v.ownBlock) : KeepT w w' := by
  intro g cs h
  refine h.grown hg ?_
  intro e
  rcases ho.2 with ⟨hv, _⟩ | ⟨g', cap, cur, hv, _, hb, _⟩
  · rw [hv] at e
    cases e
  · rw [hv] at e
    injection e with e
    subst e
    unfold Blk at h
    rw [hb] at h
    injection h with h
    injection h with h1 h2
    exact absurd h2 (by decide)
theorem KeepT.alloc (w : World) (o : Obj) : KeepT w (w.alloc o) := fun g cs h => h.alloc o

theorem bld_check (B b : Nat) (l : List UInt8) (w : World) (h : Bld w B b l) :
    Calls Tryz.prog 30 #[.pointer (some ⟨b, 0, none⟩)] w fun e w' => e = .returned (.tuple #[]) ∧ BldU w' B b l ∧ Below B w w' ∧ KeepT w w' := by
  obtain ⟨j, hj, hjs⟩ := bld_size
  rcases h with h | h
  · have c0 : w.cell? ⟨b, 0, none⟩ = some (.pointer none) := h.cell0
    have f0 : w.frozen? ⟨b, 0, none⟩ = false := h.frozen0
    have HSH := Lib.hid h.shape
    have HH := Lib.hid h
    clear h
    go_enter Tryz.func30, Tryz.ntmps30
    go_wp2_with fail
    rw [Lib.run_to_unsafe w ⟨b, 0, none⟩ Tryz.underlying41 Tryz.underlying80 hj hjs HSH.out (Nat.zero_lt_succ 1)]
    simp only [Result.andThen]
    rw [Oper.upon_value]
    go_wp2_with fail
    rw [run_callFunc_extern Tryz.func46 (by kernel_rfl) (by kernel_rfl) (by kernel_rfl) (e := Extern.AbiNoEscape.same) (by kernel_rfl)]
    rw [Lib.run_noEscape]
    simp only [Result.andThen]
    rw [Oper.upon_value]
    go_wp2_with fail
    rw [Lib.run_from_unsafe w ⟨b, 0, none⟩ Tryz.underlying80 Tryz.underlying41 hj HSH.out (by kernel_rfl)]
    simp only [Result.andThen]
    rw [Oper.upon_value]
    go_wp2_with fail
    go_end0
    obtain ⟨_, v9, hb9, _⟩ := HH.out
    exact ⟨rfl, HH.out.used _, (Below.refl B w).setCell (p := ⟨b, 0, none⟩) HH.out.1 _, KeepT.far hb9 _ _⟩
  · have c0 : w.cell? ⟨b, 0, none⟩ = some (.pointer (some ⟨b, 0, none⟩)) := h.cell0
    have HH := Lib.hid h
    clear h
    go_enter Tryz.func30, Tryz.ntmps30
    go_wp2_with fail
    rw [Lib.run_neq_ptr_same w _ Tryz.underlying41 hj]
    go_wp2_with fail
    go_end0
    exact ⟨rfl, HH.out, Below.refl B _, KeepT.refl _⟩

/-- What the two writers do behind the check: the builder's row and its block. -/
theorem bldU_open {w : World} {B b : Nat} {l : List UInt8} (h : BldU w B b l) : B ≤ b ∧ b < w.heap.size ∧ ∃ v, w.heap[b]? = some (.cells #[.pointer (some ⟨b, 0, none⟩), v] 44 (0, 0)) ∧ w.ownsRow B 5 1 v l.length (Lib.byteCells l) ∧ v.ownBlock ≠ some b := by
  have hlt := Lib.BuilderAt.lt h
  obtain ⟨hB, v, hb, ho, hn⟩ := h
  rw [Lib.byteCells_length] at ho
  exact ⟨hB, hlt, v, hb, ho, hn⟩
theorem bldU_put {w : World} {B b : Nat} {l : List UInt8} {v v' : Value} (hB : B ≤ b) (hb : w.heap[b]? = some (.cells #[.pointer (some ⟨b, 0, none⟩), v] 44 (0, 0))) (ho : w.ownsRow B 5 1 v' l.length (Lib.byteCells l)) :
    BldU (w.setCell ⟨b, 1, none⟩ v') B b l := by
  refine Lib.BuilderAt.put hB hb ?_ (by decide)
  rw [Lib.byteCells_length]
  exact ho

theorem byteInfo : (Tryz.prog.info? 5).map (fun i => (i.zero, i.size, i.bytes)) = some (some (.int .u8 0), 1, 1) := by kernel_rfl

theorem bld_string (B b : Nat) (l : List UInt8) (s : ByteArray) (w : World) (h : Bld w B b l) (hlen : l.length + s.size ≤ 140737488355328) (hBw : B ≤ w.heap.size) :
    Calls Tryz.prog 20 #[.pointer (some ⟨b, 0, none⟩), .string s] w fun e w' => (∃ v, e = .returned v) ∧ BldU w' B b (l ++ s.data.toList) ∧ Below B w w' ∧ KeepT w w' := by
  obtain ⟨i0, hi, hz0, hz1, hz2⟩ := info_parts byteInfo
  have HCK := Lib.hid (bld_check B b l w h)
  clear h
  go_enter Tryz.func20, Tryz.ntmps20
  go_wp2_with (go_at_call 30; refine HCK.out.mono ?_)
  rintro e w1 ⟨rfl, h1, hb1, hk1⟩
  have HK1 := Lib.hid hk1
  clear hk1
  obtain ⟨hB, hlt, v, hbk, hown, hne⟩ := bldU_open h1
  obtain ⟨ao0, cap0, rfl⟩ : ∃ ao cap, v = .slice ao l.length cap := by
    rcases hown.2 with ⟨hv, h0⟩ | ⟨g, cap, cur, hv, _⟩
    · exact ⟨none, 0, by rw [hv, h0]⟩
    · exact ⟨_, _, hv⟩
  have c1 : w1.cell? ⟨b, 1, none⟩ = some (.slice ao0 l.length cap0) := by rw [Lib.cell_of_heap hbk]; rfl
  have hsz1 := hb1.size
  have HBK := Lib.hid hbk
  have HO := Lib.hid hown
  have HB1 := Lib.hid hb1
  clear h1 hbk hown hb1
  go_wp2_with (at_builtin; refine Lib.wpList_append_own_string _ rfl _ _ 42 9 rfl B 5 i0 Tryz.underlying42 Tryz.underlying9 hi hz0 hz1 hz2 _ _ _ rfl HO.out s rfl (by unfold maxLen; omega) (by omega) (by omega) ?_)
  intro v' w2 hown' hgrow _
  have hb2 : w2.heap[b]? = some (.cells #[.pointer (some ⟨b, 0, none⟩), .slice ao0 l.length cap0] 44 (0, 0)) := by
    rw [hgrow.block b hlt (fun e => hne e.symm)]
    exact HBK.out
  have d1 : w2.cell? ⟨b, 1, none⟩ = some (.slice ao0 l.length cap0) := by rw [Lib.cell_of_heap hb2]; rfl
  have f1 : w2.frozen? ⟨b, 1, none⟩ = false := Lib.frozen_of_heap hb2 1
  obtain ⟨ao, n', cap, rfl⟩ : ∃ ao n' cap, v' = .slice ao n' cap := by
    rcases hown'.2 with ⟨hv, _⟩ | ⟨g, cap, cur, hv, _⟩
    · exact ⟨_, _, _, hv⟩
    · exact ⟨_, _, _, hv⟩
  have HB2 := Lib.hid hb2
  have HO2 := Lib.hid hown'
  have HBL := Lib.hid (HB1.out.grown hgrow (by omega) (fun k hk => (World.ownsRow.lt HO.out k hk).1))
  have HK2 := Lib.hid (KeepT.trans HK1.out (KeepT.grown HO.out hgrow))
  clear hb2 hown' hgrow
  go_wp2_with fail
  go_ret2
  refine ⟨⟨_, rfl⟩, bldU_put hB HB2.out ?_, HBL.out.setCell (p := ⟨b, 1, none⟩) hB _, KeepT.trans HK2.out (KeepT.far HB2.out _ _)⟩
  have h9 := HO2.out
  rw [Lib.strCells_eq] at h9
  have e9 : Lib.byteCells (l ++ s.data.toList) = Lib.byteCells l ++ Lib.byteCells s.data.toList := by simp [Lib.byteCells]
  rw [e9, List.length_append, ← Lib.size_eq]
  exact h9

theorem bld_byte (B b : Nat) (l : List UInt8) (c : UInt8) (w : World) (h : Bld w B b l) (hlen : l.length + 1 ≤ 140737488355328) (hBw : B ≤ w.heap.size) :
    Calls Tryz.prog 19 #[.pointer (some ⟨b, 0, none⟩), .int .u8 c.toNat] w fun e w' => (∃ v, e = .returned v) ∧ BldU w' B b (l ++ [c]) ∧ Below B w w' ∧ KeepT w w' := by
  obtain ⟨i0, hi, hz0, hz1, hz2⟩ := info_parts byteInfo
  have HCK := Lib.hid (bld_check B b l w h)
  clear h
  go_enter Tryz.func19, Tryz.ntmps19
  go_wp2_with (go_at_call 30; refine HCK.out.mono ?_)
  rintro e w1 ⟨rfl, h1, hb1, hk1⟩
  have HK1 := Lib.hid hk1
  clear hk1
  obtain ⟨hB, hlt, v, hbk, hown, hne⟩ := bldU_open h1
  obtain ⟨ao0, cap0, rfl⟩ : ∃ ao cap, v = .slice ao l.length cap := by
    rcases hown.2 with ⟨hv, h0⟩ | ⟨g, cap, cur, hv, _⟩
    · exact ⟨none, 0, by rw [hv, h0]⟩
    · exact ⟨_, _, hv⟩
  have c1 : w1.cell? ⟨b, 1, none⟩ = some (.slice ao0 l.length cap0) := by rw [Lib.cell_of_heap hbk]; rfl
  have hsz1 := hb1.size
  have HBK := Lib.hid hbk
  have HO := Lib.hid hown
  have HB1 := Lib.hid hb1
  clear h1 hbk hown hb1
  go_wp2_with (at_builtin; refine wpList_append_own _ rfl _ _ 42 rfl B 5 i0 (.int .u8 0) 1 1 Tryz.underlying42 hi hz0 hz1 hz2 rfl (by decide) _ _ _ rfl (HO.out.alloc _) ⟨w1.heap.size, 0, none⟩ 1 1 [.int .u8 c.toNat] rfl rfl (by intro j u hj; match j, hj with | 0, hj => simp at hj; subst hj; simp [Addr.add]) (by intro u hu; simp at hu; subst hu; rfl) (by unfold maxLen; omega) (by omega) (by simp; omega) ?_)
  intro v' w2 hown' hgrow _
  have hb2 : w2.heap[b]? = some (.cells #[.pointer (some ⟨b, 0, none⟩), .slice ao0 l.length cap0] 44 (0, 0)) := by
    rw [hgrow.block b (by simp; omega) (fun e => hne e.symm), Lib.alloc_old w1 _ b hlt]
    exact HBK.out
  have d1 : w2.cell? ⟨b, 1, none⟩ = some (.slice ao0 l.length cap0) := by rw [Lib.cell_of_heap hb2]; rfl
  have f1 : w2.frozen? ⟨b, 1, none⟩ = false := Lib.frozen_of_heap hb2 1
  obtain ⟨ao, n', cap, rfl⟩ : ∃ ao n' cap, v' = .slice ao n' cap := by
    rcases hown'.2 with ⟨hv, _⟩ | ⟨g, cap, cur, hv, _⟩
    · exact ⟨_, _, _, hv⟩
    · exact ⟨_, _, _, hv⟩
  have HB2 := Lib.hid hb2
  have HO2 := Lib.hid hown'
  have HBL := Lib.hid ((HB1.out.alloc (by omega) _).grown hgrow (by simp; omega) (fun k hk => (World.ownsRow.lt HO.out k hk).1))
  have HK2 := Lib.hid (KeepT.trans HK1.out (KeepT.trans (KeepT.alloc w1 _) (KeepT.grown (HO.out.alloc _) hgrow)))
  clear hb2 hown' hgrow
  go_wp2_with fail
  go_ret
  refine ⟨⟨_, rfl⟩, bldU_put hB HB2.out ?_, HBL.out.setCell (p := ⟨b, 1, none⟩) hB _, KeepT.trans HK2.out (KeepT.far HB2.out _ _)⟩
  have h9 := HO2.out
  have e9 : Lib.byteCells (l ++ [c]) = Lib.byteCells l ++ [.int .u8 c.toNat] := by simp [Lib.byteCells]
  rw [e9, List.length_append]
  exact h9
end Go.Proofs.YtjedoipbllcfdaaGreatDoor
