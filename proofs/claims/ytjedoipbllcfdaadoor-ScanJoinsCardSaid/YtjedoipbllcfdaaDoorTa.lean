/-
  The machine of scan in memory; THE WALK of its method forward (chapter 3).
-/
import Derived.Test.YtjedoipbllcfdaaDoorYd
import Derived.Deep.RegionHeld3
import Derived.Deep.AppendLies
import Derived.Deep.DrawnRows
set_option linter.unusedVariables false
set_option linter.unusedSimpArgs false
set_option maxRecDepth 100000
set_option maxHeartbeats 2000000
namespace Go.Proofs.YtjedoipbllcfdaaDoor
open Go.RowKit

section
variable {a w w' : World}
theorem only_drewN {row : Option Nat} (h : a.grownBy w row) (n : Nat) : a.grownBy (w.drewN n) row := ⟨h.os, h.tape, h.output, h.size, h.block⟩
theorem only_drew {row : Option Nat} (h : a.grownBy w row) : a.grownBy w.drew row := ⟨h.os, h.tape, h.output, h.size, h.block⟩
theorem only_alloc {row : Option Nat} (h : a.grownBy w row) (o : Obj) : a.grownBy (w.alloc o) row :=
  ⟨h.os, h.tape, h.output, Nat.le_trans h.size (by simp), fun i hi hne => (Below.heap_alloc w o i (Nat.lt_of_lt_of_le hi h.size)).trans (h.block i hi hne)⟩
theorem only_setCell {g : Nat} (h : a.grownBy w (some g)) {p : Addr} (hp : p.block = g ∨ a.heap.size ≤ p.block) (u : Value) : a.grownBy (w.setCell p u) (some g) :=
  ⟨h.os, h.tape, h.output, by simpa [World.setCell] using h.size, fun i hi hne => (Below.heap_setCell w p u i (by
    rintro rfl
    rcases hp with hp | hp
    · exact hne (by rw [hp])
    · omega)).trans (h.block i hi hne)⟩
theorem only_of_below (h : Below a.heap.size a w) (row : Option Nat) : a.grownBy w row := ⟨h.os, h.tape, h.output, h.size, fun i hi _ => h.block i hi⟩
theorem only_trans {b : World} {row : Option Nat} (h : a.grownBy w row) (k : w.grownBy b row) : a.grownBy b row :=
  ⟨k.os.trans h.os, k.tape.trans h.tape, k.output.trans h.output, Nat.le_trans h.size k.size, fun i hi hne => (k.block i (Nat.lt_of_lt_of_le hi h.size) hne).trans (h.block i hi hne)⟩
end

/-- A block that is known whole. -/
def Blk (w : World) (g : Nat) (t : TypeId) (cs : Array Value) : Prop := w.heap[g]? = some (.cells cs t (0, 0))
section
variable {w w' : World} {g : Nat} {t : TypeId} {cs : Array Value}
theorem Blk.lt (h : Blk w g t cs) : g < w.heap.size := by
  rcases Nat.lt_or_ge g w.heap.size with hlt | hge
  · exact hlt
  · unfold Blk at h; rw [Array.getElem?_eq_none hge] at h; cases h
theorem Blk.cell (h : Blk w g t cs) (i : Nat) : w.cell? ⟨g, i, none⟩ = cs[i]? := cell_of_row w g i cs t (0, 0) h
theorem Blk.frozen (h : Blk w g t cs) (i : Nat) : w.frozen? ⟨g, i, none⟩ = false := by
  unfold Blk at h
  simp [World.frozen?, h]
theorem Blk.new (w : World) (t : TypeId) (cs : Array Value) : Blk (w.alloc (.cells cs t)) w.heap.size t cs := heap_alloc_new w _
theorem Blk.drewN (h : Blk w g t cs) (n : Nat) : Blk (w.drewN n) g t cs := h
theorem Blk.alloc (h : Blk w g t cs) (o : Obj) : Blk (w.alloc o) g t cs := (Below.heap_alloc w o g h.lt).trans h
theorem Blk.set_ (h : Blk w g t cs) (i : Nat) (u : Value) : Blk (w.setCell ⟨g, i, none⟩ u) g t (cs.setIfInBounds i u) := by
  unfold Blk at h ⊢
  simp [World.setCell, Array.getElem?_modify, h]
theorem Blk.far (h : Blk w g t cs) {p : Addr} (hp : g ≠ p.block) (u : Value) : Blk (w.setCell p u) g t cs := (Below.heap_setCell w p u g hp).trans h
theorem Blk.below {B : Nat} (h : Blk w g t cs) (hb : Below B w w') (hg : g < B) : Blk w' g t cs := (hb.block g hg).trans h
theorem Blk.grown {row : Option Nat} (h : Blk w g t cs) (hb : w.grownBy w' row) (hg : some g ≠ row) : Blk w' g t cs := (hb.block g h.lt hg).trans h
end

/-- The machine at block N. -/
def Mach (w : World) (N : Nat) (s : ByteArray) (at_ line col : Nat) (op : Bool) (tv : Value) : Prop :=
  Blk w N 60 #[.string s, .int .i64 at_, .int .i64 line, .int .i64 col, .bool op, tv]

theorem mach_forward (s : ByteArray) (N p n line col : Nat) (op : Bool) (tv : Value) (w : World) (hM : Mach w N s p line col op tv) (hs : s.size ≤ 1073741824) (hpn : p + n ≤ s.size) (hcol : col ≤ 1073741824) :
    Calls Tryd.prog 53 #[.pointer (some ⟨N, 0, none⟩), .int .i64 n] w fun e w' => e = .returned (.tuple #[]) ∧ Mach w' N s (p + n) line (col + Sp.chars ((s.data.toList.drop p).take n)) op tv ∧ w.grownBy w' (some N) := by
  have c0 : w.cell? ⟨N, 0, none⟩ = some (.string s) := hM.cell 0
  have c1 : w.cell? ⟨N, 1, none⟩ = some (.int .i64 p) := hM.cell 1
  have c3 : w.cell? ⟨N, 3, none⟩ = some (.int .i64 col) := hM.cell 3
  have f1 := hM.frozen 1
  have f3 := hM.frozen 3
  have b1 : (0 : Int) ≤ (p : Int) := by omega
  have b2 : (p : Int) + n ≤ s.size := by omega
  have b3 : (s.size : Int) ≤ 1073741824 := by omega
  have b4 : (p : Int) ≤ (p : Int) + n := by omega
  have b5 : (0 : Int) ≤ (p : Int) + n := by omega
  have w1 : IntKind.i64.wrap ((p : Int) + n) = (p : Int) + n := by rw [IntKind.wrap_i64]; omega
  have w2 : ((p : Int) + n).toNat = p + n := by omega
  have hNw := hM.lt
  obtain ⟨t, ht⟩ : ∃ t, s.extract p (p + n) = t := ⟨_, rfl⟩
  have htl : t.data.toList = (s.data.toList.drop p).take n := by rw [← ht, Lib.extract_data]; congr 1; omega
  have hts : t.size = n := by rw [Lib.size_eq, htl, List.length_take, List.length_drop, ← Lib.size_eq]; omega
  have kk : ∀ (j : Nat) (W : World), W.heap.size = w.heap.size → (W.iter t 0).cell? ⟨N, j, none⟩ = W.cell? ⟨N, j, none⟩ := fun j W hW => World.cell?_alloc_lt _ _ _ (by rw [hW]; exact hNw)
  have k0 : (w.drew.iter t 0).cell? ⟨N, 0, none⟩ = some (.string s) := (kk 0 w.drew rfl).trans c0
  have k1 : (w.drew.iter t 0).cell? ⟨N, 1, none⟩ = some (.int .i64 p) := (kk 1 w.drew rfl).trans c1
  have HK0 := Lib.hid k0
  have HK1 := Lib.hid k1
  have HT := Lib.hid ht
  have HTL := Lib.hid htl
  have HTS := Lib.hid hts
  have HM := Lib.hid hM
  clear kk k0 k1 htl hts hM
  go_enter Tryd.func53, Tryd.ntmps53
  go_wp2
  go_region_held3 (fun w' => w'.cell? ⟨N, 0, none⟩ = some (.string s) ∧ w'.cell? ⟨N, 1, none⟩ = some (.int .i64 p)) (first | go_keep | exact ⟨HK0.out, HK1.out⟩) (fail)
  all_goals go_wp2
  go_loopw [20, 21, 22, 23, 24, 25, 26, 27, 28] (fun _ _ _ _ _ _ _ _ _ wr => ∃ (pos q : Nat), wr.heap[w.heap.size]? = some (.stringIter t pos) ∧ Mach wr N s p line q op tv ∧ w.grownBy wr (some N) ∧ pos ≤ t.size ∧ Hid (q = col + Sp.chars (t.data.toList.take pos) ∧ Sp.Bd t.data.toList pos ∧ q ≤ col + pos)) (fun _ _ _ _ _ _ _ _ _ wr => t.size - wr.iterPos w.heap.size)
  case atStart =>
    refine ⟨0, col, World.iter_heap w.drew t 0, HM.out.alloc _, only_alloc (only_drew (World.grownBy.refl w _)) _, by omega, ?_⟩
    refine ⟨?_, Sp.Bd.zero _, by omega⟩
    rw [List.take_zero, Sp.chars_nil]
    rfl
  case round =>
    obtain ⟨pos, q, hit, hM, hgr, hps, HF⟩ := hrel
    have hpos0 := iterPos_of hit
    have hts := HTS.out
    have hq := HF.out.2.2
    by_cases hp : pos < t.size
    · have hnx := fun ty => Lib.run_next_any_at (P := Tryd.prog) wr w.heap.size t pos ty hit hp
      simp only [Sp.dec_at] at hnx
      obtain ⟨l, hl⟩ : ∃ l, t.data.toList.drop pos = l := ⟨_, rfl⟩
      rw [hl] at hnx
      have hlne : l ≠ [] := by rw [← hl, Sp.drop_cons t pos hp]; simp
      have hkl := Sp.dec_len l hlne
      have hll : l.length = t.size - pos := by rw [← hl, List.length_drop, ← Lib.size_eq]
      have hF2 : q + 1 = col + Sp.chars (t.data.toList.take (pos + (Sp.dec l).2)) ∧ Sp.Bd t.data.toList (pos + (Sp.dec l).2) ∧ q + 1 ≤ col + (pos + (Sp.dec l).2) := by
        have h1 := Sp.dec_pos l hlne
        have hb1 : Sp.Bd (t.data.toList.drop pos) ((Sp.dec l).2 + 0) := by rw [hl]; exact Sp.Bd.step l 0 hlne (Sp.Bd.zero _)
        rw [Nat.add_zero] at hb1
        have hne2 : l.take (Sp.dec l).2 ≠ [] := by
          intro e
          have := congrArg List.length e
          rw [List.length_take, List.length_nil] at this
          omega
        refine ⟨?_, HF.out.2.1.trans hb1, by omega⟩
        rw [Sp.chars_take_add HF.out.2.1, hl, Sp.chars_step _ hne2, Sp.dec_take l hlne _ (Nat.le_refl _), List.drop_eq_nil_of_le (by rw [List.length_take]; omega), Sp.chars_nil, HF.out.1]
        rfl
      obtain ⟨c, hc⟩ : ∃ c : Nat, (Sp.dec l).1 = c := ⟨_, rfl⟩
      obtain ⟨k, hk⟩ : ∃ k : Nat, (Sp.dec l).2 = k := ⟨_, rfl⟩
      rw [hc, hk] at hnx
      rw [hk] at hF2 hkl
      have hkp : 1 ≤ k := by rw [← hk]; exact Sp.dec_pos l hlne
      have hkt : pos + k ≤ t.size := by omega
      have hit2 := Lib.iterAt_heap wr w.heap.size t pos (pos + k) hit
      have hb2 := Lib.below_iterAt (Below.refl w.heap.size wr) (k := w.heap.size) (Nat.le_refl _) t (pos + k)
      obtain ⟨W2, hW2⟩ : ∃ W2, wr.iterAt w.heap.size t (pos + k) = W2 := ⟨_, rfl⟩
      rw [hW2] at hnx hit2 hb2
      have hM2 : Mach W2 N s p line q op tv := hM.below hb2 hNw
      have c3 : W2.cell? ⟨N, 3, none⟩ = some (.int .i64 q) := hM2.cell 3
      have f3 := hM2.frozen 3
      have hgr2 : w.grownBy W2 (some N) := ⟨hb2.os.trans hgr.os, hb2.tape.trans hgr.tape, hb2.output.trans hgr.output, Nat.le_trans hgr.size hb2.size, fun i hi hne => (hb2.block i hi).trans (hgr.block i hi hne)⟩
      have HG2 := Lib.hid hgr2
      have HM2 := Lib.hid hM2
      have HIT := Lib.hid hit2
      have HF2 := Lib.hid hF2
      clear hit hM hgr HF hl hlne hll hF2 hc hk hit2 hb2 hW2 hM2 hgr2
      go_wp2
      have hit3 : (W2.setCell ⟨N, 3, none⟩ (.int .i64 ((q : Int) + 1))).heap[w.heap.size]? = some (.stringIter t (pos + k)) := (Below.heap_setCell _ _ _ _ (by show w.heap.size ≠ N; omega)).trans HIT.out
      go_roundw
      case rel => exact ⟨pos + k, q + 1, hit3, HM2.out.set_ 3 _, only_setCell HG2.out (Or.inl rfl) _, by omega, HF2.out⟩
      case measure =>
        rw [iterPos_of hit3, hpos0]
        omega
    · have hnx := fun ty => Lib.run_next_end_at (P := Tryd.prog) wr w.heap.size t pos ty hit hp
      have c1 : wr.cell? ⟨N, 1, none⟩ = some (.int .i64 p) := hM.cell 1
      have f1 := hM.frozen 1
      have HQ : Hid (q = col + Sp.chars ((s.data.toList.drop p).take n)) := by
        show _ = _
        rw [HF.out.1, List.take_of_length_le (by rw [← Lib.size_eq]; omega), HTL.out]
      have HM2 := Lib.hid hM
      clear HF hM
      go_wp2
      go_end0
      refine ⟨rfl, ?_, only_setCell hgr (Or.inl rfl) _⟩
      rw [← HQ.out]
      exact HM2.out.set_ 1 _
end Go.Proofs.YtjedoipbllcfdaaDoor
