/-
  THE WALKS of scan.byName, scan.unseen, scan.write (chapter 3).
-/
import Derived.Test.YtjedoipbllcfdaaDoorPa
import Derived.Test.YtjedoipbllcfdaaDoorWo
import Derived.Lib.BufSteps
import Derived.Lib.QuoteBits
import Derived.Deep.RegionLaw
import Derived.BigRegion
set_option linter.unusedVariables false
set_option linter.unusedSimpArgs false
set_option maxRecDepth 100000
set_option maxHeartbeats 2000000
namespace Go.Proofs.YtjedoipbllcfdaaDoor
open Go.RowKit

/-- A row of bytes that the call owns, and what else stands as it stood. -/
def Buf (B : Nat) (v : Value) (acc : List UInt8) (W w : World) : Prop :=
  w.ownsRowF B 5 1 v acc.length (Lib.byteCells acc) ∧ Below B W w ∧ B ≤ w.heap.size ∧ Lib.OthersKept 5 none W w
theorem Buf.grown {B : Nat} {v v' : Value} {acc acc' : List UInt8} {W w w' : World} (h : Buf B v acc W w) (ho : w'.ownsRowF B 5 1 v' acc'.length (Lib.byteCells acc')) (hg : w.grownBy w' v.ownBlock) : Buf B v' acc' W w' :=
  ⟨ho, h.2.1.grown hg h.2.2.1 (fun k hk => (h.1.lt k hk).1), Nat.le_trans h.2.2.1 hg.size, h.2.2.2.grown hg (Lib.ownsRowF_kind h.1)⟩
theorem Buf.alloc {B : Nat} {v : Value} {acc : List UInt8} {W w : World} (h : Buf B v acc W w) (o : Obj) : Buf B v acc W (w.alloc o) :=
  ⟨h.1.alloc o, h.2.1.alloc h.2.2.1 o, Nat.le_trans h.2.2.1 ((Below.refl 0 w).alloc (Nat.zero_le _) o).size, h.2.2.2.alloc o⟩
theorem Buf.drewN {B : Nat} {v : Value} {acc : List UInt8} {W w : World} (h : Buf B v acc W w) (q : Nat) : Buf B v acc W (w.drewN q) :=
  ⟨h.1, ⟨h.2.1.os, h.2.1.tape, h.2.1.output, h.2.1.size, h.2.1.block⟩, h.2.2.1, h.2.2.2⟩

theorem binfo : (Tryd.prog.info? 5).map (fun i => (i.zero, i.size, i.bytes)) = some (some (.int .u8 0), 1, 1) := by kernel_rfl

/-- append(q, c, ..): the bytes lie in the block that the statement has just laid. -/
theorem wpList_buf {ops : Array Oper} {rest : List Oper} {o : Oper} {a : Act} {Q : Exit → Act → World → Prop} (hgd : o.guard = none) (s x : Operand)
    (ho : o.op = .call { callee := .builtin .append, args := #[s, x], argTypes := #[50, 50] })
    (B : Nat) (v : Value) (acc : List UInt8) (hs : a.eval s = v) (W w0 : World) (bs : List UInt8) (cs : Array Value) (hcs : cs.toList = Lib.byteCells bs) (hb : Buf B v acc W w0) (m : Nat)
    (hm : m = bs.length) (hx : a.eval x = .slice (some ⟨w0.heap.size, 0, none⟩) m m) (hlen : acc.length + bs.length ≤ 140737488355328)
    (h : ∀ v' w', Buf B v' (acc ++ bs) W w' → wpList Tryd.prog ops Q rest (a.put o.dst v') w') : wpList Tryd.prog ops Q (o :: rest) a (w0.alloc (.cells cs 5)) := by
  obtain ⟨i0, hi0, hz0, hz1, hz2⟩ := info_parts binfo
  have hb' := hb.alloc (.cells cs 5)
  subst hm
  refine wpList_append_ownF _ hgd s x 50 ho B 5 i0 (.int .u8 0) 1 1 Tryd.underlying50 hi0 hz0 hz1 hz2 rfl (by decide) v acc.length (Lib.byteCells acc) hs hb'.1 ⟨w0.heap.size, 0, none⟩ bs.length bs.length (Lib.byteCells bs) hx (by rw [Lib.byteCells_length]; omega) ?_ (Lib.byteCells_one bs) (by unfold maxLen; omega) (by omega) hb'.2.2.1 ?_
  · intro j u hj
    have e : (⟨w0.heap.size, 0, none⟩ : Addr).add j = ⟨w0.heap.size, j, none⟩ := by simp [Addr.add]; intro h; exact h.symm
    rw [e, World.cell?_alloc_mark]
    rw [← hcs] at hj
    simpa using hj
  · intro v' w' ho' hg _
    refine h v' w' (hb'.grown ?_ hg)
    rw [List.length_append, Lib.byteCells_append]
    exact ho'

/-- append(q, "..."...). -/
theorem wpList_buf_text {ops : Array Oper} {rest : List Oper} {o : Oper} {a : Act} {Q : Exit → Act → World → Prop} {w : World} (hgd : o.guard = none) (sl x : Operand)
    (ho : o.op = .call { callee := .builtin .append, args := #[sl, x], argTypes := #[50, 9] })
    (B : Nat) (v : Value) (acc : List UInt8) (hs : a.eval sl = v) (W : World) (hb : Buf B v acc W w) (s : ByteArray) (hx : a.eval x = .string s) (hlen : acc.length + s.size ≤ 140737488355328)
    (h : ∀ v' w', Buf B v' (acc ++ s.data.toList) W w' → wpList Tryd.prog ops Q rest (a.put o.dst v') w') : wpList Tryd.prog ops Q (o :: rest) a w := by
  obtain ⟨i0, hi0, hz0, hz1, hz2⟩ := info_parts binfo
  refine Lib.wpList_append_own_stringF w hgd sl x 50 9 ho B 5 i0 Tryd.underlying50 Tryd.underlying9 hi0 hz0 hz1 hz2 v acc.length (Lib.byteCells acc) hs hb.1 s hx (by unfold maxLen; omega) hlen hb.2.2.1 ?_
  intro v' w' ho' hg _
  refine h v' w' (hb.grown ?_ hg)
  rw [List.length_append, Lib.byteCells_append, ← Lib.size_eq]
  exact ho'

/-- The same, as one step of a statement that draws its order. -/
theorem step_buf {ops : Array Oper} {o : Oper} {a : Act} {w : World} {K : Act → World → Prop} {Q : Exit → Act → World → Prop} {E : Prop}
    (hg : o.guard = none) (s x : Operand) (hop : o.op = Op.call { callee := Callee.builtin Builtin.append, args := #[s, x], argTypes := #[50, 50] })
    (B : Nat) (v : Value) (acc : List UInt8) (hs : a.eval s = v) (W : World) (bs : List UInt8) (hb : Buf B v acc W w) (ad : Addr) (m c : Nat) (hm : m = bs.length) (hx : a.eval x = .slice (some ad) m c)
    (hc : ∀ j u, (Lib.byteCells bs)[j]? = some u → w.cell? (ad.add j) = some u) (hlen : acc.length + bs.length ≤ 140737488355328)
    (hK : ∀ v' w', Buf B v' (acc ++ bs) W w' → K (a.put o.dst v') w') :
    if Region.wanted o (yielded ops a.tmps) = true then Oper.wp Tryd.prog o a w K Q else E := by
  have hw : Region.wanted o (yielded ops a.tmps) = true := by simp [Region.wanted, hg]
  rw [if_pos hw]
  obtain ⟨i0, hi0, hz0, hz1, hz2⟩ := info_parts binfo
  subst hm
  obtain ⟨v', w', hrun, r1, r2, _⟩ := run_append_ownF (P := Tryd.prog) w B 50 o.type 5 i0 (.int .u8 0) 1 1 Tryd.underlying50 hi0 hz0 hz1 hz2 rfl (by decide) v acc.length (Lib.byteCells acc) hb.1 ad bs.length c (Lib.byteCells bs) (by rw [Lib.byteCells_length]; omega) hc (Lib.byteCells_one bs) (by unfold maxLen; omega) (by omega) hb.2.2.1
  unfold Oper.wp
  simp [execOp, hop, resolve, invoke, builtin, hs, hx, hrun, Result.andThen]
  refine hK v' w' (hb.grown ?_ r2)
  rw [List.length_append, Lib.byteCells_append]
  exact r1

/-- The cells of a block that is new. -/
theorem new_cells {w : World} {cs : Array Value} {bs : List UInt8} (hcs : cs.toList = Lib.byteCells bs) : ∀ j u, (Lib.byteCells bs)[j]? = some u → (w.alloc (.cells cs 5)).cell? ((⟨w.heap.size, 0, none⟩ : Addr).add j) = some u := by
  intro j u hj
  have e : (⟨w.heap.size, 0, none⟩ : Addr).add j = ⟨w.heap.size, j, none⟩ := by simp [Addr.add]; intro h; exact h.symm
  rw [e, World.cell?_alloc_mark]
  rw [← hcs] at hj
  simpa using hj

theorem and15_fin : ∀ n : Fin 256, bits .and .u8 (n.1 : Int) 15 = ((n.1 % 16 : Nat) : Int) := by decide
theorem and15_u8 (b : UInt8) : bits .and .u8 (b.toNat : Int) 15 = ((b.toNat % 16 : Nat) : Int) := and15_fin ⟨b.toNat, b.toNat_lt⟩

/-- What a function that appends hands back. -/
def Apd (B : Nat) (acc bs : List UInt8) (W : World) (e : Ending) (w' : World) : Prop := ∃ v', e = .returned v' ∧ Buf B v' (acc ++ bs) W w'

theorem scan_byName (B : Nat) (v : Value) (acc : List UInt8) (b : UInt8) (W w : World) (hb : Buf B v acc W w) (hl : acc.length ≤ 1073741824) :
    Calls Tryd.prog 26 #[v, .int .u8 b.toNat] w (Apd B acc (Sp.byNameV b.toNat) W) := by
  have hHB := Lib.hid hb
  clear hb
  have hb256 := b.toNat_lt
  obtain ⟨x, hx⟩ : ∃ x, b.toNat / 16 = x := ⟨_, rfl⟩
  obtain ⟨y, hy⟩ : ∃ y, b.toNat % 16 = y := ⟨_, rfl⟩
  have h1 : (b.toNat : Int) / 16 = x := by omega
  have h2 := and15_u8 b
  rw [hy] at h2
  have hx16 : x < 16 := by omega
  have hy16 : y < 16 := by omega
  have h3 : (x : Int) < 16 := by omega
  have h4 : (y : Int) < 16 := by omega
  have e1 : (⟨#[48, 49, 50, 51, 52, 53, 54, 55, 56, 57, 97, 98, 99, 100, 101, 102]⟩ : ByteArray)[x]'hx16 = Sp.hexd x := Sp.hex_at x hx16 hx16
  have e2 : (⟨#[48, 49, 50, 51, 52, 53, 54, 55, 56, 57, 97, 98, 99, 100, 101, 102]⟩ : ByteArray)[y]'hy16 = Sp.hexd y := Sp.hex_at y hy16 hy16
  have hV : Sp.byNameV b.toNat = [92, 120, Sp.hexd x, Sp.hexd y] := by unfold Sp.byNameV; rw [hx, hy]
  rw [hV]
  go_enter Tryd.func26, Tryd.ntmps26
  go_wp2
  go_region_law (refine step_buf rfl (.tmp 5) (.tmp 12) rfl B v acc (by simp [Act.eval, Act.put]) W [92, 120, Sp.hexd x, Sp.hexd y] ((hHB.out.drewN 1).alloc _) _ 4 4 rfl (by simp [Act.eval, Act.put]) (new_cells (w := w.drewN 1) (by simp [Lib.byteCells, e1, e2])) (by simp; omega) ?_; intro v' w' hB')
  all_goals (
    simp only [List.getElem_toArray, List.getElem_cons_succ, List.getElem_cons_zero]
    simp only [Act.put, List.setIfInBounds_toArray, List.set_cons_succ, List.set_cons_zero]
    go_wp2
    go_ret
    exact ⟨_, rfl, hB'⟩)

theorem scan_unseen (n : Nat) (hn : n ≤ 1114111) (w : World) : Calls Tryd.prog 41 #[.int .i32 n] w fun e w' => e = .returned (.bool (Sp.unseenB n)) ∧ w' = w := by
  obtain ⟨b, hb⟩ : ∃ b, Sp.unseenB n = b := ⟨_, rfl⟩
  rw [hb]
  unfold Sp.unseenB at hb
  have HB := Lib.hid hb
  clear hb
  by_cases c1 : 128 ≤ n
  · have q1 : decide ((128 : Int) ≤ n) = true := decide_eq_true (by omega)
    by_cases c2 : n ≤ 159
    · have q2 : decide ((n : Int) ≤ 159) = true := decide_eq_true (by omega)
      go_enter Tryd.func41, Tryd.ntmps41
      go_wp2
      go_ret
      exact ⟨ret_bool (by rw [← HB.out]; exact (decide_eq_true (by omega)).symm), rfl⟩
    have q2 : decide ((n : Int) ≤ 159) = false := decide_eq_false (by omega)
    by_cases c3 : 8203 ≤ n
    · have q3 : decide ((8203 : Int) ≤ n) = true := decide_eq_true (by omega)
      by_cases c4 : n ≤ 8207
      · have q4 : decide ((n : Int) ≤ 8207) = true := decide_eq_true (by omega)
        go_enter Tryd.func41, Tryd.ntmps41
        go_wp2
        go_ret
        exact ⟨ret_bool (by rw [← HB.out]; exact (decide_eq_true (by omega)).symm), rfl⟩
      have q4 : decide ((n : Int) ≤ 8207) = false := decide_eq_false (by omega)
      by_cases c5 : 8232 ≤ n
      · have q5 : decide ((8232 : Int) ≤ n) = true := decide_eq_true (by omega)
        by_cases c6 : n ≤ 8238
        · have q6 : decide ((n : Int) ≤ 8238) = true := decide_eq_true (by omega)
          go_enter Tryd.func41, Tryd.ntmps41
          go_wp2
          go_ret
          exact ⟨ret_bool (by rw [← HB.out]; exact (decide_eq_true (by omega)).symm), rfl⟩
        have q6 : decide ((n : Int) ≤ 8238) = false := decide_eq_false (by omega)
        by_cases c7 : n = 65279
        · have q7 : ((n : Int) == 65279) = true := beq_iff_eq.2 (by omega)
          go_enter Tryd.func41, Tryd.ntmps41
          go_wp2
          go_ret
          exact ⟨ret_bool (by rw [← HB.out]; exact (decide_eq_true (by omega)).symm), rfl⟩
        · have q7 : ((n : Int) == 65279) = false := beq_eq_false_iff_ne.2 (by omega)
          go_enter Tryd.func41, Tryd.ntmps41
          go_wp2
          go_ret
          exact ⟨ret_bool (by rw [← HB.out]; exact (decide_eq_false (by omega)).symm), rfl⟩
      · have q5 : decide ((8232 : Int) ≤ n) = false := decide_eq_false (by omega)
        have q7 : ((n : Int) == 65279) = false := beq_eq_false_iff_ne.2 (by omega)
        go_enter Tryd.func41, Tryd.ntmps41
        go_wp2
        go_ret
        exact ⟨ret_bool (by rw [← HB.out]; exact (decide_eq_false (by omega)).symm), rfl⟩
    · have q3 : decide ((8203 : Int) ≤ n) = false := decide_eq_false (by omega)
      have q5 : decide ((8232 : Int) ≤ n) = false := decide_eq_false (by omega)
      have q7 : ((n : Int) == 65279) = false := beq_eq_false_iff_ne.2 (by omega)
      go_enter Tryd.func41, Tryd.ntmps41
      go_wp2
      go_ret
      exact ⟨ret_bool (by rw [← HB.out]; exact (decide_eq_false (by omega)).symm), rfl⟩
  · have q1 : decide ((128 : Int) ≤ n) = false := decide_eq_false (by omega)
    have q3 : decide ((8203 : Int) ≤ n) = false := decide_eq_false (by omega)
    have q5 : decide ((8232 : Int) ≤ n) = false := decide_eq_false (by omega)
    have q7 : ((n : Int) == 65279) = false := beq_eq_false_iff_ne.2 (by omega)
    go_enter Tryd.func41, Tryd.ntmps41
    go_wp2
    go_ret
    exact ⟨ret_bool (by rw [← HB.out]; exact (decide_eq_false (by omega)).symm), rfl⟩
end Go.Proofs.YtjedoipbllcfdaaDoor
