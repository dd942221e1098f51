/-
  WALK: the reference's tell: a list of nodes as one piece (chapter 5).
-/
import Derived.Test.YtdmpapoabeljfaaGreatDoorKt
set_option linter.unusedVariables false
set_option linter.unusedSimpArgs false
set_option maxRecDepth 100000
set_option maxHeartbeats 40000000
namespace Go.Proofs.YtdmpapoabeljfaaGreatDoor
open Go.RowKit

theorem results_row_tmp {fn : Func} {p u : Tmp} {ty : TypeId} (h : fn.results = #[.cell p ty, .tmp u]) (tmps : Array Value) (w : World) (g : Nat) (cs : Array Value)
    (hp : tmps.getD p undef = .pointer (some ⟨g, 0, none⟩)) (hl : (loadVar ty ⟨g, 0, none⟩).run Tryz.prog w = .ok (.agg cs) w) :
    (results fn tmps).run Tryz.prog w = .ok (.tuple #[.agg cs, tmps.getD u undef]) w := by
  rw [results_cell_tmp h, hp]
  simp [asAddr, hl, Result.andThen]
/-- A block that was laid ahead of a call. -/
theorem box_after {w w4 : World} {t : TypeId} {a b c : Value} (h : Below (w.alloc (.cells #[a, b, c] t)).drew.heap.size (w.alloc (.cells #[a, b, c] t)).drew w4) :
    Blk w4 w.heap.size t #[a, b, c] ∧ w4.cell? ⟨w.heap.size, 0, none⟩ = some a ∧ w4.cell? ⟨w.heap.size, 1, none⟩ = some b ∧ w4.cell? ⟨w.heap.size, 2, none⟩ = some c ∧ w4.frozen? ⟨w.heap.size, 0, none⟩ = false ∧ w4.frozen? ⟨w.heap.size, 1, none⟩ = false ∧ w4.frozen? ⟨w.heap.size, 2, none⟩ = false := by
  have hb : Blk (w.alloc (.cells #[a, b, c] t)).drew w.heap.size t #[a, b, c] := Blk.new w t #[a, b, c]
  have h2 := hb.below h hb.lt
  exact ⟨h2, h2.cell 0, h2.cell 1, h2.cell 2, h2.frozen 0, h2.frozen 1, h2.frozen 2⟩
theorem far_cell (w : World) {p q : Addr} (h : q.block ≠ p.block) (u : Value) : (w.setCell p u).cell? q = w.cell? q := World.cell?_of_block (Below.heap_setCell w p u q.block h)
theorem by_pos (t : Sp.Tr) : 1 ≤ t.by_ ∧ t.by_ ≤ 3 := by cases t <;> simp [Sp.Tr.by_]
theorem ne_one (m : Bool) (k : Nat) : (if m then k + 1 else k) = k + Sp.one m := by cases m <;> rfl
theorem pc_both (a b : Sp.Tr) : pcOf (.both a b) = [.string (bs (Sp.brk (decide (a.by_ < 2)) a.text ++ 32 :: 38 :: 32 :: Sp.brk (decide (b.by_ ≤ 2)) b.text)), .int .i64 2, .int .i64 ((max (if decide (a.by_ < 2) then a.nest + 1 else a.nest) (if decide (b.by_ ≤ 2) then b.nest + 1 else b.nest) : Nat) : Int)] := by
  rw [ne_one, ne_one, ← Sp.isOr_by, show decide (b.by_ ≤ 2) = b.joined by rw [Sp.joined_by]; congr 1; exact propext (by omega)]
  rfl
theorem pc_or (a b : Sp.Tr) : pcOf (.or a b) = [.string (bs (Sp.brk (decide (a.by_ < 1)) a.text ++ 32 :: 124 :: 32 :: Sp.brk (decide (b.by_ ≤ 1)) b.text)), .int .i64 1, .int .i64 ((max (if decide (a.by_ < 1) then a.nest + 1 else a.nest) (if decide (b.by_ ≤ 1) then b.nest + 1 else b.nest) : Nat) : Int)] := by
  rw [ne_one, ne_one, show decide (a.by_ < 1) = false from decide_eq_false (by have := by_pos a; omega), show decide (b.by_ ≤ 1) = b.isOr by rw [Sp.isOr_by]; congr 1; exact propext (by omega)]
  rfl
def pc0 : List Value := [.string ⟨#[]⟩, .int .i64 0, .int .i64 0]
/-- A piece, or none. -/
def tpv : Option Sp.Tr → Value
  | none => .agg pc0.toArray
  | some t => .agg (pcOf t).toArray
theorem all_at {ns : List Sp.Nd} {q : Sp.Nd → Bool} (h : ns.all q = true) {i : Nat} {d : Sp.Nd} (hd : ns[i]? = some d) : q d = true := List.all_eq_true.1 h d (List.mem_of_getElem? hd)
theorem sizes_mem {p : List Sp.Tr} {t : Sp.Tr} (h : t ∈ p) : t.size ≤ Sp.sizes p := by
  induction p with
  | nil => cases h
  | cons x r ih =>
    rw [Sp.sizes_cons]
    rcases List.mem_cons.1 h with rfl | h
    · omega
    · have := ih h
      omega
/-- Bounds on a tree of a pile. -/
theorem pile_bd {p : List Sp.Tr} {t : Sp.Tr} {i : Nat} (h : p.all Sp.Tr.wr = true ∧ Sp.sizes p ≤ i) (hi : i ≤ 64) (ht : t ∈ p) : t.text.length ≤ 9600 ∧ t.nest ≤ 128 := by
  have h1 := sizes_mem ht
  have h2 := Sp.text_len t (List.all_eq_true.1 h.1 t ht)
  have h3 := Sp.nest_le t
  omega
theorem pile_next {d : Sp.Nd} {p p' : List Sp.Tr} {i : Nat} (h : p.all Sp.Tr.wr = true ∧ Sp.sizes p ≤ i) (hd : Sp.okN d = true) (hs : Sp.stepR d p = some p') : p'.all Sp.Tr.wr = true ∧ Sp.sizes p' ≤ i + 1 := by
  have h1 := (Sp.step_size hs).1
  exact ⟨Sp.step_wr hs hd h.1, by omega⟩
theorem Blk.low {w w' : World} {B g : Nat} {t : TypeId} {cs : Array Value} (h : Blk w g t cs) (hb : ∀ N, N < B → w'.heap[N]? = w.heap[N]?) (hg : g < B) : Blk w' g t cs := (hb g hg).trans h

theorem ref5_tell (A : Option Addr) (n cap : Nat) (ns : List Sp.Nd) (w : World) (hn : ns.length = n) (hl : n ≤ 64) (hok : ns.all Sp.okN = true) (hv : NView w w.heap.size A ns) :
    Calls Tryz.prog 28 #[.slice A n cap] w (Gives (.tuple #[tpv (Sp.buildV ns), .bool (Sp.buildV ns).isSome]) w) := by
  obtain ⟨R, hR⟩ : ∃ R, Sp.buildV ns = R := ⟨_, rfl⟩
  rw [hR]
  rw [← Sp.endB_nil] at hR
  have HV := Lib.hid hv
  have HR := Lib.hid hR
  have HN := Lib.hid hn
  have HOK := Lib.hid hok
  have n1 : (n : Int) ≤ 64 := by omega
  have n0 : (0 : Int) ≤ (n : Int) := by omega
  clear hv hR hn hok
  go_enter Tryz.func28, Tryz.ntmps28
  go_wp2_with fail
  go_loopw [4, 5] (fun v4 v5 wr => ∃ (i : Nat) (p : List Sp.Tr), v5 = .int .i64 (i : Int) ∧ i ≤ n ∧ PRow wr (w.heap.size + 1) v4 p ∧ Below w.heap.size w wr ∧ Blk wr w.heap.size 71 #[.string ⟨#[]⟩, .int .i64 0, .int .i64 0] ∧ p.length ≤ i ∧ Hid (p.all Sp.Tr.wr = true ∧ Sp.sizes p ≤ i) ∧ Hid (Sp.endB (ns.drop i) p = R)) (fun _ v5 _ => n - (intOf v5).toNat)
  case atStart => exact ⟨0, [], rfl, by omega, prow_nil _ _, (Below.refl _ _).alloc (Nat.le_refl _) _, Blk.new w _ _, by simp, Lib.hid ⟨rfl, Nat.zero_le _⟩, HR⟩
  case round =>
    obtain ⟨i, p, rfl, hi, hp, hb, hblk, hpl, hS, hE⟩ := hrel
    have HB := Lib.hid hb
    have HP := Lib.hid hp
    have HBK := Lib.hid hblk
    have bk0 := hblk.cell 0
    have bk1 := hblk.cell 1
    have bk2 := hblk.cell 2
    have bf0 := hblk.frozen 0
    have bf1 := hblk.frozen 1
    have bf2 := hblk.frozen 2
    have hNl := hblk.lt
    simp only [List.getElem?_toArray, List.getElem?_cons_zero, List.getElem?_cons_succ] at bk0 bk1 bk2
    obtain ⟨A1, k1, cap1, hk1, rfl⟩ := prow_form2 hp
    have HK1 := Lib.hid hk1
    have hkl : k1 ≤ i := by omega
    have i0 : (0 : Int) ≤ (i : Int) := by omega
    clear hp hb hk1 hpl hblk
    by_cases hlt : i < n
    · have q1 : decide ((i : Int) < n) = true := decide_eq_true (by omega)
      have q1b : decide (i < n) = true := decide_eq_true hlt
      have p1 : (i : Int) < n := by omega
      obtain ⟨d, hd⟩ : ∃ d, ns[i]? = some d := ⟨_, List.getElem?_eq_getElem (by rw [HN.out]; exact hlt)⟩
      have HD := Lib.hid (all_at HOK.out hd)
      have hE2 := hE.out
      rw [Sp.drop_at hd] at hE2
      have HE := Lib.hid hE2
      obtain ⟨G, O, rfl, hG, c0, c1, c2, c3, c4, c5, c6, c7⟩ := (HV.out.below HB.out (Nat.le_refl _)) i d hd
      clear hE hE2 hd hi
      obtain ⟨k, F, op, fo, lo, hi, le, pa⟩ := d
      have hne := run_neq_zero F pa op fo lo hi le
      have hz : Sp.zeroT ⟨k, F, op, fo, lo, hi, le, pa⟩ = (F == [] && op == 0 && fo == 0 && lo == 0 && hi == 0 && le == 0 && pa == []) := rfl
      simp only [] at c0 c1 c2 c3 c4 c5 c6 c7
      generalize (F == [] && op == 0 && fo == 0 && lo == 0 && hi == 0 && le == 0 && pa == []) = zb at hne hz
      have HZ := Lib.hid hz
      clear hz
      by_cases k3 : k = 3
      · subst k3
        have hst : Sp.stepR ⟨3, F, op, fo, lo, hi, le, pa⟩ p = some (Sp.Tr.test ⟨3, F, op, fo, lo, hi, le, pa⟩ :: p) := Sp.sp_test rfl
        have HS := Lib.hid (HE.out.symm.trans (Sp.endB_some _ hst))
        have HNX := Lib.hid (pile_next hS.out HD.out hst)
        have HLF := Lib.hid (fun W => ref5_leaf ⟨3, F, op, fo, lo, hi, le, pa⟩ W (Or.inr (Or.inr (by have := HD.out; unfold Sp.okN at this; simpa using this))))
        have htx : (Sp.Tr.test ⟨3, F, op, fo, lo, hi, le, pa⟩).text = leafS ⟨3, F, op, fo, lo, hi, le, pa⟩ := rfl
        have hpc : pcOf (Sp.Tr.test ⟨3, F, op, fo, lo, hi, le, pa⟩) = [.string (bs (leafS ⟨3, F, op, fo, lo, hi, le, pa⟩)), .int .i64 3, .int .i64 0] := rfl
        generalize leafS ⟨3, F, op, fo, lo, hi, le, pa⟩ = X at HLF hpc
        have HPC := Lib.hid hpc
        clear hst htx hpc
        go_wp2_with fail
        refine (HLF.out _).mono ?_
        rintro e w2 ⟨rfl, h2⟩
        have HB2 := Lib.hid (HB.out.trans (h2.mono HB.out.size))
        have HP2 := Lib.hid (prow_below HP.out h2)
        have HBK2 := Lib.hid (HBK.out.below h2 hNl)
        have hs2 := h2.size
        clear h2
        go_wp2_with (at_builtin; go_loud (refine wpList_piece rfl _ _ rfl (w.heap.size + 1) w2 _ (.slice A1 k1 cap1) 1 (Sp.Tr.test ⟨3, F, op, fo, lo, hi, le, pa⟩) _ _ _ HPC.out p rfl HP2.out w2.heap.size rfl rfl k1 HK1.out (by omega) w.heap.size w (by omega) (by omega) HB2.out ?_); intro g2 cap2 w3 hp3 hb3 hlo; have HP3 := Lib.hid hp3; have HB3 := Lib.hid hb3; have HBK3 := Lib.hid (HBK2.out.low hlo (Nat.lt_succ_self _)); clear hp3 hb3 hlo)
        go_roundw
        case rel => exact ⟨i + 1, _, by go_num, by omega, HP3.out, HB3.out, HBK3.out, by have := HK1.out; simp; omega, HNX, Lib.hid HS.out.symm⟩
        case measure => simp [intOf]; omega
      have q3 : (k == 3) = false := beq_eq_false_iff_ne.2 k3
      have q3n : (k != 3) = true := bne_iff_ne.2 k3
      cases zb
      case false =>
        have HRN := Lib.hid (HE.out.symm.trans (Sp.endB_none _ (Sp.sp_bad k3 HZ.out)))
        clear k3
        go_wp2_with fail
        have HBZ : Blk _ w.heap.size 71 #[.string ⟨#[]⟩, .int .i64 0, .int .i64 0] := ((HBK.out.set_ 0 (.string ⟨#[]⟩)).set_ 1 (.int .i64 0)).set_ 2 (.int .i64 0)
        refine bodyPost_ret (results_row_tmp rfl _ _ w.heap.size #[.string ⟨#[]⟩, .int .i64 0, .int .i64 0] rfl (run_loadVar_row _ _ _ _ _ _ _ HBZ Tryz.underlying71 rfl (by kernel_rfl))) rfl ?_
        exact ⟨by rw [HRN.out]; rfl, ((HB.out.setCell (p := ⟨w.heap.size, 0, none⟩) (Nat.le_refl _) _).setCell (p := ⟨w.heap.size, 1, none⟩) (Nat.le_refl _) _).setCell (p := ⟨w.heap.size, 2, none⟩) (Nat.le_refl _) _⟩
      case true =>
        by_cases m1 : k = 1
        · subst m1
          have hst : Sp.stepR ⟨1, F, op, fo, lo, hi, le, pa⟩ p = some (Sp.Tr.leaf true :: p) := Sp.sp_any rfl HZ.out
          have HS := Lib.hid (HE.out.symm.trans (Sp.endB_some _ hst))
          have HNX := Lib.hid (pile_next hS.out HD.out hst)
          have HLF := Lib.hid (fun W => ref5_leaf ⟨1, F, op, fo, lo, hi, le, pa⟩ W (Or.inl rfl))
          have htx : (Sp.Tr.leaf true).text = leafS ⟨1, F, op, fo, lo, hi, le, pa⟩ := rfl
          have hpc : pcOf (Sp.Tr.leaf true) = [.string (bs (leafS ⟨1, F, op, fo, lo, hi, le, pa⟩)), .int .i64 3, .int .i64 0] := rfl
          generalize leafS ⟨1, F, op, fo, lo, hi, le, pa⟩ = X at HLF hpc
          have HPC := Lib.hid hpc
          clear hst htx hpc
          go_wp2_with fail
          refine (HLF.out _).mono ?_
          rintro e w2 ⟨rfl, h2⟩
          have HB2 := Lib.hid (HB.out.trans (h2.mono HB.out.size))
          have HP2 := Lib.hid (prow_below HP.out h2)
          have HBK2 := Lib.hid (HBK.out.below h2 hNl)
          have hs2 := h2.size
          clear h2
          go_wp2_with (at_builtin; go_loud (refine wpList_piece rfl _ _ rfl (w.heap.size + 1) w2 _ (.slice A1 k1 cap1) 1 (Sp.Tr.leaf true) _ _ _ HPC.out p rfl HP2.out w2.heap.size rfl rfl k1 HK1.out (by omega) w.heap.size w (by omega) (by omega) HB2.out ?_); intro g2 cap2 w3 hp3 hb3 hlo; have HP3 := Lib.hid hp3; have HB3 := Lib.hid hb3; have HBK3 := Lib.hid (HBK2.out.low hlo (Nat.lt_succ_self _)); clear hp3 hb3 hlo)
          go_roundw
          case rel => exact ⟨i + 1, _, by go_num, by omega, HP3.out, HB3.out, HBK3.out, by have := HK1.out; simp; omega, HNX, Lib.hid HS.out.symm⟩
          case measure => simp [intOf]; omega
        by_cases m2 : k = 2
        · subst m2
          have hst : Sp.stepR ⟨2, F, op, fo, lo, hi, le, pa⟩ p = some (Sp.Tr.leaf false :: p) := Sp.sp_none rfl HZ.out
          have HS := Lib.hid (HE.out.symm.trans (Sp.endB_some _ hst))
          have HNX := Lib.hid (pile_next hS.out HD.out hst)
          have HLF := Lib.hid (fun W => ref5_leaf ⟨2, F, op, fo, lo, hi, le, pa⟩ W (Or.inr (Or.inl rfl)))
          have htx : (Sp.Tr.leaf false).text = leafS ⟨2, F, op, fo, lo, hi, le, pa⟩ := rfl
          have hpc : pcOf (Sp.Tr.leaf false) = [.string (bs (leafS ⟨2, F, op, fo, lo, hi, le, pa⟩)), .int .i64 3, .int .i64 0] := rfl
          generalize leafS ⟨2, F, op, fo, lo, hi, le, pa⟩ = X at HLF hpc
          have HPC := Lib.hid hpc
          clear hst htx hpc
          go_wp2_with fail
          refine (HLF.out _).mono ?_
          rintro e w2 ⟨rfl, h2⟩
          have HB2 := Lib.hid (HB.out.trans (h2.mono HB.out.size))
          have HP2 := Lib.hid (prow_below HP.out h2)
          have HBK2 := Lib.hid (HBK.out.below h2 hNl)
          have hs2 := h2.size
          clear h2
          go_wp2_with (at_builtin; go_loud (refine wpList_piece rfl _ _ rfl (w.heap.size + 1) w2 _ (.slice A1 k1 cap1) 1 (Sp.Tr.leaf false) _ _ _ HPC.out p rfl HP2.out w2.heap.size rfl rfl k1 HK1.out (by omega) w.heap.size w (by omega) (by omega) HB2.out ?_); intro g2 cap2 w3 hp3 hb3 hlo; have HP3 := Lib.hid hp3; have HB3 := Lib.hid hb3; have HBK3 := Lib.hid (HBK2.out.low hlo (Nat.lt_succ_self _)); clear hp3 hb3 hlo)
          go_roundw
          case rel => exact ⟨i + 1, _, by go_num, by omega, HP3.out, HB3.out, HBK3.out, by have := HK1.out; simp; omega, HNX, Lib.hid HS.out.symm⟩
          case measure => simp [intOf]; omega
        by_cases m4 : k = 4
        · subst m4
          by_cases hk0 : k1 = 0
          · subst hk0
            obtain rfl : p = [] := List.length_eq_zero_iff.1 HK1.out
            have HRN := Lib.hid (HE.out.symm.trans (Sp.endB_none _ (Sp.sp_no0 rfl HZ.out)))
            go_wp2_with fail
            have HBZ : Blk _ w.heap.size 71 #[.string ⟨#[]⟩, .int .i64 0, .int .i64 0] := ((HBK.out.set_ 0 (.string ⟨#[]⟩)).set_ 1 (.int .i64 0)).set_ 2 (.int .i64 0)
            refine bodyPost_ret (results_row_tmp rfl _ _ w.heap.size #[.string ⟨#[]⟩, .int .i64 0, .int .i64 0] rfl (run_loadVar_row _ _ _ _ _ _ _ HBZ Tryz.underlying71 rfl (by kernel_rfl))) rfl ?_
            exact ⟨by rw [HRN.out]; rfl, ((HB.out.setCell (p := ⟨w.heap.size, 0, none⟩) (Nat.le_refl _) _).setCell (p := ⟨w.heap.size, 1, none⟩) (Nat.le_refl _) _).setCell (p := ⟨w.heap.size, 2, none⟩) (Nat.le_refl _) _⟩
          obtain ⟨K, rfl⟩ : ∃ K, k1 = K + 1 := ⟨k1 - 1, by omega⟩
          obtain ⟨t, r, rfl, hr⟩ : ∃ t r, p = t :: r ∧ r.length = K := by
            match p, HK1.out with
            | t :: r, h => exact ⟨t, r, rfl, by simpa using h⟩
          obtain ⟨g, rfl, ct0, ct1, ct2, fz, hc1, hc2, hg1, hg2⟩ := prow_top HP.out hr
          have hst : Sp.stepR ⟨4, F, op, fo, lo, hi, le, pa⟩ (t :: r) = some (.no t :: r) := Sp.sp_no rfl HZ.out t
          have HS := Lib.hid (HE.out.symm.trans (Sp.endB_some _ hst))
          have HNX := Lib.hid (pile_next hS.out HD.out hst)
          have hbd := pile_bd hS.out (by omega) (List.mem_cons_self ..)
          have hpc : pcOf (.no t) = [.string (bs (33 :: Sp.brk (decide (t.by_ < 3)) t.text)), .int .i64 3, .int .i64 ((if decide (t.by_ < 3) then t.nest + 1 else t.nest) + 1 : Nat)] := by
            show pcCell (33 :: Sp.brk t.joined t.text) 3 (t.nest + Sp.one t.joined + 1) = _
            rw [Sp.joined_by]
            cases decide (t.by_ < 3) <;> rfl
          obtain ⟨m, hm⟩ : ∃ m, decide (t.by_ < 3) = m := ⟨_, rfl⟩
          have hm2 : decide ((t.by_ : Int) < 3) = m := by rw [← hm]; congr 1; exact propext (by omega)
          have hin := fun W => ref5_in t.text t.by_ t.nest m W (by omega) (by omega)
          rw [hm] at hpc
          obtain ⟨T, hT⟩ : ∃ T, t.text = T := ⟨_, rfl⟩
          obtain ⟨b, hb⟩ : ∃ b, t.by_ = b := ⟨_, rfl⟩
          obtain ⟨ne, hne2⟩ : ∃ ne, t.nest = ne := ⟨_, rfl⟩
          rw [hT, hb, hne2] at hin
          rw [hT, hne2] at hpc
          rw [hT] at ct0 hbd
          rw [hb] at ct1 hm hm2
          rw [hne2] at ct2 hbd
          have hYl := Sp.brk_len m T
          obtain ⟨Y, hY⟩ : ∃ Y, Sp.brk m T = Y := ⟨_, rfl⟩
          obtain ⟨b2, hb2⟩ : ∃ b2, (if m then 3 else b) = b2 := ⟨_, rfl⟩
          obtain ⟨n2, hn2⟩ : ∃ n2, (if m then ne + 1 else ne) = n2 := ⟨_, rfl⟩
          have hn2l : n2 ≤ 129 := by rw [← hn2]; split <;> omega
          rw [hY] at hin hpc hYl
          rw [hb2, hn2] at hin
          rw [hn2] at hpc
          have HIN := Lib.hid (show ∀ W, Calls Tryz.prog 51 #[.agg #[.string (bs T), .int .i64 (b : Nat), .int .i64 (ne : Nat)], .bool m] W (Gives (.agg #[.string (bs Y), .int .i64 (b2 : Nat), .int .i64 (n2 : Nat)]) W) from hin)
          have HPC := Lib.hid hpc
          have hne3 := Lib.hid hne
          have HG := Lib.hid (And.intro hg1 (And.intro hg2 (And.intro hc1 hc2)))
          have HR1 := Lib.hid hr
          have HFZ := Lib.hid fz
          have HC := Lib.hid (And.intro ct0 (And.intro ct1 ct2))
          have kI : (0 : Int) ≤ (K : Int) := by omega
          have kU : (K : Int) ≤ 64 := by omega
          have y1 : IntKind.i64.wrap (K : Int) = (K : Int) := by rw [IntKind.wrap_i64]; omega
          have y2 : IntKind.i64.wrap ((K : Int) + 1 - 1) = (K : Int) := by rw [IntKind.wrap_i64]; omega
          have y3 : (K : Int) < (K : Int) + 1 := by omega
          clear hst hpc hin hT hb hne2 hY hb2 hn2 fz hr hg1 hc1 hc2 hk0
          go_wp2_with fail
          have hS0 : Below wr.heap.size wr wr ∧ wr.cell? ⟨g, K * 3, none⟩ = some (.string (bs T)) ∧ wr.cell? ⟨g, K * 3 + 1, none⟩ = some (.int .i64 (b : Nat)) ∧ wr.cell? ⟨g, K * 3 + 2, none⟩ = some (.int .i64 (ne : Nat)) := ⟨Below.refl _ _, ct0, ct1, ct2⟩
          have HK : Hid (∀ w3 w4, (Below wr.heap.size wr w3 ∧ w3.cell? ⟨g, K * 3, none⟩ = some (.string (bs T)) ∧ w3.cell? ⟨g, K * 3 + 1, none⟩ = some (.int .i64 (b : Nat)) ∧ w3.cell? ⟨g, K * 3 + 2, none⟩ = some (.int .i64 (ne : Nat))) → Below w3.heap.size w3 w4 → (Below wr.heap.size wr w4 ∧ w4.cell? ⟨g, K * 3, none⟩ = some (.string (bs T)) ∧ w4.cell? ⟨g, K * 3 + 1, none⟩ = some (.int .i64 (b : Nat)) ∧ w4.cell? ⟨g, K * 3 + 2, none⟩ = some (.int .i64 (ne : Nat)))) := by
            intro w3 w4 h hb
            have hl : g < w3.heap.size := Nat.lt_of_lt_of_le HG.out.2.1 h.1.size
            exact ⟨h.1.trans (hb.mono h.1.size), (hb.cell (p := ⟨g, K * 3, none⟩) hl).trans h.2.1, (hb.cell (p := ⟨g, K * 3 + 1, none⟩) hl).trans h.2.2.1, (hb.cell (p := ⟨g, K * 3 + 2, none⟩) hl).trans h.2.2.2⟩
          have HKS : Hid (∀ w3 M, (Below wr.heap.size wr w3 ∧ w3.cell? ⟨g, K * 3, none⟩ = some (.string (bs T)) ∧ w3.cell? ⟨g, K * 3 + 1, none⟩ = some (.int .i64 (b : Nat)) ∧ w3.cell? ⟨g, K * 3 + 2, none⟩ = some (.int .i64 (ne : Nat))) → wr.heap.size ≤ M → ∀ x y z, (Below wr.heap.size wr (((w3.setCell ⟨M, 0, none⟩ x).setCell ⟨M, 1, none⟩ y).setCell ⟨M, 2, none⟩ z) ∧ (((w3.setCell ⟨M, 0, none⟩ x).setCell ⟨M, 1, none⟩ y).setCell ⟨M, 2, none⟩ z).cell? ⟨g, K * 3, none⟩ = some (.string (bs T)) ∧ (((w3.setCell ⟨M, 0, none⟩ x).setCell ⟨M, 1, none⟩ y).setCell ⟨M, 2, none⟩ z).cell? ⟨g, K * 3 + 1, none⟩ = some (.int .i64 (b : Nat)) ∧ (((w3.setCell ⟨M, 0, none⟩ x).setCell ⟨M, 1, none⟩ y).setCell ⟨M, 2, none⟩ z).cell? ⟨g, K * 3 + 2, none⟩ = some (.int .i64 (ne : Nat)))) := by
            intro w3 M h hM x y z
            have hb := ((h.1.setCell (p := ⟨M, 0, none⟩) hM x).setCell (p := ⟨M, 1, none⟩) hM y).setCell (p := ⟨M, 2, none⟩) hM z
            have hl := HG.out.2.1
            exact ⟨hb, (hb.cell (p := ⟨g, K * 3, none⟩) hl).trans hS0.2.1, (hb.cell (p := ⟨g, K * 3 + 1, none⟩) hl).trans hS0.2.2.1, (hb.cell (p := ⟨g, K * 3 + 2, none⟩) hl).trans hS0.2.2.2⟩
          go_region_held3 (fun w' => Below wr.heap.size wr w' ∧ w'.cell? ⟨g, K * 3, none⟩ = some (.string (bs T)) ∧ w'.cell? ⟨g, K * 3 + 1, none⟩ = some (.int .i64 (b : Nat)) ∧ w'.cell? ⟨g, K * 3 + 2, none⟩ = some (.int .i64 (ne : Nat)))
              (first | assumption | exact ks | exact HK.out _ _ hS0 ⟨rfl, rfl, rfl, Nat.le_refl _, fun _ _ => rfl⟩ | exact HK.out _ _ (by assumption) ((Below.refl _ _).alloc (Nat.le_refl _) _) | exact HKS.out _ _ (by assumption) (Nat.le_refl _) _ _ _)
              ((first | (go_at_call 51; refine (HIN.out _).mono ?_; rintro e w4 ⟨rfl, hb4⟩; have ks := HK.out _ w4 (by assumption) hb4; (first | (have hbz := box_after hb4; obtain ⟨hbx, bz0, bz1, bz2, bz3, bz4, bz5⟩ := hbz) | skip))))
          all_goals
            (first
              | (have hb7 := ks.1.alloc ks.1.size (.cells #[.string (bs Y), .int .i64 (b2 : Nat), .int .i64 (n2 : Nat)] 71)
                 have bk7 := Blk.new w4 71 #[.string (bs Y), .int .i64 (b2 : Nat), .int .i64 (n2 : Nat)]
                 have hMl := ks.1.size
                 obtain ⟨w7, hw7⟩ : ∃ x, w4.alloc (.cells #[.string (bs Y), .int .i64 (b2 : Nat), .int .i64 (n2 : Nat)] 71) = x := ⟨_, rfl⟩
                 obtain ⟨M7, hM7⟩ : ∃ M, w4.heap.size = M := ⟨_, rfl⟩
                 rw [hw7] at hb7 bk7 ⊢
                 rw [hM7] at bk7 hMl ⊢)
              | (have hb7 := ((ks.1.setCell (p := ⟨wr.heap.size, 0, none⟩) (Nat.le_refl _) (.string (bs Y))).setCell (p := ⟨wr.heap.size, 1, none⟩) (Nat.le_refl _) (.int .i64 (b2 : Nat))).setCell (p := ⟨wr.heap.size, 2, none⟩) (Nat.le_refl _) (.int .i64 (n2 : Nat))
                 have bk7 : Blk _ wr.heap.size 71 #[.string (bs Y), .int .i64 (b2 : Nat), .int .i64 (n2 : Nat)] := ((hbx.set_ 0 (.string (bs Y))).set_ 1 (.int .i64 (b2 : Nat))).set_ 2 (.int .i64 (n2 : Nat))
                 obtain ⟨w7, hw7⟩ : ∃ x, ((w4.setCell ⟨wr.heap.size, 0, none⟩ (.string (bs Y))).setCell ⟨wr.heap.size, 1, none⟩ (.int .i64 (b2 : Nat))).setCell ⟨wr.heap.size, 2, none⟩ (.int .i64 (n2 : Nat)) = x := ⟨_, rfl⟩
                 rw [hw7] at hb7 bk7 ⊢
                 obtain ⟨M7, hM7⟩ : ∃ M, M = wr.heap.size := ⟨_, rfl⟩
                 rw [← hM7] at bk7 ⊢
                 have hMl : wr.heap.size ≤ M7 := Nat.le_of_eq hM7.symm))
            have u70 := bk7.cell 0
            have u71 := bk7.cell 1
            have u72 := bk7.cell 2
            simp only [List.getElem?_toArray, List.getElem?_cons_zero, List.getElem?_cons_succ] at u70 u71 u72
            clear hw7 hM7
            have ct0 := (hb7.cell (p := ⟨g, K * 3, none⟩) HG.out.2.1).trans HC.out.1
            have ct1 := (hb7.cell (p := ⟨g, K * 3 + 1, none⟩) HG.out.2.1).trans HC.out.2.1
            have ct2 := (hb7.cell (p := ⟨g, K * 3 + 2, none⟩) HG.out.2.1).trans HC.out.2.2
            have fz0 := (hb7.frozen (p := ⟨g, K * 3, none⟩) HG.out.2.1).trans (HFZ.out _)
            have fz1 := (hb7.frozen (p := ⟨g, K * 3 + 1, none⟩) HG.out.2.1).trans (HFZ.out _)
            have fz2 := (hb7.frozen (p := ⟨g, K * 3 + 2, none⟩) HG.out.2.1).trans (HFZ.out _)
            have HB7 := Lib.hid hb7
            have r1 : ∀ W, (Op.stringOp .add (⟨#[33]⟩ : ByteArray) (bs Y)).run Tryz.prog W = .ok (.string (bs (33 :: Y))) W := fun W => radd [33] Y (by simp only [List.length_cons, List.length_nil]; omega) W
            have kn : (0 : Int) ≤ (n2 : Int) := by omega
            have kn2 : (n2 : Int) ≤ 129 := by omega
            clear hb7 bk7 y2
            go_wp2_with fail
            have e1 : (t :: r).reverse = r.reverse ++ t :: [] := by simp
            have e2 : (Sp.Tr.no t :: r).reverse = r.reverse ++ Sp.Tr.no t :: [] := by simp
            have hP9 := prow_set (prow_below HP.out HB7.out) (by simp [HR1.out]) e1 e2 (List.length_reverse.trans HR1.out) HPC.out
            have hg1 := HG.out.1
            have hB9 := (((HB.out.trans (HB7.out.mono HB.out.size)).setCell (p := ⟨g, K * 3, none⟩) (by show _ ≤ g; omega) (.string (bs (33 :: Y)))).setCell (p := ⟨g, K * 3 + 1, none⟩) (by show _ ≤ g; omega) (.int .i64 3)).setCell (p := ⟨g, K * 3 + 2, none⟩) (by show _ ≤ g; omega) (.int .i64 ((n2 : Int) + 1))
            have hK9 := (((HBK.out.below HB7.out hNl).far (p := ⟨g, K * 3, none⟩) (by show w.heap.size ≠ g; omega) (.string (bs (33 :: Y)))).far (p := ⟨g, K * 3 + 1, none⟩) (by show w.heap.size ≠ g; omega) (.int .i64 3)).far (p := ⟨g, K * 3 + 2, none⟩) (by show w.heap.size ≠ g; omega) (.int .i64 ((n2 : Int) + 1))
            go_roundw
            case rel => exact ⟨i + 1, _, by go_num, by omega, hP9, hB9, hK9, by have := HR1.out; simp; omega, HNX, Lib.hid HS.out.symm⟩
            case measure => simp [intOf]; omega
        by_cases m5 : k = 5
        · subst m5
          by_cases hk0 : k1 < 2
          · have HRN := Lib.hid (HE.out.symm.trans (Sp.endB_none _ (Sp.sp_pair0 (Or.inl rfl) HZ.out (by rw [HK1.out]; exact hk0))))
            rcases (show k1 = 0 ∨ k1 = 1 by omega) with rfl | rfl
            all_goals
              clear hk0
              go_wp2_with fail
              have HBZ : Blk _ w.heap.size 71 #[.string ⟨#[]⟩, .int .i64 0, .int .i64 0] := ((HBK.out.set_ 0 (.string ⟨#[]⟩)).set_ 1 (.int .i64 0)).set_ 2 (.int .i64 0)
              refine bodyPost_ret (results_row_tmp rfl _ _ w.heap.size #[.string ⟨#[]⟩, .int .i64 0, .int .i64 0] rfl (run_loadVar_row _ _ _ _ _ _ _ HBZ Tryz.underlying71 rfl (by kernel_rfl))) rfl ?_
              exact ⟨by rw [HRN.out]; rfl, ((HB.out.setCell (p := ⟨w.heap.size, 0, none⟩) (Nat.le_refl _) _).setCell (p := ⟨w.heap.size, 1, none⟩) (Nat.le_refl _) _).setCell (p := ⟨w.heap.size, 2, none⟩) (Nat.le_refl _) _⟩
          obtain ⟨K, rfl⟩ : ∃ K, k1 = K + 1 + 1 := ⟨k1 - 2, by omega⟩
          obtain ⟨b, a, r, rfl, hr⟩ : ∃ b a r, p = b :: a :: r ∧ r.length = K := by
            match p, HK1.out with
            | b :: a :: r, h => exact ⟨b, a, r, rfl, by simpa using h⟩
          obtain ⟨g, rfl, cb0, cb1, cb2, fz, hc1, hc2, hg1, hg2⟩ := prow_top (K := K + 1) HP.out (by simp [hr])
          obtain ⟨ca0, ca1, ca2⟩ := prow_under HP.out hr
          have hst : Sp.stepR ⟨5, F, op, fo, lo, hi, le, pa⟩ (b :: a :: r) = some (.both a b :: r) := Sp.sp_and rfl HZ.out a b
          have HS := Lib.hid (HE.out.symm.trans (Sp.endB_some _ hst))
          have HNX := Lib.hid (pile_next hS.out HD.out hst)
          have hba := pile_bd hS.out (by omega) (List.mem_cons_of_mem _ (List.mem_cons_self ..))
          have hbb := pile_bd hS.out (by omega) (List.mem_cons_self ..)
          have hpc := pc_both a b
          obtain ⟨ma, hma⟩ : ∃ m, decide (a.by_ < 2) = m := ⟨_, rfl⟩
          obtain ⟨mb, hmb⟩ : ∃ m, decide (b.by_ ≤ 2) = m := ⟨_, rfl⟩
          have hma2 : decide ((a.by_ : Int) < 2) = ma := by rw [← hma]; congr 1; exact propext (by omega)
          have hmb2 : decide ((b.by_ : Int) ≤ 2) = mb := by rw [← hmb]; congr 1; exact propext (by omega)
          have hina := fun W => ref5_in a.text a.by_ a.nest ma W (by omega) (by omega)
          have hinb := fun W => ref5_in b.text b.by_ b.nest mb W (by omega) (by omega)
          rw [hma, hmb] at hpc
          have hYa := Sp.brk_len ma a.text
          have hYb := Sp.brk_len mb b.text
          have hna : (if ma then a.nest + 1 else a.nest) ≤ 129 := by split <;> omega
          have hnb : (if mb then b.nest + 1 else b.nest) ≤ 129 := by split <;> omega
          generalize Sp.brk ma a.text = Ya at *
          generalize Sp.brk mb b.text = Yb at *
          generalize (if ma then a.nest + 1 else a.nest) = na at *
          generalize (if mb then b.nest + 1 else b.nest) = nb at *
          generalize (if ma then 3 else a.by_) = ba2 at hina
          generalize (if mb then 3 else b.by_) = bb2 at hinb
          obtain ⟨Ta, hTa⟩ : ∃ T, a.text = T := ⟨_, rfl⟩
          obtain ⟨Tb, hTb⟩ : ∃ T, b.text = T := ⟨_, rfl⟩
          obtain ⟨ba, hba2⟩ : ∃ x, a.by_ = x := ⟨_, rfl⟩
          obtain ⟨bb, hbb2⟩ : ∃ x, b.by_ = x := ⟨_, rfl⟩
          obtain ⟨ea, hea⟩ : ∃ x, a.nest = x := ⟨_, rfl⟩
          obtain ⟨eb, heb⟩ : ∃ x, b.nest = x := ⟨_, rfl⟩
          rw [hTa, hba2, hea] at hina
          rw [hTb, hbb2, heb] at hinb
          rw [hTa] at ca0 hba hYa
          rw [hTb] at cb0 hbb hYb
          rw [hba2] at ca1 hma hma2
          rw [hbb2] at cb1 hmb hmb2
          rw [hea] at ca2
          rw [heb] at cb2
          have HINA := Lib.hid (show ∀ W, Calls Tryz.prog 51 #[.agg #[.string (bs Ta), .int .i64 (ba : Nat), .int .i64 (ea : Nat)], .bool ma] W (Gives (.agg #[.string (bs Ya), .int .i64 (ba2 : Nat), .int .i64 (na : Nat)]) W) from hina)
          have HINB := Lib.hid (show ∀ W, Calls Tryz.prog 51 #[.agg #[.string (bs Tb), .int .i64 (bb : Nat), .int .i64 (eb : Nat)], .bool mb] W (Gives (.agg #[.string (bs Yb), .int .i64 (bb2 : Nat), .int .i64 (nb : Nat)]) W) from hinb)
          have HPC := Lib.hid hpc
          have HG := Lib.hid (And.intro hg1 (And.intro hg2 (And.intro hc1 hc2)))
          have HR1 := Lib.hid hr
          have HFZ := Lib.hid fz
          have HCA := Lib.hid (And.intro ca0 (And.intro ca1 ca2))
          have HCB := Lib.hid (And.intro cb0 (And.intro cb1 cb2))
          have hlY : Ya.length + Yb.length ≤ 20000 := by omega
          have kI : (0 : Int) ≤ (K : Int) := by omega
          have kU : (K : Int) ≤ 64 := by omega
          have y1 : IntKind.i64.wrap (K : Int) = (K : Int) := by rw [IntKind.wrap_i64]; omega
          have y2 : IntKind.i64.wrap ((K : Int) + 1) = (K : Int) + 1 := by rw [IntKind.wrap_i64]; omega
          have y3 : (K : Int) + 1 + 1 - 2 = (K : Int) := by omega
          have y4 : (K : Int) < (K : Int) + 1 + 1 := by omega
          have y5 : (K : Int) + 1 < (K : Int) + 1 + 1 := by omega
          have y6 : (0 : Int) ≤ (K : Int) + 1 := by omega
          have y7 : ((K : Int) + 1).toNat = K + 1 := by omega
          have y8 : (K : Int) + 1 ≤ (cap1 : Int) := by omega
          clear hst hpc hina hinb hTa hTb hba2 hbb2 hea heb fz hr hg1 hc1 hc2 hk0 hba hbb hYa hYb cb0 cb1 cb2
          go_wp2_with fail
          have hS0 : (Below wr.heap.size wr wr ∧ wr.cell? ⟨g, K * 3, none⟩ = some (.string (bs Ta)) ∧ wr.cell? ⟨g, K * 3 + 1, none⟩ = some (.int .i64 (ba : Nat)) ∧ wr.cell? ⟨g, K * 3 + 2, none⟩ = some (.int .i64 (ea : Nat))) := ⟨Below.refl _ _, ca0, ca1, ca2⟩
          have HK : Hid (∀ w3 w4, (Below wr.heap.size wr w3 ∧ w3.cell? ⟨g, K * 3, none⟩ = some (.string (bs Ta)) ∧ w3.cell? ⟨g, K * 3 + 1, none⟩ = some (.int .i64 (ba : Nat)) ∧ w3.cell? ⟨g, K * 3 + 2, none⟩ = some (.int .i64 (ea : Nat))) → Below w3.heap.size w3 w4 → (Below wr.heap.size wr w4 ∧ w4.cell? ⟨g, K * 3, none⟩ = some (.string (bs Ta)) ∧ w4.cell? ⟨g, K * 3 + 1, none⟩ = some (.int .i64 (ba : Nat)) ∧ w4.cell? ⟨g, K * 3 + 2, none⟩ = some (.int .i64 (ea : Nat)))) := by
            intro w3 w4 h hb
            have hl : g < w3.heap.size := Nat.lt_of_lt_of_le HG.out.2.1 h.1.size
            exact ⟨h.1.trans (hb.mono h.1.size), (hb.cell (p := ⟨g, K * 3, none⟩) hl).trans h.2.1, (hb.cell (p := ⟨g, K * 3 + 1, none⟩) hl).trans h.2.2.1, (hb.cell (p := ⟨g, K * 3 + 2, none⟩) hl).trans h.2.2.2⟩
          have HKS : Hid (∀ w3 M, (Below wr.heap.size wr w3 ∧ w3.cell? ⟨g, K * 3, none⟩ = some (.string (bs Ta)) ∧ w3.cell? ⟨g, K * 3 + 1, none⟩ = some (.int .i64 (ba : Nat)) ∧ w3.cell? ⟨g, K * 3 + 2, none⟩ = some (.int .i64 (ea : Nat))) → wr.heap.size ≤ M → ∀ x y z, (Below wr.heap.size wr (((w3.setCell ⟨M, 0, none⟩ x).setCell ⟨M, 1, none⟩ y).setCell ⟨M, 2, none⟩ z) ∧ (((w3.setCell ⟨M, 0, none⟩ x).setCell ⟨M, 1, none⟩ y).setCell ⟨M, 2, none⟩ z).cell? ⟨g, K * 3, none⟩ = some (.string (bs Ta)) ∧ (((w3.setCell ⟨M, 0, none⟩ x).setCell ⟨M, 1, none⟩ y).setCell ⟨M, 2, none⟩ z).cell? ⟨g, K * 3 + 1, none⟩ = some (.int .i64 (ba : Nat)) ∧ (((w3.setCell ⟨M, 0, none⟩ x).setCell ⟨M, 1, none⟩ y).setCell ⟨M, 2, none⟩ z).cell? ⟨g, K * 3 + 2, none⟩ = some (.int .i64 (ea : Nat)))) := by
            intro w3 M h hM x y z
            have hb := ((h.1.setCell (p := ⟨M, 0, none⟩) hM x).setCell (p := ⟨M, 1, none⟩) hM y).setCell (p := ⟨M, 2, none⟩) hM z
            have hl := HG.out.2.1
            exact ⟨hb, (hb.cell (p := ⟨g, K * 3, none⟩) hl).trans hS0.2.1, (hb.cell (p := ⟨g, K * 3 + 1, none⟩) hl).trans hS0.2.2.1, (hb.cell (p := ⟨g, K * 3 + 2, none⟩) hl).trans hS0.2.2.2⟩
          go_region_held3 (fun w' => Below wr.heap.size wr w' ∧ w'.cell? ⟨g, K * 3, none⟩ = some (.string (bs Ta)) ∧ w'.cell? ⟨g, K * 3 + 1, none⟩ = some (.int .i64 (ba : Nat)) ∧ w'.cell? ⟨g, K * 3 + 2, none⟩ = some (.int .i64 (ea : Nat)))
              (first | assumption | exact ks | exact HK.out _ _ hS0 ⟨rfl, rfl, rfl, Nat.le_refl _, fun _ _ => rfl⟩ | exact HK.out _ _ (by assumption) ((Below.refl _ _).alloc (Nat.le_refl _) _) | exact HKS.out _ _ (by assumption) (Nat.le_refl _) _ _ _)
              ((first | (go_at_call 51; refine (HINA.out _).mono ?_; rintro e w4 ⟨rfl, hb4⟩; have ks := HK.out _ w4 (by assumption) hb4; (first | (have hbz := box_after hb4; obtain ⟨hbx, bz0, bz1, bz2, bz3, bz4, bz5⟩ := hbz) | skip))))
          all_goals
            (first
              | (have hb7 := ks.1.alloc ks.1.size (.cells #[.string (bs Ya), .int .i64 (ba2 : Nat), .int .i64 (na : Nat)] 71)
                 have bk7 := Blk.new w4 71 #[.string (bs Ya), .int .i64 (ba2 : Nat), .int .i64 (na : Nat)]
                 have hMl := ks.1.size
                 obtain ⟨w7, hw7⟩ : ∃ x, w4.alloc (.cells #[.string (bs Ya), .int .i64 (ba2 : Nat), .int .i64 (na : Nat)] 71) = x := ⟨_, rfl⟩
                 obtain ⟨M7, hM7⟩ : ∃ M, w4.heap.size = M := ⟨_, rfl⟩
                 rw [hw7] at hb7 bk7 ⊢
                 rw [hM7] at bk7 hMl ⊢)
              | (have hb7 := ((ks.1.setCell (p := ⟨wr.heap.size, 0, none⟩) (Nat.le_refl _) (.string (bs Ya))).setCell (p := ⟨wr.heap.size, 1, none⟩) (Nat.le_refl _) (.int .i64 (ba2 : Nat))).setCell (p := ⟨wr.heap.size, 2, none⟩) (Nat.le_refl _) (.int .i64 (na : Nat))
                 have bk7 : Blk _ wr.heap.size 71 #[.string (bs Ya), .int .i64 (ba2 : Nat), .int .i64 (na : Nat)] := ((hbx.set_ 0 (.string (bs Ya))).set_ 1 (.int .i64 (ba2 : Nat))).set_ 2 (.int .i64 (na : Nat))
                 obtain ⟨w7, hw7⟩ : ∃ x, ((w4.setCell ⟨wr.heap.size, 0, none⟩ (.string (bs Ya))).setCell ⟨wr.heap.size, 1, none⟩ (.int .i64 (ba2 : Nat))).setCell ⟨wr.heap.size, 2, none⟩ (.int .i64 (na : Nat)) = x := ⟨_, rfl⟩
                 rw [hw7] at hb7 bk7 ⊢
                 obtain ⟨M7, hM7⟩ : ∃ M, M = wr.heap.size := ⟨_, rfl⟩
                 rw [← hM7] at bk7 ⊢
                 have hMl : wr.heap.size ≤ M7 := Nat.le_of_eq hM7.symm))
            have u70 := bk7.cell 0
            have u71 := bk7.cell 1
            have u72 := bk7.cell 2
            simp only [List.getElem?_toArray, List.getElem?_cons_zero, List.getElem?_cons_succ] at u70 u71 u72
            clear hw7 hM7
            have HM7 := Lib.hid hMl
            have HB7 := Lib.hid hb7
            have HBK7 := Lib.hid bk7
            have hg7 := Nat.lt_of_lt_of_le HG.out.2.1 hb7.size
            have cb0 := (hb7.cell (p := ⟨g, (K + 1) * 3, none⟩) HG.out.2.1).trans HCB.out.1
            have cb1 := (hb7.cell (p := ⟨g, (K + 1) * 3 + 1, none⟩) HG.out.2.1).trans HCB.out.2.1
            have cb2 := (hb7.cell (p := ⟨g, (K + 1) * 3 + 2, none⟩) HG.out.2.1).trans HCB.out.2.2
            clear hb7 bk7 ca0 ca1 ca2 ks hS0 HK HKS
            go_wp2_with fail
            have hS0 : (Below w7.heap.size w7 w7 ∧ w7.cell? ⟨g, (K + 1) * 3, none⟩ = some (.string (bs Tb)) ∧ w7.cell? ⟨g, (K + 1) * 3 + 1, none⟩ = some (.int .i64 (bb : Nat)) ∧ w7.cell? ⟨g, (K + 1) * 3 + 2, none⟩ = some (.int .i64 (eb : Nat))) := ⟨Below.refl _ _, cb0, cb1, cb2⟩
            have HK : Hid (∀ w3 w4, (Below w7.heap.size w7 w3 ∧ w3.cell? ⟨g, (K + 1) * 3, none⟩ = some (.string (bs Tb)) ∧ w3.cell? ⟨g, (K + 1) * 3 + 1, none⟩ = some (.int .i64 (bb : Nat)) ∧ w3.cell? ⟨g, (K + 1) * 3 + 2, none⟩ = some (.int .i64 (eb : Nat))) → Below w3.heap.size w3 w4 → (Below w7.heap.size w7 w4 ∧ w4.cell? ⟨g, (K + 1) * 3, none⟩ = some (.string (bs Tb)) ∧ w4.cell? ⟨g, (K + 1) * 3 + 1, none⟩ = some (.int .i64 (bb : Nat)) ∧ w4.cell? ⟨g, (K + 1) * 3 + 2, none⟩ = some (.int .i64 (eb : Nat)))) := by
              intro w3 w4 h hb
              have hl : g < w3.heap.size := Nat.lt_of_lt_of_le hg7 h.1.size
              exact ⟨h.1.trans (hb.mono h.1.size), (hb.cell (p := ⟨g, (K + 1) * 3, none⟩) hl).trans h.2.1, (hb.cell (p := ⟨g, (K + 1) * 3 + 1, none⟩) hl).trans h.2.2.1, (hb.cell (p := ⟨g, (K + 1) * 3 + 2, none⟩) hl).trans h.2.2.2⟩
            have HKS : Hid (∀ w3 M, (Below w7.heap.size w7 w3 ∧ w3.cell? ⟨g, (K + 1) * 3, none⟩ = some (.string (bs Tb)) ∧ w3.cell? ⟨g, (K + 1) * 3 + 1, none⟩ = some (.int .i64 (bb : Nat)) ∧ w3.cell? ⟨g, (K + 1) * 3 + 2, none⟩ = some (.int .i64 (eb : Nat))) → w7.heap.size ≤ M → ∀ x y z, (Below w7.heap.size w7 (((w3.setCell ⟨M, 0, none⟩ x).setCell ⟨M, 1, none⟩ y).setCell ⟨M, 2, none⟩ z) ∧ (((w3.setCell ⟨M, 0, none⟩ x).setCell ⟨M, 1, none⟩ y).setCell ⟨M, 2, none⟩ z).cell? ⟨g, (K + 1) * 3, none⟩ = some (.string (bs Tb)) ∧ (((w3.setCell ⟨M, 0, none⟩ x).setCell ⟨M, 1, none⟩ y).setCell ⟨M, 2, none⟩ z).cell? ⟨g, (K + 1) * 3 + 1, none⟩ = some (.int .i64 (bb : Nat)) ∧ (((w3.setCell ⟨M, 0, none⟩ x).setCell ⟨M, 1, none⟩ y).setCell ⟨M, 2, none⟩ z).cell? ⟨g, (K + 1) * 3 + 2, none⟩ = some (.int .i64 (eb : Nat)))) := by
              intro w3 M h hM x y z
              have hb := ((h.1.setCell (p := ⟨M, 0, none⟩) hM x).setCell (p := ⟨M, 1, none⟩) hM y).setCell (p := ⟨M, 2, none⟩) hM z
              have hl := hg7
              exact ⟨hb, (hb.cell (p := ⟨g, (K + 1) * 3, none⟩) hl).trans hS0.2.1, (hb.cell (p := ⟨g, (K + 1) * 3 + 1, none⟩) hl).trans hS0.2.2.1, (hb.cell (p := ⟨g, (K + 1) * 3 + 2, none⟩) hl).trans hS0.2.2.2⟩
            go_region_held3 (fun w' => Below w7.heap.size w7 w' ∧ w'.cell? ⟨g, (K + 1) * 3, none⟩ = some (.string (bs Tb)) ∧ w'.cell? ⟨g, (K + 1) * 3 + 1, none⟩ = some (.int .i64 (bb : Nat)) ∧ w'.cell? ⟨g, (K + 1) * 3 + 2, none⟩ = some (.int .i64 (eb : Nat)))
                (first | assumption | exact ks | exact HK.out _ _ hS0 ⟨rfl, rfl, rfl, Nat.le_refl _, fun _ _ => rfl⟩ | exact HK.out _ _ (by assumption) ((Below.refl _ _).alloc (Nat.le_refl _) _) | exact HKS.out _ _ (by assumption) (Nat.le_refl _) _ _ _)
                ((first | (go_at_call 51; refine (HINB.out _).mono ?_; rintro e w4 ⟨rfl, hb4⟩; have ks := HK.out _ w4 (by assumption) hb4; (first | (have hbz := box_after hb4; obtain ⟨hbx, bz0, bz1, bz2, bz3, bz4, bz5⟩ := hbz) | skip))))
            all_goals
              (first
                | (have hb9 := ks.1.alloc ks.1.size (.cells #[.string (bs Yb), .int .i64 (bb2 : Nat), .int .i64 (nb : Nat)] 71)
                   have bk9 := Blk.new w4 71 #[.string (bs Yb), .int .i64 (bb2 : Nat), .int .i64 (nb : Nat)]
                   have hMl := ks.1.size
                   obtain ⟨w9, hw9⟩ : ∃ x, w4.alloc (.cells #[.string (bs Yb), .int .i64 (bb2 : Nat), .int .i64 (nb : Nat)] 71) = x := ⟨_, rfl⟩
                   obtain ⟨M9, hM9⟩ : ∃ M, w4.heap.size = M := ⟨_, rfl⟩
                   rw [hw9] at hb9 bk9 ⊢
                   rw [hM9] at bk9 hMl ⊢)
                | (have hb9 := ((ks.1.setCell (p := ⟨w7.heap.size, 0, none⟩) (Nat.le_refl _) (.string (bs Yb))).setCell (p := ⟨w7.heap.size, 1, none⟩) (Nat.le_refl _) (.int .i64 (bb2 : Nat))).setCell (p := ⟨w7.heap.size, 2, none⟩) (Nat.le_refl _) (.int .i64 (nb : Nat))
                   have bk9 : Blk _ w7.heap.size 71 #[.string (bs Yb), .int .i64 (bb2 : Nat), .int .i64 (nb : Nat)] := ((hbx.set_ 0 (.string (bs Yb))).set_ 1 (.int .i64 (bb2 : Nat))).set_ 2 (.int .i64 (nb : Nat))
                   obtain ⟨w9, hw9⟩ : ∃ x, ((w4.setCell ⟨w7.heap.size, 0, none⟩ (.string (bs Yb))).setCell ⟨w7.heap.size, 1, none⟩ (.int .i64 (bb2 : Nat))).setCell ⟨w7.heap.size, 2, none⟩ (.int .i64 (nb : Nat)) = x := ⟨_, rfl⟩
                   rw [hw9] at hb9 bk9 ⊢
                   obtain ⟨M9, hM9⟩ : ∃ M, M = w7.heap.size := ⟨_, rfl⟩
                   rw [← hM9] at bk9 ⊢
                   have hMl : w7.heap.size ≤ M9 := Nat.le_of_eq hM9.symm))
              have u90 := bk9.cell 0
              have u91 := bk9.cell 1
              have u92 := bk9.cell 2
              simp only [List.getElem?_toArray, List.getElem?_cons_zero, List.getElem?_cons_succ] at u90 u91 u92
              clear hw9 hM9
              have hM7 := HM7.out
              have hB79 := HB7.out.trans (hb9.mono HB7.out.size)
              have bk79 := HBK7.out.below hb9 HBK7.out.lt
              have v70 := bk79.cell 0
              have v71 := bk79.cell 1
              have v72 := bk79.cell 2
              simp only [List.getElem?_toArray, List.getElem?_cons_zero, List.getElem?_cons_succ] at v70 v71 v72
              have hb7s := HB7.out.size
              have hn7 : M7 ≠ g := by have := HG.out.2.1; omega
              have hn9 : M9 ≠ g := by have := HG.out.2.1; omega
              have ca0 := (hB79.cell (p := ⟨g, K * 3, none⟩) HG.out.2.1).trans HCA.out.1
              have ca1 := (hB79.cell (p := ⟨g, K * 3 + 1, none⟩) HG.out.2.1).trans HCA.out.2.1
              have ca2 := (hB79.cell (p := ⟨g, K * 3 + 2, none⟩) HG.out.2.1).trans HCA.out.2.2
              have fz0 := (hB79.frozen (p := ⟨g, K * 3, none⟩) HG.out.2.1).trans (HFZ.out _)
              have fz1 := (hB79.frozen (p := ⟨g, K * 3 + 1, none⟩) HG.out.2.1).trans (HFZ.out _)
              have fz2 := (hB79.frozen (p := ⟨g, K * 3 + 2, none⟩) HG.out.2.1).trans (HFZ.out _)
              have HGR := Lib.hid (fun W => ref5_greater na nb W (by omega) (by omega))
              obtain ⟨nm, hnm⟩ : ∃ x, max na nb = x := ⟨_, rfl⟩
              have hpc := HPC.out
              rw [hnm] at HGR hpc
              have HPC2 := Lib.hid hpc
              have r1 : ∀ W, (Op.stringOp .add (bs Ya) (⟨#[32, 38, 32]⟩ : ByteArray)).run Tryz.prog W = .ok (.string (bs (Ya ++ [32, 38, 32]))) W := fun W => radd Ya [32, 38, 32] (by simp only [List.length_cons, List.length_nil]; omega) W
              have r2 : ∀ W, (Op.stringOp .add (bs (Ya ++ [32, 38, 32])) (bs Yb)).run Tryz.prog W = .ok (.string (bs (Ya ++ 32 :: 38 :: 32 :: Yb))) W := fun W => (radd (Ya ++ [32, 38, 32]) Yb (by simp only [List.length_append, List.length_cons, List.length_nil]; omega) W).trans (by simp)
              have HB79 := Lib.hid hB79
              have hS9 : (w9.cell? ⟨M7, 0, none⟩ = some (.string (bs Ya)) ∧ w9.cell? ⟨M7, 2, none⟩ = some (.int .i64 (na : Nat)) ∧ w9.cell? ⟨M9, 0, none⟩ = some (.string (bs Yb)) ∧ w9.cell? ⟨M9, 2, none⟩ = some (.int .i64 (nb : Nat))) := ⟨v70, v72, u90, u92⟩
              have HK9 : Hid (∀ w4 : World, Below w9.heap.size w9 w4 → (w4.cell? ⟨M7, 0, none⟩ = some (.string (bs Ya)) ∧ w4.cell? ⟨M7, 2, none⟩ = some (.int .i64 (na : Nat)) ∧ w4.cell? ⟨M9, 0, none⟩ = some (.string (bs Yb)) ∧ w4.cell? ⟨M9, 2, none⟩ = some (.int .i64 (nb : Nat)))) := by
                intro w4 hb
                have l7 := bk79.lt
                have l9 := bk9.lt
                exact ⟨(hb.cell (p := ⟨M7, 0, none⟩) l7).trans v70, (hb.cell (p := ⟨M7, 2, none⟩) l7).trans v72, (hb.cell (p := ⟨M9, 0, none⟩) l9).trans u90, (hb.cell (p := ⟨M9, 2, none⟩) l9).trans u92⟩
              have HKT : Hid (∀ w3 : World, (w3.cell? ⟨M7, 0, none⟩ = some (.string (bs Ya)) ∧ w3.cell? ⟨M7, 2, none⟩ = some (.int .i64 (na : Nat)) ∧ w3.cell? ⟨M9, 0, none⟩ = some (.string (bs Yb)) ∧ w3.cell? ⟨M9, 2, none⟩ = some (.int .i64 (nb : Nat))) → ∀ x y z, ((((w3.setCell ⟨g, K * 3, none⟩ x).setCell ⟨g, K * 3 + 1, none⟩ y).setCell ⟨g, K * 3 + 2, none⟩ z).cell? ⟨M7, 0, none⟩ = some (.string (bs Ya)) ∧ (((w3.setCell ⟨g, K * 3, none⟩ x).setCell ⟨g, K * 3 + 1, none⟩ y).setCell ⟨g, K * 3 + 2, none⟩ z).cell? ⟨M7, 2, none⟩ = some (.int .i64 (na : Nat)) ∧ (((w3.setCell ⟨g, K * 3, none⟩ x).setCell ⟨g, K * 3 + 1, none⟩ y).setCell ⟨g, K * 3 + 2, none⟩ z).cell? ⟨M9, 0, none⟩ = some (.string (bs Yb)) ∧ (((w3.setCell ⟨g, K * 3, none⟩ x).setCell ⟨g, K * 3 + 1, none⟩ y).setCell ⟨g, K * 3 + 2, none⟩ z).cell? ⟨M9, 2, none⟩ = some (.int .i64 (nb : Nat)))) := by
                intro w3 h x y z
                have key : ∀ q : Addr, q.block ≠ g → (((w3.setCell ⟨g, K * 3, none⟩ x).setCell ⟨g, K * 3 + 1, none⟩ y).setCell ⟨g, K * 3 + 2, none⟩ z).cell? q = w3.cell? q := fun q hq => (((far_cell _ (p := ⟨g, K * 3 + 2, none⟩) hq z).trans (far_cell _ (p := ⟨g, K * 3 + 1, none⟩) hq y)).trans (far_cell _ (p := ⟨g, K * 3, none⟩) hq x))
                exact ⟨(key ⟨M7, 0, none⟩ hn7).trans h.1, (key ⟨M7, 2, none⟩ hn7).trans h.2.1, (key ⟨M9, 0, none⟩ hn9).trans h.2.2.1, (key ⟨M9, 2, none⟩ hn9).trans h.2.2.2⟩
              clear hb9 bk9 bk79 hB79 hpc hM7 hMl hb7s ks hS0 HK HKS HINA HINB cb0 cb1 cb2 v71 u91 u71 u70 u72 hnm hlY hn7 hn9
              go_wp2_with fail
              go_region_held3 (fun w' => w'.cell? ⟨M7, 0, none⟩ = some (.string (bs Ya)) ∧ w'.cell? ⟨M7, 2, none⟩ = some (.int .i64 (na : Nat)) ∧ w'.cell? ⟨M9, 0, none⟩ = some (.string (bs Yb)) ∧ w'.cell? ⟨M9, 2, none⟩ = some (.int .i64 (nb : Nat)))
                  (first | assumption | exact HK9.out _ ⟨rfl, rfl, rfl, Nat.le_refl _, fun _ _ => rfl⟩ | exact HKT.out _ (by assumption) _ _ _)
                  ((first | (go_at_call 52; refine (HGR.out _).mono ?_; rintro e w4 ⟨rfl, hw4⟩; subst hw4)))
              go_wp2_with fail
              have e1 : (b :: a :: r).reverse = r.reverse ++ a :: [b] := by simp
              have e2 : (b :: Sp.Tr.both a b :: r).reverse = r.reverse ++ Sp.Tr.both a b :: [b] := by simp
              have hP9 := prow_pop (prow_set (prow_below HP.out HB79.out) (by simp [HR1.out]) e1 e2 (List.length_reverse.trans HR1.out) HPC2.out) (by simp [HR1.out])
              have hg1 := HG.out.1
              have hB9 := ((((HB.out.trans (HB79.out.mono HB.out.size)).setCell (p := ⟨g, K * 3, none⟩) (by show _ ≤ g; omega) (.string (bs (Ya ++ 32 :: 38 :: 32 :: Yb)))).setCell (p := ⟨g, K * 3 + 1, none⟩) (by show _ ≤ g; omega) (.int .i64 2)).setCell (p := ⟨g, K * 3 + 2, none⟩) (by show _ ≤ g; omega) (.int .i64 (nm : Nat))).drew
              have hK9 := (((HBK.out.below HB79.out hNl).far (p := ⟨g, K * 3, none⟩) (by show w.heap.size ≠ g; omega) (.string (bs (Ya ++ 32 :: 38 :: 32 :: Yb)))).far (p := ⟨g, K * 3 + 1, none⟩) (by show w.heap.size ≠ g; omega) (.int .i64 2)).far (p := ⟨g, K * 3 + 2, none⟩) (by show w.heap.size ≠ g; omega) (.int .i64 (nm : Nat))
              go_roundw
              case rel => exact ⟨i + 1, _, by go_num, by omega, hP9, hB9, hK9, by have := HR1.out; simp; omega, HNX, Lib.hid HS.out.symm⟩
              case measure => simp [intOf]; omega
        by_cases m6 : k = 6
        · subst m6
          by_cases hk0 : k1 < 2
          · have HRN := Lib.hid (HE.out.symm.trans (Sp.endB_none _ (Sp.sp_pair0 (Or.inr rfl) HZ.out (by rw [HK1.out]; exact hk0))))
            rcases (show k1 = 0 ∨ k1 = 1 by omega) with rfl | rfl
            all_goals
              clear hk0
              go_wp2_with fail
              have HBZ : Blk _ w.heap.size 71 #[.string ⟨#[]⟩, .int .i64 0, .int .i64 0] := ((HBK.out.set_ 0 (.string ⟨#[]⟩)).set_ 1 (.int .i64 0)).set_ 2 (.int .i64 0)
              refine bodyPost_ret (results_row_tmp rfl _ _ w.heap.size #[.string ⟨#[]⟩, .int .i64 0, .int .i64 0] rfl (run_loadVar_row _ _ _ _ _ _ _ HBZ Tryz.underlying71 rfl (by kernel_rfl))) rfl ?_
              exact ⟨by rw [HRN.out]; rfl, ((HB.out.setCell (p := ⟨w.heap.size, 0, none⟩) (Nat.le_refl _) _).setCell (p := ⟨w.heap.size, 1, none⟩) (Nat.le_refl _) _).setCell (p := ⟨w.heap.size, 2, none⟩) (Nat.le_refl _) _⟩
          obtain ⟨K, rfl⟩ : ∃ K, k1 = K + 1 + 1 := ⟨k1 - 2, by omega⟩
          obtain ⟨b, a, r, rfl, hr⟩ : ∃ b a r, p = b :: a :: r ∧ r.length = K := by
            match p, HK1.out with
            | b :: a :: r, h => exact ⟨b, a, r, rfl, by simpa using h⟩
          obtain ⟨g, rfl, cb0, cb1, cb2, fz, hc1, hc2, hg1, hg2⟩ := prow_top (K := K + 1) HP.out (by simp [hr])
          obtain ⟨ca0, ca1, ca2⟩ := prow_under HP.out hr
          have hst : Sp.stepR ⟨6, F, op, fo, lo, hi, le, pa⟩ (b :: a :: r) = some (.or a b :: r) := Sp.sp_or rfl HZ.out a b
          have HS := Lib.hid (HE.out.symm.trans (Sp.endB_some _ hst))
          have HNX := Lib.hid (pile_next hS.out HD.out hst)
          have hba := pile_bd hS.out (by omega) (List.mem_cons_of_mem _ (List.mem_cons_self ..))
          have hbb := pile_bd hS.out (by omega) (List.mem_cons_self ..)
          have hpc := pc_or a b
          obtain ⟨ma, hma⟩ : ∃ m, decide (a.by_ < 1) = m := ⟨_, rfl⟩
          obtain ⟨mb, hmb⟩ : ∃ m, decide (b.by_ ≤ 1) = m := ⟨_, rfl⟩
          have hma2 : decide ((a.by_ : Int) < 1) = ma := by rw [← hma]; congr 1; exact propext (by omega)
          have hmb2 : decide ((b.by_ : Int) ≤ 1) = mb := by rw [← hmb]; congr 1; exact propext (by omega)
          have hina := fun W => ref5_in a.text a.by_ a.nest ma W (by omega) (by omega)
          have hinb := fun W => ref5_in b.text b.by_ b.nest mb W (by omega) (by omega)
          rw [hma, hmb] at hpc
          have hYa := Sp.brk_len ma a.text
          have hYb := Sp.brk_len mb b.text
          have hna : (if ma then a.nest + 1 else a.nest) ≤ 129 := by split <;> omega
          have hnb : (if mb then b.nest + 1 else b.nest) ≤ 129 := by split <;> omega
          generalize Sp.brk ma a.text = Ya at *
          generalize Sp.brk mb b.text = Yb at *
          generalize (if ma then a.nest + 1 else a.nest) = na at *
          generalize (if mb then b.nest + 1 else b.nest) = nb at *
          generalize (if ma then 3 else a.by_) = ba2 at hina
          generalize (if mb then 3 else b.by_) = bb2 at hinb
          obtain ⟨Ta, hTa⟩ : ∃ T, a.text = T := ⟨_, rfl⟩
          obtain ⟨Tb, hTb⟩ : ∃ T, b.text = T := ⟨_, rfl⟩
          obtain ⟨ba, hba2⟩ : ∃ x, a.by_ = x := ⟨_, rfl⟩
          obtain ⟨bb, hbb2⟩ : ∃ x, b.by_ = x := ⟨_, rfl⟩
          obtain ⟨ea, hea⟩ : ∃ x, a.nest = x := ⟨_, rfl⟩
          obtain ⟨eb, heb⟩ : ∃ x, b.nest = x := ⟨_, rfl⟩
          rw [hTa, hba2, hea] at hina
          rw [hTb, hbb2, heb] at hinb
          rw [hTa] at ca0 hba hYa
          rw [hTb] at cb0 hbb hYb
          rw [hba2] at ca1 hma hma2
          rw [hbb2] at cb1 hmb hmb2
          rw [hea] at ca2
          rw [heb] at cb2
          have HINA := Lib.hid (show ∀ W, Calls Tryz.prog 51 #[.agg #[.string (bs Ta), .int .i64 (ba : Nat), .int .i64 (ea : Nat)], .bool ma] W (Gives (.agg #[.string (bs Ya), .int .i64 (ba2 : Nat), .int .i64 (na : Nat)]) W) from hina)
          have HINB := Lib.hid (show ∀ W, Calls Tryz.prog 51 #[.agg #[.string (bs Tb), .int .i64 (bb : Nat), .int .i64 (eb : Nat)], .bool mb] W (Gives (.agg #[.string (bs Yb), .int .i64 (bb2 : Nat), .int .i64 (nb : Nat)]) W) from hinb)
          have HPC := Lib.hid hpc
          have HG := Lib.hid (And.intro hg1 (And.intro hg2 (And.intro hc1 hc2)))
          have HR1 := Lib.hid hr
          have HFZ := Lib.hid fz
          have HCA := Lib.hid (And.intro ca0 (And.intro ca1 ca2))
          have HCB := Lib.hid (And.intro cb0 (And.intro cb1 cb2))
          have hlY : Ya.length + Yb.length ≤ 20000 := by omega
          have kI : (0 : Int) ≤ (K : Int) := by omega
          have kU : (K : Int) ≤ 64 := by omega
          have y1 : IntKind.i64.wrap (K : Int) = (K : Int) := by rw [IntKind.wrap_i64]; omega
          have y2 : IntKind.i64.wrap ((K : Int) + 1) = (K : Int) + 1 := by rw [IntKind.wrap_i64]; omega
          have y3 : (K : Int) + 1 + 1 - 2 = (K : Int) := by omega
          have y4 : (K : Int) < (K : Int) + 1 + 1 := by omega
          have y5 : (K : Int) + 1 < (K : Int) + 1 + 1 := by omega
          have y6 : (0 : Int) ≤ (K : Int) + 1 := by omega
          have y7 : ((K : Int) + 1).toNat = K + 1 := by omega
          have y8 : (K : Int) + 1 ≤ (cap1 : Int) := by omega
          clear hst hpc hina hinb hTa hTb hba2 hbb2 hea heb fz hr hg1 hc1 hc2 hk0 hba hbb hYa hYb cb0 cb1 cb2
          go_wp2_with fail
          have hS0 : (Below wr.heap.size wr wr ∧ wr.cell? ⟨g, K * 3, none⟩ = some (.string (bs Ta)) ∧ wr.cell? ⟨g, K * 3 + 1, none⟩ = some (.int .i64 (ba : Nat)) ∧ wr.cell? ⟨g, K * 3 + 2, none⟩ = some (.int .i64 (ea : Nat))) := ⟨Below.refl _ _, ca0, ca1, ca2⟩
          have HK : Hid (∀ w3 w4, (Below wr.heap.size wr w3 ∧ w3.cell? ⟨g, K * 3, none⟩ = some (.string (bs Ta)) ∧ w3.cell? ⟨g, K * 3 + 1, none⟩ = some (.int .i64 (ba : Nat)) ∧ w3.cell? ⟨g, K * 3 + 2, none⟩ = some (.int .i64 (ea : Nat))) → Below w3.heap.size w3 w4 → (Below wr.heap.size wr w4 ∧ w4.cell? ⟨g, K * 3, none⟩ = some (.string (bs Ta)) ∧ w4.cell? ⟨g, K * 3 + 1, none⟩ = some (.int .i64 (ba : Nat)) ∧ w4.cell? ⟨g, K * 3 + 2, none⟩ = some (.int .i64 (ea : Nat)))) := by
            intro w3 w4 h hb
            have hl : g < w3.heap.size := Nat.lt_of_lt_of_le HG.out.2.1 h.1.size
            exact ⟨h.1.trans (hb.mono h.1.size), (hb.cell (p := ⟨g, K * 3, none⟩) hl).trans h.2.1, (hb.cell (p := ⟨g, K * 3 + 1, none⟩) hl).trans h.2.2.1, (hb.cell (p := ⟨g, K * 3 + 2, none⟩) hl).trans h.2.2.2⟩
          have HKS : Hid (∀ w3 M, (Below wr.heap.size wr w3 ∧ w3.cell? ⟨g, K * 3, none⟩ = some (.string (bs Ta)) ∧ w3.cell? ⟨g, K * 3 + 1, none⟩ = some (.int .i64 (ba : Nat)) ∧ w3.cell? ⟨g, K * 3 + 2, none⟩ = some (.int .i64 (ea : Nat))) → wr.heap.size ≤ M → ∀ x y z, (Below wr.heap.size wr (((w3.setCell ⟨M, 0, none⟩ x).setCell ⟨M, 1, none⟩ y).setCell ⟨M, 2, none⟩ z) ∧ (((w3.setCell ⟨M, 0, none⟩ x).setCell ⟨M, 1, none⟩ y).setCell ⟨M, 2, none⟩ z).cell? ⟨g, K * 3, none⟩ = some (.string (bs Ta)) ∧ (((w3.setCell ⟨M, 0, none⟩ x).setCell ⟨M, 1, none⟩ y).setCell ⟨M, 2, none⟩ z).cell? ⟨g, K * 3 + 1, none⟩ = some (.int .i64 (ba : Nat)) ∧ (((w3.setCell ⟨M, 0, none⟩ x).setCell ⟨M, 1, none⟩ y).setCell ⟨M, 2, none⟩ z).cell? ⟨g, K * 3 + 2, none⟩ = some (.int .i64 (ea : Nat)))) := by
            intro w3 M h hM x y z
            have hb := ((h.1.setCell (p := ⟨M, 0, none⟩) hM x).setCell (p := ⟨M, 1, none⟩) hM y).setCell (p := ⟨M, 2, none⟩) hM z
            have hl := HG.out.2.1
            exact ⟨hb, (hb.cell (p := ⟨g, K * 3, none⟩) hl).trans hS0.2.1, (hb.cell (p := ⟨g, K * 3 + 1, none⟩) hl).trans hS0.2.2.1, (hb.cell (p := ⟨g, K * 3 + 2, none⟩) hl).trans hS0.2.2.2⟩
          go_region_held3 (fun w' => Below wr.heap.size wr w' ∧ w'.cell? ⟨g, K * 3, none⟩ = some (.string (bs Ta)) ∧ w'.cell? ⟨g, K * 3 + 1, none⟩ = some (.int .i64 (ba : Nat)) ∧ w'.cell? ⟨g, K * 3 + 2, none⟩ = some (.int .i64 (ea : Nat)))
              (first | assumption | exact ks | exact HK.out _ _ hS0 ⟨rfl, rfl, rfl, Nat.le_refl _, fun _ _ => rfl⟩ | exact HK.out _ _ (by assumption) ((Below.refl _ _).alloc (Nat.le_refl _) _) | exact HKS.out _ _ (by assumption) (Nat.le_refl _) _ _ _)
              ((first | (go_at_call 51; refine (HINA.out _).mono ?_; rintro e w4 ⟨rfl, hb4⟩; have ks := HK.out _ w4 (by assumption) hb4; (first | (have hbz := box_after hb4; obtain ⟨hbx, bz0, bz1, bz2, bz3, bz4, bz5⟩ := hbz) | skip))))
          all_goals
            (first
              | (have hb7 := ks.1.alloc ks.1.size (.cells #[.string (bs Ya), .int .i64 (ba2 : Nat), .int .i64 (na : Nat)] 71)
                 have bk7 := Blk.new w4 71 #[.string (bs Ya), .int .i64 (ba2 : Nat), .int .i64 (na : Nat)]
                 have hMl := ks.1.size
                 obtain ⟨w7, hw7⟩ : ∃ x, w4.alloc (.cells #[.string (bs Ya), .int .i64 (ba2 : Nat), .int .i64 (na : Nat)] 71) = x := ⟨_, rfl⟩
                 obtain ⟨M7, hM7⟩ : ∃ M, w4.heap.size = M := ⟨_, rfl⟩
                 rw [hw7] at hb7 bk7 ⊢
                 rw [hM7] at bk7 hMl ⊢)
              | (have hb7 := ((ks.1.setCell (p := ⟨wr.heap.size, 0, none⟩) (Nat.le_refl _) (.string (bs Ya))).setCell (p := ⟨wr.heap.size, 1, none⟩) (Nat.le_refl _) (.int .i64 (ba2 : Nat))).setCell (p := ⟨wr.heap.size, 2, none⟩) (Nat.le_refl _) (.int .i64 (na : Nat))
                 have bk7 : Blk _ wr.heap.size 71 #[.string (bs Ya), .int .i64 (ba2 : Nat), .int .i64 (na : Nat)] := ((hbx.set_ 0 (.string (bs Ya))).set_ 1 (.int .i64 (ba2 : Nat))).set_ 2 (.int .i64 (na : Nat))
                 obtain ⟨w7, hw7⟩ : ∃ x, ((w4.setCell ⟨wr.heap.size, 0, none⟩ (.string (bs Ya))).setCell ⟨wr.heap.size, 1, none⟩ (.int .i64 (ba2 : Nat))).setCell ⟨wr.heap.size, 2, none⟩ (.int .i64 (na : Nat)) = x := ⟨_, rfl⟩
                 rw [hw7] at hb7 bk7 ⊢
                 obtain ⟨M7, hM7⟩ : ∃ M, M = wr.heap.size := ⟨_, rfl⟩
                 rw [← hM7] at bk7 ⊢
                 have hMl : wr.heap.size ≤ M7 := Nat.le_of_eq hM7.symm))
            have u70 := bk7.cell 0
            have u71 := bk7.cell 1
            have u72 := bk7.cell 2
            simp only [List.getElem?_toArray, List.getElem?_cons_zero, List.getElem?_cons_succ] at u70 u71 u72
            clear hw7 hM7
            have HM7 := Lib.hid hMl
            have HB7 := Lib.hid hb7
            have HBK7 := Lib.hid bk7
            have hg7 := Nat.lt_of_lt_of_le HG.out.2.1 hb7.size
            have cb0 := (hb7.cell (p := ⟨g, (K + 1) * 3, none⟩) HG.out.2.1).trans HCB.out.1
            have cb1 := (hb7.cell (p := ⟨g, (K + 1) * 3 + 1, none⟩) HG.out.2.1).trans HCB.out.2.1
            have cb2 := (hb7.cell (p := ⟨g, (K + 1) * 3 + 2, none⟩) HG.out.2.1).trans HCB.out.2.2
            clear hb7 bk7 ca0 ca1 ca2 ks hS0 HK HKS
            go_wp2_with fail
            have hS0 : (Below w7.heap.size w7 w7 ∧ w7.cell? ⟨g, (K + 1) * 3, none⟩ = some (.string (bs Tb)) ∧ w7.cell? ⟨g, (K + 1) * 3 + 1, none⟩ = some (.int .i64 (bb : Nat)) ∧ w7.cell? ⟨g, (K + 1) * 3 + 2, none⟩ = some (.int .i64 (eb : Nat))) := ⟨Below.refl _ _, cb0, cb1, cb2⟩
            have HK : Hid (∀ w3 w4, (Below w7.heap.size w7 w3 ∧ w3.cell? ⟨g, (K + 1) * 3, none⟩ = some (.string (bs Tb)) ∧ w3.cell? ⟨g, (K + 1) * 3 + 1, none⟩ = some (.int .i64 (bb : Nat)) ∧ w3.cell? ⟨g, (K + 1) * 3 + 2, none⟩ = some (.int .i64 (eb : Nat))) → Below w3.heap.size w3 w4 → (Below w7.heap.size w7 w4 ∧ w4.cell? ⟨g, (K + 1) * 3, none⟩ = some (.string (bs Tb)) ∧ w4.cell? ⟨g, (K + 1) * 3 + 1, none⟩ = some (.int .i64 (bb : Nat)) ∧ w4.cell? ⟨g, (K + 1) * 3 + 2, none⟩ = some (.int .i64 (eb : Nat)))) := by
              intro w3 w4 h hb
              have hl : g < w3.heap.size := Nat.lt_of_lt_of_le hg7 h.1.size
              exact ⟨h.1.trans (hb.mono h.1.size), (hb.cell (p := ⟨g, (K + 1) * 3, none⟩) hl).trans h.2.1, (hb.cell (p := ⟨g, (K + 1) * 3 + 1, none⟩) hl).trans h.2.2.1, (hb.cell (p := ⟨g, (K + 1) * 3 + 2, none⟩) hl).trans h.2.2.2⟩
            have HKS : Hid (∀ w3 M, (Below w7.heap.size w7 w3 ∧ w3.cell? ⟨g, (K + 1) * 3, none⟩ = some (.string (bs Tb)) ∧ w3.cell? ⟨g, (K + 1) * 3 + 1, none⟩ = some (.int .i64 (bb : Nat)) ∧ w3.cell? ⟨g, (K + 1) * 3 + 2, none⟩ = some (.int .i64 (eb : Nat))) → w7.heap.size ≤ M → ∀ x y z, (Below w7.heap.size w7 (((w3.setCell ⟨M, 0, none⟩ x).setCell ⟨M, 1, none⟩ y).setCell ⟨M, 2, none⟩ z) ∧ (((w3.setCell ⟨M, 0, none⟩ x).setCell ⟨M, 1, none⟩ y).setCell ⟨M, 2, none⟩ z).cell? ⟨g, (K + 1) * 3, none⟩ = some (.string (bs Tb)) ∧ (((w3.setCell ⟨M, 0, none⟩ x).setCell ⟨M, 1, none⟩ y).setCell ⟨M, 2, none⟩ z).cell? ⟨g, (K + 1) * 3 + 1, none⟩ = some (.int .i64 (bb : Nat)) ∧ (((w3.setCell ⟨M, 0, none⟩ x).setCell ⟨M, 1, none⟩ y).setCell ⟨M, 2, none⟩ z).cell? ⟨g, (K + 1) * 3 + 2, none⟩ = some (.int .i64 (eb : Nat)))) := by
              intro w3 M h hM x y z
              have hb := ((h.1.setCell (p := ⟨M, 0, none⟩) hM x).setCell (p := ⟨M, 1, none⟩) hM y).setCell (p := ⟨M, 2, none⟩) hM z
              have hl := hg7
              exact ⟨hb, (hb.cell (p := ⟨g, (K + 1) * 3, none⟩) hl).trans hS0.2.1, (hb.cell (p := ⟨g, (K + 1) * 3 + 1, none⟩) hl).trans hS0.2.2.1, (hb.cell (p := ⟨g, (K + 1) * 3 + 2, none⟩) hl).trans hS0.2.2.2⟩
            go_region_held3 (fun w' => Below w7.heap.size w7 w' ∧ w'.cell? ⟨g, (K + 1) * 3, none⟩ = some (.string (bs Tb)) ∧ w'.cell? ⟨g, (K + 1) * 3 + 1, none⟩ = some (.int .i64 (bb : Nat)) ∧ w'.cell? ⟨g, (K + 1) * 3 + 2, none⟩ = some (.int .i64 (eb : Nat)))
                (first | assumption | exact ks | exact HK.out _ _ hS0 ⟨rfl, rfl, rfl, Nat.le_refl _, fun _ _ => rfl⟩ | exact HK.out _ _ (by assumption) ((Below.refl _ _).alloc (Nat.le_refl _) _) | exact HKS.out _ _ (by assumption) (Nat.le_refl _) _ _ _)
                ((first | (go_at_call 51; refine (HINB.out _).mono ?_; rintro e w4 ⟨rfl, hb4⟩; have ks := HK.out _ w4 (by assumption) hb4; (first | (have hbz := box_after hb4; obtain ⟨hbx, bz0, bz1, bz2, bz3, bz4, bz5⟩ := hbz) | skip))))
            all_goals
              (first
                | (have hb9 := ks.1.alloc ks.1.size (.cells #[.string (bs Yb), .int .i64 (bb2 : Nat), .int .i64 (nb : Nat)] 71)
                   have bk9 := Blk.new w4 71 #[.string (bs Yb), .int .i64 (bb2 : Nat), .int .i64 (nb : Nat)]
                   have hMl := ks.1.size
                   obtain ⟨w9, hw9⟩ : ∃ x, w4.alloc (.cells #[.string (bs Yb), .int .i64 (bb2 : Nat), .int .i64 (nb : Nat)] 71) = x := ⟨_, rfl⟩
                   obtain ⟨M9, hM9⟩ : ∃ M, w4.heap.size = M := ⟨_, rfl⟩
                   rw [hw9] at hb9 bk9 ⊢
                   rw [hM9] at bk9 hMl ⊢)
                | (have hb9 := ((ks.1.setCell (p := ⟨w7.heap.size, 0, none⟩) (Nat.le_refl _) (.string (bs Yb))).setCell (p := ⟨w7.heap.size, 1, none⟩) (Nat.le_refl _) (.int .i64 (bb2 : Nat))).setCell (p := ⟨w7.heap.size, 2, none⟩) (Nat.le_refl _) (.int .i64 (nb : Nat))
                   have bk9 : Blk _ w7.heap.size 71 #[.string (bs Yb), .int .i64 (bb2 : Nat), .int .i64 (nb : Nat)] := ((hbx.set_ 0 (.string (bs Yb))).set_ 1 (.int .i64 (bb2 : Nat))).set_ 2 (.int .i64 (nb : Nat))
                   obtain ⟨w9, hw9⟩ : ∃ x, ((w4.setCell ⟨w7.heap.size, 0, none⟩ (.string (bs Yb))).setCell ⟨w7.heap.size, 1, none⟩ (.int .i64 (bb2 : Nat))).setCell ⟨w7.heap.size, 2, none⟩ (.int .i64 (nb : Nat)) = x := ⟨_, rfl⟩
                   rw [hw9] at hb9 bk9 ⊢
                   obtain ⟨M9, hM9⟩ : ∃ M, M = w7.heap.size := ⟨_, rfl⟩
                   rw [← hM9] at bk9 ⊢
                   have hMl : w7.heap.size ≤ M9 := Nat.le_of_eq hM9.symm))
              have u90 := bk9.cell 0
              have u91 := bk9.cell 1
              have u92 := bk9.cell 2
              simp only [List.getElem?_toArray, List.getElem?_cons_zero, List.getElem?_cons_succ] at u90 u91 u92
              clear hw9 hM9
              have hM7 := HM7.out
              have hB79 := HB7.out.trans (hb9.mono HB7.out.size)
              have bk79 := HBK7.out.below hb9 HBK7.out.lt
              have v70 := bk79.cell 0
              have v71 := bk79.cell 1
              have v72 := bk79.cell 2
              simp only [List.getElem?_toArray, List.getElem?_cons_zero, List.getElem?_cons_succ] at v70 v71 v72
              have hb7s := HB7.out.size
              have hn7 : M7 ≠ g := by have := HG.out.2.1; omega
              have hn9 : M9 ≠ g := by have := HG.out.2.1; omega
              have ca0 := (hB79.cell (p := ⟨g, K * 3, none⟩) HG.out.2.1).trans HCA.out.1
              have ca1 := (hB79.cell (p := ⟨g, K * 3 + 1, none⟩) HG.out.2.1).trans HCA.out.2.1
              have ca2 := (hB79.cell (p := ⟨g, K * 3 + 2, none⟩) HG.out.2.1).trans HCA.out.2.2
              have fz0 := (hB79.frozen (p := ⟨g, K * 3, none⟩) HG.out.2.1).trans (HFZ.out _)
              have fz1 := (hB79.frozen (p := ⟨g, K * 3 + 1, none⟩) HG.out.2.1).trans (HFZ.out _)
              have fz2 := (hB79.frozen (p := ⟨g, K * 3 + 2, none⟩) HG.out.2.1).trans (HFZ.out _)
              have HGR := Lib.hid (fun W => ref5_greater na nb W (by omega) (by omega))
              obtain ⟨nm, hnm⟩ : ∃ x, max na nb = x := ⟨_, rfl⟩
              have hpc := HPC.out
              rw [hnm] at HGR hpc
              have HPC2 := Lib.hid hpc
              have r1 : ∀ W, (Op.stringOp .add (bs Ya) (⟨#[32, 124, 32]⟩ : ByteArray)).run Tryz.prog W = .ok (.string (bs (Ya ++ [32, 124, 32]))) W := fun W => radd Ya [32, 124, 32] (by simp only [List.length_cons, List.length_nil]; omega) W
              have r2 : ∀ W, (Op.stringOp .add (bs (Ya ++ [32, 124, 32])) (bs Yb)).run Tryz.prog W = .ok (.string (bs (Ya ++ 32 :: 124 :: 32 :: Yb))) W := fun W => (radd (Ya ++ [32, 124, 32]) Yb (by simp only [List.length_append, List.length_cons, List.length_nil]; omega) W).trans (by simp)
              have HB79 := Lib.hid hB79
              have hS9 : (w9.cell? ⟨M7, 0, none⟩ = some (.string (bs Ya)) ∧ w9.cell? ⟨M7, 2, none⟩ = some (.int .i64 (na : Nat)) ∧ w9.cell? ⟨M9, 0, none⟩ = some (.string (bs Yb)) ∧ w9.cell? ⟨M9, 2, none⟩ = some (.int .i64 (nb : Nat))) := ⟨v70, v72, u90, u92⟩
              have HK9 : Hid (∀ w4 : World, Below w9.heap.size w9 w4 → (w4.cell? ⟨M7, 0, none⟩ = some (.string (bs Ya)) ∧ w4.cell? ⟨M7, 2, none⟩ = some (.int .i64 (na : Nat)) ∧ w4.cell? ⟨M9, 0, none⟩ = some (.string (bs Yb)) ∧ w4.cell? ⟨M9, 2, none⟩ = some (.int .i64 (nb : Nat)))) := by
                intro w4 hb
                have l7 := bk79.lt
                have l9 := bk9.lt
                exact ⟨(hb.cell (p := ⟨M7, 0, none⟩) l7).trans v70, (hb.cell (p := ⟨M7, 2, none⟩) l7).trans v72, (hb.cell (p := ⟨M9, 0, none⟩) l9).trans u90, (hb.cell (p := ⟨M9, 2, none⟩) l9).trans u92⟩
              have HKT : Hid (∀ w3 : World, (w3.cell? ⟨M7, 0, none⟩ = some (.string (bs Ya)) ∧ w3.cell? ⟨M7, 2, none⟩ = some (.int .i64 (na : Nat)) ∧ w3.cell? ⟨M9, 0, none⟩ = some (.string (bs Yb)) ∧ w3.cell? ⟨M9, 2, none⟩ = some (.int .i64 (nb : Nat))) → ∀ x y z, ((((w3.setCell ⟨g, K * 3, none⟩ x).setCell ⟨g, K * 3 + 1, none⟩ y).setCell ⟨g, K * 3 + 2, none⟩ z).cell? ⟨M7, 0, none⟩ = some (.string (bs Ya)) ∧ (((w3.setCell ⟨g, K * 3, none⟩ x).setCell ⟨g, K * 3 + 1, none⟩ y).setCell ⟨g, K * 3 + 2, none⟩ z).cell? ⟨M7, 2, none⟩ = some (.int .i64 (na : Nat)) ∧ (((w3.setCell ⟨g, K * 3, none⟩ x).setCell ⟨g, K * 3 + 1, none⟩ y).setCell ⟨g, K * 3 + 2, none⟩ z).cell? ⟨M9, 0, none⟩ = some (.string (bs Yb)) ∧ (((w3.setCell ⟨g, K * 3, none⟩ x).setCell ⟨g, K * 3 + 1, none⟩ y).setCell ⟨g, K * 3 + 2, none⟩ z).cell? ⟨M9, 2, none⟩ = some (.int .i64 (nb : Nat)))) := by
                intro w3 h x y z
                have key : ∀ q : Addr, q.block ≠ g → (((w3.setCell ⟨g, K * 3, none⟩ x).setCell ⟨g, K * 3 + 1, none⟩ y).setCell ⟨g, K * 3 + 2, none⟩ z).cell? q = w3.cell? q := fun q hq => (((far_cell _ (p := ⟨g, K * 3 + 2, none⟩) hq z).trans (far_cell _ (p := ⟨g, K * 3 + 1, none⟩) hq y)).trans (far_cell _ (p := ⟨g, K * 3, none⟩) hq x))
                exact ⟨(key ⟨M7, 0, none⟩ hn7).trans h.1, (key ⟨M7, 2, none⟩ hn7).trans h.2.1, (key ⟨M9, 0, none⟩ hn9).trans h.2.2.1, (key ⟨M9, 2, none⟩ hn9).trans h.2.2.2⟩
              clear hb9 bk9 bk79 hB79 hpc hM7 hMl hb7s ks hS0 HK HKS HINA HINB cb0 cb1 cb2 v71 u91 u71 u70 u72 hnm hlY hn7 hn9
              go_wp2_with fail
              go_region_held3 (fun w' => w'.cell? ⟨M7, 0, none⟩ = some (.string (bs Ya)) ∧ w'.cell? ⟨M7, 2, none⟩ = some (.int .i64 (na : Nat)) ∧ w'.cell? ⟨M9, 0, none⟩ = some (.string (bs Yb)) ∧ w'.cell? ⟨M9, 2, none⟩ = some (.int .i64 (nb : Nat)))
                  (first | assumption | exact HK9.out _ ⟨rfl, rfl, rfl, Nat.le_refl _, fun _ _ => rfl⟩ | exact HKT.out _ (by assumption) _ _ _)
                  ((first | (go_at_call 52; refine (HGR.out _).mono ?_; rintro e w4 ⟨rfl, hw4⟩; subst hw4)))
              go_wp2_with fail
              have e1 : (b :: a :: r).reverse = r.reverse ++ a :: [b] := by simp
              have e2 : (b :: Sp.Tr.or a b :: r).reverse = r.reverse ++ Sp.Tr.or a b :: [b] := by simp
              have hP9 := prow_pop (prow_set (prow_below HP.out HB79.out) (by simp [HR1.out]) e1 e2 (List.length_reverse.trans HR1.out) HPC2.out) (by simp [HR1.out])
              have hg1 := HG.out.1
              have hB9 := ((((HB.out.trans (HB79.out.mono HB.out.size)).setCell (p := ⟨g, K * 3, none⟩) (by show _ ≤ g; omega) (.string (bs (Ya ++ 32 :: 124 :: 32 :: Yb)))).setCell (p := ⟨g, K * 3 + 1, none⟩) (by show _ ≤ g; omega) (.int .i64 1)).setCell (p := ⟨g, K * 3 + 2, none⟩) (by show _ ≤ g; omega) (.int .i64 (nm : Nat))).drew
              have hK9 := (((HBK.out.below HB79.out hNl).far (p := ⟨g, K * 3, none⟩) (by show w.heap.size ≠ g; omega) (.string (bs (Ya ++ 32 :: 124 :: 32 :: Yb)))).far (p := ⟨g, K * 3 + 1, none⟩) (by show w.heap.size ≠ g; omega) (.int .i64 1)).far (p := ⟨g, K * 3 + 2, none⟩) (by show w.heap.size ≠ g; omega) (.int .i64 (nm : Nat))
              go_roundw
              case rel => exact ⟨i + 1, _, by go_num, by omega, hP9, hB9, hK9, by have := HR1.out; simp; omega, HNX, Lib.hid HS.out.symm⟩
              case measure => simp [intOf]; omega
        have HRN := Lib.hid (HE.out.symm.trans (Sp.endB_none _ (Sp.sp_else m1 m2 k3 m4 m5 m6)))
        have q1 : (k == 1) = false := beq_eq_false_iff_ne.2 m1
        have q2 : (k == 2) = false := beq_eq_false_iff_ne.2 m2
        have q4 : (k == 4) = false := beq_eq_false_iff_ne.2 m4
        have q5 : (k == 5) = false := beq_eq_false_iff_ne.2 m5
        have q6 : (k == 6) = false := beq_eq_false_iff_ne.2 m6
        clear m1 m2 k3 m4 m5 m6
        go_wp2_with fail
        have HBZ : Blk _ w.heap.size 71 #[.string ⟨#[]⟩, .int .i64 0, .int .i64 0] := ((HBK.out.set_ 0 (.string ⟨#[]⟩)).set_ 1 (.int .i64 0)).set_ 2 (.int .i64 0)
        refine bodyPost_ret (results_row_tmp rfl _ _ w.heap.size #[.string ⟨#[]⟩, .int .i64 0, .int .i64 0] rfl (run_loadVar_row _ _ _ _ _ _ _ HBZ Tryz.underlying71 rfl (by kernel_rfl))) rfl ?_
        exact ⟨by rw [HRN.out]; rfl, ((HB.out.setCell (p := ⟨w.heap.size, 0, none⟩) (Nat.le_refl _) _).setCell (p := ⟨w.heap.size, 1, none⟩) (Nat.le_refl _) _).setCell (p := ⟨w.heap.size, 2, none⟩) (Nat.le_refl _) _⟩
    · have q1 : decide ((i : Int) < n) = false := decide_eq_false (by omega)
      have q1b : decide (i < n) = false := decide_eq_false hlt
      have hE2 := hE.out
      rw [List.drop_of_length_le (by rw [HN.out]; omega)] at hE2
      by_cases hk0 : k1 = 1
      · subst hk0
        obtain ⟨t, rfl⟩ : ∃ t, p = [t] := List.length_eq_one_iff.1 HK1.out
        obtain ⟨g, rfl, ct0, ct1, ct2, fz, hc1, hc2, hg1, hg2⟩ := prow_top (K := 0) HP.out rfl
        have hd0 : wr.cell? ⟨g, 0, none⟩ = some (.string (bs t.text)) := ct0
        have hd1 : wr.cell? ⟨g, 1, none⟩ = some (.int .i64 (t.by_ : Nat)) := ct1
        have hd2 : wr.cell? ⟨g, 2, none⟩ = some (.int .i64 (t.nest : Nat)) := ct2
        have HRN := Lib.hid (hE2.symm.trans (Sp.endB_one t))
        clear hE hE2 fz hc1 hc2 hg1 hg2 hkl hi hlt ct0 ct1 ct2
        go_wp2_with fail
        have HBZ : Blk _ w.heap.size 71 #[.string (bs t.text), .int .i64 (t.by_ : Nat), .int .i64 (t.nest : Nat)] := ((HBK.out.set_ 0 (.string (bs t.text))).set_ 1 (.int .i64 (t.by_ : Nat))).set_ 2 (.int .i64 (t.nest : Nat))
        refine bodyPost_ret (results_row_tmp rfl _ _ w.heap.size #[.string (bs t.text), .int .i64 (t.by_ : Nat), .int .i64 (t.nest : Nat)] rfl (run_loadVar_row _ _ _ _ _ _ _ HBZ Tryz.underlying71 rfl (by kernel_rfl))) rfl ?_
        exact ⟨by rw [HRN.out]; rfl, ((HB.out.setCell (p := ⟨w.heap.size, 0, none⟩) (Nat.le_refl _) _).setCell (p := ⟨w.heap.size, 1, none⟩) (Nat.le_refl _) _).setCell (p := ⟨w.heap.size, 2, none⟩) (Nat.le_refl _) _⟩
      · have HRN := Lib.hid (hE2.symm.trans (Sp.endB_not (by rw [HK1.out]; exact hk0)))
        have q2 : ((k1 : Int) != 1) = true := bne_iff_ne.2 (by omega)
        have q3 : (k1 != 1) = true := bne_iff_ne.2 hk0
        have q4 : ((k1 : Int) == 1) = false := beq_eq_false_iff_ne.2 (by omega)
        have q5 : (k1 == 1) = false := beq_eq_false_iff_ne.2 hk0
        clear hE hE2 hk0 hkl hi hlt
        go_wp2_with fail
        have HBZ : Blk _ w.heap.size 71 #[.string ⟨#[]⟩, .int .i64 0, .int .i64 0] := ((HBK.out.set_ 0 (.string ⟨#[]⟩)).set_ 1 (.int .i64 0)).set_ 2 (.int .i64 0)
        refine bodyPost_ret (results_row_tmp rfl _ _ w.heap.size #[.string ⟨#[]⟩, .int .i64 0, .int .i64 0] rfl (run_loadVar_row _ _ _ _ _ _ _ HBZ Tryz.underlying71 rfl (by kernel_rfl))) rfl ?_
        exact ⟨by rw [HRN.out]; rfl, ((HB.out.setCell (p := ⟨w.heap.size, 0, none⟩) (Nat.le_refl _) _).setCell (p := ⟨w.heap.size, 1, none⟩) (Nat.le_refl _) _).setCell (p := ⟨w.heap.size, 2, none⟩) (Nat.le_refl _) _⟩
end Go.Proofs.YtdmpapoabeljfaaGreatDoor
