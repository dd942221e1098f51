/-
  WALK: a list of nodes as a tree: expr.build (chapter 5).
-/
import Derived.Test.YtdmpapoabeljfaaGreatDoorKg
import Derived.Test.YtdmpapoabeljfaaGreatDoorKf
set_option linter.unusedVariables false
set_option linter.unusedSimpArgs false
set_option maxRecDepth 100000
set_option maxHeartbeats 8000000
namespace Go.Proofs.YtdmpapoabeljfaaGreatDoor
open Go.RowKit
namespace Sp
def endB (ds : List Nd) (p : List Tr) : Option Tr := match buildR ds p with | some [t] => some t | _ => none
theorem endB_nil (ns : List Nd) : endB ns [] = buildV ns := rfl
theorem endB_none {d : Nd} {p : List Tr} (ds : List Nd) (h : stepR d p = none) : endB (d :: ds) p = none := by
  unfold endB buildR
  rw [h]
theorem endB_some {d : Nd} {p p' : List Tr} (ds : List Nd) (h : stepR d p = some p') : endB (d :: ds) p = endB ds p' := by
  unfold endB
  rw [buildR, h]
theorem endB_one (t : Tr) : endB [] [t] = some t := rfl
theorem endB_not {p : List Tr} (h : p.length ≠ 1) : endB [] p = none := by
  match p, h with
  | [], _ => rfl
  | [_], h => exact absurd rfl h
  | _ :: _ :: _, _ => rfl
theorem drop_at {α : Type} {l : List α} {i : Nat} {d : α} (h : l[i]? = some d) : l.drop i = d :: l.drop (i + 1) := by
  have hi := (List.getElem?_eq_some_iff.1 h).1
  have hb := (List.getElem?_eq_some_iff.1 h).2
  rw [List.drop_eq_getElem_cons hi, hb]
section
variable {d : Nd} {p : List Tr}
theorem sp_bad (h : d.kind ≠ 3) (hz : zeroT d = false) : stepR d p = none := by unfold stepR; rw [if_pos ⟨h, hz⟩]
theorem sp_any (h : d.kind = 1) (hz : zeroT d = true) : stepR d p = some (.leaf true :: p) := by unfold stepR; simp [h, hz]
theorem sp_none (h : d.kind = 2) (hz : zeroT d = true) : stepR d p = some (.leaf false :: p) := by unfold stepR; simp [h, hz]
theorem sp_test (h : d.kind = 3) : stepR d p = some (.test d :: p) := by unfold stepR; simp [h]
theorem sp_no (h : d.kind = 4) (hz : zeroT d = true) (t : Tr) : stepR d (t :: p) = some (.no t :: p) := by unfold stepR; simp [h, hz]
theorem sp_no0 (h : d.kind = 4) (hz : zeroT d = true) : stepR d [] = none := by unfold stepR; simp [h, hz]
theorem sp_and (h : d.kind = 5) (hz : zeroT d = true) (a b : Tr) : stepR d (b :: a :: p) = some (.both a b :: p) := by unfold stepR; simp [h, hz]
theorem sp_or (h : d.kind = 6) (hz : zeroT d = true) (a b : Tr) : stepR d (b :: a :: p) = some (.or a b :: p) := by unfold stepR; simp [h, hz]
theorem sp_pair0 (h : d.kind = 5 ∨ d.kind = 6) (hz : zeroT d = true) (hp : p.length < 2) : stepR d p = none := by
  match p, hp with
  | [], _ => rcases h with h | h <;> · unfold stepR; simp [h, hz]
  | [_], _ => rcases h with h | h <;> · unfold stepR; simp [h, hz]
theorem sp_else (h1 : d.kind ≠ 1) (h2 : d.kind ≠ 2) (h3 : d.kind ≠ 3) (h4 : d.kind ≠ 4) (h5 : d.kind ≠ 5) (h6 : d.kind ≠ 6) : stepR d p = none := by
  unfold stepR
  split
  · rfl
  · simp [h1, h2, h3, h4, h5, h6]
end
end Sp

theorem run_neq_zero (f1 p1 : List UInt8) (o1 m1 l1 h1 n1 : Int) (W : World) : (binOp .neq 54 (.agg #[.string ⟨f1.toArray⟩, .int .i64 o1, .int .i64 m1, .int .i64 l1, .int .i64 h1, .int .i64 n1, .string ⟨p1.toArray⟩]) (.agg #[.string ⟨#[]⟩, .int .i64 0, .int .i64 0, .int .i64 0, .int .i64 0, .int .i64 0, .string ⟨#[]⟩])).run Tryz.prog W = .ok (.bool (!(f1 == [] && o1 == 0 && m1 == 0 && l1 == 0 && h1 == 0 && n1 == 0 && p1 == []))) W := by
  show (binOp .neq 54 (.agg #[.string (bs f1), .int .i64 o1, .int .i64 m1, .int .i64 l1, .int .i64 h1, .int .i64 n1, .string (bs p1)]) (.agg #[.string ⟨#[]⟩, .int .i64 0, .int .i64 0, .int .i64 0, .int .i64 0, .int .i64 0, .string ⟨#[]⟩])).run Tryz.prog W = _
  have := run_neq_test f1 [] p1 [] o1 0 m1 0 l1 0 h1 0 n1 0 W
  rw [show bs [] = (⟨#[]⟩ : ByteArray) from rfl] at this
  rw [this]
  simp only [Bool.and_assoc]
/-- A tree, or none. -/
def bval : Option Sp.Tr → Value
  | none => .nilIface
  | some t => tv t

theorem pile_form2 {w : World} {B : Nat} {v : Value} {p : List Sp.Tr} (h : Pile w B v p) : ∃ A k cap, p.length = k ∧ v = .slice A k cap := by
  obtain ⟨A, cap, rfl⟩ := pile_form h
  exact ⟨A, _, cap, rfl, rfl⟩
theorem pile_top2 {w : World} {B K cap : Nat} {A : Option Addr} {t : Sp.Tr} {r : List Sp.Tr} (h : Pile w B (.slice A (K + 1) cap) (t :: r)) (hr : r.length = K) :
    ∃ g, A = some ⟨g, 0, none⟩ ∧ w.cell? ⟨g, K, none⟩ = some (tv t) ∧ (∀ j, w.frozen? ⟨g, j, none⟩ = false) ∧ K + 1 ≤ cap ∧ cap ≤ maxLen ∧ B ≤ g ∧ g < w.heap.size := by
  subst hr
  obtain ⟨g, cap', hv, h1, h2, h3, h4, h5, h6⟩ := pile_top h
  injection hv with hv _ hc
  subst hv hc
  exact ⟨g, rfl, h1, h2, h3, h4, h5, h6⟩
theorem pile_set2 {w : World} {B g K cap : Nat} {t : Sp.Tr} {r : List Sp.Tr} (h : Pile w B (.slice (some ⟨g, 0, none⟩) (K + 1) cap) (t :: r)) (hr : r.length = K) (t' : Sp.Tr) :
    Pile (w.setCell ⟨g, K, none⟩ (tv t')) B (.slice (some ⟨g, 0, none⟩) (K + 1) cap) (t' :: r) := by
  subst hr
  exact pile_set h t'
theorem pile_pop2 {w : World} {B g K cap : Nat} {t : Sp.Tr} {r : List Sp.Tr} (h : Pile w B (.slice (some ⟨g, 0, none⟩) (K + 1) cap) (t :: r)) (hr : r.length = K) : Pile w B (.slice (some ⟨g, 0, none⟩) K cap) r := by
  subst hr
  exact pile_pop h
theorem tv_iface (t : Sp.Tr) : ∃ ty rc, tv t = .iface ty rc := by cases t <;> exact ⟨_, _, rfl⟩
theorem alloc_cell {w : World} {g i : Nat} {u : Value} (h : w.cell? ⟨g, i, none⟩ = some u) (hg : g < w.heap.size) (o : Obj) : (w.alloc o).cell? ⟨g, i, none⟩ = some u :=
  (((Below.refl _ _).alloc (Nat.le_refl _) o).cell (p := ⟨g, i, none⟩) hg).trans h
theorem alloc_frozen {w : World} {g i : Nat} (h : w.frozen? ⟨g, i, none⟩ = false) (hg : g < w.heap.size) (o : Obj) : (w.alloc o).frozen? ⟨g, i, none⟩ = false :=
  (((Below.refl _ _).alloc (Nat.le_refl _) o).frozen (p := ⟨g, i, none⟩) hg).trans h

theorem expr_build (A : Option Addr) (n cap : Nat) (ns : List Sp.Nd) (w : World) (hn : ns.length = n) (hl : n ≤ 100000) (hv : NView w w.heap.size A ns) :
    Calls Tryz.prog 25 #[.slice A n cap] w (Gives (.tuple #[bval (Sp.buildV ns), .bool (Sp.buildV ns).isSome]) w) := by
  obtain ⟨R, hR⟩ : ∃ R, Sp.buildV ns = R := ⟨_, rfl⟩
  rw [hR]
  rw [← Sp.endB_nil] at hR
  have HV := Lib.hid hv
  have HR := Lib.hid hR
  have HN := Lib.hid hn
  have n1 : (n : Int) ≤ 100000 := by omega
  have n0 : (0 : Int) ≤ (n : Int) := by omega
  clear hv hR hn
  go_enter Tryz.func25, Tryz.ntmps25
  go_wp2_with fail
  go_loopw [4, 11] (fun v4 v11 wr => ∃ (i : Nat) (p : List Sp.Tr), v11 = .int .i64 (i : Int) ∧ i ≤ n ∧ Pile wr w.heap.size v4 p ∧ Below w.heap.size w wr ∧ p.length ≤ i ∧ Hid (Sp.endB (ns.drop i) p = R)) (fun _ v11 _ => n - (intOf v11).toNat)
  case atStart => exact ⟨0, [], rfl, by omega, pile_nil _ _, Below.refl _ _, by simp, HR⟩
  case round =>
    obtain ⟨i, p, rfl, hi, hp, hb, hpl, hE⟩ := hrel
    have HB := Lib.hid hb
    have HP := Lib.hid hp
    obtain ⟨A1, k1, cap1, hk1, rfl⟩ := pile_form2 hp
    have HK1 := Lib.hid hk1
    have hkl : k1 ≤ i := by omega
    have i0 : (0 : Int) ≤ (i : Int) := by omega
    clear hp hb hk1 hpl
    by_cases hlt : i < n
    · have q1 : decide ((i : Int) < n) = true := decide_eq_true (by omega)
      have q1b : decide (i < n) = true := decide_eq_true hlt
      have p1 : (i : Int) < n := by omega
      obtain ⟨d, hd⟩ : ∃ d, ns[i]? = some d := ⟨_, List.getElem?_eq_getElem (by rw [HN.out]; exact hlt)⟩
      have hE2 := hE.out
      rw [Sp.drop_at hd] at hE2
      have HE := Lib.hid hE2
      obtain ⟨G, O, rfl, hG, c0, c1, c2, c3, c4, c5, c6, c7⟩ := (HV.out.below HB.out (Nat.le_refl _)) i d hd
      clear hE hE2 hd hi
      obtain ⟨k, F, op, fo, lo, hi, le, pa⟩ := d
      have hne := run_neq_zero F pa op fo lo hi le
      have hz : Sp.zeroT ⟨k, F, op, fo, lo, hi, le, pa⟩ = (F == [] && op == 0 && fo == 0 && lo == 0 && hi == 0 && le == 0 && pa == []) := rfl
      simp only [] at c0 c1 c2 c3 c4 c5 c6 c7
      generalize (F == [] && op == 0 && fo == 0 && lo == 0 && hi == 0 && le == 0 && pa == []) = zb at hne hz
      have HZ := Lib.hid hz
      clear hz
      by_cases k3 : k = 3
      · subst k3
        have HS := Lib.hid (HE.out.symm.trans (Sp.endB_some _ (Sp.sp_test rfl)))
        go_wp2_with (at_builtin; go_loud (refine wpList_tree rfl _ _ rfl w.heap.size w (wr.alloc (.cells #[.int .i64 3, .string (bs F), .int .i64 op, .int .i64 fo, .int .i64 lo, .int .i64 hi, .int .i64 le, .string (bs pa)] 56)) _ (.slice A1 k1 cap1) 1 (.test ⟨3, F, op, fo, lo, hi, le, pa⟩) _ rfl p rfl (pile_below HP.out ((Below.refl _ _).alloc (Nat.le_refl _) _)) (wr.heap.size + 1) (by simp) rfl k1 HK1.out (by omega) (Nat.le_refl _) (HB.out.alloc HB.out.size _) ?_); intro g2 cap2 w2 hp2 hb2; have HP2 := Lib.hid hp2; have HB2 := Lib.hid hb2; clear hp2 hb2)
        go_roundw
        case rel => exact ⟨i + 1, _, by go_num, by omega, HP2.out, HB2.out, by have := HK1.out; simp; omega, Lib.hid HS.out.symm⟩
        case measure => simp [intOf]; omega
      have q3 : (k == 3) = false := beq_eq_false_iff_ne.2 k3
      have q3n : (k != 3) = true := bne_iff_ne.2 k3
      cases zb
      case false =>
        have HRN := Lib.hid (HE.out.symm.trans (Sp.endB_none _ (Sp.sp_bad k3 HZ.out)))
        clear k3
        go_wp2_with fail
        go_ret2
        exact ⟨by rw [HRN.out]; rfl, HB.out.alloc HB.out.size _⟩
      case true =>
        by_cases m1 : k = 1
        · subst m1
          have HS := Lib.hid (HE.out.symm.trans (Sp.endB_some _ (Sp.sp_any rfl HZ.out)))
          go_wp2_with (at_builtin; go_loud (refine wpList_tree rfl _ _ rfl w.heap.size w (wr.alloc (.cells #[.int .i64 1, .string (bs F), .int .i64 op, .int .i64 fo, .int .i64 lo, .int .i64 hi, .int .i64 le, .string (bs pa)] 56)) _ (.slice A1 k1 cap1) 1 (.leaf true) _ rfl p rfl (pile_below HP.out ((Below.refl _ _).alloc (Nat.le_refl _) _)) (wr.heap.size + 1) (by simp) rfl k1 HK1.out (by omega) (Nat.le_refl _) (HB.out.alloc HB.out.size _) ?_); intro g2 cap2 w2 hp2 hb2; have HP2 := Lib.hid hp2; have HB2 := Lib.hid hb2; clear hp2 hb2)
          go_roundw
          case rel => exact ⟨i + 1, _, by go_num, by omega, HP2.out, HB2.out, by have := HK1.out; simp; omega, Lib.hid HS.out.symm⟩
          case measure => simp [intOf]; omega
        by_cases m2 : k = 2
        · subst m2
          have HS := Lib.hid (HE.out.symm.trans (Sp.endB_some _ (Sp.sp_none rfl HZ.out)))
          go_wp2_with (at_builtin; go_loud (refine wpList_tree rfl _ _ rfl w.heap.size w (wr.alloc (.cells #[.int .i64 2, .string (bs F), .int .i64 op, .int .i64 fo, .int .i64 lo, .int .i64 hi, .int .i64 le, .string (bs pa)] 56)) _ (.slice A1 k1 cap1) 1 (.leaf false) _ rfl p rfl (pile_below HP.out ((Below.refl _ _).alloc (Nat.le_refl _) _)) (wr.heap.size + 1) (by simp) rfl k1 HK1.out (by omega) (Nat.le_refl _) (HB.out.alloc HB.out.size _) ?_); intro g2 cap2 w2 hp2 hb2; have HP2 := Lib.hid hp2; have HB2 := Lib.hid hb2; clear hp2 hb2)
          go_roundw
          case rel => exact ⟨i + 1, _, by go_num, by omega, HP2.out, HB2.out, by have := HK1.out; simp; omega, Lib.hid HS.out.symm⟩
          case measure => simp [intOf]; omega
        by_cases m4 : k = 4
        · subst m4
          by_cases hk0 : k1 = 0
          · subst hk0
            obtain rfl : p = [] := List.length_eq_zero_iff.1 HK1.out
            have HRN := Lib.hid (HE.out.symm.trans (Sp.endB_none _ (Sp.sp_no0 rfl HZ.out)))
            go_wp2_with fail
            go_ret2
            exact ⟨by rw [HRN.out]; rfl, HB.out.alloc HB.out.size _⟩
          
          obtain ⟨K, rfl⟩ : ∃ K, k1 = K + 1 := ⟨k1 - 1, by omega⟩
          obtain ⟨t, r, rfl, hr⟩ : ∃ t r, p = t :: r ∧ r.length = K := by
            match p, HK1.out with
            | t :: r, h => exact ⟨t, r, rfl, by simpa using h⟩
          obtain ⟨g, rfl, ct, fz, hc1, hc2, hg1, hg2⟩ := pile_top2 HP.out hr
          have HR1 := Lib.hid hr
          have ct2 := alloc_cell ct hg2
          have fz2 := fun o => alloc_frozen (fz K) hg2 o
          have HG := Lib.hid (And.intro hg1 (And.intro hg2 (And.intro hc1 hc2)))
          have kI : (0 : Int) ≤ (K : Int) := by omega
          have kU : (K : Int) ≤ 1000000 := by omega
          have HS := Lib.hid (HE.out.symm.trans (Sp.endB_some _ (Sp.sp_no rfl HZ.out t)))
          obtain ⟨ty, rc, hT⟩ := tv_iface t
          have hV : tv (.no t) = .iface 89 (.agg #[.iface ty rc]) := by show Value.iface _ (.agg #[tv t]) = _; rw [hT]
          have hPn := fun o => pile_set2 (pile_below HP.out ((Below.refl _ _).alloc (Nat.le_refl _) o)) HR1.out (.no t)
          rw [hV] at hPn
          rw [hT] at ct2
          have HPN := Lib.hid hPn
          clear ct fz hr hg1 hg2 hc1 hc2 hk0 hPn hV hT
          go_wp2_with fail
          go_roundw
          case rel => exact ⟨i + 1, _, by go_num, by omega, HPN.out _, (HB.out.alloc HB.out.size _).setCell (p := ⟨g, K, none⟩) HG.out.1 _, by have := HR1.out; simp; omega, Lib.hid HS.out.symm⟩
          case measure => simp [intOf]; omega
        by_cases m5 : k = 5
        · subst m5
          by_cases hk0 : k1 < 2
          · have HRN := Lib.hid (HE.out.symm.trans (Sp.endB_none _ (Sp.sp_pair0 (Or.inl rfl) HZ.out (by rw [HK1.out]; exact hk0))))
            rcases (show k1 = 0 ∨ k1 = 1 by omega) with rfl | rfl
            all_goals
              clear hk0
              go_wp2_with fail
              go_ret2
              exact ⟨by rw [HRN.out]; rfl, HB.out.alloc HB.out.size _⟩
          obtain ⟨K, rfl⟩ : ∃ K, k1 = K + 1 + 1 := ⟨k1 - 2, by omega⟩
          obtain ⟨b, a, r, rfl, hr⟩ : ∃ b a r, p = b :: a :: r ∧ r.length = K := by
            match p, HK1.out with
            | b :: a :: r, h => exact ⟨b, a, r, rfl, by simpa using h⟩
          obtain ⟨g, rfl, ct, fz, hc1, hc2, hg1, hg2⟩ := pile_top2 (K := K + 1) HP.out (by simp [hr])
          have ca := pile_at HP.out (by simp [hr]) K a (by simp [hr])
          have ca2 := alloc_cell ca hg2
          have ca3 := fun o1 o2 => alloc_cell (alloc_cell ca hg2 o1) (by simp; omega) o2
          have ct3 := fun o1 o2 => alloc_cell (alloc_cell ct hg2 o1) (by simp; omega) o2
          have fz3 := fun o1 o2 => alloc_frozen (alloc_frozen (fz K) hg2 o1) (by simp; omega) o2
          have HR1 := Lib.hid hr
          have ct2 := alloc_cell ct hg2
          have fz2 := fun o => alloc_frozen (fz K) hg2 o
          have HG := Lib.hid (And.intro hg1 (And.intro hg2 (And.intro hc1 hc2)))
          have kI : (0 : Int) ≤ (K : Int) := by omega
          have kU : (K : Int) ≤ 1000000 := by omega
          have HS := Lib.hid (HE.out.symm.trans (Sp.endB_some _ (Sp.sp_and rfl HZ.out a b)))
          obtain ⟨ta, ra, hTa⟩ := tv_iface a
          obtain ⟨tb, rb, hTb⟩ := tv_iface b
          have hV : tv (.both a b) = .iface 93 (.agg #[.iface ta ra, .iface tb rb]) := by show Value.iface _ (.agg #[tv a, tv b]) = _; rw [hTa, hTb]
          have hPn := fun W (hW : Below wr.heap.size wr W) => pile_set2 (pile_pop2 (pile_below HP.out hW) (by simp [hr])) HR1.out (.both a b)
          rw [hV] at hPn
          rw [hTb] at ct2 ct3
          rw [hTa] at ca2 ca3
          have HPN := Lib.hid hPn
          have z1 : IntKind.i64.wrap ((K : Int) + 1) = (K : Int) + 1 := by rw [IntKind.wrap_i64]; omega
          have z2 : (K : Int) + 1 ≤ (cap1 : Int) := by omega
          have z3 : (0 : Int) ≤ (K : Int) + 1 := by omega
          clear ct fz hr hg1 hg2 hc1 hc2 hk0 hPn hV hTa hTb ca
          go_wp2_with fail
          go_region
          all_goals go_wp2_with fail
          go_roundw
          case rel => exact ⟨i + 1, _, by go_num, by omega, HPN.out _ (((Below.refl _ _).alloc (Nat.le_refl _) _).alloc (by simp) _), (((HB.out.alloc HB.out.size _).alloc (Nat.le_trans HB.out.size (by simp)) _).setCell (p := ⟨g, K, none⟩) HG.out.1 _).drew, by have := HR1.out; simp; omega, Lib.hid HS.out.symm⟩
          case measure => simp [intOf]; omega
        by_cases m6 : k = 6
        · subst m6
          by_cases hk0 : k1 < 2
          · have HRN := Lib.hid (HE.out.symm.trans (Sp.endB_none _ (Sp.sp_pair0 (Or.inr rfl) HZ.out (by rw [HK1.out]; exact hk0))))
            rcases (show k1 = 0 ∨ k1 = 1 by omega) with rfl | rfl
            all_goals
              clear hk0
              go_wp2_with fail
              go_ret2
              exact ⟨by rw [HRN.out]; rfl, HB.out.alloc HB.out.size _⟩
          obtain ⟨K, rfl⟩ : ∃ K, k1 = K + 1 + 1 := ⟨k1 - 2, by omega⟩
          obtain ⟨b, a, r, rfl, hr⟩ : ∃ b a r, p = b :: a :: r ∧ r.length = K := by
            match p, HK1.out with
            | b :: a :: r, h => exact ⟨b, a, r, rfl, by simpa using h⟩
          obtain ⟨g, rfl, ct, fz, hc1, hc2, hg1, hg2⟩ := pile_top2 (K := K + 1) HP.out (by simp [hr])
          have ca := pile_at HP.out (by simp [hr]) K a (by simp [hr])
          have ca2 := alloc_cell ca hg2
          have ca3 := fun o1 o2 => alloc_cell (alloc_cell ca hg2 o1) (by simp; omega) o2
          have ct3 := fun o1 o2 => alloc_cell (alloc_cell ct hg2 o1) (by simp; omega) o2
          have fz3 := fun o1 o2 => alloc_frozen (alloc_frozen (fz K) hg2 o1) (by simp; omega) o2
          have HR1 := Lib.hid hr
          have ct2 := alloc_cell ct hg2
          have fz2 := fun o => alloc_frozen (fz K) hg2 o
          have HG := Lib.hid (And.intro hg1 (And.intro hg2 (And.intro hc1 hc2)))
          have kI : (0 : Int) ≤ (K : Int) := by omega
          have kU : (K : Int) ≤ 1000000 := by omega
          have HS := Lib.hid (HE.out.symm.trans (Sp.endB_some _ (Sp.sp_or rfl HZ.out a b)))
          obtain ⟨ta, ra, hTa⟩ := tv_iface a
          obtain ⟨tb, rb, hTb⟩ := tv_iface b
          have hV : tv (.or a b) = .iface 94 (.agg #[.iface ta ra, .iface tb rb]) := by show Value.iface _ (.agg #[tv a, tv b]) = _; rw [hTa, hTb]
          have hPn := fun W (hW : Below wr.heap.size wr W) => pile_set2 (pile_pop2 (pile_below HP.out hW) (by simp [hr])) HR1.out (.or a b)
          rw [hV] at hPn
          rw [hTb] at ct2 ct3
          rw [hTa] at ca2 ca3
          have HPN := Lib.hid hPn
          have z1 : IntKind.i64.wrap ((K : Int) + 1) = (K : Int) + 1 := by rw [IntKind.wrap_i64]; omega
          have z2 : (K : Int) + 1 ≤ (cap1 : Int) := by omega
          have z3 : (0 : Int) ≤ (K : Int) + 1 := by omega
          clear ct fz hr hg1 hg2 hc1 hc2 hk0 hPn hV hTa hTb ca
          go_wp2_with fail
          go_region
          all_goals go_wp2_with fail
          go_roundw
          case rel => exact ⟨i + 1, _, by go_num, by omega, HPN.out _ (((Below.refl _ _).alloc (Nat.le_refl _) _).alloc (by simp) _), (((HB.out.alloc HB.out.size _).alloc (Nat.le_trans HB.out.size (by simp)) _).setCell (p := ⟨g, K, none⟩) HG.out.1 _).drew, by have := HR1.out; simp; omega, Lib.hid HS.out.symm⟩
          case measure => simp [intOf]; omega
        have HRN := Lib.hid (HE.out.symm.trans (Sp.endB_none _ (Sp.sp_else m1 m2 k3 m4 m5 m6)))
        have q1 : (k == 1) = false := beq_eq_false_iff_ne.2 m1
        have q2 : (k == 2) = false := beq_eq_false_iff_ne.2 m2
        have q4 : (k == 4) = false := beq_eq_false_iff_ne.2 m4
        have q5 : (k == 5) = false := beq_eq_false_iff_ne.2 m5
        have q6 : (k == 6) = false := beq_eq_false_iff_ne.2 m6
        clear m1 m2 k3 m4 m5 m6
        go_wp2_with fail
        go_ret2
        exact ⟨by rw [HRN.out]; rfl, HB.out.alloc HB.out.size _⟩
    · have q1 : decide ((i : Int) < n) = false := decide_eq_false (by omega)
      have q1b : decide (i < n) = false := decide_eq_false hlt
      have hE2 := hE.out
      rw [List.drop_of_length_le (by rw [HN.out]; omega)] at hE2
      by_cases hk0 : k1 = 1
      · subst hk0
        obtain ⟨t, rfl⟩ : ∃ t, p = [t] := List.length_eq_one_iff.1 HK1.out
        obtain ⟨g, rfl, ct, fz, hc1, hc2, hg1, hg2⟩ := pile_top2 (K := 0) HP.out rfl
        have HRN := Lib.hid (hE2.symm.trans (Sp.endB_one t))
        clear hE hE2 fz hc1 hc2 hg1 hg2 hkl hi hlt
        go_wp2_with fail
        go_ret2
        exact ⟨by rw [HRN.out]; rfl, HB.out⟩
      · have HRN := Lib.hid (hE2.symm.trans (Sp.endB_not (by rw [HK1.out]; exact hk0)))
        have q2 : ((k1 : Int) != 1) = true := bne_iff_ne.2 (by omega)
        have q3 : (k1 != 1) = true := bne_iff_ne.2 hk0
        have q4 : ((k1 : Int) == 1) = false := beq_eq_false_iff_ne.2 (by omega)
        have q5 : (k1 == 1) = false := beq_eq_false_iff_ne.2 hk0
        clear hE hE2 hk0 hkl hi hlt
        go_wp2_with fail
        go_ret2
        exact ⟨by rw [HRN.out]; rfl, HB.out⟩
end Go.Proofs.YtdmpapoabeljfaaGreatDoor
