/-
  THE WALK of the reader's method test (chapter 5).
-/
import Derived.Test.YtdmpapoabeljfaaGreatDoorEi
set_option linter.unusedVariables false
set_option linter.unusedSimpArgs false
set_option maxRecDepth 100000
set_option maxHeartbeats 8000000
namespace Go.Proofs.YtdmpapoabeljfaaGreatDoor
open Go.RowKit

namespace Sp
theorem op_signs (T : List Pt) (p : Nat) : sgAt T p [61] = (opAt T p == 1) ∧ sgAt T p [33, 61] = (opAt T p == 2) ∧ sgAt T p [60] = (opAt T p == 3) ∧ sgAt T p [60, 61] = (opAt T p == 4) ∧ sgAt T p [62] = (opAt T p == 5) ∧ sgAt T p [62, 61] = (opAt T p == 6) := by
  cases h1 : sgAt T p [61] with
  | true =>
    have a2 : sgAt T p [33, 61] = false := sg_ne h1 (by decide)
    have a3 : sgAt T p [60] = false := sg_ne h1 (by decide)
    have a4 : sgAt T p [60, 61] = false := sg_ne h1 (by decide)
    have a5 : sgAt T p [62] = false := sg_ne h1 (by decide)
    have a6 : sgAt T p [62, 61] = false := sg_ne h1 (by decide)
    simp [opAt, h1, a2, a3, a4, a5, a6]
  | false =>
  cases h2 : sgAt T p [33, 61] with
  | true =>
    have a3 : sgAt T p [60] = false := sg_ne h2 (by decide)
    have a4 : sgAt T p [60, 61] = false := sg_ne h2 (by decide)
    have a5 : sgAt T p [62] = false := sg_ne h2 (by decide)
    have a6 : sgAt T p [62, 61] = false := sg_ne h2 (by decide)
    simp [opAt, h1, h2, a3, a4, a5, a6]
  | false =>
  cases h3 : sgAt T p [60] with
  | true =>
    have a4 : sgAt T p [60, 61] = false := sg_ne h3 (by decide)
    have a5 : sgAt T p [62] = false := sg_ne h3 (by decide)
    have a6 : sgAt T p [62, 61] = false := sg_ne h3 (by decide)
    simp [opAt, h1, h2, h3, a4, a5, a6]
  | false =>
  cases h4 : sgAt T p [60, 61] with
  | true =>
    have a5 : sgAt T p [62] = false := sg_ne h4 (by decide)
    have a6 : sgAt T p [62, 61] = false := sg_ne h4 (by decide)
    simp [opAt, h1, h2, h3, h4, a5, a6]
  | false =>
  cases h5 : sgAt T p [62] with
  | true =>
    have a6 : sgAt T p [62, 61] = false := sg_ne h5 (by decide)
    simp [opAt, h1, h2, h3, h4, h5, a6]
  | false =>
  cases h6 : sgAt T p [62, 61] <;> simp [opAt, h1, h2, h3, h4, h5, h6]
theorem op_le (T : List Pt) (p : Nat) : opAt T p ≤ 6 := by
  unfold opAt
  repeat' split
  all_goals omega
end Sp

theorem cell_far_set (w : World) {p q : Addr} (h : q.block ≠ p.block) (u : Value) : (w.setCell p u).cell? q = w.cell? q := World.cell?_of_block (Below.heap_setCell w p u q.block h)
/-- The cells of a test. -/
def tcs (name : ByteArray) (x1 x2 x3 x4 x5 : Int) (pt : ByteArray) : Array Value := #[.string name, .int .i64 x1, .int .i64 x2, .int .i64 x3, .int .i64 x4, .int .i64 x5, .string pt]
/-- What test comes to. -/
def TEnd (W0 : World) (N : Nat) (A : Option Addr) (n cap m op : Nat) (ns : List Sp.Nd) (r : Sp.TR) (e : Ending) (w' : World) : Prop :=
  match r with
  | .bad q => e = .returned (.bool false) ∧ RBad W0 N A n cap q 50 w'
  | .ok q x => e = .returned (.bool true) ∧ RSt W0 N A n cap q m op (ns ++ [x]) w'
theorem TEnd_bad {W0 w' : World} {N n cap m op q : Nat} {ns : List Sp.Nd} {A : Option Addr} {r : Sp.TR} (hr : r = .bad q) {b : Bool} (hb : b = false) (h : RBad W0 N A n cap q 50 w') : TEnd W0 N A n cap m op ns r (.returned (.bool b)) w' := by
  subst hr
  subst hb
  exact ⟨rfl, h⟩
theorem TEnd_ok {W0 w' : World} {N n cap m op q : Nat} {ns : List Sp.Nd} {A : Option Addr} {r : Sp.TR} {x : Sp.Nd} (hr : r = .ok q x) {b : Bool} (hb : b = true) (h : RSt W0 N A n cap q m op (ns ++ [x]) w') : TEnd W0 N A n cap m op ns r (.returned (.bool b)) w' := by
  subst hr
  subst hb
  exact ⟨rfl, h⟩

section
variable {W0 w : World} {N n cap p m op M j : Nat} {A : Option Addr} {ns : List Sp.Nd} {tc : Array Value} {zs : List ZTok}
theorem num_yes (hst : TSt W0 N A n cap p m op ns M tc w) (hG : ∀ w, Below N W0 w → Gs w) (hn : zs.length = n) (hnb : n ≤ 4611686018427387904) (hv : ViewZ W0 N A zs) (hts : ∀ z ∈ zs, z.2.1.size ≤ 9223372036854775807) (hj : j < tc.size) {v : Nat} (hva : Sp.numAt (zs.map ptZ) p = some v) {vi : Int} (hvi : (v : Int) = vi) {q : Nat} (hq : p + 1 = q) :
    Calls Tryz.prog 86 #[.pointer (some ⟨N, 0, none⟩), .pointer (some ⟨M, j, none⟩)] w fun e w' => e = .returned (.bool true) ∧ TSt W0 N A n cap q m op ns M (tc.setIfInBounds j (.int .i64 vi)) w' := by
  have := expr_number W0 N A n cap p m op ns M j tc zs w hst hG hn hnb hv hts hj
  rw [hva] at this
  subst hvi hq
  exact this
theorem num_no (hst : TSt W0 N A n cap p m op ns M tc w) (hG : ∀ w, Below N W0 w → Gs w) (hn : zs.length = n) (hnb : n ≤ 4611686018427387904) (hv : ViewZ W0 N A zs) (hts : ∀ z ∈ zs, z.2.1.size ≤ 9223372036854775807) (hj : j < tc.size) (hva : Sp.numAt (zs.map ptZ) p = none) :
    Calls Tryz.prog 86 #[.pointer (some ⟨N, 0, none⟩), .pointer (some ⟨M, j, none⟩)] w fun e w' => e = .returned (.bool false) ∧ RBad W0 N A n cap p 50 w' := by
  have := expr_number W0 N A n cap p m op ns M j tc zs w hst hG hn hnb hv hts hj
  rw [hva] at this
  exact this
theorem TSt.mcells {x1 x2 x3 x4 x5 : Int} {name pt : ByteArray} (h : TSt W0 N A n cap p m op ns M (tcs name x1 x2 x3 x4 x5 pt) w) :
    w.cell? ⟨M, 0, none⟩ = some (.string name) ∧ w.cell? ⟨M, 1, none⟩ = some (.int .i64 x1) ∧ w.cell? ⟨M, 2, none⟩ = some (.int .i64 x2) ∧ w.cell? ⟨M, 3, none⟩ = some (.int .i64 x3) ∧ w.cell? ⟨M, 4, none⟩ = some (.int .i64 x4) ∧ w.cell? ⟨M, 5, none⟩ = some (.int .i64 x5) ∧ w.cell? ⟨M, 6, none⟩ = some (.string pt) ∧
      w.frozen? ⟨M, 1, none⟩ = false ∧ w.frozen? ⟨M, 2, none⟩ = false ∧ w.frozen? ⟨M, 6, none⟩ = false := by
  obtain ⟨tv, _, _, _, ht, _⟩ := h
  exact ⟨ht.cell 0, ht.cell 1, ht.cell 2, ht.cell 3, ht.cell 4, ht.cell 5, ht.cell 6, ht.frozen 1, ht.frozen 2, ht.frozen 6⟩
theorem TSt.rcells (h : TSt W0 N A n cap p m op ns M tc w) : w.cell? ⟨N, 0, none⟩ = some (.slice A n cap) ∧ w.cell? ⟨N, 1, none⟩ = some (.int .i64 (p : Nat)) ∧ w.frozen? ⟨N, 1, none⟩ = false := by
  obtain ⟨tv, hr, _⟩ := h
  exact ⟨hr.cell 0, hr.cell 1, hr.frozen 1⟩
end

theorem expr_test (W0 : World) (N : Nat) (A : Option Addr) (n cap p m op : Nat) (ns : List Sp.Nd) (zs : List ZTok) (w : World) (name : ByteArray) (hst : RSt W0 N A n cap p m op ns w) (hG : ∀ w, Below N W0 w → Gs w) (hn : zs.length = n) (hnb : n ≤ 4611686018427387904) (hv : ViewZ W0 N A zs) (hts : ∀ z ∈ zs, z.2.1.size ≤ 9223372036854775807) (hp : p ≤ n) (hns : ns.length ≤ 100000) :
    Calls Tryz.prog 67 #[.pointer (some ⟨N, 0, none⟩), .string name] w (TEnd W0 N A n cap m op ns (Sp.testV (zs.map ptZ) name.data.toList p)) := by
  have hTl : (zs.map ptZ).length = n := by rw [List.length_map]; exact hn
  obtain ⟨s1, s2, s3, s4, s5, s6⟩ := Sp.op_signs (zs.map ptZ) p
  have hol := Sp.op_le (zs.map ptZ) p
  obtain ⟨R, hR⟩ : ∃ R, Sp.testV (zs.map ptZ) name.data.toList p = R := ⟨_, rfl⟩
  rw [hR]
  obtain ⟨on, hon⟩ : ∃ on, Sp.opAt (zs.map ptZ) p = on := ⟨_, rfl⟩
  rw [hon] at s1 s2 s3 s4 s5 s6 hol
  obtain ⟨oc, hoc⟩ : ∃ oc : Int, (on : Int) = oc := ⟨_, rfl⟩
  have hol2 : oc ≤ 6 := by omega
  have hol3 : 0 ≤ oc := by omega
  obtain ⟨M, hM⟩ : ∃ M, w.heap.size = M := ⟨_, rfl⟩
  obtain ⟨W1, hW1⟩ : ∃ W1, w.alloc (.cells #[.string name, .int .i64 0, .int .i64 0, .int .i64 0, .int .i64 0, .int .i64 0, .string ⟨#[]⟩] 54) = W1 := ⟨_, rfl⟩
  have hT1 : TSt W0 N A n cap p m op ns M (tcs name 0 0 0 0 0 ⟨#[]⟩) W1 := by
    obtain ⟨tv, h1, h2, h3⟩ := hst
    have hN := h1.lt
    rw [← hW1, ← hM]
    refine ⟨tv, h1.alloc _, World.ownsRow.alloc h2 _, h3.alloc (by omega) _, Blk.new w _ _, hN, ?_⟩
    intro e
    have := (World.ownsRow.lt h2 _ e).2
    omega
  have HT1 := Lib.hid hT1
  have HW := Lib.hid hW1
  have HM := Lib.hid hM
  have HR := Lib.hid hR
  have HON := Lib.hid hon
  have HOC := Lib.hid hoc
  have HV := Lib.hid hv
  have HN := Lib.hid hn
  have HG := Lib.hid hG
  have HTS := Lib.hid hts
  have HTL := Lib.hid hTl
  have S1 := Lib.hid s1
  have S2 := Lib.hid s2
  have S3 := Lib.hid s3
  have S4 := Lib.hid s4
  have S5 := Lib.hid s5
  have S6 := Lib.hid s6
  clear s1 s2 s3 s4 s5 s6 hT1 hW1 hM hR hon hv hn hG hts hst hTl
  go_enter Tryz.func67, Tryz.ntmps67
  go_wp2_with fail
  rw [HW.out, HM.out]
  go_loopw [6] (fun v6 wr => ∃ (ii x : Int), v6 = .int .i64 ii ∧ 1 ≤ ii ∧ ii ≤ 7 ∧ Hid (x = if oc < ii then oc else 0) ∧ TSt W0 N A n cap p m op ns M (tcs name x 0 0 0 0 ⟨#[]⟩) wr) (fun v6 _ => (7 - intOf v6).toNat)
  case atStart => exact ⟨1, 0, rfl, by omega, by omega, by show _ = _; split <;> omega, HT1.out⟩
  case round =>
    obtain ⟨ii, x, rfl, hi1, hi7, HX, hT⟩ := hrel
    have HT := Lib.hid hT
    clear hT
    by_cases h7 : ii = 7
    rotate_left
    · have h6 : ii = 1 ∨ ii = 2 ∨ ii = 3 ∨ ii = 4 ∨ ii = 5 ∨ ii = 6 := by omega
      clear hi1 hi7
      rcases h6 with rfl | rfl | rfl | rfl | rfl | rfl
      · have hsg := S1.out
        clear h7
        by_cases hoi : on = 1
        · have hb : Sp.sgAt (zs.map ptZ) p [61] = true := by rw [hsg]; exact beq_iff_eq.2 hoi
          have HC := Lib.hid (fun W (h : TSt W0 N A n cap p m op ns M (tcs name x 0 0 0 0 ⟨#[]⟩) W) => h.sign ⟨#[61]⟩ HN.out HV.out hb)
          have HXN : Hid ((1 : Int) = if oc < 1 + 1 then oc else 0) := by show _ = _; rw [if_pos (by omega)]; omega
          clear hsg hb hoi hoc hol hol2 hol3
          go_wp2_with (first
            | (go_at_call 85; refine (expr_signOf _).1.mono ?_; rintro e w2 ⟨rfl, hw2⟩; have HW2 := Lib.hid hw2; clear hw2)
            | (go_at_call 30; refine (HC.out _ (by rw [← HW2.out]; exact HT.out)).mono ?_; rintro e w3 ⟨rfl, h3⟩; obtain ⟨_, m1, _, _, _, _, _, fm1, _, _⟩ := h3.mcells))
          go_roundw
          case rel => exact ⟨1 + 1, 1, by first | rfl | simp, by omega, by omega, HXN, h3.set_ 1 _⟩
          case measure => simp [intOf]
        · have hb : Sp.sgAt (zs.map ptZ) p [61] = false := by rw [hsg]; exact beq_eq_false_iff_ne.2 hoi
          have HC := Lib.hid (fun W (h : TSt W0 N A n cap p m op ns M (tcs name x 0 0 0 0 ⟨#[]⟩) W) => h.sign ⟨#[61]⟩ HN.out HV.out hb)
          have HXN : Hid (x = if oc < 1 + 1 then oc else 0) := by
            show _ = _
            rw [HX.out]
            by_cases hlt : oc < 1
            · rw [if_pos hlt, if_pos (by omega)]
            · rw [if_neg hlt, if_neg (by omega)]
          clear hsg hb hoi hoc hol hol2 hol3
          go_wp2_with (first
            | (go_at_call 85; refine (expr_signOf _).1.mono ?_; rintro e w2 ⟨rfl, hw2⟩; have HW2 := Lib.hid hw2; clear hw2)
            | (go_at_call 30; refine (HC.out _ (by rw [← HW2.out]; exact HT.out)).mono ?_; rintro e w3 ⟨rfl, h3⟩))
          go_roundw
          case rel => exact ⟨1 + 1, x, by first | rfl | simp, by omega, by omega, HXN, h3⟩
          case measure => simp [intOf]
      · have hsg := S2.out
        clear h7
        by_cases hoi : on = 2
        · have hb : Sp.sgAt (zs.map ptZ) p [33, 61] = true := by rw [hsg]; exact beq_iff_eq.2 hoi
          have HC := Lib.hid (fun W (h : TSt W0 N A n cap p m op ns M (tcs name x 0 0 0 0 ⟨#[]⟩) W) => h.sign ⟨#[33, 61]⟩ HN.out HV.out hb)
          have HXN : Hid ((2 : Int) = if oc < 2 + 1 then oc else 0) := by show _ = _; rw [if_pos (by omega)]; omega
          clear hsg hb hoi hoc hol hol2 hol3
          go_wp2_with (first
            | (go_at_call 85; refine (expr_signOf _).2.1.mono ?_; rintro e w2 ⟨rfl, hw2⟩; have HW2 := Lib.hid hw2; clear hw2)
            | (go_at_call 30; refine (HC.out _ (by rw [← HW2.out]; exact HT.out)).mono ?_; rintro e w3 ⟨rfl, h3⟩; obtain ⟨_, m1, _, _, _, _, _, fm1, _, _⟩ := h3.mcells))
          go_roundw
          case rel => exact ⟨2 + 1, 2, by first | rfl | simp, by omega, by omega, HXN, h3.set_ 1 _⟩
          case measure => simp [intOf]
        · have hb : Sp.sgAt (zs.map ptZ) p [33, 61] = false := by rw [hsg]; exact beq_eq_false_iff_ne.2 hoi
          have HC := Lib.hid (fun W (h : TSt W0 N A n cap p m op ns M (tcs name x 0 0 0 0 ⟨#[]⟩) W) => h.sign ⟨#[33, 61]⟩ HN.out HV.out hb)
          have HXN : Hid (x = if oc < 2 + 1 then oc else 0) := by
            show _ = _
            rw [HX.out]
            by_cases hlt : oc < 2
            · rw [if_pos hlt, if_pos (by omega)]
            · rw [if_neg hlt, if_neg (by omega)]
          clear hsg hb hoi hoc hol hol2 hol3
          go_wp2_with (first
            | (go_at_call 85; refine (expr_signOf _).2.1.mono ?_; rintro e w2 ⟨rfl, hw2⟩; have HW2 := Lib.hid hw2; clear hw2)
            | (go_at_call 30; refine (HC.out _ (by rw [← HW2.out]; exact HT.out)).mono ?_; rintro e w3 ⟨rfl, h3⟩))
          go_roundw
          case rel => exact ⟨2 + 1, x, by first | rfl | simp, by omega, by omega, HXN, h3⟩
          case measure => simp [intOf]
      · have hsg := S3.out
        clear h7
        by_cases hoi : on = 3
        · have hb : Sp.sgAt (zs.map ptZ) p [60] = true := by rw [hsg]; exact beq_iff_eq.2 hoi
          have HC := Lib.hid (fun W (h : TSt W0 N A n cap p m op ns M (tcs name x 0 0 0 0 ⟨#[]⟩) W) => h.sign ⟨#[60]⟩ HN.out HV.out hb)
          have HXN : Hid ((3 : Int) = if oc < 3 + 1 then oc else 0) := by show _ = _; rw [if_pos (by omega)]; omega
          clear hsg hb hoi hoc hol hol2 hol3
          go_wp2_with (first
            | (go_at_call 85; refine (expr_signOf _).2.2.1.mono ?_; rintro e w2 ⟨rfl, hw2⟩; have HW2 := Lib.hid hw2; clear hw2)
            | (go_at_call 30; refine (HC.out _ (by rw [← HW2.out]; exact HT.out)).mono ?_; rintro e w3 ⟨rfl, h3⟩; obtain ⟨_, m1, _, _, _, _, _, fm1, _, _⟩ := h3.mcells))
          go_roundw
          case rel => exact ⟨3 + 1, 3, by first | rfl | simp, by omega, by omega, HXN, h3.set_ 1 _⟩
          case measure => simp [intOf]
        · have hb : Sp.sgAt (zs.map ptZ) p [60] = false := by rw [hsg]; exact beq_eq_false_iff_ne.2 hoi
          have HC := Lib.hid (fun W (h : TSt W0 N A n cap p m op ns M (tcs name x 0 0 0 0 ⟨#[]⟩) W) => h.sign ⟨#[60]⟩ HN.out HV.out hb)
          have HXN : Hid (x = if oc < 3 + 1 then oc else 0) := by
            show _ = _
            rw [HX.out]
            by_cases hlt : oc < 3
            · rw [if_pos hlt, if_pos (by omega)]
            · rw [if_neg hlt, if_neg (by omega)]
          clear hsg hb hoi hoc hol hol2 hol3
          go_wp2_with (first
            | (go_at_call 85; refine (expr_signOf _).2.2.1.mono ?_; rintro e w2 ⟨rfl, hw2⟩; have HW2 := Lib.hid hw2; clear hw2)
            | (go_at_call 30; refine (HC.out _ (by rw [← HW2.out]; exact HT.out)).mono ?_; rintro e w3 ⟨rfl, h3⟩))
          go_roundw
          case rel => exact ⟨3 + 1, x, by first | rfl | simp, by omega, by omega, HXN, h3⟩
          case measure => simp [intOf]
      · have hsg := S4.out
        clear h7
        by_cases hoi : on = 4
        · have hb : Sp.sgAt (zs.map ptZ) p [60, 61] = true := by rw [hsg]; exact beq_iff_eq.2 hoi
          have HC := Lib.hid (fun W (h : TSt W0 N A n cap p m op ns M (tcs name x 0 0 0 0 ⟨#[]⟩) W) => h.sign ⟨#[60, 61]⟩ HN.out HV.out hb)
          have HXN : Hid ((4 : Int) = if oc < 4 + 1 then oc else 0) := by show _ = _; rw [if_pos (by omega)]; omega
          clear hsg hb hoi hoc hol hol2 hol3
          go_wp2_with (first
            | (go_at_call 85; refine (expr_signOf _).2.2.2.1.mono ?_; rintro e w2 ⟨rfl, hw2⟩; have HW2 := Lib.hid hw2; clear hw2)
            | (go_at_call 30; refine (HC.out _ (by rw [← HW2.out]; exact HT.out)).mono ?_; rintro e w3 ⟨rfl, h3⟩; obtain ⟨_, m1, _, _, _, _, _, fm1, _, _⟩ := h3.mcells))
          go_roundw
          case rel => exact ⟨4 + 1, 4, by first | rfl | simp, by omega, by omega, HXN, h3.set_ 1 _⟩
          case measure => simp [intOf]
        · have hb : Sp.sgAt (zs.map ptZ) p [60, 61] = false := by rw [hsg]; exact beq_eq_false_iff_ne.2 hoi
          have HC := Lib.hid (fun W (h : TSt W0 N A n cap p m op ns M (tcs name x 0 0 0 0 ⟨#[]⟩) W) => h.sign ⟨#[60, 61]⟩ HN.out HV.out hb)
          have HXN : Hid (x = if oc < 4 + 1 then oc else 0) := by
            show _ = _
            rw [HX.out]
            by_cases hlt : oc < 4
            · rw [if_pos hlt, if_pos (by omega)]
            · rw [if_neg hlt, if_neg (by omega)]
          clear hsg hb hoi hoc hol hol2 hol3
          go_wp2_with (first
            | (go_at_call 85; refine (expr_signOf _).2.2.2.1.mono ?_; rintro e w2 ⟨rfl, hw2⟩; have HW2 := Lib.hid hw2; clear hw2)
            | (go_at_call 30; refine (HC.out _ (by rw [← HW2.out]; exact HT.out)).mono ?_; rintro e w3 ⟨rfl, h3⟩))
          go_roundw
          case rel => exact ⟨4 + 1, x, by first | rfl | simp, by omega, by omega, HXN, h3⟩
          case measure => simp [intOf]
      · have hsg := S5.out
        clear h7
        by_cases hoi : on = 5
        · have hb : Sp.sgAt (zs.map ptZ) p [62] = true := by rw [hsg]; exact beq_iff_eq.2 hoi
          have HC := Lib.hid (fun W (h : TSt W0 N A n cap p m op ns M (tcs name x 0 0 0 0 ⟨#[]⟩) W) => h.sign ⟨#[62]⟩ HN.out HV.out hb)
          have HXN : Hid ((5 : Int) = if oc < 5 + 1 then oc else 0) := by show _ = _; rw [if_pos (by omega)]; omega
          clear hsg hb hoi hoc hol hol2 hol3
          go_wp2_with (first
            | (go_at_call 85; refine (expr_signOf _).2.2.2.2.1.mono ?_; rintro e w2 ⟨rfl, hw2⟩; have HW2 := Lib.hid hw2; clear hw2)
            | (go_at_call 30; refine (HC.out _ (by rw [← HW2.out]; exact HT.out)).mono ?_; rintro e w3 ⟨rfl, h3⟩; obtain ⟨_, m1, _, _, _, _, _, fm1, _, _⟩ := h3.mcells))
          go_roundw
          case rel => exact ⟨5 + 1, 5, by first | rfl | simp, by omega, by omega, HXN, h3.set_ 1 _⟩
          case measure => simp [intOf]
        · have hb : Sp.sgAt (zs.map ptZ) p [62] = false := by rw [hsg]; exact beq_eq_false_iff_ne.2 hoi
          have HC := Lib.hid (fun W (h : TSt W0 N A n cap p m op ns M (tcs name x 0 0 0 0 ⟨#[]⟩) W) => h.sign ⟨#[62]⟩ HN.out HV.out hb)
          have HXN : Hid (x = if oc < 5 + 1 then oc else 0) := by
            show _ = _
            rw [HX.out]
            by_cases hlt : oc < 5
            · rw [if_pos hlt, if_pos (by omega)]
            · rw [if_neg hlt, if_neg (by omega)]
          clear hsg hb hoi hoc hol hol2 hol3
          go_wp2_with (first
            | (go_at_call 85; refine (expr_signOf _).2.2.2.2.1.mono ?_; rintro e w2 ⟨rfl, hw2⟩; have HW2 := Lib.hid hw2; clear hw2)
            | (go_at_call 30; refine (HC.out _ (by rw [← HW2.out]; exact HT.out)).mono ?_; rintro e w3 ⟨rfl, h3⟩))
          go_roundw
          case rel => exact ⟨5 + 1, x, by first | rfl | simp, by omega, by omega, HXN, h3⟩
          case measure => simp [intOf]
      · have hsg := S6.out
        clear h7
        by_cases hoi : on = 6
        · have hb : Sp.sgAt (zs.map ptZ) p [62, 61] = true := by rw [hsg]; exact beq_iff_eq.2 hoi
          have HC := Lib.hid (fun W (h : TSt W0 N A n cap p m op ns M (tcs name x 0 0 0 0 ⟨#[]⟩) W) => h.sign ⟨#[62, 61]⟩ HN.out HV.out hb)
          have HXN : Hid ((6 : Int) = if oc < 6 + 1 then oc else 0) := by show _ = _; rw [if_pos (by omega)]; omega
          clear hsg hb hoi hoc hol hol2 hol3
          go_wp2_with (first
            | (go_at_call 85; refine (expr_signOf _).2.2.2.2.2.mono ?_; rintro e w2 ⟨rfl, hw2⟩; have HW2 := Lib.hid hw2; clear hw2)
            | (go_at_call 30; refine (HC.out _ (by rw [← HW2.out]; exact HT.out)).mono ?_; rintro e w3 ⟨rfl, h3⟩; obtain ⟨_, m1, _, _, _, _, _, fm1, _, _⟩ := h3.mcells))
          go_roundw
          case rel => exact ⟨6 + 1, 6, by first | rfl | simp, by omega, by omega, HXN, h3.set_ 1 _⟩
          case measure => simp [intOf]
        · have hb : Sp.sgAt (zs.map ptZ) p [62, 61] = false := by rw [hsg]; exact beq_eq_false_iff_ne.2 hoi
          have HC := Lib.hid (fun W (h : TSt W0 N A n cap p m op ns M (tcs name x 0 0 0 0 ⟨#[]⟩) W) => h.sign ⟨#[62, 61]⟩ HN.out HV.out hb)
          have HXN : Hid (x = if oc < 6 + 1 then oc else 0) := by
            show _ = _
            rw [HX.out]
            by_cases hlt : oc < 6
            · rw [if_pos hlt, if_pos (by omega)]
            · rw [if_neg hlt, if_neg (by omega)]
          clear hsg hb hoi hoc hol hol2 hol3
          go_wp2_with (first
            | (go_at_call 85; refine (expr_signOf _).2.2.2.2.2.mono ?_; rintro e w2 ⟨rfl, hw2⟩; have HW2 := Lib.hid hw2; clear hw2)
            | (go_at_call 30; refine (HC.out _ (by rw [← HW2.out]; exact HT.out)).mono ?_; rintro e w3 ⟨rfl, h3⟩))
          go_roundw
          case rel => exact ⟨6 + 1, x, by first | rfl | simp, by omega, by omega, HXN, h3⟩
          case measure => simp [intOf]
    · subst h7
      have hx : x = oc := by rw [HX.out, if_pos (by omega)]
      subst hx
      clear HX hi1 hi7
      obtain ⟨_, m1, _, _, _, _, _, _, _, _⟩ := HT.out.mcells
      by_cases h0 : on = 0
      · have q0 : (x == 0) = true := beq_iff_eq.2 (by omega)
        have hr : R = .bad p := by rw [← HR.out]; unfold Sp.testV; rw [HON.out, if_pos h0]
        have HRR := Lib.hid hr
        have HF := Lib.hid (st_fail HT.out.toR 50)
        clear hr h0 hoc hol hol2 hol3
        go_wp2_with (go_at_call 54; refine HF.out.mono ?_; rintro e w2 ⟨rfl, h2⟩)
        go_ret
        exact TEnd_bad HRR.out rfl h2
      have q0 : (x == 0) = false := beq_eq_false_iff_ne.2 (by omega)
      have hRV : R = if on ≤ 2 ∧ Sp.kdAt (zs.map ptZ) (p + 1) = 5 then
          (if Sp.patB (Sp.txAt (zs.map ptZ) (p + 1)) then .ok (p + 2) { kind := 3, field := name.data.toList, op := x, form := 4, pat := (Sp.txAt (zs.map ptZ) (p + 1)).drop 1 } else .bad (p + 1))
        else match Sp.numAt (zs.map ptZ) (p + 1) with
          | none => .bad (p + 1)
          | some v =>
            if on ≤ 2 ∧ Sp.sgAt (zs.map ptZ) (p + 2) [47] = true then
              (match Sp.numAt (zs.map ptZ) (p + 3) with
                | none => .bad (p + 3)
                | some u => .ok (p + 4) { kind := 3, field := name.data.toList, op := x, form := 2, lo := (v : Nat), len := (u : Nat) })
            else if on ≤ 2 ∧ Sp.sgAt (zs.map ptZ) (p + 2) [46, 46] = true then
              (match Sp.numAt (zs.map ptZ) (p + 3) with
                | none => .bad (p + 3)
                | some u => .ok (p + 4) { kind := 3, field := name.data.toList, op := x, form := 3, lo := (v : Nat), hi := (u : Nat) })
            else .ok (p + 2) { kind := 3, field := name.data.toList, op := x, form := 1, lo := (v : Nat) } := by
        rw [← HR.out]
        unfold Sp.testV
        rw [HON.out, if_neg h0, HOC.out]
        rfl
      have hop := Sp.op_lt (T := zs.map ptZ) (i := p) (by rw [HON.out]; exact h0)
      obtain ⟨p1, hp1⟩ : ∃ p1, p + 1 = p1 := ⟨_, rfl⟩
      have hpn : p1 ≤ n := by have := HTL.out; omega
      obtain ⟨_, c1, f1⟩ := HT.out.rcells
      have hpi : (p : Int) + 1 ≤ 4611686018427387904 := by omega
      have hp0 : (0 : Int) ≤ (p : Int) := by omega
      have HP1 := Lib.hid hp1
      have HRV := Lib.hid hRV
      have HOP := Lib.hid h0
      clear hRV hop h0 hp1
      go_upto_region 10 with (fail)
      obtain ⟨W2, hW2⟩ : ∃ W2, wr.setCell ⟨N, 1, none⟩ (.int .i64 ((p : Int) + 1)) = W2 := ⟨_, rfl⟩
      have hT2 : TSt W0 N A n cap p1 m op ns M (tcs name x 0 0 0 0 ⟨#[]⟩) W2 := by rw [← hW2, ← HP1.out]; exact HT.out.at_
      rw [hW2]
      clear hW2 m1 c1 f1 q0 hpi hp0
      have HT2 := Lib.hid hT2
      obtain ⟨_, m1, _, _, _, _, _, _, _, _⟩ := hT2.mcells
      obtain ⟨c0, c1, f1⟩ := hT2.rcells
      have hNM : N < M := by obtain ⟨tv, _, _, _, _, h5, _⟩ := hT2; exact h5
      clear hT2
      have hp1n : (p1 : Int) ≤ 4611686018427387904 := by omega
      have hp10 : (0 : Int) ≤ (p1 : Int) := by omega
      have hRV := HRV.out
      rw [show p + 2 = p1 + 1 by have := HP1.out; omega, show p + 3 = p1 + 2 by have := HP1.out; omega, show p + 4 = p1 + 3 by have := HP1.out; omega, HP1.out] at hRV
      have HRV := Lib.hid hRV
      clear hRV
      obtain ⟨p2, hp2⟩ : ∃ p2, p1 + 1 = p2 := ⟨_, rfl⟩
      obtain ⟨p3, hp3⟩ : ∃ p3, p2 + 1 = p3 := ⟨_, rfl⟩
      obtain ⟨p4, hp4⟩ : ∃ p4, p3 + 1 = p4 := ⟨_, rfl⟩
      have hp2i : (p2 : Int) ≤ 4611686018427387906 := by omega
      have hp20 : (0 : Int) ≤ (p2 : Int) := by omega
      have HP2 := Lib.hid hp2
      have HP3 := Lib.hid hp3
      have HP4 := Lib.hid hp4
      by_cases hwh : on ≤ 2
      rotate_left
      · have e1 : (x == 1) = false := beq_eq_false_iff_ne.2 (by omega)
        have e2 : (x == 2) = false := beq_eq_false_iff_ne.2 (by omega)
        clear hol hol2 hol3 hoc
        cases hva : Sp.numAt (zs.map ptZ) p1 with
        | none =>
          have HNN := Lib.hid (fun W (h : TSt W0 N A n cap p1 m op ns M (tcs name x 0 0 0 0 ⟨#[]⟩) W) => num_no (j := 3) h HG.out HN.out hnb HV.out HTS.out (by show 3 < 7; omega) hva)
          have HRR : Hid (R = .bad p1) := by show _ = _; rw [HRV.out, if_neg (fun h => hwh h.1), hva]
          clear hva hwh hp2 hp3 hp4
          go_wp2_with fail
          go_quiet (fail)
          go_wp2_with (go_at_call 86; refine (HNN.out _ (HT2.out.drewN _)).mono ?_; rintro e w5 ⟨rfl, h5⟩)
          go_ret
          exact TEnd_bad HRR.out rfl h5
        | some v =>
          have HNY := Lib.hid (fun W (h : TSt W0 N A n cap p1 m op ns M (tcs name x 0 0 0 0 ⟨#[]⟩) W) => num_yes (j := 3) h HG.out HN.out hnb HV.out HTS.out (by show 3 < 7; omega) hva rfl (show p1 + 1 = p2 by omega))
          have HRR : Hid (R = .ok p2 { kind := 3, field := name.data.toList, op := x, form := 1, lo := (v : Nat) }) := by show _ = _; rw [HRV.out, if_neg (fun h => hwh h.1), hva]; simp only []; rw [if_neg (fun h => hwh h.1), if_neg (fun h => hwh h.1), hp2]
          clear hva hwh
          clear hp2 hp3 hp4
          go_wp2_with fail
          go_quiet (fail)
          go_wp2_with fail
          refine (HNY.out _ (HT2.out.drewN _)).mono ?_
          rintro e w5 ⟨rfl, h5⟩
          have HQ5 := Lib.hid (show TSt W0 N A n cap p2 m op ns M (tcs name x 0 (v : Nat) 0 0 ⟨#[]⟩) w5 from h5)
          obtain ⟨_, _, m2, _, _, _, _, _, fm2, _⟩ := HQ5.out.mcells
          clear h5 c0 c1 f1 m1
          go_upto_region 18 with (fail)
          obtain ⟨W6, hW6⟩ : ∃ W6, w5.setCell ⟨M, 2, none⟩ (.int .i64 1) = W6 := ⟨_, rfl⟩
          have hQ6 : TSt W0 N A n cap p2 m op ns M (tcs name x 1 (v : Nat) 0 0 ⟨#[]⟩) W6 := by rw [← hW6]; exact HQ5.out.set_ 2 _
          rw [hW6]
          clear hW6 m2 fm2
          have HQ6 := Lib.hid hQ6
          clear hQ6
          have HQ := HQ6
          obtain ⟨m0, m1, m2, m3, m4, m5, m6, _, _, _⟩ := HQ.out.mcells
          have HPT := Lib.hid (expr_put W0 N A n cap p2 m op ns _ HQ.out.toR hns 3 name x 1 (v : Nat) 0 0 ⟨#[]⟩)
          go_wp2_with (go_at_call 32; refine HPT.out.mono ?_; rintro e wz ⟨rfl, hz⟩)
          go_ret
          exact TEnd_ok HRR.out rfl hz
      have how : on = 1 ∨ on = 2 := by have : on ≠ 0 := HOP.out; omega
      rcases how with how | how
      · have e1 : (x == 1) = true := beq_iff_eq.2 (by omega)
        clear hol hol2 hol3 hoc how
        by_cases hlt : p1 < n
        rotate_left
        · have q1 : decide ((p1 : Int) < n) = false := decide_eq_false (by omega)
          have q1b : decide (p1 < n) = false := decide_eq_false hlt
          have hk0 := kd_none HTL.out hlt
          have hva : Sp.numAt (zs.map ptZ) p1 = none := by unfold Sp.numAt; rw [hk0, if_neg (fun h => absurd h.1 (by decide))]
          have HNN := Lib.hid (fun W (h : TSt W0 N A n cap p1 m op ns M (tcs name x 0 0 0 0 ⟨#[]⟩) W) => num_no (j := 3) h HG.out HN.out hnb HV.out HTS.out (by show 3 < 7; omega) hva)
          have HRR : Hid (R = .bad p1) := by show _ = _; rw [HRV.out, if_neg (fun h => by rw [hk0] at h; exact absurd h.2 (by decide)), hva]
          clear hva hwh hk0 hlt hp2 hp3 hp4
          go_wp2_with fail
          go_quiet (fail)
          go_wp2_with (go_at_call 86; refine (HNN.out _ (HT2.out.drewN _)).mono ?_; rintro e w5 ⟨rfl, h5⟩)
          go_ret
          exact TEnd_bad HRR.out rfl h5
        have q1 : decide ((p1 : Int) < n) = true := decide_eq_true (by omega)
        have q1b : decide (p1 < n) = true := decide_eq_true hlt
        have p1l : (p1 : Int) < n := by omega
        obtain ⟨z, hz⟩ : ∃ z, zs[p1]? = some z := ⟨_, List.getElem?_eq_getElem (by rw [HN.out]; exact hlt)⟩
        obtain ⟨hk1, hk2⟩ := kd_some hz
        have hzs := HTS.out z (List.mem_of_getElem? hz)
        have hbw : Below N W0 W2 := by obtain ⟨tv, _, _, h3, _⟩ := HT2.out; exact h3
        obtain ⟨g, o, hA, hg, a0, a1, _, _⟩ := HV.out.below hbw (Nat.le_refl _) p1 z hz
        obtain ⟨k, t, l, cc⟩ := z
        simp only [] at a0 a1 hk1 hk2 hzs
        have hNlt : N < W2.heap.size := HT2.out.toR.own
        have hglt : g < W2.heap.size := by omega
        have hgM : g < M := by omega
        subst hA
        clear hz hlt
        by_cases hk5 : Sp.kdAt (zs.map ptZ) p1 = 5
        rotate_left
        · have q2 : ((k : Int) == 5) = false := beq_eq_false_iff_ne.2 (by rw [← hk1]; exact hk5)
          clear hk1 hk2 hzs hbw hNlt hglt hgM a1
          cases hva : Sp.numAt (zs.map ptZ) p1 with
          | none =>
            have HNN := Lib.hid (fun W (h : TSt W0 N (some ⟨g, o, none⟩) n cap p1 m op ns M (tcs name x 0 0 0 0 ⟨#[]⟩) W) => num_no (j := 3) h HG.out HN.out hnb HV.out HTS.out (by show 3 < 7; omega) hva)
            have HRR : Hid (R = .bad p1) := by show _ = _; rw [HRV.out, if_neg (fun h => hk5 h.2), hva]
            clear hva hwh hk5 hp2 hp3 hp4
            go_wp2_with fail
            go_quiet (fail)
            go_wp2_with (go_at_call 86; refine (HNN.out _ (HT2.out.drewN _)).mono ?_; rintro e w5 ⟨rfl, h5⟩)
            go_ret
            exact TEnd_bad HRR.out rfl h5
          | some v =>
            have HNY := Lib.hid (fun W (h : TSt W0 N (some ⟨g, o, none⟩) n cap p1 m op ns M (tcs name x 0 0 0 0 ⟨#[]⟩) W) => num_yes (j := 3) h HG.out HN.out hnb HV.out HTS.out (by show 3 < 7; omega) hva rfl (show p1 + 1 = p2 by omega))
            by_cases hs47 : Sp.sgAt (zs.map ptZ) p2 [47] = true
            · cases hvb : Sp.numAt (zs.map ptZ) p3 with
              | none =>
                have HN2 := Lib.hid (fun W (h : TSt W0 N (some ⟨g, o, none⟩) n cap p3 m op ns M (tcs name x 2 (v : Nat) 0 0 ⟨#[]⟩) W) => num_no (j := 5) h HG.out HN.out hnb HV.out HTS.out (by show 5 < 7; omega) hvb)
                have HRR : Hid (R = .bad p3) := by show _ = _; rw [HRV.out, if_neg (fun h => hk5 h.2), hva]; simp only []; rw [if_pos ⟨hwh, by rw [hp2]; exact hs47⟩, show p1 + 2 = p3 by omega, hvb]
                clear hp2 hp3 hp4
                go_wp2_with fail
                go_quiet (fail)
                go_wp2_with fail
                refine (HNY.out _ (HT2.out.drewN _)).mono ?_
                rintro e w5 ⟨rfl, h5⟩
                have HQ5 := Lib.hid (show TSt W0 N (some ⟨g, o, none⟩) n cap p2 m op ns M (tcs name x 0 (v : Nat) 0 0 ⟨#[]⟩) w5 from h5)
                obtain ⟨_, _, m2, _, _, _, _, _, fm2, _⟩ := HQ5.out.mcells
                clear h5 c0 c1 f1 m1 a0
                go_upto_region 18 with (fail)
                obtain ⟨W6, hW6⟩ : ∃ W6, w5.setCell ⟨M, 2, none⟩ (.int .i64 1) = W6 := ⟨_, rfl⟩
                have hQ6 : TSt W0 N (some ⟨g, o, none⟩) n cap p2 m op ns M (tcs name x 1 (v : Nat) 0 0 ⟨#[]⟩) W6 := by rw [← hW6]; exact HQ5.out.set_ 2 _
                rw [hW6]
                clear hW6 m2 fm2
                have HQ6 := Lib.hid hQ6
                clear hQ6
                have HC := Lib.hid (HQ6.out.sign ⟨#[47]⟩ HN.out HV.out hs47)
                go_wp2_with fail
                refine HC.out.mono ?_
                rintro e w7 ⟨rfl, h7⟩
                have HQ7 := Lib.hid h7
                obtain ⟨_, _, m2, _, _, _, _, _, fm2, _⟩ := h7.mcells
                clear h7
                go_upto_region 20 with (fail)
                obtain ⟨W8, hW8⟩ : ∃ W8, w7.setCell ⟨M, 2, none⟩ (.int .i64 2) = W8 := ⟨_, rfl⟩
                have hQ8 : TSt W0 N (some ⟨g, o, none⟩) n cap p2 m op ns M (tcs name x 2 (v : Nat) 0 0 ⟨#[]⟩) W8 := by rw [← hW8]; exact HQ7.out.set_ 2 _
                rw [hW8]
                clear hW8 m2 fm2
                have HQ8 := Lib.hid hQ8
                obtain ⟨_, c1, f1⟩ := hQ8.rcells
                clear hQ8
                go_upto_region 21 with (fail)
                obtain ⟨W9, hW9⟩ : ∃ W9, W8.setCell ⟨N, 1, none⟩ (.int .i64 ((p2 : Int) + 1)) = W9 := ⟨_, rfl⟩
                have hQ9 : TSt W0 N (some ⟨g, o, none⟩) n cap p3 m op ns M (tcs name x 2 (v : Nat) 0 0 ⟨#[]⟩) W9 := by rw [← hW9, ← HP3.out]; exact HQ8.out.at_
                rw [hW9]
                clear hW9 c1 f1
                have HQ9 := Lib.hid hQ9
                clear hQ9
                clear hva hvb hs47 hwh hk5
                go_wp2_with (go_at_call 86; refine (HN2.out _ HQ9.out).mono ?_; rintro e wz ⟨rfl, hz⟩)
                go_ret
                exact TEnd_bad HRR.out rfl hz
              | some u =>
                have HN2 := Lib.hid (fun W (h : TSt W0 N (some ⟨g, o, none⟩) n cap p3 m op ns M (tcs name x 2 (v : Nat) 0 0 ⟨#[]⟩) W) => num_yes (j := 5) h HG.out HN.out hnb HV.out HTS.out (by show 5 < 7; omega) hvb rfl (show p3 + 1 = p4 by omega))
                have HRR : Hid (R = .ok p4 { kind := 3, field := name.data.toList, op := x, form := 2, lo := (v : Nat), len := (u : Nat) }) := by show _ = _; rw [HRV.out, if_neg (fun h => hk5 h.2), hva]; simp only []; rw [if_pos ⟨hwh, by rw [hp2]; exact hs47⟩, show p1 + 2 = p3 by omega, hvb, show p1 + 3 = p4 by omega]
                clear hp2 hp3 hp4
                go_wp2_with fail
                go_quiet (fail)
                go_wp2_with fail
                refine (HNY.out _ (HT2.out.drewN _)).mono ?_
                rintro e w5 ⟨rfl, h5⟩
                have HQ5 := Lib.hid (show TSt W0 N (some ⟨g, o, none⟩) n cap p2 m op ns M (tcs name x 0 (v : Nat) 0 0 ⟨#[]⟩) w5 from h5)
                obtain ⟨_, _, m2, _, _, _, _, _, fm2, _⟩ := HQ5.out.mcells
                clear h5 c0 c1 f1 m1 a0
                go_upto_region 18 with (fail)
                obtain ⟨W6, hW6⟩ : ∃ W6, w5.setCell ⟨M, 2, none⟩ (.int .i64 1) = W6 := ⟨_, rfl⟩
                have hQ6 : TSt W0 N (some ⟨g, o, none⟩) n cap p2 m op ns M (tcs name x 1 (v : Nat) 0 0 ⟨#[]⟩) W6 := by rw [← hW6]; exact HQ5.out.set_ 2 _
                rw [hW6]
                clear hW6 m2 fm2
                have HQ6 := Lib.hid hQ6
                clear hQ6
                have HC := Lib.hid (HQ6.out.sign ⟨#[47]⟩ HN.out HV.out hs47)
                go_wp2_with fail
                refine HC.out.mono ?_
                rintro e w7 ⟨rfl, h7⟩
                have HQ7 := Lib.hid h7
                obtain ⟨_, _, m2, _, _, _, _, _, fm2, _⟩ := h7.mcells
                clear h7
                go_upto_region 20 with (fail)
                obtain ⟨W8, hW8⟩ : ∃ W8, w7.setCell ⟨M, 2, none⟩ (.int .i64 2) = W8 := ⟨_, rfl⟩
                have hQ8 : TSt W0 N (some ⟨g, o, none⟩) n cap p2 m op ns M (tcs name x 2 (v : Nat) 0 0 ⟨#[]⟩) W8 := by rw [← hW8]; exact HQ7.out.set_ 2 _
                rw [hW8]
                clear hW8 m2 fm2
                have HQ8 := Lib.hid hQ8
                obtain ⟨_, c1, f1⟩ := hQ8.rcells
                clear hQ8
                go_upto_region 21 with (fail)
                obtain ⟨W9, hW9⟩ : ∃ W9, W8.setCell ⟨N, 1, none⟩ (.int .i64 ((p2 : Int) + 1)) = W9 := ⟨_, rfl⟩
                have hQ9 : TSt W0 N (some ⟨g, o, none⟩) n cap p3 m op ns M (tcs name x 2 (v : Nat) 0 0 ⟨#[]⟩) W9 := by rw [← hW9, ← HP3.out]; exact HQ8.out.at_
                rw [hW9]
                clear hW9 c1 f1
                have HQ9 := Lib.hid hQ9
                clear hQ9
                clear hva hvb hs47 hwh hk5
                go_wp2_with fail
                refine (HN2.out _ HQ9.out).mono ?_
                rintro e wy ⟨rfl, hy⟩
                have HQ := Lib.hid (show TSt W0 N (some ⟨g, o, none⟩) n cap p4 m op ns M (tcs name x 2 (v : Nat) 0 (u : Nat) ⟨#[]⟩) wy from hy)
                clear hy
                obtain ⟨m0, m1, m2, m3, m4, m5, m6, _, _, _⟩ := HQ.out.mcells
                have HPT := Lib.hid (expr_put W0 N (some ⟨g, o, none⟩) n cap p4 m op ns _ HQ.out.toR hns 3 name x 2 (v : Nat) 0 (u : Nat) ⟨#[]⟩)
                go_wp2_with (go_at_call 32; refine HPT.out.mono ?_; rintro e wz ⟨rfl, hz⟩)
                go_ret
                exact TEnd_ok HRR.out rfl hz
            rw [Bool.not_eq_true] at hs47
            by_cases hs46 : Sp.sgAt (zs.map ptZ) p2 [46, 46] = true
            · cases hvb : Sp.numAt (zs.map ptZ) p3 with
              | none =>
                have HN2 := Lib.hid (fun W (h : TSt W0 N (some ⟨g, o, none⟩) n cap p3 m op ns M (tcs name x 3 (v : Nat) 0 0 ⟨#[]⟩) W) => num_no (j := 4) h HG.out HN.out hnb HV.out HTS.out (by show 4 < 7; omega) hvb)
                have HRR : Hid (R = .bad p3) := by show _ = _; rw [HRV.out, if_neg (fun h => hk5 h.2), hva]; simp only []; rw [if_neg (fun h => by rw [hp2, hs47] at h; exact absurd h.2 (by decide)), if_pos ⟨hwh, by rw [hp2]; exact hs46⟩, show p1 + 2 = p3 by omega, hvb]
                clear hp2 hp3 hp4
                go_wp2_with fail
                go_quiet (fail)
                go_wp2_with fail
                refine (HNY.out _ (HT2.out.drewN _)).mono ?_
                rintro e w5 ⟨rfl, h5⟩
                have HQ5 := Lib.hid (show TSt W0 N (some ⟨g, o, none⟩) n cap p2 m op ns M (tcs name x 0 (v : Nat) 0 0 ⟨#[]⟩) w5 from h5)
                obtain ⟨_, _, m2, _, _, _, _, _, fm2, _⟩ := HQ5.out.mcells
                clear h5 c0 c1 f1 m1 a0
                go_upto_region 18 with (fail)
                obtain ⟨W6, hW6⟩ : ∃ W6, w5.setCell ⟨M, 2, none⟩ (.int .i64 1) = W6 := ⟨_, rfl⟩
                have hQ6 : TSt W0 N (some ⟨g, o, none⟩) n cap p2 m op ns M (tcs name x 1 (v : Nat) 0 0 ⟨#[]⟩) W6 := by rw [← hW6]; exact HQ5.out.set_ 2 _
                rw [hW6]
                clear hW6 m2 fm2
                have HQ6 := Lib.hid hQ6
                clear hQ6
                have HC := Lib.hid (HQ6.out.sign ⟨#[47]⟩ HN.out HV.out hs47)
                have HC2 := Lib.hid (fun W (h : TSt W0 N (some ⟨g, o, none⟩) n cap p2 m op ns M (tcs name x 1 (v : Nat) 0 0 ⟨#[]⟩) W) => h.sign ⟨#[46, 46]⟩ HN.out HV.out hs46)
                go_wp2_with fail
                refine HC.out.mono ?_
                rintro e w8 ⟨rfl, h8⟩
                go_wp2_with fail
                refine (HC2.out _ h8).mono ?_
                rintro e w7 ⟨rfl, h7⟩
                clear h8
                have HQ7 := Lib.hid h7
                obtain ⟨_, _, m2, _, _, _, _, _, fm2, _⟩ := h7.mcells
                clear h7
                go_upto_region 25 with (fail)
                obtain ⟨W8, hW8⟩ : ∃ W8, w7.setCell ⟨M, 2, none⟩ (.int .i64 3) = W8 := ⟨_, rfl⟩
                have hQ8 : TSt W0 N (some ⟨g, o, none⟩) n cap p2 m op ns M (tcs name x 3 (v : Nat) 0 0 ⟨#[]⟩) W8 := by rw [← hW8]; exact HQ7.out.set_ 2 _
                rw [hW8]
                clear hW8 m2 fm2
                have HQ8 := Lib.hid hQ8
                obtain ⟨_, c1, f1⟩ := hQ8.rcells
                clear hQ8
                go_upto_region 26 with (fail)
                obtain ⟨W9, hW9⟩ : ∃ W9, W8.setCell ⟨N, 1, none⟩ (.int .i64 ((p2 : Int) + 1)) = W9 := ⟨_, rfl⟩
                have hQ9 : TSt W0 N (some ⟨g, o, none⟩) n cap p3 m op ns M (tcs name x 3 (v : Nat) 0 0 ⟨#[]⟩) W9 := by rw [← hW9, ← HP3.out]; exact HQ8.out.at_
                rw [hW9]
                clear hW9 c1 f1
                have HQ9 := Lib.hid hQ9
                clear hQ9
                clear hva hvb hs47 hwh hk5 hs46
                go_wp2_with (go_at_call 86; refine (HN2.out _ HQ9.out).mono ?_; rintro e wz ⟨rfl, hz⟩)
                go_ret
                exact TEnd_bad HRR.out rfl hz
              | some u =>
                have HN2 := Lib.hid (fun W (h : TSt W0 N (some ⟨g, o, none⟩) n cap p3 m op ns M (tcs name x 3 (v : Nat) 0 0 ⟨#[]⟩) W) => num_yes (j := 4) h HG.out HN.out hnb HV.out HTS.out (by show 4 < 7; omega) hvb rfl (show p3 + 1 = p4 by omega))
                have HRR : Hid (R = .ok p4 { kind := 3, field := name.data.toList, op := x, form := 3, lo := (v : Nat), hi := (u : Nat) }) := by show _ = _; rw [HRV.out, if_neg (fun h => hk5 h.2), hva]; simp only []; rw [if_neg (fun h => by rw [hp2, hs47] at h; exact absurd h.2 (by decide)), if_pos ⟨hwh, by rw [hp2]; exact hs46⟩, show p1 + 2 = p3 by omega, hvb, show p1 + 3 = p4 by omega]
                clear hp2 hp3 hp4
                go_wp2_with fail
                go_quiet (fail)
                go_wp2_with fail
                refine (HNY.out _ (HT2.out.drewN _)).mono ?_
                rintro e w5 ⟨rfl, h5⟩
                have HQ5 := Lib.hid (show TSt W0 N (some ⟨g, o, none⟩) n cap p2 m op ns M (tcs name x 0 (v : Nat) 0 0 ⟨#[]⟩) w5 from h5)
                obtain ⟨_, _, m2, _, _, _, _, _, fm2, _⟩ := HQ5.out.mcells
                clear h5 c0 c1 f1 m1 a0
                go_upto_region 18 with (fail)
                obtain ⟨W6, hW6⟩ : ∃ W6, w5.setCell ⟨M, 2, none⟩ (.int .i64 1) = W6 := ⟨_, rfl⟩
                have hQ6 : TSt W0 N (some ⟨g, o, none⟩) n cap p2 m op ns M (tcs name x 1 (v : Nat) 0 0 ⟨#[]⟩) W6 := by rw [← hW6]; exact HQ5.out.set_ 2 _
                rw [hW6]
                clear hW6 m2 fm2
                have HQ6 := Lib.hid hQ6
                clear hQ6
                have HC := Lib.hid (HQ6.out.sign ⟨#[47]⟩ HN.out HV.out hs47)
                have HC2 := Lib.hid (fun W (h : TSt W0 N (some ⟨g, o, none⟩) n cap p2 m op ns M (tcs name x 1 (v : Nat) 0 0 ⟨#[]⟩) W) => h.sign ⟨#[46, 46]⟩ HN.out HV.out hs46)
                go_wp2_with fail
                refine HC.out.mono ?_
                rintro e w8 ⟨rfl, h8⟩
                go_wp2_with fail
                refine (HC2.out _ h8).mono ?_
                rintro e w7 ⟨rfl, h7⟩
                clear h8
                have HQ7 := Lib.hid h7
                obtain ⟨_, _, m2, _, _, _, _, _, fm2, _⟩ := h7.mcells
                clear h7
                go_upto_region 25 with (fail)
                obtain ⟨W8, hW8⟩ : ∃ W8, w7.setCell ⟨M, 2, none⟩ (.int .i64 3) = W8 := ⟨_, rfl⟩
                have hQ8 : TSt W0 N (some ⟨g, o, none⟩) n cap p2 m op ns M (tcs name x 3 (v : Nat) 0 0 ⟨#[]⟩) W8 := by rw [← hW8]; exact HQ7.out.set_ 2 _
                rw [hW8]
                clear hW8 m2 fm2
                have HQ8 := Lib.hid hQ8
                obtain ⟨_, c1, f1⟩ := hQ8.rcells
                clear hQ8
                go_upto_region 26 with (fail)
                obtain ⟨W9, hW9⟩ : ∃ W9, W8.setCell ⟨N, 1, none⟩ (.int .i64 ((p2 : Int) + 1)) = W9 := ⟨_, rfl⟩
                have hQ9 : TSt W0 N (some ⟨g, o, none⟩) n cap p3 m op ns M (tcs name x 3 (v : Nat) 0 0 ⟨#[]⟩) W9 := by rw [← hW9, ← HP3.out]; exact HQ8.out.at_
                rw [hW9]
                clear hW9 c1 f1
                have HQ9 := Lib.hid hQ9
                clear hQ9
                clear hva hvb hs47 hwh hk5 hs46
                go_wp2_with fail
                refine (HN2.out _ HQ9.out).mono ?_
                rintro e wy ⟨rfl, hy⟩
                have HQ := Lib.hid (show TSt W0 N (some ⟨g, o, none⟩) n cap p4 m op ns M (tcs name x 3 (v : Nat) (u : Nat) 0 ⟨#[]⟩) wy from hy)
                clear hy
                obtain ⟨m0, m1, m2, m3, m4, m5, m6, _, _, _⟩ := HQ.out.mcells
                have HPT := Lib.hid (expr_put W0 N (some ⟨g, o, none⟩) n cap p4 m op ns _ HQ.out.toR hns 3 name x 3 (v : Nat) (u : Nat) 0 ⟨#[]⟩)
                go_wp2_with (go_at_call 32; refine HPT.out.mono ?_; rintro e wz ⟨rfl, hz⟩)
                go_ret
                exact TEnd_ok HRR.out rfl hz
            rw [Bool.not_eq_true] at hs46
            have HRR : Hid (R = .ok p2 { kind := 3, field := name.data.toList, op := x, form := 1, lo := (v : Nat) }) := by show _ = _; rw [HRV.out, if_neg (fun h => hk5 h.2), hva]; simp only []; rw [if_neg (fun h => by rw [hp2, hs47] at h; exact absurd h.2 (by decide)), if_neg (fun h => by rw [hp2, hs46] at h; exact absurd h.2 (by decide)), hp2]
            clear hp2 hp3 hp4
            go_wp2_with fail
            go_quiet (fail)
            go_wp2_with fail
            refine (HNY.out _ (HT2.out.drewN _)).mono ?_
            rintro e w5 ⟨rfl, h5⟩
            have HQ5 := Lib.hid (show TSt W0 N (some ⟨g, o, none⟩) n cap p2 m op ns M (tcs name x 0 (v : Nat) 0 0 ⟨#[]⟩) w5 from h5)
            obtain ⟨_, _, m2, _, _, _, _, _, fm2, _⟩ := HQ5.out.mcells
            clear h5 c0 c1 f1 m1 a0
            go_upto_region 18 with (fail)
            obtain ⟨W6, hW6⟩ : ∃ W6, w5.setCell ⟨M, 2, none⟩ (.int .i64 1) = W6 := ⟨_, rfl⟩
            have hQ6 : TSt W0 N (some ⟨g, o, none⟩) n cap p2 m op ns M (tcs name x 1 (v : Nat) 0 0 ⟨#[]⟩) W6 := by rw [← hW6]; exact HQ5.out.set_ 2 _
            rw [hW6]
            clear hW6 m2 fm2
            have HQ6 := Lib.hid hQ6
            clear hQ6
            have HC := Lib.hid (HQ6.out.sign ⟨#[47]⟩ HN.out HV.out hs47)
            have HC2 := Lib.hid (fun W (h : TSt W0 N (some ⟨g, o, none⟩) n cap p2 m op ns M (tcs name x 1 (v : Nat) 0 0 ⟨#[]⟩) W) => h.sign ⟨#[46, 46]⟩ HN.out HV.out hs46)
            clear hva hs47 hs46 hwh hk5
            go_wp2_with fail
            refine HC.out.mono ?_
            rintro e w8 ⟨rfl, h8⟩
            go_wp2_with fail
            refine (HC2.out _ h8).mono ?_
            rintro e w7 ⟨rfl, h7⟩
            clear h8
            have HQ := Lib.hid h7
            clear h7
            obtain ⟨m0, m1, m2, m3, m4, m5, m6, _, _, _⟩ := HQ.out.mcells
            have HPT := Lib.hid (expr_put W0 N (some ⟨g, o, none⟩) n cap p2 m op ns _ HQ.out.toR hns 3 name x 1 (v : Nat) 0 0 ⟨#[]⟩)
            go_wp2_with (go_at_call 32; refine HPT.out.mono ?_; rintro e wz ⟨rfl, hz⟩)
            go_ret
            exact TEnd_ok HRR.out rfl hz
        have q2 : ((k : Int) == 5) = true := beq_iff_eq.2 (by rw [← hk1]; exact hk5)
        have hva : Sp.numAt (zs.map ptZ) p1 = none := by unfold Sp.numAt; rw [hk5, if_neg (fun h => absurd h.1 (by decide))]
        have hS0 : W2.cell? ⟨N, 0, none⟩ = some (.slice (some ⟨g, o, none⟩) n cap) ∧ W2.cell? ⟨N, 1, none⟩ = some (.int .i64 (p1 : Nat)) ∧ W2.cell? ⟨g, o + p1 * 4, none⟩ = some (.int .i64 k) ∧ W2.cell? ⟨g, o + p1 * 4 + 1, none⟩ = some (.string t) := ⟨c0, c1, a0, a1⟩
        have hkeep : ∀ w5, Below W2.drew.heap.size W2.drew w5 → w5.cell? ⟨N, 0, none⟩ = some (.slice (some ⟨g, o, none⟩) n cap) ∧ w5.cell? ⟨N, 1, none⟩ = some (.int .i64 (p1 : Nat)) ∧ w5.cell? ⟨g, o + p1 * 4, none⟩ = some (.int .i64 k) ∧ w5.cell? ⟨g, o + p1 * 4 + 1, none⟩ = some (.string t) := fun w5 hb5 =>
          ⟨(hb5.cell (p := ⟨N, 0, none⟩) hNlt).trans c0, (hb5.cell (p := ⟨N, 1, none⟩) hNlt).trans c1, (hb5.cell (p := ⟨g, o + p1 * 4, none⟩) hglt).trans a0, (hb5.cell (p := ⟨g, o + p1 * 4 + 1, none⟩) hglt).trans a1⟩
        have HK := Lib.hid hkeep
        have hipt := expr_isPattern t W2.drew (HG.out _ hbw.drew) hzs
        obtain ⟨pb, hpb⟩ : ∃ pb, Sp.patB t.data.toList = pb := ⟨_, rfl⟩
        rw [hpb] at hipt
        have HIP := Lib.hid hipt
        have HAF := Lib.hid (fun w5 (hb5 : Below W2.drew.heap.size W2.drew w5) => (HT2.out.drewN 1).below hb5)
        cases pb with
        | false =>
          have HNN := Lib.hid (fun W (h : TSt W0 N (some ⟨g, o, none⟩) n cap p1 m op ns M (tcs name x 0 0 0 0 ⟨#[]⟩) W) => num_no (j := 3) h HG.out HN.out hnb HV.out HTS.out (by show 3 < 7; omega) hva)
          have HRR : Hid (R = .bad p1) := by show _ = _; rw [HRV.out, if_pos ⟨hwh, hk5⟩, hk2, hpb]; rfl
          clear hva hwh hk5 hk1 hk2 hpb hipt hkeep hzs hbw hp2 hp3 hp4
          go_wp2_with fail
          go_region_held3 (fun w' => w'.cell? ⟨N, 0, none⟩ = some (.slice (some ⟨g, o, none⟩) n cap) ∧ w'.cell? ⟨N, 1, none⟩ = some (.int .i64 (p1 : Nat)) ∧ w'.cell? ⟨g, o + p1 * 4, none⟩ = some (.int .i64 k) ∧ w'.cell? ⟨g, o + p1 * 4 + 1, none⟩ = some (.string t))
            (first | go_keep | exact hS0 | exact ks)
            ((go_at_call 45; refine HIP.out.mono ?_; rintro e w4 ⟨rfl, hb4⟩; have ks := HK.out w4 hb4))
          have HT4 := Lib.hid (HAF.out w4 hb4)
          clear hS0 ks hb4
          go_wp2_with (go_at_call 86; refine (HNN.out _ HT4.out).mono ?_; rintro e w5 ⟨rfl, h5⟩)
          go_ret
          exact TEnd_bad HRR.out rfl h5
        | true =>
          have hts2 : t.data.toList ≠ [] := by intro e; rw [e] at hpb; exact absurd hpb (by decide)
          have htz : 1 ≤ t.size := by rw [Lib.size_eq]; cases h : t.data.toList with | nil => exact absurd h hts2 | cons _ _ => simp
          have htz2 : (1 : Int) ≤ (t.size : Int) := by omega
          have htx : (t.extract 1 t.size).data.toList = t.data.toList.drop 1 := by rw [Lib.extract_data, List.take_of_length_le (by rw [List.length_drop, ← Lib.size_eq]; omega)]
          have HRR : Hid (R = .ok p2 { kind := 3, field := name.data.toList, op := x, form := 4, pat := t.data.toList.drop 1 }) := by show _ = _; rw [HRV.out, if_pos ⟨hwh, hk5⟩, hk2, hpb, hp2]; rfl
          have HTX := Lib.hid htx
          clear hva hwh hk5 hk1 hk2 hpb hipt hkeep hzs hbw hp2 hp3 hp4 hts2 htx
          go_wp2_with fail
          go_region_held3 (fun w' => w'.cell? ⟨N, 0, none⟩ = some (.slice (some ⟨g, o, none⟩) n cap) ∧ w'.cell? ⟨N, 1, none⟩ = some (.int .i64 (p1 : Nat)) ∧ w'.cell? ⟨g, o + p1 * 4, none⟩ = some (.int .i64 k) ∧ w'.cell? ⟨g, o + p1 * 4 + 1, none⟩ = some (.string t))
            (first | go_keep | exact hS0 | exact ks)
            ((go_at_call 45; refine HIP.out.mono ?_; rintro e w4 ⟨rfl, hb4⟩; have ks := HK.out w4 hb4))
          have HT4 := Lib.hid (HAF.out w4 hb4)
          obtain ⟨c0, c1, a0, a1⟩ := ks
          obtain ⟨_, _, m2, _, _, _, m6, _, fm2, fm6⟩ := HT4.out.mcells
          clear hS0 hb4 hNlt hglt
          have nM : N ≠ M := by omega
          have gM : g ≠ M := by omega
          have hw1 : IntKind.i64.wrap 1 = 1 := by rw [IntKind.wrap_i64]; rfl
          go_wp2_with fail
          refine wp_region_K 15 (fun w' => w'.cell? ⟨N, 0, none⟩ = some (.slice (some ⟨g, o, none⟩) n cap) ∧ w'.cell? ⟨N, 1, none⟩ = some (.int .i64 (p1 : Nat)) ∧ w'.cell? ⟨g, o + p1 * 4 + 1, none⟩ = some (.string t)) (by kernel_rfl) (fun hcl => ?_)
          have hS : (fun w' : World => w'.cell? ⟨N, 0, none⟩ = some (.slice (some ⟨g, o, none⟩) n cap) ∧ w'.cell? ⟨N, 1, none⟩ = some (.int .i64 (p1 : Nat)) ∧ w'.cell? ⟨g, o + p1 * 4 + 1, none⟩ = some (.string t)) w4.drew := ⟨c0, c1, a1⟩
          refine wpAnyK_take (i := 0) (v := ?_) hcl hS rfl (by kernel_rfl) (fun _ _ _ h => h) (by rfl) ?_ (fun hcl2 => ?_)
          rotate_left
          · (intro w hSw; (try dsimp only at hSw); first | (go_simp; done) | (go_simp; with_reducible rfl))
          (try simp only [Act.put, List.setIfInBounds_toArray, List.set_cons_zero, List.set_cons_succ])
          clear hcl; have hcl := hcl2; clear hcl2
          refine wpAnyK_take (i := 1) (v := ?_) hcl hS rfl (by kernel_rfl) (fun _ _ _ h => h) (by rfl) ?_ (fun hcl2 => ?_)
          rotate_left
          · (intro w hSw; (try dsimp only at hSw); first | (go_simp; done) | (go_simp; with_reducible rfl))
          (try simp only [Act.put, List.setIfInBounds_toArray, List.set_cons_zero, List.set_cons_succ])
          clear hcl; have hcl := hcl2; clear hcl2
          refine wpAnyK_take (i := 2) (v := ?_) hcl hS rfl (by kernel_rfl) (fun _ _ _ h => h) (by rfl) ?_ (fun hcl2 => ?_)
          rotate_left
          · (intro w hSw; (try dsimp only at hSw); first | (go_simp; done) | (go_simp; with_reducible rfl))
          (try simp only [Act.put, List.setIfInBounds_toArray, List.set_cons_zero, List.set_cons_succ])
          clear hcl; have hcl := hcl2; clear hcl2
          refine wpAnyK_take (i := 3) (v := ?_) hcl hS rfl (by kernel_rfl) (fun _ _ _ h => h) (by rfl) ?_ (fun hcl2 => ?_)
          rotate_left
          · (intro w hSw; (try dsimp only at hSw); first | (go_simp; done) | (go_simp; with_reducible rfl))
          (try simp only [Act.put, List.setIfInBounds_toArray, List.set_cons_zero, List.set_cons_succ])
          clear hcl; have hcl := hcl2; clear hcl2
          refine wpAnyK_take (i := 4) (v := ?_) hcl hS rfl (by kernel_rfl) (fun _ _ _ h => h) (by rfl) ?_ (fun hcl2 => ?_)
          rotate_left
          · (intro w hSw; (try dsimp only at hSw); first | (go_simp; done) | (go_simp; with_reducible rfl))
          (try simp only [Act.put, List.setIfInBounds_toArray, List.set_cons_zero, List.set_cons_succ])
          clear hcl; have hcl := hcl2; clear hcl2
          refine wpAnyK_take (i := 5) (v := ?_) hcl hS rfl (by kernel_rfl) (fun _ _ _ h => h) (by rfl) ?_ (fun hcl2 => ?_)
          rotate_left
          · (intro w hSw; (try dsimp only at hSw); first | (go_simp; done) | (go_simp; with_reducible rfl))
          (try simp only [Act.put, List.setIfInBounds_toArray, List.set_cons_zero, List.set_cons_succ])
          clear hcl; have hcl := hcl2; clear hcl2
          refine wpAnyK_take (i := 6) (v := ?_) hcl hS rfl (by kernel_rfl) (fun _ _ _ h => h) (by rfl) ?_ (fun hcl2 => ?_)
          rotate_left
          · (intro w hSw; (try dsimp only at hSw); first | (go_simp; done) | (go_simp; with_reducible rfl))
          (try simp only [Act.put, List.setIfInBounds_toArray, List.set_cons_zero, List.set_cons_succ])
          clear hcl; have hcl := hcl2; clear hcl2
          refine wpAnyK_take (i := 7) (v := ?_) hcl hS rfl (by kernel_rfl) (fun _ _ _ h => h) (by rfl) ?_ (fun hcl2 => ?_)
          rotate_left
          · (intro w hSw; (try dsimp only at hSw); first | (go_simp; done) | (go_simp; with_reducible rfl))
          (try simp only [Act.put, List.setIfInBounds_toArray, List.set_cons_zero, List.set_cons_succ])
          clear hcl; have hcl := hcl2; clear hcl2
          refine wpAnyK_take (i := 8) (v := ?_) hcl hS rfl (by kernel_rfl) (fun _ _ _ h => h) (by rfl) ?_ (fun hcl2 => ?_)
          rotate_left
          · (intro w hSw; (try dsimp only at hSw); first | (go_simp; done) | (go_simp; with_reducible rfl))
          (try simp only [Act.put, List.setIfInBounds_toArray, List.set_cons_zero, List.set_cons_succ])
          clear hcl; have hcl := hcl2; clear hcl2
          refine wpAnyK_take (i := 9) (v := ?_) hcl hS rfl (by kernel_rfl) (fun _ _ _ h => h) (by rfl) ?_ (fun hcl2 => ?_)
          rotate_left
          · (intro w hSw; (try dsimp only at hSw); first | (go_simp; done) | (go_simp; with_reducible rfl))
          (try simp only [Act.put, List.setIfInBounds_toArray, List.set_cons_zero, List.set_cons_succ])
          clear hcl; have hcl := hcl2; clear hcl2
          refine wpAnyK_take (i := 10) (v := ?_) hcl hS rfl (by kernel_rfl) (fun _ _ _ h => h) (by rfl) ?_ (fun hcl2 => ?_)
          rotate_left
          · (intro w hSw; (try dsimp only at hSw); first | (go_simp; done) | (go_simp; with_reducible rfl))
          (try simp only [Act.put, List.setIfInBounds_toArray, List.set_cons_zero, List.set_cons_succ])
          clear hcl; have hcl := hcl2; clear hcl2
          refine wpAnyK_take (i := 11) (v := ?_) hcl hS rfl (by kernel_rfl) (fun _ _ _ h => h) (by rfl) ?_ (fun hcl2 => ?_)
          rotate_left
          · (intro w hSw; (try dsimp only at hSw); first | (go_simp; done) | (go_simp; with_reducible rfl))
          (try simp only [Act.put, List.setIfInBounds_toArray, List.set_cons_zero, List.set_cons_succ])
          clear hcl; have hcl := hcl2; clear hcl2
          refine wpAnyK_take (i := 12) (v := ?_) hcl hS rfl (by kernel_rfl) (fun _ _ _ h => h) (by rfl) ?_ (fun hcl2 => ?_)
          rotate_left
          · (intro w hSw; (try dsimp only at hSw); first | (go_simp; done) | (go_simp; with_reducible rfl))
          (try simp only [Act.put, List.setIfInBounds_toArray, List.set_cons_zero, List.set_cons_succ])
          clear hcl; have hcl := hcl2; clear hcl2
          have hS13 : (w4.setCell ⟨M, 2, none⟩ (.int .i64 4)).cell? ⟨N, 0, none⟩ = some (.slice (some ⟨g, o, none⟩) n cap) ∧ (w4.setCell ⟨M, 2, none⟩ (.int .i64 4)).cell? ⟨N, 1, none⟩ = some (.int .i64 (p1 : Nat)) ∧ (w4.setCell ⟨M, 2, none⟩ (.int .i64 4)).cell? ⟨g, o + p1 * 4 + 1, none⟩ = some (.string t) :=
            ⟨(cell_far_set w4 (p := ⟨M, 2, none⟩) (q := ⟨N, 0, none⟩) nM _).trans c0, (cell_far_set w4 (p := ⟨M, 2, none⟩) (q := ⟨N, 1, none⟩) nM _).trans c1, (cell_far_set w4 (p := ⟨M, 2, none⟩) (q := ⟨g, o + p1 * 4 + 1, none⟩) gM _).trans a1⟩
          have HS13 := Lib.hid hS13
          clear hS13
          refine wpAnyK_one (i := 13) hcl (by kernel_rfl) rfl (by rfl) (fun K hK => ?_)
          go_simp
          refine hK.out _ _ (Or.inr HS13.out) (fun hcl2 => ?_)
          clear hK K hcl hS
          have hcl := hcl2
          clear hcl2
          (try simp only [Act.put, List.setIfInBounds_toArray, List.set_cons_zero, List.set_cons_succ])
          refine wpAnyK_one (i := 14) hcl (by kernel_rfl) rfl (by rfl) (fun K hK => ?_)
          go_simp
          refine hK.out _ _ (Or.inr HS13.out) (fun hcl2 => ?_)
          clear hK K hcl
          have hcl := hcl2
          clear hcl2
          (try simp only [Act.put, List.setIfInBounds_toArray, List.set_cons_zero, List.set_cons_succ])
          refine wpAnyK_one (i := 15) hcl (by kernel_rfl) rfl (by rfl) (fun K hK => ?_)
          go_simp
          refine hK.out _ _ (Or.inl (by kernel_rfl)) (fun hcl2 => ?_)
          clear hK K hcl hcl2
          refine wpAnyK_done (by kernel_rfl) ?_ _
          obtain ⟨W5, hW5⟩ : ∃ W5, ((w4.setCell ⟨M, 2, none⟩ (.int .i64 4)).setCell ⟨M, 6, none⟩ (.string (t.extract 1 t.size))).drew = W5 := ⟨_, rfl⟩
          have hQ5 : TSt W0 N (some ⟨g, o, none⟩) n cap p1 m op ns M (tcs name x 4 0 0 0 (t.extract 1 t.size)) W5 := by rw [← hW5]; exact ((HT4.out.set_ 2 _).set_ 6 _).drewN 1
          rw [hW5]
          clear hW5 m2 m6 fm2 fm6 c0 c1 a0 a1
          have HQ5 := Lib.hid hQ5
          obtain ⟨_, c1, f1⟩ := hQ5.rcells
          clear hQ5
          go_upto_region 14 with (fail)
          obtain ⟨W6, hW6⟩ : ∃ W6, W5.setCell ⟨N, 1, none⟩ (.int .i64 ((p1 : Int) + 1)) = W6 := ⟨_, rfl⟩
          have hQ6 : TSt W0 N (some ⟨g, o, none⟩) n cap p2 m op ns M (tcs name x 4 0 0 0 (t.extract 1 t.size)) W6 := by rw [← hW6, ← HP2.out]; exact HQ5.out.at_
          rw [hW6]
          clear hW6 c1 f1
          have HQ := Lib.hid hQ6
          clear hQ6
          obtain ⟨m0, m1, m2, m3, m4, m5, m6, _, _, _⟩ := HQ.out.mcells
          have HPT := Lib.hid (expr_put W0 N (some ⟨g, o, none⟩) n cap p2 m op ns _ HQ.out.toR hns 3 name x 4 0 0 0 (t.extract 1 t.size))
          go_wp2_with (go_at_call 32; refine HPT.out.mono ?_; rintro e wz ⟨rfl, hz⟩)
          go_ret
          rw [HTX.out] at hz
          exact TEnd_ok HRR.out rfl hz
      · have e1 : (x == 1) = false := beq_eq_false_iff_ne.2 (by omega)
        have e2 : (x == 2) = true := beq_iff_eq.2 (by omega)
        clear hol hol2 hol3 hoc how
        by_cases hlt : p1 < n
        rotate_left
        · have q1 : decide ((p1 : Int) < n) = false := decide_eq_false (by omega)
          have q1b : decide (p1 < n) = false := decide_eq_false hlt
          have hk0 := kd_none HTL.out hlt
          have hva : Sp.numAt (zs.map ptZ) p1 = none := by unfold Sp.numAt; rw [hk0, if_neg (fun h => absurd h.1 (by decide))]
          have HNN := Lib.hid (fun W (h : TSt W0 N A n cap p1 m op ns M (tcs name x 0 0 0 0 ⟨#[]⟩) W) => num_no (j := 3) h HG.out HN.out hnb HV.out HTS.out (by show 3 < 7; omega) hva)
          have HRR : Hid (R = .bad p1) := by show _ = _; rw [HRV.out, if_neg (fun h => by rw [hk0] at h; exact absurd h.2 (by decide)), hva]
          clear hva hwh hk0 hlt hp2 hp3 hp4
          go_wp2_with fail
          go_quiet (fail)
          go_wp2_with (go_at_call 86; refine (HNN.out _ (HT2.out.drewN _)).mono ?_; rintro e w5 ⟨rfl, h5⟩)
          go_ret
          exact TEnd_bad HRR.out rfl h5
        have q1 : decide ((p1 : Int) < n) = true := decide_eq_true (by omega)
        have q1b : decide (p1 < n) = true := decide_eq_true hlt
        have p1l : (p1 : Int) < n := by omega
        obtain ⟨z, hz⟩ : ∃ z, zs[p1]? = some z := ⟨_, List.getElem?_eq_getElem (by rw [HN.out]; exact hlt)⟩
        obtain ⟨hk1, hk2⟩ := kd_some hz
        have hzs := HTS.out z (List.mem_of_getElem? hz)
        have hbw : Below N W0 W2 := by obtain ⟨tv, _, _, h3, _⟩ := HT2.out; exact h3
        obtain ⟨g, o, hA, hg, a0, a1, _, _⟩ := HV.out.below hbw (Nat.le_refl _) p1 z hz
        obtain ⟨k, t, l, cc⟩ := z
        simp only [] at a0 a1 hk1 hk2 hzs
        have hNlt : N < W2.heap.size := HT2.out.toR.own
        have hglt : g < W2.heap.size := by omega
        have hgM : g < M := by omega
        subst hA
        clear hz hlt
        by_cases hk5 : Sp.kdAt (zs.map ptZ) p1 = 5
        rotate_left
        · have q2 : ((k : Int) == 5) = false := beq_eq_false_iff_ne.2 (by rw [← hk1]; exact hk5)
          clear hk1 hk2 hzs hbw hNlt hglt hgM a1
          cases hva : Sp.numAt (zs.map ptZ) p1 with
          | none =>
            have HNN := Lib.hid (fun W (h : TSt W0 N (some ⟨g, o, none⟩) n cap p1 m op ns M (tcs name x 0 0 0 0 ⟨#[]⟩) W) => num_no (j := 3) h HG.out HN.out hnb HV.out HTS.out (by show 3 < 7; omega) hva)
            have HRR : Hid (R = .bad p1) := by show _ = _; rw [HRV.out, if_neg (fun h => hk5 h.2), hva]
            clear hva hwh hk5 hp2 hp3 hp4
            go_wp2_with fail
            go_quiet (fail)
            go_wp2_with (go_at_call 86; refine (HNN.out _ (HT2.out.drewN _)).mono ?_; rintro e w5 ⟨rfl, h5⟩)
            go_ret
            exact TEnd_bad HRR.out rfl h5
          | some v =>
            have HNY := Lib.hid (fun W (h : TSt W0 N (some ⟨g, o, none⟩) n cap p1 m op ns M (tcs name x 0 0 0 0 ⟨#[]⟩) W) => num_yes (j := 3) h HG.out HN.out hnb HV.out HTS.out (by show 3 < 7; omega) hva rfl (show p1 + 1 = p2 by omega))
            by_cases hs47 : Sp.sgAt (zs.map ptZ) p2 [47] = true
            · cases hvb : Sp.numAt (zs.map ptZ) p3 with
              | none =>
                have HN2 := Lib.hid (fun W (h : TSt W0 N (some ⟨g, o, none⟩) n cap p3 m op ns M (tcs name x 2 (v : Nat) 0 0 ⟨#[]⟩) W) => num_no (j := 5) h HG.out HN.out hnb HV.out HTS.out (by show 5 < 7; omega) hvb)
                have HRR : Hid (R = .bad p3) := by show _ = _; rw [HRV.out, if_neg (fun h => hk5 h.2), hva]; simp only []; rw [if_pos ⟨hwh, by rw [hp2]; exact hs47⟩, show p1 + 2 = p3 by omega, hvb]
                clear hp2 hp3 hp4
                go_wp2_with fail
                go_quiet (fail)
                go_wp2_with fail
                refine (HNY.out _ (HT2.out.drewN _)).mono ?_
                rintro e w5 ⟨rfl, h5⟩
                have HQ5 := Lib.hid (show TSt W0 N (some ⟨g, o, none⟩) n cap p2 m op ns M (tcs name x 0 (v : Nat) 0 0 ⟨#[]⟩) w5 from h5)
                obtain ⟨_, _, m2, _, _, _, _, _, fm2, _⟩ := HQ5.out.mcells
                clear h5 c0 c1 f1 m1 a0
                go_upto_region 18 with (fail)
                obtain ⟨W6, hW6⟩ : ∃ W6, w5.setCell ⟨M, 2, none⟩ (.int .i64 1) = W6 := ⟨_, rfl⟩
                have hQ6 : TSt W0 N (some ⟨g, o, none⟩) n cap p2 m op ns M (tcs name x 1 (v : Nat) 0 0 ⟨#[]⟩) W6 := by rw [← hW6]; exact HQ5.out.set_ 2 _
                rw [hW6]
                clear hW6 m2 fm2
                have HQ6 := Lib.hid hQ6
                clear hQ6
                have HC := Lib.hid (HQ6.out.sign ⟨#[47]⟩ HN.out HV.out hs47)
                go_wp2_with fail
                refine HC.out.mono ?_
                rintro e w7 ⟨rfl, h7⟩
                have HQ7 := Lib.hid h7
                obtain ⟨_, _, m2, _, _, _, _, _, fm2, _⟩ := h7.mcells
                clear h7
                go_upto_region 20 with (fail)
                obtain ⟨W8, hW8⟩ : ∃ W8, w7.setCell ⟨M, 2, none⟩ (.int .i64 2) = W8 := ⟨_, rfl⟩
                have hQ8 : TSt W0 N (some ⟨g, o, none⟩) n cap p2 m op ns M (tcs name x 2 (v : Nat) 0 0 ⟨#[]⟩) W8 := by rw [← hW8]; exact HQ7.out.set_ 2 _
                rw [hW8]
                clear hW8 m2 fm2
                have HQ8 := Lib.hid hQ8
                obtain ⟨_, c1, f1⟩ := hQ8.rcells
                clear hQ8
                go_upto_region 21 with (fail)
                obtain ⟨W9, hW9⟩ : ∃ W9, W8.setCell ⟨N, 1, none⟩ (.int .i64 ((p2 : Int) + 1)) = W9 := ⟨_, rfl⟩
                have hQ9 : TSt W0 N (some ⟨g, o, none⟩) n cap p3 m op ns M (tcs name x 2 (v : Nat) 0 0 ⟨#[]⟩) W9 := by rw [← hW9, ← HP3.out]; exact HQ8.out.at_
                rw [hW9]
                clear hW9 c1 f1
                have HQ9 := Lib.hid hQ9
                clear hQ9
                clear hva hvb hs47 hwh hk5
                go_wp2_with (go_at_call 86; refine (HN2.out _ HQ9.out).mono ?_; rintro e wz ⟨rfl, hz⟩)
                go_ret
                exact TEnd_bad HRR.out rfl hz
              | some u =>
                have HN2 := Lib.hid (fun W (h : TSt W0 N (some ⟨g, o, none⟩) n cap p3 m op ns M (tcs name x 2 (v : Nat) 0 0 ⟨#[]⟩) W) => num_yes (j := 5) h HG.out HN.out hnb HV.out HTS.out (by show 5 < 7; omega) hvb rfl (show p3 + 1 = p4 by omega))
                have HRR : Hid (R = .ok p4 { kind := 3, field := name.data.toList, op := x, form := 2, lo := (v : Nat), len := (u : Nat) }) := by show _ = _; rw [HRV.out, if_neg (fun h => hk5 h.2), hva]; simp only []; rw [if_pos ⟨hwh, by rw [hp2]; exact hs47⟩, show p1 + 2 = p3 by omega, hvb, show p1 + 3 = p4 by omega]
                clear hp2 hp3 hp4
                go_wp2_with fail
                go_quiet (fail)
                go_wp2_with fail
                refine (HNY.out _ (HT2.out.drewN _)).mono ?_
                rintro e w5 ⟨rfl, h5⟩
                have HQ5 := Lib.hid (show TSt W0 N (some ⟨g, o, none⟩) n cap p2 m op ns M (tcs name x 0 (v : Nat) 0 0 ⟨#[]⟩) w5 from h5)
                obtain ⟨_, _, m2, _, _, _, _, _, fm2, _⟩ := HQ5.out.mcells
                clear h5 c0 c1 f1 m1 a0
                go_upto_region 18 with (fail)
                obtain ⟨W6, hW6⟩ : ∃ W6, w5.setCell ⟨M, 2, none⟩ (.int .i64 1) = W6 := ⟨_, rfl⟩
                have hQ6 : TSt W0 N (some ⟨g, o, none⟩) n cap p2 m op ns M (tcs name x 1 (v : Nat) 0 0 ⟨#[]⟩) W6 := by rw [← hW6]; exact HQ5.out.set_ 2 _
                rw [hW6]
                clear hW6 m2 fm2
                have HQ6 := Lib.hid hQ6
                clear hQ6
                have HC := Lib.hid (HQ6.out.sign ⟨#[47]⟩ HN.out HV.out hs47)
                go_wp2_with fail
                refine HC.out.mono ?_
                rintro e w7 ⟨rfl, h7⟩
                have HQ7 := Lib.hid h7
                obtain ⟨_, _, m2, _, _, _, _, _, fm2, _⟩ := h7.mcells
                clear h7
                go_upto_region 20 with (fail)
                obtain ⟨W8, hW8⟩ : ∃ W8, w7.setCell ⟨M, 2, none⟩ (.int .i64 2) = W8 := ⟨_, rfl⟩
                have hQ8 : TSt W0 N (some ⟨g, o, none⟩) n cap p2 m op ns M (tcs name x 2 (v : Nat) 0 0 ⟨#[]⟩) W8 := by rw [← hW8]; exact HQ7.out.set_ 2 _
                rw [hW8]
                clear hW8 m2 fm2
                have HQ8 := Lib.hid hQ8
                obtain ⟨_, c1, f1⟩ := hQ8.rcells
                clear hQ8
                go_upto_region 21 with (fail)
                obtain ⟨W9, hW9⟩ : ∃ W9, W8.setCell ⟨N, 1, none⟩ (.int .i64 ((p2 : Int) + 1)) = W9 := ⟨_, rfl⟩
                have hQ9 : TSt W0 N (some ⟨g, o, none⟩) n cap p3 m op ns M (tcs name x 2 (v : Nat) 0 0 ⟨#[]⟩) W9 := by rw [← hW9, ← HP3.out]; exact HQ8.out.at_
                rw [hW9]
                clear hW9 c1 f1
                have HQ9 := Lib.hid hQ9
                clear hQ9
                clear hva hvb hs47 hwh hk5
                go_wp2_with fail
                refine (HN2.out _ HQ9.out).mono ?_
                rintro e wy ⟨rfl, hy⟩
                have HQ := Lib.hid (show TSt W0 N (some ⟨g, o, none⟩) n cap p4 m op ns M (tcs name x 2 (v : Nat) 0 (u : Nat) ⟨#[]⟩) wy from hy)
                clear hy
                obtain ⟨m0, m1, m2, m3, m4, m5, m6, _, _, _⟩ := HQ.out.mcells
                have HPT := Lib.hid (expr_put W0 N (some ⟨g, o, none⟩) n cap p4 m op ns _ HQ.out.toR hns 3 name x 2 (v : Nat) 0 (u : Nat) ⟨#[]⟩)
                go_wp2_with (go_at_call 32; refine HPT.out.mono ?_; rintro e wz ⟨rfl, hz⟩)
                go_ret
                exact TEnd_ok HRR.out rfl hz
            rw [Bool.not_eq_true] at hs47
            by_cases hs46 : Sp.sgAt (zs.map ptZ) p2 [46, 46] = true
            · cases hvb : Sp.numAt (zs.map ptZ) p3 with
              | none =>
                have HN2 := Lib.hid (fun W (h : TSt W0 N (some ⟨g, o, none⟩) n cap p3 m op ns M (tcs name x 3 (v : Nat) 0 0 ⟨#[]⟩) W) => num_no (j := 4) h HG.out HN.out hnb HV.out HTS.out (by show 4 < 7; omega) hvb)
                have HRR : Hid (R = .bad p3) := by show _ = _; rw [HRV.out, if_neg (fun h => hk5 h.2), hva]; simp only []; rw [if_neg (fun h => by rw [hp2, hs47] at h; exact absurd h.2 (by decide)), if_pos ⟨hwh, by rw [hp2]; exact hs46⟩, show p1 + 2 = p3 by omega, hvb]
                clear hp2 hp3 hp4
                go_wp2_with fail
                go_quiet (fail)
                go_wp2_with fail
                refine (HNY.out _ (HT2.out.drewN _)).mono ?_
                rintro e w5 ⟨rfl, h5⟩
                have HQ5 := Lib.hid (show TSt W0 N (some ⟨g, o, none⟩) n cap p2 m op ns M (tcs name x 0 (v : Nat) 0 0 ⟨#[]⟩) w5 from h5)
                obtain ⟨_, _, m2, _, _, _, _, _, fm2, _⟩ := HQ5.out.mcells
                clear h5 c0 c1 f1 m1 a0
                go_upto_region 18 with (fail)
                obtain ⟨W6, hW6⟩ : ∃ W6, w5.setCell ⟨M, 2, none⟩ (.int .i64 1) = W6 := ⟨_, rfl⟩
                have hQ6 : TSt W0 N (some ⟨g, o, none⟩) n cap p2 m op ns M (tcs name x 1 (v : Nat) 0 0 ⟨#[]⟩) W6 := by rw [← hW6]; exact HQ5.out.set_ 2 _
                rw [hW6]
                clear hW6 m2 fm2
                have HQ6 := Lib.hid hQ6
                clear hQ6
                have HC := Lib.hid (HQ6.out.sign ⟨#[47]⟩ HN.out HV.out hs47)
                have HC2 := Lib.hid (fun W (h : TSt W0 N (some ⟨g, o, none⟩) n cap p2 m op ns M (tcs name x 1 (v : Nat) 0 0 ⟨#[]⟩) W) => h.sign ⟨#[46, 46]⟩ HN.out HV.out hs46)
                go_wp2_with fail
                refine HC.out.mono ?_
                rintro e w8 ⟨rfl, h8⟩
                go_wp2_with fail
                refine (HC2.out _ h8).mono ?_
                rintro e w7 ⟨rfl, h7⟩
                clear h8
                have HQ7 := Lib.hid h7
                obtain ⟨_, _, m2, _, _, _, _, _, fm2, _⟩ := h7.mcells
                clear h7
                go_upto_region 25 with (fail)
                obtain ⟨W8, hW8⟩ : ∃ W8, w7.setCell ⟨M, 2, none⟩ (.int .i64 3) = W8 := ⟨_, rfl⟩
                have hQ8 : TSt W0 N (some ⟨g, o, none⟩) n cap p2 m op ns M (tcs name x 3 (v : Nat) 0 0 ⟨#[]⟩) W8 := by rw [← hW8]; exact HQ7.out.set_ 2 _
                rw [hW8]
                clear hW8 m2 fm2
                have HQ8 := Lib.hid hQ8
                obtain ⟨_, c1, f1⟩ := hQ8.rcells
                clear hQ8
                go_upto_region 26 with (fail)
                obtain ⟨W9, hW9⟩ : ∃ W9, W8.setCell ⟨N, 1, none⟩ (.int .i64 ((p2 : Int) + 1)) = W9 := ⟨_, rfl⟩
                have hQ9 : TSt W0 N (some ⟨g, o, none⟩) n cap p3 m op ns M (tcs name x 3 (v : Nat) 0 0 ⟨#[]⟩) W9 := by rw [← hW9, ← HP3.out]; exact HQ8.out.at_
                rw [hW9]
                clear hW9 c1 f1
                have HQ9 := Lib.hid hQ9
                clear hQ9
                clear hva hvb hs47 hwh hk5 hs46
                go_wp2_with (go_at_call 86; refine (HN2.out _ HQ9.out).mono ?_; rintro e wz ⟨rfl, hz⟩)
                go_ret
                exact TEnd_bad HRR.out rfl hz
              | some u =>
                have HN2 := Lib.hid (fun W (h : TSt W0 N (some ⟨g, o, none⟩) n cap p3 m op ns M (tcs name x 3 (v : Nat) 0 0 ⟨#[]⟩) W) => num_yes (j := 4) h HG.out HN.out hnb HV.out HTS.out (by show 4 < 7; omega) hvb rfl (show p3 + 1 = p4 by omega))
                have HRR : Hid (R = .ok p4 { kind := 3, field := name.data.toList, op := x, form := 3, lo := (v : Nat), hi := (u : Nat) }) := by show _ = _; rw [HRV.out, if_neg (fun h => hk5 h.2), hva]; simp only []; rw [if_neg (fun h => by rw [hp2, hs47] at h; exact absurd h.2 (by decide)), if_pos ⟨hwh, by rw [hp2]; exact hs46⟩, show p1 + 2 = p3 by omega, hvb, show p1 + 3 = p4 by omega]
                clear hp2 hp3 hp4
                go_wp2_with fail
                go_quiet (fail)
                go_wp2_with fail
                refine (HNY.out _ (HT2.out.drewN _)).mono ?_
                rintro e w5 ⟨rfl, h5⟩
                have HQ5 := Lib.hid (show TSt W0 N (some ⟨g, o, none⟩) n cap p2 m op ns M (tcs name x 0 (v : Nat) 0 0 ⟨#[]⟩) w5 from h5)
                obtain ⟨_, _, m2, _, _, _, _, _, fm2, _⟩ := HQ5.out.mcells
                clear h5 c0 c1 f1 m1 a0
                go_upto_region 18 with (fail)
                obtain ⟨W6, hW6⟩ : ∃ W6, w5.setCell ⟨M, 2, none⟩ (.int .i64 1) = W6 := ⟨_, rfl⟩
                have hQ6 : TSt W0 N (some ⟨g, o, none⟩) n cap p2 m op ns M (tcs name x 1 (v : Nat) 0 0 ⟨#[]⟩) W6 := by rw [← hW6]; exact HQ5.out.set_ 2 _
                rw [hW6]
                clear hW6 m2 fm2
                have HQ6 := Lib.hid hQ6
                clear hQ6
                have HC := Lib.hid (HQ6.out.sign ⟨#[47]⟩ HN.out HV.out hs47)
                have HC2 := Lib.hid (fun W (h : TSt W0 N (some ⟨g, o, none⟩) n cap p2 m op ns M (tcs name x 1 (v : Nat) 0 0 ⟨#[]⟩) W) => h.sign ⟨#[46, 46]⟩ HN.out HV.out hs46)
                go_wp2_with fail
                refine HC.out.mono ?_
                rintro e w8 ⟨rfl, h8⟩
                go_wp2_with fail
                refine (HC2.out _ h8).mono ?_
                rintro e w7 ⟨rfl, h7⟩
                clear h8
                have HQ7 := Lib.hid h7
                obtain ⟨_, _, m2, _, _, _, _, _, fm2, _⟩ := h7.mcells
                clear h7
                go_upto_region 25 with (fail)
                obtain ⟨W8, hW8⟩ : ∃ W8, w7.setCell ⟨M, 2, none⟩ (.int .i64 3) = W8 := ⟨_, rfl⟩
                have hQ8 : TSt W0 N (some ⟨g, o, none⟩) n cap p2 m op ns M (tcs name x 3 (v : Nat) 0 0 ⟨#[]⟩) W8 := by rw [← hW8]; exact HQ7.out.set_ 2 _
                rw [hW8]
                clear hW8 m2 fm2
                have HQ8 := Lib.hid hQ8
                obtain ⟨_, c1, f1⟩ := hQ8.rcells
                clear hQ8
                go_upto_region 26 with (fail)
                obtain ⟨W9, hW9⟩ : ∃ W9, W8.setCell ⟨N, 1, none⟩ (.int .i64 ((p2 : Int) + 1)) = W9 := ⟨_, rfl⟩
                have hQ9 : TSt W0 N (some ⟨g, o, none⟩) n cap p3 m op ns M (tcs name x 3 (v : Nat) 0 0 ⟨#[]⟩) W9 := by rw [← hW9, ← HP3.out]; exact HQ8.out.at_
                rw [hW9]
                clear hW9 c1 f1
                have HQ9 := Lib.hid hQ9
                clear hQ9
                clear hva hvb hs47 hwh hk5 hs46
                go_wp2_with fail
                refine (HN2.out _ HQ9.out).mono ?_
                rintro e wy ⟨rfl, hy⟩
                have HQ := Lib.hid (show TSt W0 N (some ⟨g, o, none⟩) n cap p4 m op ns M (tcs name x 3 (v : Nat) (u : Nat) 0 ⟨#[]⟩) wy from hy)
                clear hy
                obtain ⟨m0, m1, m2, m3, m4, m5, m6, _, _, _⟩ := HQ.out.mcells
                have HPT := Lib.hid (expr_put W0 N (some ⟨g, o, none⟩) n cap p4 m op ns _ HQ.out.toR hns 3 name x 3 (v : Nat) (u : Nat) 0 ⟨#[]⟩)
                go_wp2_with (go_at_call 32; refine HPT.out.mono ?_; rintro e wz ⟨rfl, hz⟩)
                go_ret
                exact TEnd_ok HRR.out rfl hz
            rw [Bool.not_eq_true] at hs46
            have HRR : Hid (R = .ok p2 { kind := 3, field := name.data.toList, op := x, form := 1, lo := (v : Nat) }) := by show _ = _; rw [HRV.out, if_neg (fun h => hk5 h.2), hva]; simp only []; rw [if_neg (fun h => by rw [hp2, hs47] at h; exact absurd h.2 (by decide)), if_neg (fun h => by rw [hp2, hs46] at h; exact absurd h.2 (by decide)), hp2]
            clear hp2 hp3 hp4
            go_wp2_with fail
            go_quiet (fail)
            go_wp2_with fail
            refine (HNY.out _ (HT2.out.drewN _)).mono ?_
            rintro e w5 ⟨rfl, h5⟩
            have HQ5 := Lib.hid (show TSt W0 N (some ⟨g, o, none⟩) n cap p2 m op ns M (tcs name x 0 (v : Nat) 0 0 ⟨#[]⟩) w5 from h5)
            obtain ⟨_, _, m2, _, _, _, _, _, fm2, _⟩ := HQ5.out.mcells
            clear h5 c0 c1 f1 m1 a0
            go_upto_region 18 with (fail)
            obtain ⟨W6, hW6⟩ : ∃ W6, w5.setCell ⟨M, 2, none⟩ (.int .i64 1) = W6 := ⟨_, rfl⟩
            have hQ6 : TSt W0 N (some ⟨g, o, none⟩) n cap p2 m op ns M (tcs name x 1 (v : Nat) 0 0 ⟨#[]⟩) W6 := by rw [← hW6]; exact HQ5.out.set_ 2 _
            rw [hW6]
            clear hW6 m2 fm2
            have HQ6 := Lib.hid hQ6
            clear hQ6
            have HC := Lib.hid (HQ6.out.sign ⟨#[47]⟩ HN.out HV.out hs47)
            have HC2 := Lib.hid (fun W (h : TSt W0 N (some ⟨g, o, none⟩) n cap p2 m op ns M (tcs name x 1 (v : Nat) 0 0 ⟨#[]⟩) W) => h.sign ⟨#[46, 46]⟩ HN.out HV.out hs46)
            clear hva hs47 hs46 hwh hk5
            go_wp2_with fail
            refine HC.out.mono ?_
            rintro e w8 ⟨rfl, h8⟩
            go_wp2_with fail
            refine (HC2.out _ h8).mono ?_
            rintro e w7 ⟨rfl, h7⟩
            clear h8
            have HQ := Lib.hid h7
            clear h7
            obtain ⟨m0, m1, m2, m3, m4, m5, m6, _, _, _⟩ := HQ.out.mcells
            have HPT := Lib.hid (expr_put W0 N (some ⟨g, o, none⟩) n cap p2 m op ns _ HQ.out.toR hns 3 name x 1 (v : Nat) 0 0 ⟨#[]⟩)
            go_wp2_with (go_at_call 32; refine HPT.out.mono ?_; rintro e wz ⟨rfl, hz⟩)
            go_ret
            exact TEnd_ok HRR.out rfl hz
        have q2 : ((k : Int) == 5) = true := beq_iff_eq.2 (by rw [← hk1]; exact hk5)
        have hva : Sp.numAt (zs.map ptZ) p1 = none := by unfold Sp.numAt; rw [hk5, if_neg (fun h => absurd h.1 (by decide))]
        have hS0 : W2.cell? ⟨N, 0, none⟩ = some (.slice (some ⟨g, o, none⟩) n cap) ∧ W2.cell? ⟨N, 1, none⟩ = some (.int .i64 (p1 : Nat)) ∧ W2.cell? ⟨g, o + p1 * 4, none⟩ = some (.int .i64 k) ∧ W2.cell? ⟨g, o + p1 * 4 + 1, none⟩ = some (.string t) := ⟨c0, c1, a0, a1⟩
        have hkeep : ∀ w5, Below W2.drew.heap.size W2.drew w5 → w5.cell? ⟨N, 0, none⟩ = some (.slice (some ⟨g, o, none⟩) n cap) ∧ w5.cell? ⟨N, 1, none⟩ = some (.int .i64 (p1 : Nat)) ∧ w5.cell? ⟨g, o + p1 * 4, none⟩ = some (.int .i64 k) ∧ w5.cell? ⟨g, o + p1 * 4 + 1, none⟩ = some (.string t) := fun w5 hb5 =>
          ⟨(hb5.cell (p := ⟨N, 0, none⟩) hNlt).trans c0, (hb5.cell (p := ⟨N, 1, none⟩) hNlt).trans c1, (hb5.cell (p := ⟨g, o + p1 * 4, none⟩) hglt).trans a0, (hb5.cell (p := ⟨g, o + p1 * 4 + 1, none⟩) hglt).trans a1⟩
        have HK := Lib.hid hkeep
        have hipt := expr_isPattern t W2.drew (HG.out _ hbw.drew) hzs
        obtain ⟨pb, hpb⟩ : ∃ pb, Sp.patB t.data.toList = pb := ⟨_, rfl⟩
        rw [hpb] at hipt
        have HIP := Lib.hid hipt
        have HAF := Lib.hid (fun w5 (hb5 : Below W2.drew.heap.size W2.drew w5) => (HT2.out.drewN 1).below hb5)
        cases pb with
        | false =>
          have HNN := Lib.hid (fun W (h : TSt W0 N (some ⟨g, o, none⟩) n cap p1 m op ns M (tcs name x 0 0 0 0 ⟨#[]⟩) W) => num_no (j := 3) h HG.out HN.out hnb HV.out HTS.out (by show 3 < 7; omega) hva)
          have HRR : Hid (R = .bad p1) := by show _ = _; rw [HRV.out, if_pos ⟨hwh, hk5⟩, hk2, hpb]; rfl
          clear hva hwh hk5 hk1 hk2 hpb hipt hkeep hzs hbw hp2 hp3 hp4
          go_wp2_with fail
          go_region_held3 (fun w' => w'.cell? ⟨N, 0, none⟩ = some (.slice (some ⟨g, o, none⟩) n cap) ∧ w'.cell? ⟨N, 1, none⟩ = some (.int .i64 (p1 : Nat)) ∧ w'.cell? ⟨g, o + p1 * 4, none⟩ = some (.int .i64 k) ∧ w'.cell? ⟨g, o + p1 * 4 + 1, none⟩ = some (.string t))
            (first | go_keep | exact hS0 | exact ks)
            ((go_at_call 45; refine HIP.out.mono ?_; rintro e w4 ⟨rfl, hb4⟩; have ks := HK.out w4 hb4))
          have HT4 := Lib.hid (HAF.out w4 hb4)
          clear hS0 ks hb4
          go_wp2_with (go_at_call 86; refine (HNN.out _ HT4.out).mono ?_; rintro e w5 ⟨rfl, h5⟩)
          go_ret
          exact TEnd_bad HRR.out rfl h5
        | true =>
          have hts2 : t.data.toList ≠ [] := by intro e; rw [e] at hpb; exact absurd hpb (by decide)
          have htz : 1 ≤ t.size := by rw [Lib.size_eq]; cases h : t.data.toList with | nil => exact absurd h hts2 | cons _ _ => simp
          have htz2 : (1 : Int) ≤ (t.size : Int) := by omega
          have htx : (t.extract 1 t.size).data.toList = t.data.toList.drop 1 := by rw [Lib.extract_data, List.take_of_length_le (by rw [List.length_drop, ← Lib.size_eq]; omega)]
          have HRR : Hid (R = .ok p2 { kind := 3, field := name.data.toList, op := x, form := 4, pat := t.data.toList.drop 1 }) := by show _ = _; rw [HRV.out, if_pos ⟨hwh, hk5⟩, hk2, hpb, hp2]; rfl
          have HTX := Lib.hid htx
          clear hva hwh hk5 hk1 hk2 hpb hipt hkeep hzs hbw hp2 hp3 hp4 hts2 htx
          go_wp2_with fail
          go_region_held3 (fun w' => w'.cell? ⟨N, 0, none⟩ = some (.slice (some ⟨g, o, none⟩) n cap) ∧ w'.cell? ⟨N, 1, none⟩ = some (.int .i64 (p1 : Nat)) ∧ w'.cell? ⟨g, o + p1 * 4, none⟩ = some (.int .i64 k) ∧ w'.cell? ⟨g, o + p1 * 4 + 1, none⟩ = some (.string t))
            (first | go_keep | exact hS0 | exact ks)
            ((go_at_call 45; refine HIP.out.mono ?_; rintro e w4 ⟨rfl, hb4⟩; have ks := HK.out w4 hb4))
          have HT4 := Lib.hid (HAF.out w4 hb4)
          obtain ⟨c0, c1, a0, a1⟩ := ks
          obtain ⟨_, _, m2, _, _, _, m6, _, fm2, fm6⟩ := HT4.out.mcells
          clear hS0 hb4 hNlt hglt
          have nM : N ≠ M := by omega
          have gM : g ≠ M := by omega
          have hw1 : IntKind.i64.wrap 1 = 1 := by rw [IntKind.wrap_i64]; rfl
          go_wp2_with fail
          refine wp_region_K 15 (fun w' => w'.cell? ⟨N, 0, none⟩ = some (.slice (some ⟨g, o, none⟩) n cap) ∧ w'.cell? ⟨N, 1, none⟩ = some (.int .i64 (p1 : Nat)) ∧ w'.cell? ⟨g, o + p1 * 4 + 1, none⟩ = some (.string t)) (by kernel_rfl) (fun hcl => ?_)
          have hS : (fun w' : World => w'.cell? ⟨N, 0, none⟩ = some (.slice (some ⟨g, o, none⟩) n cap) ∧ w'.cell? ⟨N, 1, none⟩ = some (.int .i64 (p1 : Nat)) ∧ w'.cell? ⟨g, o + p1 * 4 + 1, none⟩ = some (.string t)) w4.drew := ⟨c0, c1, a1⟩
          refine wpAnyK_take (i := 0) (v := ?_) hcl hS rfl (by kernel_rfl) (fun _ _ _ h => h) (by rfl) ?_ (fun hcl2 => ?_)
          rotate_left
          · (intro w hSw; (try dsimp only at hSw); first | (go_simp; done) | (go_simp; with_reducible rfl))
          (try simp only [Act.put, List.setIfInBounds_toArray, List.set_cons_zero, List.set_cons_succ])
          clear hcl; have hcl := hcl2; clear hcl2
          refine wpAnyK_take (i := 1) (v := ?_) hcl hS rfl (by kernel_rfl) (fun _ _ _ h => h) (by rfl) ?_ (fun hcl2 => ?_)
          rotate_left
          · (intro w hSw; (try dsimp only at hSw); first | (go_simp; done) | (go_simp; with_reducible rfl))
          (try simp only [Act.put, List.setIfInBounds_toArray, List.set_cons_zero, List.set_cons_succ])
          clear hcl; have hcl := hcl2; clear hcl2
          refine wpAnyK_take (i := 2) (v := ?_) hcl hS rfl (by kernel_rfl) (fun _ _ _ h => h) (by rfl) ?_ (fun hcl2 => ?_)
          rotate_left
          · (intro w hSw; (try dsimp only at hSw); first | (go_simp; done) | (go_simp; with_reducible rfl))
          (try simp only [Act.put, List.setIfInBounds_toArray, List.set_cons_zero, List.set_cons_succ])
          clear hcl; have hcl := hcl2; clear hcl2
          refine wpAnyK_take (i := 3) (v := ?_) hcl hS rfl (by kernel_rfl) (fun _ _ _ h => h) (by rfl) ?_ (fun hcl2 => ?_)
          rotate_left
          · (intro w hSw; (try dsimp only at hSw); first | (go_simp; done) | (go_simp; with_reducible rfl))
          (try simp only [Act.put, List.setIfInBounds_toArray, List.set_cons_zero, List.set_cons_succ])
          clear hcl; have hcl := hcl2; clear hcl2
          refine wpAnyK_take (i := 4) (v := ?_) hcl hS rfl (by kernel_rfl) (fun _ _ _ h => h) (by rfl) ?_ (fun hcl2 => ?_)
          rotate_left
          · (intro w hSw; (try dsimp only at hSw); first | (go_simp; done) | (go_simp; with_reducible rfl))
          (try simp only [Act.put, List.setIfInBounds_toArray, List.set_cons_zero, List.set_cons_succ])
          clear hcl; have hcl := hcl2; clear hcl2
          refine wpAnyK_take (i := 5) (v := ?_) hcl hS rfl (by kernel_rfl) (fun _ _ _ h => h) (by rfl) ?_ (fun hcl2 => ?_)
          rotate_left
          · (intro w hSw; (try dsimp only at hSw); first | (go_simp; done) | (go_simp; with_reducible rfl))
          (try simp only [Act.put, List.setIfInBounds_toArray, List.set_cons_zero, List.set_cons_succ])
          clear hcl; have hcl := hcl2; clear hcl2
          refine wpAnyK_take (i := 6) (v := ?_) hcl hS rfl (by kernel_rfl) (fun _ _ _ h => h) (by rfl) ?_ (fun hcl2 => ?_)
          rotate_left
          · (intro w hSw; (try dsimp only at hSw); first | (go_simp; done) | (go_simp; with_reducible rfl))
          (try simp only [Act.put, List.setIfInBounds_toArray, List.set_cons_zero, List.set_cons_succ])
          clear hcl; have hcl := hcl2; clear hcl2
          refine wpAnyK_take (i := 7) (v := ?_) hcl hS rfl (by kernel_rfl) (fun _ _ _ h => h) (by rfl) ?_ (fun hcl2 => ?_)
          rotate_left
          · (intro w hSw; (try dsimp only at hSw); first | (go_simp; done) | (go_simp; with_reducible rfl))
          (try simp only [Act.put, List.setIfInBounds_toArray, List.set_cons_zero, List.set_cons_succ])
          clear hcl; have hcl := hcl2; clear hcl2
          refine wpAnyK_take (i := 8) (v := ?_) hcl hS rfl (by kernel_rfl) (fun _ _ _ h => h) (by rfl) ?_ (fun hcl2 => ?_)
          rotate_left
          · (intro w hSw; (try dsimp only at hSw); first | (go_simp; done) | (go_simp; with_reducible rfl))
          (try simp only [Act.put, List.setIfInBounds_toArray, List.set_cons_zero, List.set_cons_succ])
          clear hcl; have hcl := hcl2; clear hcl2
          refine wpAnyK_take (i := 9) (v := ?_) hcl hS rfl (by kernel_rfl) (fun _ _ _ h => h) (by rfl) ?_ (fun hcl2 => ?_)
          rotate_left
          · (intro w hSw; (try dsimp only at hSw); first | (go_simp; done) | (go_simp; with_reducible rfl))
          (try simp only [Act.put, List.setIfInBounds_toArray, List.set_cons_zero, List.set_cons_succ])
          clear hcl; have hcl := hcl2; clear hcl2
          refine wpAnyK_take (i := 10) (v := ?_) hcl hS rfl (by kernel_rfl) (fun _ _ _ h => h) (by rfl) ?_ (fun hcl2 => ?_)
          rotate_left
          · (intro w hSw; (try dsimp only at hSw); first | (go_simp; done) | (go_simp; with_reducible rfl))
          (try simp only [Act.put, List.setIfInBounds_toArray, List.set_cons_zero, List.set_cons_succ])
          clear hcl; have hcl := hcl2; clear hcl2
          refine wpAnyK_take (i := 11) (v := ?_) hcl hS rfl (by kernel_rfl) (fun _ _ _ h => h) (by rfl) ?_ (fun hcl2 => ?_)
          rotate_left
          · (intro w hSw; (try dsimp only at hSw); first | (go_simp; done) | (go_simp; with_reducible rfl))
          (try simp only [Act.put, List.setIfInBounds_toArray, List.set_cons_zero, List.set_cons_succ])
          clear hcl; have hcl := hcl2; clear hcl2
          refine wpAnyK_take (i := 12) (v := ?_) hcl hS rfl (by kernel_rfl) (fun _ _ _ h => h) (by rfl) ?_ (fun hcl2 => ?_)
          rotate_left
          · (intro w hSw; (try dsimp only at hSw); first | (go_simp; done) | (go_simp; with_reducible rfl))
          (try simp only [Act.put, List.setIfInBounds_toArray, List.set_cons_zero, List.set_cons_succ])
          clear hcl; have hcl := hcl2; clear hcl2
          have hS13 : (w4.setCell ⟨M, 2, none⟩ (.int .i64 4)).cell? ⟨N, 0, none⟩ = some (.slice (some ⟨g, o, none⟩) n cap) ∧ (w4.setCell ⟨M, 2, none⟩ (.int .i64 4)).cell? ⟨N, 1, none⟩ = some (.int .i64 (p1 : Nat)) ∧ (w4.setCell ⟨M, 2, none⟩ (.int .i64 4)).cell? ⟨g, o + p1 * 4 + 1, none⟩ = some (.string t) :=
            ⟨(cell_far_set w4 (p := ⟨M, 2, none⟩) (q := ⟨N, 0, none⟩) nM _).trans c0, (cell_far_set w4 (p := ⟨M, 2, none⟩) (q := ⟨N, 1, none⟩) nM _).trans c1, (cell_far_set w4 (p := ⟨M, 2, none⟩) (q := ⟨g, o + p1 * 4 + 1, none⟩) gM _).trans a1⟩
          have HS13 := Lib.hid hS13
          clear hS13
          refine wpAnyK_one (i := 13) hcl (by kernel_rfl) rfl (by rfl) (fun K hK => ?_)
          go_simp
          refine hK.out _ _ (Or.inr HS13.out) (fun hcl2 => ?_)
          clear hK K hcl hS
          have hcl := hcl2
          clear hcl2
          (try simp only [Act.put, List.setIfInBounds_toArray, List.set_cons_zero, List.set_cons_succ])
          refine wpAnyK_one (i := 14) hcl (by kernel_rfl) rfl (by rfl) (fun K hK => ?_)
          go_simp
          refine hK.out _ _ (Or.inr HS13.out) (fun hcl2 => ?_)
          clear hK K hcl
          have hcl := hcl2
          clear hcl2
          (try simp only [Act.put, List.setIfInBounds_toArray, List.set_cons_zero, List.set_cons_succ])
          refine wpAnyK_one (i := 15) hcl (by kernel_rfl) rfl (by rfl) (fun K hK => ?_)
          go_simp
          refine hK.out _ _ (Or.inl (by kernel_rfl)) (fun hcl2 => ?_)
          clear hK K hcl hcl2
          refine wpAnyK_done (by kernel_rfl) ?_ _
          obtain ⟨W5, hW5⟩ : ∃ W5, ((w4.setCell ⟨M, 2, none⟩ (.int .i64 4)).setCell ⟨M, 6, none⟩ (.string (t.extract 1 t.size))).drew = W5 := ⟨_, rfl⟩
          have hQ5 : TSt W0 N (some ⟨g, o, none⟩) n cap p1 m op ns M (tcs name x 4 0 0 0 (t.extract 1 t.size)) W5 := by rw [← hW5]; exact ((HT4.out.set_ 2 _).set_ 6 _).drewN 1
          rw [hW5]
          clear hW5 m2 m6 fm2 fm6 c0 c1 a0 a1
          have HQ5 := Lib.hid hQ5
          obtain ⟨_, c1, f1⟩ := hQ5.rcells
          clear hQ5
          go_upto_region 14 with (fail)
          obtain ⟨W6, hW6⟩ : ∃ W6, W5.setCell ⟨N, 1, none⟩ (.int .i64 ((p1 : Int) + 1)) = W6 := ⟨_, rfl⟩
          have hQ6 : TSt W0 N (some ⟨g, o, none⟩) n cap p2 m op ns M (tcs name x 4 0 0 0 (t.extract 1 t.size)) W6 := by rw [← hW6, ← HP2.out]; exact HQ5.out.at_
          rw [hW6]
          clear hW6 c1 f1
          have HQ := Lib.hid hQ6
          clear hQ6
          obtain ⟨m0, m1, m2, m3, m4, m5, m6, _, _, _⟩ := HQ.out.mcells
          have HPT := Lib.hid (expr_put W0 N (some ⟨g, o, none⟩) n cap p2 m op ns _ HQ.out.toR hns 3 name x 4 0 0 0 (t.extract 1 t.size))
          go_wp2_with (go_at_call 32; refine HPT.out.mono ?_; rintro e wz ⟨rfl, hz⟩)
          go_ret
          rw [HTX.out] at hz
          exact TEnd_ok HRR.out rfl hz
end Go.Proofs.YtdmpapoabeljfaaGreatDoor
