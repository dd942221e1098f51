/-
  The reader of expressions in memory; THE WALKS of its methods sign, fail, makes (chapter 5).
-/
import Derived.Test.YtdmpapoabeljfaaGreatDoorZt
import Derived.Test.YtdmpapoabeljfaaGreatDoorQz
set_option linter.unusedVariables false
set_option linter.unusedSimpArgs false
set_option maxRecDepth 100000
set_option maxHeartbeats 4000000
namespace Go.Proofs.YtdmpapoabeljfaaGreatDoor
open Go.RowKit

/-- A node's eight cells. -/
def ndCell (x : Sp.Nd) : List Value := [.int .i64 x.kind, .string ⟨x.field.toArray⟩, .int .i64 x.op, .int .i64 x.form, .int .i64 x.lo, .int .i64 x.hi, .int .i64 x.len, .string ⟨x.pat.toArray⟩]
def ndCells (ns : List Sp.Nd) : List Value := ns.flatMap ndCell
theorem ndCells_append (a b : List Sp.Nd) : ndCells (a ++ b) = ndCells a ++ ndCells b := List.flatMap_append
theorem ndCells_one (t : Sp.Nd) : ndCells [t] = ndCell t := by simp [ndCells]
theorem ninfo : (Tryz.prog.info? 56).map (fun i => (i.zero, i.size, i.bytes)) = some (some (.agg #[.int .i64 0, .string ⟨#[]⟩, .int .i64 0, .int .i64 0, .int .i64 0, .int .i64 0, .int .i64 0, .string ⟨#[]⟩]), 8, 80) := by kernel_rfl
/-- A slice of the call's own that holds these nodes. -/
def Nds (w : World) (B : Nat) (v : Value) (ns : List Sp.Nd) : Prop := w.ownsRow B 56 8 v ns.length (ndCells ns)

/-- The reader at block N. -/
def Rdr (w : World) (N : Nat) (A : Option Addr) (n cap : Nat) (p : Nat) (tv : Value) (m op c : Nat) : Prop :=
  Blk w N 46 #[.slice A n cap, .int .i64 (p : Nat), tv, .int .i64 (m : Nat), .int .i64 (op : Nat), .int .i64 (c : Nat)]

theorem nds_ne {w : World} {N : Nat} {tv : Value} {ns : List Sp.Nd} (h : Nds w (N + 1) tv ns) : tv.ownBlock ≠ some N := by
  intro e
  have := (World.ownsRow.lt h N e).1
  omega
theorem nds_grown {w w' : World} {N : Nat} {tv : Value} {ns : List Sp.Nd} (h : Nds w (N + 1) tv ns) (hg : w.grownBy w' (some N)) : Nds w' (N + 1) tv ns :=
  World.ownsRow.kept h hg (Or.inr (nds_ne h))

/-- The reader, its nodes in memory of its own; below N all is as it was. -/
def RSt (W0 : World) (N : Nat) (A : Option Addr) (n cap : Nat) (p m op : Nat) (ns : List Sp.Nd) (w : World) : Prop :=
  ∃ tv, Rdr w N A n cap p tv m op 0 ∧ Nds w (N + 1) tv ns ∧ Below N W0 w
/-- It has failed. -/
def RBad (W0 : World) (N : Nat) (A : Option Addr) (n cap : Nat) (p c : Nat) (w : World) : Prop :=
  ∃ tv m op, Rdr w N A n cap p tv m op c ∧ Below N W0 w
theorem RSt.drewN {W0 w : World} {N n cap p m op : Nat} {A : Option Addr} {ns : List Sp.Nd} (h : RSt W0 N A n cap p m op ns w) (k : Nat) : RSt W0 N A n cap p m op ns (w.drewN k) := by
  obtain ⟨tv, h1, h2, h3⟩ := h
  exact ⟨tv, h1, h2, below_drewN' h3 k⟩

theorem sg_none {T : List Sp.Pt} {p n : Nat} (hT : T.length = n) (h : ¬ p < n) (X : List UInt8) : Sp.sgAt T p X = false := by
  unfold Sp.sgAt
  rw [List.getElem?_eq_none (by omega)]
theorem sg_some {zs : List ZTok} {p : Nat} {z : ZTok} (hz : zs[p]? = some z) (X : List UInt8) : Sp.sgAt (zs.map ptZ) p X = (z.1 == 7 && z.2.1.data.toList == X) := by
  unfold Sp.sgAt
  rw [List.getElem?_map, hz]
  rfl

/-- Does this sign stand here? It reads alone. -/
theorem expr_sign (w : World) (N : Nat) (A : Option Addr) (n cap p : Nat) (tv : Value) (m op c : Nat) (zs : List ZTok) (X : ByteArray) (H : Nat) (hR : Rdr w N A n cap p tv m op c) (hn : zs.length = n) (hv : ViewZ w H A zs) :
    Calls Tryz.prog 30 #[.pointer (some ⟨N, 0, none⟩), .string X] w fun e w' => e = .returned (.bool (Sp.sgAt (zs.map ptZ) p X.data.toList)) ∧ ∃ k, w' = w.drewN k := by
  have c0 : w.cell? ⟨N, 0, none⟩ = some (.slice A n cap) := hR.cell 0
  have c1 : w.cell? ⟨N, 1, none⟩ = some (.int .i64 p) := hR.cell 1
  have hTl : (zs.map ptZ).length = n := by rw [List.length_map]; exact hn
  obtain ⟨R, hRR⟩ : ∃ R, Sp.sgAt (zs.map ptZ) p X.data.toList = R := ⟨_, rfl⟩
  rw [hRR]
  by_cases hlt : p < n
  · have q1 : decide ((p : Int) < n) = true := decide_eq_true (by omega)
    have q1b : decide (p < n) = true := decide_eq_true hlt
    have p1 : (p : Int) < n := by omega
    have p2 : (0 : Int) ≤ (p : Int) := by omega
    obtain ⟨z, hz⟩ : ∃ z, zs[p]? = some z := ⟨_, List.getElem?_eq_getElem (by rw [hn]; exact hlt)⟩
    have hs := sg_some hz X.data.toList
    rw [hRR] at hs
    obtain ⟨g, o, rfl, hg, a0, a1, _, _⟩ := hv p z hz
    obtain ⟨k, t, l, cc⟩ := z
    simp only [] at a0 a1 hs
    by_cases hk : k = 7
    · have q2 : ((k : Int) == 7) = true := beq_iff_eq.2 hk
      have q3 : (t.toList == X.toList) = R := by rw [hs, Lib.toList_data, Lib.toList_data, q2]; rfl
      cases R with
      | true =>
        clear hz hs hRR hTl hk hn hv hR
        go_enter Tryz.func30, Tryz.ntmps30
        go_wp2_with fail
        go_quiet (fail)
        go_wp2_with fail
        go_ret
        exact ⟨rfl, _, rfl⟩
      | false =>
        clear hz hs hRR hTl hk hn hv hR
        go_enter Tryz.func30, Tryz.ntmps30
        go_wp2_with fail
        go_quiet (fail)
        go_wp2_with fail
        go_ret
        exact ⟨rfl, _, rfl⟩
    · have q2 : ((k : Int) == 7) = false := beq_eq_false_iff_ne.2 hk
      have hr : R = false := by rw [hs, q2]; rfl
      subst hr
      clear hz hs hRR hTl hk hn hv hR
      go_enter Tryz.func30, Tryz.ntmps30
      go_wp2_with fail
      go_quiet (fail)
      go_wp2_with fail
      go_ret
      exact ⟨rfl, _, rfl⟩
  · have q1 : decide ((p : Int) < n) = false := decide_eq_false (by omega)
    have q1b : decide (p < n) = false := decide_eq_false hlt
    have hr : R = false := by rw [← hRR]; exact sg_none hTl hlt _
    subst hr
    clear hRR hTl hlt hn hv hR
    go_enter Tryz.func30, Tryz.ntmps30
    go_wp2_with fail
    go_quiet (fail)
    go_wp2_with fail
    go_ret
    exact ⟨rfl, _, rfl⟩

theorem expr_fail (w : World) (N : Nat) (A : Option Addr) (n cap p : Nat) (tv : Value) (m op c0 : Nat) (c : Nat) (hR : Rdr w N A n cap p tv m op c0) :
    Calls Tryz.prog 54 #[.pointer (some ⟨N, 0, none⟩), .int .i64 (c : Nat)] w fun e w' => e = .returned (.bool false) ∧ Rdr w' N A n cap p tv m op c ∧ w.grownBy w' (some N) := by
  have c5 : w.cell? ⟨N, 5, none⟩ = some (.int .i64 c0) := hR.cell 5
  have f5 := hR.frozen 5
  have HR := Lib.hid hR
  clear hR
  go_enter Tryz.func54, Tryz.ntmps54
  go_wp2_with fail
  go_ret
  exact ⟨rfl, HR.out.set_ 5 _, only_setCell (World.grownBy.refl w (some N)) (Or.inl rfl) (.int .i64 (c : Nat)) (p := ⟨N, 5, none⟩)⟩

theorem expr_makes_no (w : World) (N : Nat) (A : Option Addr) (n cap p : Nat) (tv : Value) (m op : Nat) (hR : Rdr w N A n cap p tv m op 0) (hm : 64 ≤ m) :
    Calls Tryz.prog 31 #[.pointer (some ⟨N, 0, none⟩)] w fun e w' => e = .returned (.bool false) ∧ Rdr w' N A n cap p tv m op 51 ∧ w.grownBy w' (some N) := by
  have c3 : w.cell? ⟨N, 3, none⟩ = some (.int .i64 m) := hR.cell 3
  have q1 : decide ((m : Int) ≥ 64) = true := decide_eq_true (by omega)
  have hf := expr_fail w N A n cap p tv m op 0 51 hR
  have HF := Lib.hid hf
  clear hR hf hm
  go_enter Tryz.func31, Tryz.ntmps31
  go_wp2_with (go_at_call 54; refine HF.out.mono ?_; rintro e w1 ⟨rfl, h1, h2⟩)
  go_ret
  exact ⟨rfl, h1, h2⟩
theorem expr_makes (w : World) (N : Nat) (A : Option Addr) (n cap p : Nat) (tv : Value) (m op : Nat) (hR : Rdr w N A n cap p tv m op 0) (hm : ¬ 64 ≤ m) :
    Calls Tryz.prog 31 #[.pointer (some ⟨N, 0, none⟩)] w fun e w' => e = .returned (.bool true) ∧ Rdr w' N A n cap p tv (m + 1) op 0 ∧ w.grownBy w' (some N) := by
  have c3 : w.cell? ⟨N, 3, none⟩ = some (.int .i64 m) := hR.cell 3
  have f3 := hR.frozen 3
  have q1 : decide ((m : Int) ≥ 64) = false := decide_eq_false (by omega)
  have p1 : (m : Int) ≤ 64 := by omega
  have p2 : (0 : Int) ≤ (m : Int) := by omega
  have HR := Lib.hid hR
  clear hR hm
  go_enter Tryz.func31, Tryz.ntmps31
  go_wp2_with fail
  go_ret
  exact ⟨rfl, HR.out.set_ 3 _, only_setCell (World.grownBy.refl w (some N)) (Or.inl rfl) (.int .i64 ((m : Int) + 1)) (p := ⟨N, 3, none⟩)⟩
end Go.Proofs.YtdmpapoabeljfaaGreatDoor
