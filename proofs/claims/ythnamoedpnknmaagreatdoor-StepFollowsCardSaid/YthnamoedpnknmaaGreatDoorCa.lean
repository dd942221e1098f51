/-
 THE WALK of reachref9's held (chapter 9): the same lists once more.
-/
import Derived.Test.YthnamoedpnknmaaGreatDoorBz
import Derived.Test.YthnamoedpnknmaaGreatDoorGu
set_option linter.unusedVariables false
set_option linter.unusedSimpArgs false
set_option maxRecDepth 100000
set_option maxHeartbeats 8000000
namespace Go.Proofs.YthnamoedpnknmaaGreatDoor
open Go.RowKit
theorem ref9_held (lo : Nat) (n : Sp.Net) (A1 A2 A3 : Option Addr) (c1 c2 c3 : Nat) (w : World) (hsz : Sp.SzdT n) (hpv : PV w A1 n.ports) (htv : LView 1 (HTab lo) w A2 n.tables) (hgv : LView 1 (HGrd lo) w A3 n.guards) (hlo : lo ≤ w.heap.size) :
  Calls Tryz.prog 35 #[.agg #[.int .i64 n.bits, .slice A1 n.ports.length c1, .slice A2 n.tables.length c2, .slice A3 n.guards.length c3]] w fun r w' => ∃ B1 d1 B2 d2 B3 d3, r = .returned (.agg #[.int .i64 n.bits, .slice B1 n.ports.length d1, .slice B2 n.tables.length d2, .slice B3 n.guards.length d3]) ∧ HNet lo w' n [.int .i64 n.bits, .slice B1 n.ports.length d1, .slice B2 n.tables.length d2, .slice B3 n.guards.length d3] ∧ Below w.heap.size w w' := by
 obtain ⟨np, hnp⟩ : ∃ np, n.ports.length = np := ⟨_, rfl⟩
 obtain ⟨nt, hnt⟩ : ∃ nt, n.tables.length = nt := ⟨_, rfl⟩
 obtain ⟨ng, hng⟩ : ∃ ng, n.guards.length = ng := ⟨_, rfl⟩
 obtain ⟨bt, hbt⟩ : ∃ bt, n.bits = bt := ⟨_, rfl⟩
 obtain ⟨N, hN⟩ : ∃ N, w.heap.size = N := ⟨_, rfl⟩
 obtain ⟨W2, hW2⟩ : ∃ W2, (((w.alloc (.cells #[.int .i64 bt, .slice A1 np c1, .slice A2 nt c2, .slice A3 ng c3] 26)).alloc (.cells #[.int .i64 0, .slice none 0 0, .slice none 0 0, .slice none 0 0] 26)).alloc (.cells #[.int .i64 0, .slice none 0 0, .slice none 0 0, .slice none 0 0] 26)) = W2 := ⟨_, rfl⟩
 have hb2 : Below N w W2 := by rw [← hW2, ← hN]; exact (((Below.refl _ _).alloc (Nat.le_refl _) _).alloc (by simp) _).alloc (by simp; omega) _
 have hs2 : W2.heap.size = N + 3 := by rw [← hW2, ← hN]; simp
 have hk0 : Blk W2 N 26 #[.int .i64 bt, .slice A1 np c1, .slice A2 nt c2, .slice A3 ng c3] := by rw [← hW2, ← hN]; exact ((Blk.new _ _ _).alloc _).alloc _
 have hk1 : Blk W2 (N + 1) 26 #[.int .i64 0, .slice none 0 0, .slice none 0 0, .slice none 0 0] := by rw [← hW2, ← hN]; exact (blk_at9 (by simp)).alloc _
 have hk2 : Blk W2 (N + 1 + 1) 26 #[.int .i64 0, .slice none 0 0, .slice none 0 0, .slice none 0 0] := by rw [← hW2, ← hN]; exact blk_at9 (by simp)
 rw [hnp, hnt, hng, hbt, hN]
 have m0 : W2.cell? ⟨N, 0, none⟩ = some (.int .i64 bt) := hk0.cell 0
 have m1 : W2.cell? ⟨N, 1, none⟩ = some (.slice A1 np c1) := hk0.cell 1
 have m2 : W2.cell? ⟨N, 2, none⟩ = some (.slice A2 nt c2) := hk0.cell 2
 have m3 : W2.cell? ⟨N, 3, none⟩ = some (.slice A3 ng c3) := hk0.cell 3
 have f0 := hk2.frozen 0
 have f1 := hk2.frozen 1
 have f2 := hk2.frozen 2
 have f3 := hk2.frozen 3
 have d0 : W2.cell? ⟨N + 1 + 1, 0, none⟩ = some (.int .i64 0) := hk2.cell 0
 have d1 : W2.cell? ⟨N + 1 + 1, 1, none⟩ = some (.slice none 0 0) := hk2.cell 1
 have d2 : W2.cell? ⟨N + 1 + 1, 2, none⟩ = some (.slice none 0 0) := hk2.cell 2
 have d3 : W2.cell? ⟨N + 1 + 1, 3, none⟩ = some (.slice none 0 0) := hk2.cell 3
 rw [hN] at hlo
 have HLO := Lib.hid hlo
 clear hlo
 have HN := Lib.hid hN
 have HNP := Lib.hid hnp
 have HNT := Lib.hid hnt
 have HNG := Lib.hid hng
 have HBT := Lib.hid hbt
 have HPV := Lib.hid hpv
 have HTV := Lib.hid htv
 have HGV := Lib.hid hgv
 have HSZ := Lib.hid hsz
 have HB2 := Lib.hid hb2
 have HS2 := Lib.hid hs2
 have HK0 := Lib.hid hk0
 have HK1 := Lib.hid hk1
 have HK2 := Lib.hid hk2
 clear hnp hnt hng hbt hpv htv hgv hsz hb2 hs2 hk0 hk1 hk2
 go_enter Tryz.func35, Tryz.ntmps35
 go_wp2_with fail
 clear m0 m1 m2 m3 f0 f1 f2 f3 d0 d1 d2 d3
 go_loopw [4] (fun v4 wr => Below N w wr ∧ N + 3 ≤ wr.heap.size ∧ Blk wr N 26 #[.int .i64 bt, .slice A1 np c1, .slice A2 nt c2, .slice A3 ng c3] ∧ Blk wr (N + 1) 26 #[.int .i64 0, .slice none 0 0, .slice none 0 0, .slice none 0 0] ∧ ∃ (i : Nat) (B1 : Option Addr) (d1 : Nat) (L1 : List (List Value)), v4 = .int .i64 (i : Int) ∧ i ≤ np ∧ Blk wr (N + 1 + 1) 26 #[.int .i64 bt, .slice B1 i d1, .slice none 0 0, .slice none 0 0] ∧ OwnL 74 4 wr (N + 3) (.slice B1 i d1) L1 ∧ Hid (L1.length = i ∧ ∀ (j : Nat) (a : Sp.Port) (c : List Value), n.ports[j]? = some a → L1[j]? = some c → PortR w a c)) (fun v4 _ => np - (intOf v4).toNat)
 case atStart =>
  refine ⟨?_, ?_, ?_, ?_, 0, none, 0, [], rfl, Nat.zero_le _, ?_, OwnL.nil _ _ _ _, Lib.hid ⟨rfl, fun j a c _ hc => by simp at hc⟩⟩
  ·exact (((HB2.out.setCell (p := ⟨N + 1 + 1, 0, none⟩) (by show N ≤ N + 1 + 1; omega) _).setCell (p := ⟨N + 1 + 1, 1, none⟩) (by show N ≤ N + 1 + 1; omega) _).setCell (p := ⟨N + 1 + 1, 2, none⟩) (by show N ≤ N + 1 + 1; omega) _).setCell (p := ⟨N + 1 + 1, 3, none⟩) (by show N ≤ N + 1 + 1; omega) _
  ·simp only [World.size_setCell]
   rw [HS2.out]
   exact Nat.le_refl _
  ·exact (((HK0.out.far (p := ⟨N + 1 + 1, 0, none⟩) (by show N ≠ N + 1 + 1; omega) _).far (p := ⟨N + 1 + 1, 1, none⟩) (by show N ≠ N + 1 + 1; omega) _).far (p := ⟨N + 1 + 1, 2, none⟩) (by show N ≠ N + 1 + 1; omega) _).far (p := ⟨N + 1 + 1, 3, none⟩) (by show N ≠ N + 1 + 1; omega) _
  ·exact (((HK1.out.far (p := ⟨N + 1 + 1, 0, none⟩) (by show N + 1 ≠ N + 1 + 1; omega) _).far (p := ⟨N + 1 + 1, 1, none⟩) (by show N + 1 ≠ N + 1 + 1; omega) _).far (p := ⟨N + 1 + 1, 2, none⟩) (by show N + 1 ≠ N + 1 + 1; omega) _).far (p := ⟨N + 1 + 1, 3, none⟩) (by show N + 1 ≠ N + 1 + 1; omega) _
  ·exact (((HK2.out.set_ 0 _).set_ 1 _).set_ 2 _).set_ 3 _
 case round =>
  obtain ⟨hb, hs, hk0, hk1, i, B1, d1, L1, rfl, hi, hk2, hown, hrow⟩ := hrel
  have HB := Lib.hid hb
  have HS := Lib.hid hs
  have HK0 := Lib.hid hk0
  have HK1 := Lib.hid hk1
  have HK2 := Lib.hid hk2
  have HO := Lib.hid hown
  have i0 : (0 : Int) ≤ (i : Int) := by omega
  have n1 : wr.cell? ⟨N, 1, none⟩ = some (.slice A1 np c1) := hk0.cell 1
  by_cases hlt : i < np
  ·have p1 : decide ((i : Int) < (np : Int)) = true := decide_eq_true (by omega)
   have p2 : decide (i < np) = true := decide_eq_true hlt
   have p3 : (i : Int) < (np : Int) := by omega
   have z1 : IntKind.i64.wrap ((i : Int) + 1) = (i : Int) + 1 := by have := HSZ.out.np; have := HNP.out; rw [IntKind.wrap_i64]; omega
   obtain ⟨x, hx⟩ : ∃ x, n.ports[i]? = some x := ⟨_, List.getElem?_eq_getElem (by rw [HNP.out]; exact hlt)⟩
   obtain ⟨g, o, rfl, hg, a0, a1, a2, a3⟩ := HPV.out.at hx
   obtain ⟨xn, hxn⟩ : ∃ y, x.name = y := ⟨_, rfl⟩
   obtain ⟨xb, hxb⟩ : ∃ y, x.box = y := ⟨_, rfl⟩
   obtain ⟨xi, hxi⟩ : ∃ y, x.inn = y := ⟨_, rfl⟩
   obtain ⟨xd, hxd⟩ : ∃ y, x.dst = y := ⟨_, rfl⟩
   rw [hxn] at a0
   rw [hxb] at a1
   rw [hxi] at a2
   rw [hxd] at a3
   have hpr : PortR w x [.string xn, .int .i64 xb, .bool xi, .int .i64 xd] := by unfold PortR; rw [hxn, hxb, hxi, hxd]
   rw [HN.out] at hg
   have hsw : ∀ W, Below (N + 3) wr W → (fun w' : World => w'.cell? ⟨N + 1 + 1, 1, none⟩ = some (.slice B1 i d1) ∧ w'.cell? ⟨N, 1, none⟩ = some (.slice (some ⟨g, o, none⟩) np c1) ∧ w'.cell? ⟨g, o + i * 4, none⟩ = some (.string xn) ∧ w'.cell? ⟨g, o + i * 4 + 1, none⟩ = some (.int .i64 xb) ∧ w'.cell? ⟨g, o + i * 4 + 2, none⟩ = some (.bool xi) ∧ w'.cell? ⟨g, o + i * 4 + 3, none⟩ = some (.int .i64 xd)) W := fun W hW => by
    have hW2 : Below N w W := HB.out.trans (hW.mono (by omega))
    exact ⟨(hW.cell (p := ⟨N + 1 + 1, 1, none⟩) (by show N + 1 + 1 < N + 3; omega)).trans (HK2.out.cell 1), (hW.cell (p := ⟨N, 1, none⟩) (by show N < N + 3; omega)).trans n1, (hW2.cell (p := ⟨g, o + i * 4, none⟩) hg).trans a0, (hW2.cell (p := ⟨g, o + i * 4 + 1, none⟩) hg).trans a1, (hW2.cell (p := ⟨g, o + i * 4 + 2, none⟩) hg).trans a2, (hW2.cell (p := ⟨g, o + i * 4 + 3, none⟩) hg).trans a3⟩
   have hS0 := hsw _ ((Below.refl _ _).drew)
   have HSW := Lib.hid hsw
   have HX := Lib.hid hx
   have HPR := Lib.hid hpr
   have HROW := hrow
   have HI := Lib.hid (show i + 1 ≤ np by omega)
   clear hb hs hk0 hk1 hk2 hown hi hlt hx hg hxn hxb hxi hxd hpr a0 a1 a2 a3 hsw hrow
   go_wp2_with fail
   clear n1
   refine wp_region_K 10 (fun w' : World => w'.cell? ⟨N + 1 + 1, 1, none⟩ = some (.slice B1 i d1) ∧ w'.cell? ⟨N, 1, none⟩ = some (.slice (some ⟨g, o, none⟩) np c1) ∧ w'.cell? ⟨g, o + i * 4, none⟩ = some (.string xn) ∧ w'.cell? ⟨g, o + i * 4 + 1, none⟩ = some (.int .i64 xb) ∧ w'.cell? ⟨g, o + i * 4 + 2, none⟩ = some (.bool xi) ∧ w'.cell? ⟨g, o + i * 4 + 3, none⟩ = some (.int .i64 xd)) (by kernel_rfl) (fun hcl => ?_)
   have hS := hS0
   clear hS0
   refine tk 0 _ hcl hS (fun hcl2 => ?_)
   (try simp only [ly]); (try simp only [Act.put, pu]); clear hcl; have hcl := hcl2; clear hcl2
   refine tk 1 _ hcl hS (fun hcl2 => ?_)
   (try simp only [ly]); (try simp only [Act.put, pu]); clear hcl; have hcl := hcl2; clear hcl2
   refine tk 2 _ hcl hS (fun hcl2 => ?_)
   (try simp only [ly]); (try simp only [Act.put, pu]); clear hcl; have hcl := hcl2; clear hcl2
   refine tk 3 _ hcl hS (fun hcl2 => ?_)
   (try simp only [ly]); (try simp only [Act.put, pu]); clear hcl; have hcl := hcl2; clear hcl2
   refine tk 4 _ hcl hS (fun hcl2 => ?_)
   (try simp only [ly]); (try simp only [Act.put, pu]); clear hcl; have hcl := hcl2; clear hcl2
   refine tk 5 _ hcl hS (fun hcl2 => ?_)
   (try simp only [ly]); (try simp only [Act.put, pu]); clear hcl; have hcl := hcl2; clear hcl2
   refine tk 6 _ hcl hS (fun hcl2 => ?_)
   (try simp only [ly]); (try simp only [Act.put, pu]); clear hcl; have hcl := hcl2; clear hcl2
   refine wpAnyK_one (i := 7) hcl (by kernel_rfl) rfl (by rfl) (fun K hK => ?_)
   go_simp
   have hbA : Below (N + 3) wr (wr.alloc (.cells #[.string xn, .int .i64 xb, .bool xi, .int .i64 xd] 74)) := (Below.refl _ _).alloc HS.out _
   have HBA := Lib.hid hbA
   refine hK.out _ _ (Or.inr (HSW.out _ hbA.drew)) (fun hcl2 => ?_)
   clear hK K hcl hS hbA
   have hcl := hcl2
   clear hcl2
   refine wpAnyK_one (i := 8) hcl (by kernel_rfl) rfl (by rfl) (fun K hK => ?_)
   refine wp_els _ _ (by rfl) Tryz.underlying22 pinfo9 (by rfl) (by decide) (N + 3) (.slice B1 i d1) L1 (by rfl) _ wr.heap.size [.string xn, .int .i64 xb, .bool xi, .int .i64 xd] rfl (by simp [Value.oneCell']) (by rfl) (Blk.new wr 74 #[.string xn, .int .i64 xb, .bool xi, .int .i64 xd]) (HO.out.below ((Below.refl _ _).alloc (Nat.le_refl _) _).drew) (by show N + 3 ≤ (wr.alloc _).heap.size; rw [World.size_alloc]; have := HS.out; omega) (by rw [HROW.out.1]; have := HSZ.out.np; have := HNP.out; have := HI.out; omega) (by rw [HROW.out.1]; have := HSZ.out.np; have := HNP.out; have := HI.out; omega) ?_
   intro v' w1 hown1 hbel hoth _
   obtain ⟨B1', d1', rfl⟩ := hown1.slice
   rw [(rows_snoc HROW.out.1 HROW.out.2 HX.out HPR.out).1] at hown1 ⊢
   have hb1 : Below (N + 3) wr w1 := HBA.out.drew.trans hbel
   have HB1 := Lib.hid hb1
   have HO1 := Lib.hid hown1
   have e1 : w1.cell? ⟨N + 1 + 1, 1, none⟩ = some (.slice B1 i d1) := (HSW.out w1 hb1).1
   have fz1 : w1.frozen? ⟨N + 1 + 1, 1, none⟩ = false := (HK2.out.below hb1 (by omega)).frozen 1
   have hS := HSW.out w1 hb1
   refine hK.out _ _ (Or.inr hS) (fun hcl2 => ?_)
   clear hK K hcl hb1 hown1 hbel hoth
   have hcl := hcl2
   clear hcl2
   (try simp only [Act.put, pu])
   refine tk 9 _ hcl hS (fun hcl2 => ?_)
   (try simp only [ly]); (try simp only [Act.put, pu]); clear hcl; have hcl := hcl2; clear hcl2
   clear hS
   refine wpAnyK_one (i := 10) hcl (by kernel_rfl) rfl (by rfl) (fun K hK => ?_)
   go_simp
   refine hK.out _ _ (Or.inl (by kernel_rfl)) (fun hcl2 => ?_)
   clear hK K hcl hcl2 e1 fz1
   refine wpAnyK_done (by kernel_rfl) ?_ _
   go_wp2_with fail
   go_roundw
   case rel =>
    refine ⟨?_, ?_, ?_, ?_, i + 1, B1', d1', _, by rfl, HI.out, ?_, HO1.out.set (p := ⟨N + 1 + 1, 1, none⟩) (by show N + 1 + 1 < N + 3; omega) _, Lib.hid (rows_snoc HROW.out.1 HROW.out.2 HX.out HPR.out)⟩
    ·exact (HB.out.trans (HB1.out.mono (by omega))).setCell (p := ⟨N + 1 + 1, 1, none⟩) (by show N ≤ N + 1 + 1; omega) _
    ·rw [World.size_setCell]
     exact Nat.le_trans HS.out HB1.out.size
    ·exact (HK0.out.below HB1.out (by omega)).far (p := ⟨N + 1 + 1, 1, none⟩) (by show N ≠ N + 1 + 1; omega) _
    ·exact (HK1.out.below HB1.out (by omega)).far (p := ⟨N + 1 + 1, 1, none⟩) (by show N + 1 ≠ N + 1 + 1; omega) _
    ·exact (HK2.out.below HB1.out (by omega)).set_ 1 _
   case measure => have := HI.out; simp [intOf]; omega
  ·have p1 : decide ((i : Int) < (np : Int)) = false := decide_eq_false (by omega)
   have p2 : decide (i < np) = false := decide_eq_false hlt
   obtain rfl : np = i := by omega
   have HROW1 := hrow
   clear hb hs hk0 hk1 hk2 hown hi hlt hrow
   go_wp2_with fail
   clear n1 p1 p2 i0
   go_loopw [5, 6, 7] (fun v5 _ _ wr => Below N w wr ∧ N + 3 ≤ wr.heap.size ∧ Blk wr N 26 #[.int .i64 bt, .slice A1 np c1, .slice A2 nt c2, .slice A3 ng c3] ∧ Blk wr (N + 1) 26 #[.int .i64 0, .slice none 0 0, .slice none 0 0, .slice none 0 0] ∧ OwnL 74 4 wr (N + 3) (.slice B1 np d1) L1 ∧ ∃ (b : Nat) (B2 : Option Addr) (d2 : Nat) (L2 : List (List Value)), v5 = .int .i64 (b : Int) ∧ b ≤ nt ∧ Blk wr (N + 1 + 1) 26 #[.int .i64 bt, .slice B1 np d1, .slice B2 b d2, .slice none 0 0] ∧ OwnL 68 1 wr (N + 3) (.slice B2 b d2) L2 ∧ Hid (L2.length = b ∧ ∀ (j : Nat) (x : List Sp.Entry) (c : List Value), n.tables[j]? = some x → L2[j]? = some c → TabH lo w wr (N + 3) x c)) (fun v5 _ _ _ => nt - (intOf v5).toNat)
   case atStart => exact ⟨HB.out, HS.out, HK0.out, HK1.out, HO.out, 0, none, 0, [], rfl, Nat.zero_le _, HK2.out, OwnL.nil _ _ _ _, Lib.hid ⟨rfl, fun j a c _ hc => by simp at hc⟩⟩
   case round =>
    clear HB HS HK0 HK1 HK2 HO
    obtain ⟨hb, hs, hk0, hk1, hown1, b, B2, d2, L2, rfl, hi, hk2, hown, hrow⟩ := hrel
    obtain ⟨wb, hwb⟩ : ∃ wb, wb = wr := ⟨_, rfl⟩
    subst hwb
    have HB := Lib.hid hb
    have HS := Lib.hid hs
    have HK0 := Lib.hid hk0
    have HK1 := Lib.hid hk1
    have HK2 := Lib.hid hk2
    have HO1 := Lib.hid hown1
    have HO := Lib.hid hown
    have i0 : (0 : Int) ≤ (b : Int) := by omega
    have n2 : wb.cell? ⟨N, 2, none⟩ = some (.slice A2 nt c2) := hk0.cell 2
    by_cases hlt : b < nt
    ·have p1 : decide ((b : Int) < (nt : Int)) = true := decide_eq_true (by omega)
     have p2 : decide (b < nt) = true := decide_eq_true hlt
     have p3 : (b : Int) < (nt : Int) := by omega
     have z1 : IntKind.i64.wrap ((b : Int) + 1) = (b : Int) + 1 := by have := HSZ.out.nt; have := HNT.out; rw [IntKind.wrap_i64]; omega
     obtain ⟨x, hx⟩ : ∃ x, n.tables[b]? = some x := ⟨_, List.getElem?_eq_getElem (by rw [HNT.out]; exact hlt)⟩
     obtain ⟨g, o, Ax, cx, rfl, hg, a0, hxv, hxc⟩ := htab_at HTV.out hx
     have hxs := (HSZ.out.tables x (List.mem_of_getElem? hx)).1
     obtain ⟨lx, hlx⟩ : ∃ lx, x.length = lx := ⟨_, rfl⟩
     rw [hlx] at a0 hxs hxc
     rw [HN.out] at hg
     have a1 : wb.cell? ⟨g, o + b, none⟩ = some (.slice Ax lx cx) := (hb.cell (p := ⟨g, o + b, none⟩) hg).trans a0
     have HX := Lib.hid hx
     have HLX := Lib.hid hlx
     have HXV := Lib.hid hxv
     have HXS := Lib.hid hxs
     have HG := Lib.hid hg
     have HA0 := Lib.hid a0
     have HROW := Lib.hid hrow.out
     have HI := Lib.hid (show b + 1 ≤ nt by omega)
     obtain ⟨M, hM⟩ : ∃ M, wb.heap.size = M := ⟨_, rfl⟩
     have HM := Lib.hid hM
     clear hb hs hk0 hk1 hk2 hown hown1 hi hlt hx hg hlx hxv hxs hxc hM hrow a0
     go_wp2_with fail
     go_loopw [6, 7] (fun v6 v7 wr => Below M wb wr ∧ ∃ (i : Nat) (Bt : Option Addr) (dt : Nat) (Lt : List (List Value)), v6 = .slice Bt i dt ∧ v7 = .int .i64 (i : Int) ∧ i ≤ lx ∧ OwnL 78 5 wr M (.slice Bt i dt) Lt ∧ Hid (Lt.length = i ∧ ∀ (j : Nat) (a : Sp.Entry) (c : List Value), x[j]? = some a → Lt[j]? = some c → REntR lo w a c)) (fun _ v7 _ => lx - (intOf v7).toNat)
     case atStart => exact ⟨Below.refl _ _, 0, none, 0, [], rfl, rfl, Nat.zero_le _, OwnL.nil _ _ _ _, Lib.hid ⟨rfl, fun j a c _ hc => by simp at hc⟩⟩
     case round =>
      clear n2 a1
      obtain ⟨hb3, i, Bt, dt, Lt, rfl, rfl, hi, hown3, hrow3⟩ := hrel
      have HB3 := Lib.hid hb3
      have HO3 := Lib.hid hown3
      have HROW3 := Lib.hid hrow3.out
      have j0 : (0 : Int) ≤ (i : Int) := by omega
      have HMS := Lib.hid (show N + 3 ≤ M by rw [← HM.out]; exact HS.out)
      have HBW3 := Lib.hid (show Below N w wr from HB.out.trans (hb3.mono (by have := HMS.out; omega)))
      have n2 : wr.cell? ⟨N, 2, none⟩ = some (.slice (some ⟨g, o, none⟩) nt c2) := (HK0.out.below hb3 (by have := HMS.out; omega)).cell 2
      have a1 : wr.cell? ⟨g, o + b, none⟩ = some (.slice Ax lx cx) := (HBW3.out.cell (p := ⟨g, o + b, none⟩) HG.out).trans HA0.out
      by_cases hli : i < lx
      ·have s1 : decide ((i : Int) < (lx : Int)) = true := decide_eq_true (by omega)
       have s2 : decide (i < lx) = true := decide_eq_true hli
       have s3 : (i : Int) < (lx : Int) := by omega
       have z3 : IntKind.i64.wrap ((i : Int) + 1) = (i : Int) + 1 := by have := HXS.out; rw [IntKind.wrap_i64]; omega
       obtain ⟨y, hy⟩ : ∃ y, x[i]? = some y := ⟨_, List.getElem?_eq_getElem (by rw [HLX.out]; exact hli)⟩
       obtain ⟨gx, ox, g1, g2, g3, rfl, hgx, q0, q1, q2, q3, q4, r1, r2, r3, r4, r5, r6⟩ := rent_at HXV.out hy
       obtain ⟨yn, hyn⟩ : ∃ z, y.name = z := ⟨_, rfl⟩
       obtain ⟨yw, hyw⟩ : ∃ z, y.write = z := ⟨_, rfl⟩
       obtain ⟨y1, hy1⟩ : ∃ z, y.ins.length = z := ⟨_, rfl⟩
       obtain ⟨y2, hy2⟩ : ∃ z, y.cubes.length = z := ⟨_, rfl⟩
       obtain ⟨y3, hy3⟩ : ∃ z, y.outs.length = z := ⟨_, rfl⟩
       rw [hyn] at q0
       rw [hy1] at q1
       rw [hy2] at q2
       rw [hyw] at q3
       rw [hy3] at q4
       have hel : REntR lo w y [.string yn, .slice (some ⟨g1, 0, none⟩) y1 (y1 + 2), .slice (some ⟨g2, 0, none⟩) y2 (y2 + 2), .string yw, .slice (some ⟨g3, 0, none⟩) y3 (y3 + 2)] := ⟨g1, g2, g3, r1, r2, r3, by rw [← hyn, ← hyw, ← hy1, ← hy2, ← hy3], r4, r5, r6⟩
       rw [HN.out] at hgx
       have k0 : wr.cell? ⟨gx, ox + i * 5, none⟩ = some (.string yn) := (HBW3.out.cell (p := ⟨gx, ox + i * 5, none⟩) hgx).trans q0
       have k1 : wr.cell? ⟨gx, ox + i * 5 + 1, none⟩ = some (.slice (some ⟨g1, 0, none⟩) y1 (y1 + 2)) := (HBW3.out.cell (p := ⟨gx, ox + i * 5 + 1, none⟩) hgx).trans q1
       have k2 : wr.cell? ⟨gx, ox + i * 5 + 2, none⟩ = some (.slice (some ⟨g2, 0, none⟩) y2 (y2 + 2)) := (HBW3.out.cell (p := ⟨gx, ox + i * 5 + 2, none⟩) hgx).trans q2
       have k3 : wr.cell? ⟨gx, ox + i * 5 + 3, none⟩ = some (.string yw) := (HBW3.out.cell (p := ⟨gx, ox + i * 5 + 3, none⟩) hgx).trans q3
       have k4 : wr.cell? ⟨gx, ox + i * 5 + 4, none⟩ = some (.slice (some ⟨g3, 0, none⟩) y3 (y3 + 2)) := (HBW3.out.cell (p := ⟨gx, ox + i * 5 + 4, none⟩) hgx).trans q4
       have HEL := Lib.hid hel
       have HY := Lib.hid hy
       have HJ := Lib.hid (show i + 1 ≤ lx by omega)
       clear hb3 hi hown3 hrow3 hli hy hel hgx q0 q1 q2 q3 q4 hyn hyw hy1 hy2 hy3 r1 r2 r3 r4 r5 r6
       go_wp2_with (at_builtin; refine wpList_els rfl _ _ rfl Tryz.underlying68 einfo9 (by rfl) (by decide) M (.slice Bt i dt) Lt rfl wr [.string yn, .slice (some ⟨g1, 0, none⟩) y1 (y1 + 2), .slice (some ⟨g2, 0, none⟩) y2 (y2 + 2), .string yw, .slice (some ⟨g3, 0, none⟩) y3 (y3 + 2)] rfl (by simp [Value.oneCell']) rfl HO3.out (by rw [← HM.out] at HB3 ⊢; exact HB3.out.size) (by rw [HROW3.out.1]; have := HXS.out; have := HJ.out; omega) (by rw [HROW3.out.1]; have := HXS.out; have := HJ.out; omega) ?_; intro v' w4 ho4 hb4 hk4; obtain ⟨Bt', dt', rfl⟩ := ho4.slice; rw [(rows_snoc HROW3.out.1 HROW3.out.2 HY.out HEL.out).1] at ho4 ⊢; have HO4 := Lib.hid ho4; have HB4 := Lib.hid hb4; clear ho4 hb4 hk4)
       go_roundw
       case rel => exact ⟨HB3.out.trans HB4.out, i + 1, Bt', dt', _, rfl, by rfl, HJ.out, HO4.out, Lib.hid (rows_snoc HROW3.out.1 HROW3.out.2 HY.out HEL.out)⟩
       case measure => have := HJ.out; simp [intOf]; omega
      ·have s1 : decide ((i : Int) < (lx : Int)) = false := decide_eq_false (by omega)
       have s2 : decide (i < lx) = false := decide_eq_false hli
       obtain rfl : i = lx := by omega
       have k2 : wr.cell? ⟨N + 1 + 1, 2, none⟩ = some (.slice B2 b d2) := (HK2.out.below hb3 (by have := HMS.out; omega)).cell 2
       have HBX := Lib.hid (show Below (N + 3) wb wr from hb3.mono HMS.out)
       have HO5 := Lib.hid (show OwnL 68 1 wr (N + 3) (.slice B2 b d2) L2 from HO.out.below (by rw [HM.out]; exact hb3))
       have HSX := Lib.hid (show N + 3 ≤ wr.heap.size by have := hb3.size; have := HS.out; omega)
       clear hb3 hi hown3 hrow3 hli
       go_wp2_with (at_builtin; refine wpList_els rfl _ _ rfl Tryz.underlying23 tinfo9 (by rfl) (by decide) (N + 3) (.slice B2 b d2) L2 rfl wr [.slice Bt i dt] rfl (by simp [Value.oneCell']) rfl HO5.out HSX.out (by rw [HROW.out.1]; have := HSZ.out.nt; have := HNT.out; have := HI.out; omega) (by rw [HROW.out.1]; have := HSZ.out.nt; have := HNT.out; have := HI.out; omega) ?_; intro v' w4 ho4 hb4 hk4; obtain ⟨B2', d2', rfl⟩ := ho4.slice; rw [List.length_append, List.length_singleton, HROW.out.1] at ho4 ⊢; have fz : w4.frozen? ⟨N + 1 + 1, 2, none⟩ = false := (HK2.out.below (HBX.out.trans hb4) (by omega)).frozen 2; have kz : w4.cell? ⟨N + 1 + 1, 2, none⟩ = some (.slice B2 b d2) := (HK2.out.below (HBX.out.trans hb4) (by omega)).cell 2; have HO4 := Lib.hid ho4; have HB4 := Lib.hid hb4; have HK4 := Lib.hid hk4; clear ho4 hb4 hk4)
       go_roundw
       case rel =>
        have hbN : Below N w w4 := HB.out.trans ((HBX.out.trans HB4.out).mono (by omega))
        have htr : ∀ v L, OwnL 78 5 wb (N + 3) v L → OwnL 78 5 (w4.setCell ⟨N + 1 + 1, 2, none⟩ (.slice B2' (b + 1) d2')) (N + 3) v L := fun v L h => ((h.below (w' := wr) (by rw [HM.out]; exact HB3.out)).other (by decide) HK4.out).set (p := ⟨N + 1 + 1, 2, none⟩) (by show N + 1 + 1 < N + 3; omega) _
        refine ⟨?_, ?_, ?_, ?_, ((HO1.out.below (w' := wr) (by rw [HM.out]; exact HB3.out)).other (by decide) HK4.out).set (p := ⟨N + 1 + 1, 2, none⟩) (by show N + 1 + 1 < N + 3; omega) _, b + 1, B2', d2', _, by rfl, HI.out, ?_, HO4.out.set (p := ⟨N + 1 + 1, 2, none⟩) (by show N + 1 + 1 < N + 3; omega) _, Lib.hid (rows_snoc HROW.out.1 (fun j x c h1 h2 => (HROW.out.2 j x c h1 h2).of htr) HX.out ⟨.slice Bt i dt, Lt, rfl, (((HO3.out.mono HMS.out).other (by decide) HK4.out).set (p := ⟨N + 1 + 1, 2, none⟩) (by show N + 1 + 1 < N + 3; omega) _), by rw [HROW3.out.1, HLX.out], HROW3.out.2⟩)⟩
        ·exact hbN.setCell (p := ⟨N + 1 + 1, 2, none⟩) (by show N ≤ N + 1 + 1; omega) _
        ·rw [World.size_setCell]
         exact Nat.le_trans HSX.out HB4.out.size
        ·exact (HK0.out.below (HBX.out.trans HB4.out) (by omega)).far (p := ⟨N + 1 + 1, 2, none⟩) (by show N ≠ N + 1 + 1; omega) _
        ·exact (HK1.out.below (HBX.out.trans HB4.out) (by omega)).far (p := ⟨N + 1 + 1, 2, none⟩) (by show N + 1 ≠ N + 1 + 1; omega) _
        ·exact (HK2.out.below (HBX.out.trans HB4.out) (by omega)).set_ 2 _
       case measure => have := HI.out; simp [intOf]; omega
    ·have p1 : decide ((b : Int) < (nt : Int)) = false := decide_eq_false (by omega)
     have p2 : decide (b < nt) = false := decide_eq_false hlt
     obtain rfl : nt = b := by omega
     have HROW2 := hrow
     clear hb hs hk0 hk1 hk2 hown hown1 hi hlt hrow
     go_wp2_with fail
     clear n2 p1 p2 i0
     have HROWT := HROW2
     go_loopw [8, 9, 10] (fun v8 _ _ wr => Below N w wr ∧ N + 3 ≤ wr.heap.size ∧ Blk wr N 26 #[.int .i64 bt, .slice A1 np c1, .slice A2 nt c2, .slice A3 ng c3] ∧ Blk wr (N + 1) 26 #[.int .i64 0, .slice none 0 0, .slice none 0 0, .slice none 0 0] ∧ OwnL 74 4 wr (N + 3) (.slice B1 np d1) L1 ∧ OwnL 68 1 wr (N + 3) (.slice B2 nt d2) L2 ∧ Hid (∀ (j : Nat) (x : List Sp.Entry) (c : List Value), n.tables[j]? = some x → L2[j]? = some c → TabH lo w wr (N + 3) x c) ∧ ∃ (b : Nat) (B3 : Option Addr) (d3 : Nat) (L3 : List (List Value)), v8 = .int .i64 (b : Int) ∧ b ≤ ng ∧ Blk wr (N + 1 + 1) 26 #[.int .i64 bt, .slice B1 np d1, .slice B2 nt d2, .slice B3 b d3] ∧ OwnL 70 1 wr (N + 3) (.slice B3 b d3) L3 ∧ Hid (L3.length = b ∧ ∀ (j : Nat) (x : List Sp.Guard) (c : List Value), n.guards[j]? = some x → L3[j]? = some c → GrdH lo w wr (N + 3) x c)) (fun v8 _ _ _ => ng - (intOf v8).toNat)
     case atStart => exact ⟨HB.out, HS.out, HK0.out, HK1.out, HO1.out, HO.out, Lib.hid HROW2.out.2, 0, none, 0, [], rfl, Nat.zero_le _, HK2.out, OwnL.nil _ _ _ _, Lib.hid ⟨rfl, fun j a c _ hc => by simp at hc⟩⟩
     case round =>
      clear HB HS HK0 HK1 HK2 HO HO1 HROW2
      obtain ⟨hb, hs, hk0, hk1, hown1, hown2, hrow2, b, B3, d3, L3, rfl, hi, hk2, hown, hrow⟩ := hrel
      obtain ⟨wb, hwb⟩ : ∃ wb, wb = wr := ⟨_, rfl⟩
      subst hwb
      have HB := Lib.hid hb
      have HS := Lib.hid hs
      have HK0 := Lib.hid hk0
      have HK1 := Lib.hid hk1
      have HK2 := Lib.hid hk2
      have HO1 := Lib.hid hown1
      have HO := Lib.hid hown
      have HO2 := Lib.hid hown2
      have HROW2 := hrow2
      have i0 : (0 : Int) ≤ (b : Int) := by omega
      have n2 : wb.cell? ⟨N, 3, none⟩ = some (.slice A3 ng c3) := hk0.cell 3
      by_cases hlt : b < ng
      ·have p1 : decide ((b : Int) < (ng : Int)) = true := decide_eq_true (by omega)
       have p2 : decide (b < ng) = true := decide_eq_true hlt
       have p3 : (b : Int) < (ng : Int) := by omega
       have z1 : IntKind.i64.wrap ((b : Int) + 1) = (b : Int) + 1 := by have := HSZ.out.ng; have := HNG.out; rw [IntKind.wrap_i64]; omega
       obtain ⟨x, hx⟩ : ∃ x, n.guards[b]? = some x := ⟨_, List.getElem?_eq_getElem (by rw [HNG.out]; exact hlt)⟩
       obtain ⟨g, o, Ax, cx, rfl, hg, a0, hxv, hxc⟩ := hgrd_at HGV.out hx
       have hxs := (HSZ.out.guards x (List.mem_of_getElem? hx)).1
       obtain ⟨lx, hlx⟩ : ∃ lx, x.length = lx := ⟨_, rfl⟩
       rw [hlx] at a0 hxs hxc
       rw [HN.out] at hg
       have a1 : wb.cell? ⟨g, o + b, none⟩ = some (.slice Ax lx cx) := (hb.cell (p := ⟨g, o + b, none⟩) hg).trans a0
       have HX := Lib.hid hx
       have HLX := Lib.hid hlx
       have HXV := Lib.hid hxv
       have HXS := Lib.hid hxs
       have HG := Lib.hid hg
       have HA0 := Lib.hid a0
       have HROW := Lib.hid hrow.out
       have HI := Lib.hid (show b + 1 ≤ ng by omega)
       obtain ⟨M, hM⟩ : ∃ M, wb.heap.size = M := ⟨_, rfl⟩
       have HM := Lib.hid hM
       clear hb hs hk0 hk1 hk2 hown hown1 hi hlt hx hg hlx hxv hxs hxc hM hrow hown2 hrow2 a0
       go_wp2_with fail
       go_loopw [9, 10] (fun v9 v10 wr => Below M wb wr ∧ ∃ (i : Nat) (Bt : Option Addr) (dt : Nat) (Lt : List (List Value)), v9 = .slice Bt i dt ∧ v10 = .int .i64 (i : Int) ∧ i ≤ lx ∧ OwnL 81 2 wr M (.slice Bt i dt) Lt ∧ Hid (Lt.length = i ∧ ∀ (j : Nat) (a : Sp.Guard) (c : List Value), x[j]? = some a → Lt[j]? = some c → RGrdR lo w a c)) (fun _ v10 _ => lx - (intOf v10).toNat)
       case atStart => exact ⟨Below.refl _ _, 0, none, 0, [], rfl, rfl, Nat.zero_le _, OwnL.nil _ _ _ _, Lib.hid ⟨rfl, fun j a c _ hc => by simp at hc⟩⟩
       case round =>
        clear n2 a1
        obtain ⟨hb3, i, Bt, dt, Lt, rfl, rfl, hi, hown3, hrow3⟩ := hrel
        have HB3 := Lib.hid hb3
        have HO3 := Lib.hid hown3
        have HROW3 := Lib.hid hrow3.out
        have j0 : (0 : Int) ≤ (i : Int) := by omega
        have HMS := Lib.hid (show N + 3 ≤ M by rw [← HM.out]; exact HS.out)
        have HBW3 := Lib.hid (show Below N w wr from HB.out.trans (hb3.mono (by have := HMS.out; omega)))
        have n2 : wr.cell? ⟨N, 3, none⟩ = some (.slice (some ⟨g, o, none⟩) ng c3) := (HK0.out.below hb3 (by have := HMS.out; omega)).cell 3
        have a1 : wr.cell? ⟨g, o + b, none⟩ = some (.slice Ax lx cx) := (HBW3.out.cell (p := ⟨g, o + b, none⟩) HG.out).trans HA0.out
        by_cases hli : i < lx
        ·have s1 : decide ((i : Int) < (lx : Int)) = true := decide_eq_true (by omega)
         have s2 : decide (i < lx) = true := decide_eq_true hli
         have s3 : (i : Int) < (lx : Int) := by omega
         have z3 : IntKind.i64.wrap ((i : Int) + 1) = (i : Int) + 1 := by have := HXS.out; rw [IntKind.wrap_i64]; omega
         obtain ⟨y, hy⟩ : ∃ y, x[i]? = some y := ⟨_, List.getElem?_eq_getElem (by rw [HLX.out]; exact hli)⟩
         obtain ⟨gx, ox, g1, rfl, hgx, q0, q1, r1, r2⟩ := rgrd_at HXV.out hy
         obtain ⟨yp, hyp⟩ : ∃ z, y.permit = z := ⟨_, rfl⟩
         obtain ⟨y1, hy1⟩ : ∃ z, y.cubes.length = z := ⟨_, rfl⟩
         rw [hyp] at q0
         rw [hy1] at q1
         have hel : RGrdR lo w y [.bool yp, .slice (some ⟨g1, 0, none⟩) y1 (y1 + 2)] := ⟨g1, r1, by rw [← hyp, ← hy1], r2⟩
         rw [HN.out] at hgx
         have k0 : wr.cell? ⟨gx, ox + i * 2, none⟩ = some (.bool yp) := (HBW3.out.cell (p := ⟨gx, ox + i * 2, none⟩) hgx).trans q0
         have k1 : wr.cell? ⟨gx, ox + i * 2 + 1, none⟩ = some (.slice (some ⟨g1, 0, none⟩) y1 (y1 + 2)) := (HBW3.out.cell (p := ⟨gx, ox + i * 2 + 1, none⟩) hgx).trans q1
         have HEL := Lib.hid hel
         have HY := Lib.hid hy
         have HJ := Lib.hid (show i + 1 ≤ lx by omega)
         clear hb3 hi hown3 hrow3 hli hy hel hgx q0 q1 hyp hy1 r1 r2
         go_wp2_with (at_builtin; refine wpList_els rfl _ _ rfl Tryz.underlying70 ginfo9 (by rfl) (by decide) M (.slice Bt i dt) Lt rfl wr [.bool yp, .slice (some ⟨g1, 0, none⟩) y1 (y1 + 2)] rfl (by simp [Value.oneCell']) rfl HO3.out (by rw [← HM.out] at HB3 ⊢; exact HB3.out.size) (by rw [HROW3.out.1]; have := HXS.out; have := HJ.out; omega) (by rw [HROW3.out.1]; have := HXS.out; have := HJ.out; omega) ?_; intro v' w4 ho4 hb4 hk4; obtain ⟨Bt', dt', rfl⟩ := ho4.slice; rw [(rows_snoc HROW3.out.1 HROW3.out.2 HY.out HEL.out).1] at ho4 ⊢; have HO4 := Lib.hid ho4; have HB4 := Lib.hid hb4; clear ho4 hb4 hk4)
         go_roundw
         case rel => exact ⟨HB3.out.trans HB4.out, i + 1, Bt', dt', _, rfl, by rfl, HJ.out, HO4.out, Lib.hid (rows_snoc HROW3.out.1 HROW3.out.2 HY.out HEL.out)⟩
         case measure => have := HJ.out; simp [intOf]; omega
        ·have s1 : decide ((i : Int) < (lx : Int)) = false := decide_eq_false (by omega)
         have s2 : decide (i < lx) = false := decide_eq_false hli
         obtain rfl : i = lx := by omega
         have k2 : wr.cell? ⟨N + 1 + 1, 3, none⟩ = some (.slice B3 b d3) := (HK2.out.below hb3 (by have := HMS.out; omega)).cell 3
         have HBX := Lib.hid (show Below (N + 3) wb wr from hb3.mono HMS.out)
         have HO5 := Lib.hid (show OwnL 70 1 wr (N + 3) (.slice B3 b d3) L3 from HO.out.below (by rw [HM.out]; exact hb3))
         have HSX := Lib.hid (show N + 3 ≤ wr.heap.size by have := hb3.size; have := HS.out; omega)
         clear hb3 hi hown3 hrow3 hli
         go_wp2_with (at_builtin; refine wpList_els rfl _ _ rfl Tryz.underlying24 gginfo9 (by rfl) (by decide) (N + 3) (.slice B3 b d3) L3 rfl wr [.slice Bt i dt] rfl (by simp [Value.oneCell']) rfl HO5.out HSX.out (by rw [HROW.out.1]; have := HSZ.out.ng; have := HNG.out; have := HI.out; omega) (by rw [HROW.out.1]; have := HSZ.out.ng; have := HNG.out; have := HI.out; omega) ?_; intro v' w4 ho4 hb4 hk4; obtain ⟨B3', d3', rfl⟩ := ho4.slice; rw [List.length_append, List.length_singleton, HROW.out.1] at ho4 ⊢; have fz : w4.frozen? ⟨N + 1 + 1, 3, none⟩ = false := (HK2.out.below (HBX.out.trans hb4) (by omega)).frozen 3; have kz : w4.cell? ⟨N + 1 + 1, 3, none⟩ = some (.slice B3 b d3) := (HK2.out.below (HBX.out.trans hb4) (by omega)).cell 3; have HO4 := Lib.hid ho4; have HB4 := Lib.hid hb4; have HK4 := Lib.hid hk4; clear ho4 hb4 hk4)
         go_roundw
         case rel =>
          have hbN : Below N w w4 := HB.out.trans ((HBX.out.trans HB4.out).mono (by omega))
          have htr : ∀ v L, OwnL 81 2 wb (N + 3) v L → OwnL 81 2 (w4.setCell ⟨N + 1 + 1, 3, none⟩ (.slice B3' (b + 1) d3')) (N + 3) v L := fun v L h => ((h.below (w' := wr) (by rw [HM.out]; exact HB3.out)).other (by decide) HK4.out).set (p := ⟨N + 1 + 1, 3, none⟩) (by show N + 1 + 1 < N + 3; omega) _
          have htr2 : ∀ v L, OwnL 78 5 wb (N + 3) v L → OwnL 78 5 (w4.setCell ⟨N + 1 + 1, 3, none⟩ (.slice B3' (b + 1) d3')) (N + 3) v L := fun v L h => ((h.below (w' := wr) (by rw [HM.out]; exact HB3.out)).other (by decide) HK4.out).set (p := ⟨N + 1 + 1, 3, none⟩) (by show N + 1 + 1 < N + 3; omega) _
          refine ⟨?_, ?_, ?_, ?_, ((HO1.out.below (w' := wr) (by rw [HM.out]; exact HB3.out)).other (by decide) HK4.out).set (p := ⟨N + 1 + 1, 3, none⟩) (by show N + 1 + 1 < N + 3; omega) _, ((HO2.out.below (w' := wr) (by rw [HM.out]; exact HB3.out)).other (by decide) HK4.out).set (p := ⟨N + 1 + 1, 3, none⟩) (by show N + 1 + 1 < N + 3; omega) _, Lib.hid (fun j x c h1 h2 => (HROW2.out j x c h1 h2).of htr2), b + 1, B3', d3', _, by rfl, HI.out, ?_, HO4.out.set (p := ⟨N + 1 + 1, 3, none⟩) (by show N + 1 + 1 < N + 3; omega) _, Lib.hid (rows_snoc HROW.out.1 (fun j x c h1 h2 => (HROW.out.2 j x c h1 h2).of htr) HX.out ⟨.slice Bt i dt, Lt, rfl, (((HO3.out.mono HMS.out).other (by decide) HK4.out).set (p := ⟨N + 1 + 1, 3, none⟩) (by show N + 1 + 1 < N + 3; omega) _), by rw [HROW3.out.1, HLX.out], HROW3.out.2⟩)⟩
          ·exact hbN.setCell (p := ⟨N + 1 + 1, 3, none⟩) (by show N ≤ N + 1 + 1; omega) _
          ·rw [World.size_setCell]
           exact Nat.le_trans HSX.out HB4.out.size
          ·exact (HK0.out.below (HBX.out.trans HB4.out) (by omega)).far (p := ⟨N + 1 + 1, 3, none⟩) (by show N ≠ N + 1 + 1; omega) _
          ·exact (HK1.out.below (HBX.out.trans HB4.out) (by omega)).far (p := ⟨N + 1 + 1, 3, none⟩) (by show N + 1 ≠ N + 1 + 1; omega) _
          ·exact (HK2.out.below (HBX.out.trans HB4.out) (by omega)).set_ 3 _
         case measure => have := HI.out; simp [intOf]; omega
      ·have p1 : decide ((b : Int) < (ng : Int)) = false := decide_eq_false (by omega)
       have p2 : decide (b < ng) = false := decide_eq_false hlt
       obtain rfl : ng = b := by omega
       have HROW3 := hrow
       clear hb hs hk0 hk1 hk2 hown hown1 hi hlt hrow hown2 hrow2
       have k0 : wb.cell? ⟨N + 1 + 1, 0, none⟩ = some (.int .i64 bt) := HK2.out.cell 0
       have k1 : wb.cell? ⟨N + 1 + 1, 1, none⟩ = some (.slice B1 np d1) := HK2.out.cell 1
       have k2 : wb.cell? ⟨N + 1 + 1, 2, none⟩ = some (.slice B2 nt d2) := HK2.out.cell 2
       have k3 : wb.cell? ⟨N + 1 + 1, 3, none⟩ = some (.slice B3 ng d3) := HK2.out.cell 3
       have x0 : wb.cell? ⟨N + 1, 0, none⟩ = some (.int .i64 0) := HK1.out.cell 0
       have x1 : wb.cell? ⟨N + 1, 1, none⟩ = some (.slice none 0 0) := HK1.out.cell 1
       have x2 : wb.cell? ⟨N + 1, 2, none⟩ = some (.slice none 0 0) := HK1.out.cell 2
       have x3 : wb.cell? ⟨N + 1, 3, none⟩ = some (.slice none 0 0) := HK1.out.cell 3
       have y0 := HK1.out.frozen 0
       have y1 := HK1.out.frozen 1
       have y2 := HK1.out.frozen 2
       have y3 := HK1.out.frozen 3
       go_wp2_with fail
       obtain ⟨W9, hW9⟩ : ∃ W9, ((((wb.setCell ⟨N + 1, 0, none⟩ (.int .i64 bt)).setCell ⟨N + 1, 1, none⟩ (.slice B1 np d1)).setCell ⟨N + 1, 2, none⟩ (.slice B2 nt d2)).setCell ⟨N + 1, 3, none⟩ (.slice B3 ng d3)) = W9 := ⟨_, rfl⟩
       rw [hW9]
       have h9 : Blk W9 (N + 1) 26 #[.int .i64 bt, .slice B1 np d1, .slice B2 nt d2, .slice B3 ng d3] := by rw [← hW9]; exact (((HK1.out.set_ 0 _).set_ 1 _).set_ 2 _).set_ 3 _
       have ho : ∀ {te : TypeId} {k : Nat} {v : Value} {L : List (List Value)}, OwnL te k wb (N + 3) v L → OwnL te k W9 (N + 3) v L := fun h => by rw [← hW9]; exact (((h.set (p := ⟨N + 1, 0, none⟩) (by show N + 1 < N + 3; omega) _).set (p := ⟨N + 1, 1, none⟩) (by show N + 1 < N + 3; omega) _).set (p := ⟨N + 1, 2, none⟩) (by show N + 1 < N + 3; omega) _).set (p := ⟨N + 1, 3, none⟩) (by show N + 1 < N + 3; omega) _
       have hb9 : Below N w W9 := by rw [← hW9]; exact (((HB.out.setCell (p := ⟨N + 1, 0, none⟩) (by show N ≤ N + 1; omega) _).setCell (p := ⟨N + 1, 1, none⟩) (by show N ≤ N + 1; omega) _).setCell (p := ⟨N + 1, 2, none⟩) (by show N ≤ N + 1; omega) _).setCell (p := ⟨N + 1, 3, none⟩) (by show N ≤ N + 1; omega) _
       refine bodyPost_ret (results_cell_row rfl _ _ (N + 1) 26 #[.int .i64 bt, .slice B1 np d1, .slice B2 nt d2, .slice B3 ng d3] (0, 0) _ rfl h9 Tryz.underlying26 rfl (by kernel_rfl)) rfl ?_
       obtain ⟨Q1, q1, e1, v1, l1, w1⟩ := (ho HO1.out).lview (R := PortR) (al := n.ports) (by rw [HNP.out, HROW1.out.1]) (fun i a c h1 h2 => HROW1.out.2 i a c h1 h2)
       obtain ⟨Q2, q2, e2, v2, l2, w2⟩ := (ho HO2.out).lview (R := HTab lo) (al := n.tables) (by rw [HNT.out, HROWT.out.1]) (fun i a c h1 h2 => ((HROW2.out i a c h1 h2).of (fun v L h => ho h)).held (by rw [HN.out]; exact hb9) (by have := HLO.out; omega))
       obtain ⟨Q3, q3, e3, v3, l3, w3⟩ := (ho HO.out).lview (R := HGrd lo) (al := n.guards) (by rw [HNG.out, HROW3.out.1]) (fun i a c h1 h2 => ((HROW3.out.2 i a c h1 h2).of (fun v L h => ho h)).held (by rw [HN.out]; exact hb9) (by have := HLO.out; omega))
       rw [HNP.out] at e1
       rw [HNT.out] at e2
       rw [HNG.out] at e3
       injection e1 with e1 _ e1'
       injection e2 with e2 _ e2'
       injection e3 with e3 _ e3'
       subst e1 e1' e2 e2' e3 e3'
       exact ⟨_, _, _, _, _, _, rfl, ⟨_, _, _, _, _, _, by rw [HNP.out, HNT.out, HNG.out, HBT.out], v1, v2, v3, l1, l2, l3, fun a ha => Nat.le_trans (by have := HLO.out; omega) (w1 a ha), fun a ha => Nat.le_trans (by have := HLO.out; omega) (w2 a ha), fun a ha => Nat.le_trans (by have := HLO.out; omega) (w3 a ha)⟩, hb9⟩
end Go.Proofs.YthnamoedpnknmaaGreatDoor
