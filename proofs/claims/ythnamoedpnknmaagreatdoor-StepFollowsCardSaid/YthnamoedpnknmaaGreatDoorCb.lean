/-
 THE WALK of reachref9's Roomy (chapter 9): a network in new lists with marked room, and the same once more.
-/
import Derived.Test.YthnamoedpnknmaaGreatDoorCa
import Derived.Test.YthnamoedpnknmaaGreatDoorBx
set_option linter.unusedVariables false
set_option linter.unusedSimpArgs false
set_option maxRecDepth 100000
set_option maxHeartbeats 8000000
namespace Go.Proofs.YthnamoedpnknmaaGreatDoor
open Go.RowKit
theorem KeepB.below {lo : Nat} {A B C : World} (h : KeepB lo A B) (k : Below A.heap.size B C) : KeepB lo A C := ⟨Nat.le_trans h.size k.size, fun b h1 h2 => (k.block b h2).trans (h.same b h1 h2)⟩
theorem KeepB.setc {lo : Nat} {A B : World} (h : KeepB lo A B) {p : Addr} (hp : p.block < lo ∨ A.heap.size ≤ p.block) (v : Value) : KeepB lo A (B.setCell p v) := ⟨by rw [World.size_setCell]; exact h.size, fun b h1 h2 => (Below.heap_setCell B p v b (by omega)).trans (h.same b h1 h2)⟩
theorem RowOf.imp {α : Type} {k : Nat} {R R' : World → α → List Value → Prop} {W : World} {t : TypeId} {g m : Nat} {al : List α} {f : Nat → Value} (h : RowOf k R W t g m al f) (hR : ∀ a cs, R W a cs → R' W a cs) : RowOf k R' W t g m al f :=
 ⟨h.1, fun i a ha => by
  obtain ⟨cs, h1, h2, h3⟩ := h.2 i a ha
  exact ⟨cs, h1, hR a cs h2, h3⟩⟩
theorem results_cell29 {P : Program} {fn : Func} {p q : Tmp} {ty : TypeId} (h : fn.results = #[.cell p ty, .cell q ty]) (tmps : Array Value) (w : World) (g g' : Nat) (t : TypeId) (cs cs' : Array Value) (d : TypeDesc)
  (hp : tmps.getD p undef = .pointer (some ⟨g, 0, none⟩)) (hq : tmps.getD q undef = .pointer (some ⟨g', 0, none⟩)) (hg : w.heap[g]? = some (.cells cs t (0, 0))) (hg' : w.heap[g']? = some (.cells cs' t (0, 0)))
  (hu : P.underlying ty = some d) (hd : (match d with | .struct _ | .array _ _ => true | _ => false) = true) (hi : (P.info? ty).map (·.size) = some cs.size) (hi' : (P.info? ty).map (·.size) = some cs'.size) :
  (results fn tmps).run P w = .ok (.tuple #[.agg cs, .agg cs']) w := by
 have hp' : tmps[p]?.getD undef = .pointer (some ⟨g, 0, none⟩) := by simpa using hp
 have hq' : tmps[q]?.getD undef = .pointer (some ⟨g', 0, none⟩) := by simpa using hq
 simp [results, h, hp', hq', asAddr, run_loadVar_row w g t ty cs (0, 0) d hg hu hd hi, run_loadVar_row w g' t ty cs' (0, 0) d hg' hu hd hi', Sem.run_bind, Result.andThen]
theorem size_drew9 (W : World) : W.drew.heap.size = W.heap.size := rfl
def RoomyEnd (n : Sp.Net) (w : World) (r : Ending) (w' : World) : Prop := ∃ lo g1 g2 g3 B1 d1 B2 d2 B3 d3, w.heap.size ≤ lo ∧
 r = .returned (.tuple #[.agg #[.int .i64 n.bits, .slice (some ⟨g1, 0, none⟩) n.ports.length (n.ports.length + 1), .slice (some ⟨g2, 0, none⟩) n.tables.length (n.tables.length + 1), .slice (some ⟨g3, 0, none⟩) n.guards.length (n.guards.length + 1)], .agg #[.int .i64 n.bits, .slice B1 n.ports.length d1, .slice B2 n.tables.length d2, .slice B3 n.guards.length d3]]) ∧
 RNetAt lo w' n g1 g2 g3 ∧ HNet lo w' n [.int .i64 n.bits, .slice B1 n.ports.length d1, .slice B2 n.tables.length d2, .slice B3 n.guards.length d3] ∧ Below w.heap.size w w'
theorem ref9_Roomy (n : Sp.Net) (A1 A2 A3 : Option Addr) (c1 c2 c3 : Nat) (w : World) (hsz : Sp.SzdT n) (hpv : PV w A1 n.ports) (htv : TTV w A2 n.tables) (hgv : GGV w A3 n.guards) :
  Calls Tryz.prog 9 #[.agg #[.int .i64 n.bits, .slice A1 n.ports.length c1, .slice A2 n.tables.length c2, .slice A3 n.guards.length c3]] w (RoomyEnd n w) := by
 obtain ⟨np, hnp⟩ : ∃ np, n.ports.length = np := ⟨_, rfl⟩
 obtain ⟨nt, hnt⟩ : ∃ nt, n.tables.length = nt := ⟨_, rfl⟩
 obtain ⟨ng, hng⟩ : ∃ ng, n.guards.length = ng := ⟨_, rfl⟩
 obtain ⟨bt, hbt⟩ : ∃ bt, n.bits = bt := ⟨_, rfl⟩
 obtain ⟨N, hN⟩ : ∃ N, w.heap.size = N := ⟨_, rfl⟩
 obtain ⟨W1, hW1⟩ : ∃ W1, (((w.alloc (.cells #[.int .i64 bt, .slice A1 np c1, .slice A2 nt c2, .slice A3 ng c3] 26)).alloc (.cells #[.int .i64 0, .slice none 0 0, .slice none 0 0, .slice none 0 0] 26)).alloc (.cells #[.int .i64 0, .slice none 0 0, .slice none 0 0, .slice none 0 0] 26)).alloc (.cells #[.int .i64 0, .slice none 0 0, .slice none 0 0, .slice none 0 0] 26) = W1 := ⟨_, rfl⟩
 have hb1 : Below N w W1 := by rw [← hW1, ← hN]; exact ((((Below.refl _ _).alloc (Nat.le_refl _) _).alloc (by simp) _).alloc (by simp; omega) _).alloc (by simp; omega) _
 have hs1 : W1.heap.size = N + 4 := by rw [← hW1, ← hN]; simp
 have hk0 : Blk W1 N 26 #[.int .i64 bt, .slice A1 np c1, .slice A2 nt c2, .slice A3 ng c3] := by rw [← hW1, ← hN]; exact (((Blk.new _ _ _).alloc _).alloc _).alloc _
 have hk1 : Blk W1 (N + 1) 26 #[.int .i64 0, .slice none 0 0, .slice none 0 0, .slice none 0 0] := by rw [← hW1, ← hN]; exact ((blk_at9 (by simp)).alloc _).alloc _
 have hk2 : Blk W1 (N + 1 + 1) 26 #[.int .i64 0, .slice none 0 0, .slice none 0 0, .slice none 0 0] := by rw [← hW1, ← hN]; exact (blk_at9 (by simp)).alloc _
 have hk3 : Blk W1 (N + 1 + 1 + 1) 26 #[.int .i64 0, .slice none 0 0, .slice none 0 0, .slice none 0 0] := by rw [← hW1, ← hN]; exact blk_at9 (by simp)
 obtain ⟨W2, hW2⟩ : ∃ W2, ((((W1.setCell ⟨N + 1 + 1 + 1, 0, none⟩ (.int .i64 bt)).setCell ⟨N + 1 + 1 + 1, 1, none⟩ (.slice none 0 0)).setCell ⟨N + 1 + 1 + 1, 2, none⟩ (.slice none 0 0)).setCell ⟨N + 1 + 1 + 1, 3, none⟩ (.slice none 0 0)) = W2 := ⟨_, rfl⟩
 have hb2 : Below N w W2 := by rw [← hW2]; exact (((hb1.setCell (p := ⟨N + 1 + 1 + 1, 0, none⟩) (by show N ≤ N + 1 + 1 + 1; omega) _).setCell (p := ⟨N + 1 + 1 + 1, 1, none⟩) (by show N ≤ N + 1 + 1 + 1; omega) _).setCell (p := ⟨N + 1 + 1 + 1, 2, none⟩) (by show N ≤ N + 1 + 1 + 1; omega) _).setCell (p := ⟨N + 1 + 1 + 1, 3, none⟩) (by show N ≤ N + 1 + 1 + 1; omega) _
 have hs2 : W2.heap.size = N + 4 := by rw [← hW2]; simp only [World.size_setCell]; exact hs1
 have fr : ∀ {b : Nat} {cs : Array Value}, Blk W1 b 26 cs → b ≠ N + 1 + 1 + 1 → Blk W2 b 26 cs := fun h hne => by rw [← hW2]; exact (((h.far (p := ⟨N + 1 + 1 + 1, 0, none⟩) hne _).far (p := ⟨N + 1 + 1 + 1, 1, none⟩) hne _).far (p := ⟨N + 1 + 1 + 1, 2, none⟩) hne _).far (p := ⟨N + 1 + 1 + 1, 3, none⟩) hne _
 have j0 := fr hk0 (by omega)
 have j1 := fr hk1 (by omega)
 have j2 := fr hk2 (by omega)
 have j3 : Blk W2 (N + 1 + 1 + 1) 26 #[.int .i64 bt, .slice none 0 0, .slice none 0 0, .slice none 0 0] := by rw [← hW2]; exact (((hk3.set_ 0 _).set_ 1 _).set_ 2 _).set_ 3 _
 have m0 : W1.cell? ⟨N, 0, none⟩ = some (.int .i64 bt) := hk0.cell 0
 have x0 : W1.cell? ⟨N + 1 + 1 + 1, 0, none⟩ = some (.int .i64 0) := hk3.cell 0
 have x1 : W1.cell? ⟨N + 1 + 1 + 1, 1, none⟩ = some (.slice none 0 0) := hk3.cell 1
 have x2 : W1.cell? ⟨N + 1 + 1 + 1, 2, none⟩ = some (.slice none 0 0) := hk3.cell 2
 have x3 : W1.cell? ⟨N + 1 + 1 + 1, 3, none⟩ = some (.slice none 0 0) := hk3.cell 3
 have y0 := hk3.frozen 0
 have y1 := hk3.frozen 1
 have y2 := hk3.frozen 2
 have y3 := hk3.frozen 3
 have m1 : W2.cell? ⟨N, 1, none⟩ = some (.slice A1 np c1) := j0.cell 1
 have zp : IntKind.i64.wrap ((np : Int) + 1) = (np : Int) + 1 := by have := hsz.np; rw [IntKind.wrap_i64]; omega
 have hmk := run_make_ports .i64 .i64 ((np : Int) + 1) (np + 1) (by omega) (by have := hsz.np; omega) W2
 have r1 := rowIs_madeZ W2 #[.string ⟨#[]⟩, .int .i64 0, .bool false, .int .i64 0] ((np + 1) * 4) 74
 obtain ⟨W3, hW3⟩ : ∃ W3, W2.alloc (.cells (madeCells #[.string ⟨#[]⟩, .int .i64 0, .bool false, .int .i64 0] ((np + 1) * 4)) 74) = W3 := ⟨_, rfl⟩
 rw [hW3, hs2] at hmk
 rw [hW3, hs2] at r1
 have hs3 : W3.heap.size = N + 5 := by rw [← hW3, World.size_alloc, hs2]
 have hb3 : Below N w W3 := by rw [← hW3]; exact hb2.alloc (by omega) _
 have al : ∀ {b : Nat} {cs : Array Value}, Blk W2 b 26 cs → Blk W3 b 26 cs := fun h => by rw [← hW3]; exact h.alloc _
 have u1 : W3.cell? ⟨N + 1 + 1 + 1, 1, none⟩ = some (.slice none 0 0) := (al j3).cell 1
 have v1 := (al j3).frozen 1
 have HN := Lib.hid hN
 have HNP := Lib.hid hnp
 have HNT := Lib.hid hnt
 have HNG := Lib.hid hng
 have HBT := Lib.hid hbt
 have HPV := Lib.hid hpv
 have HTV := Lib.hid htv
 have HGV := Lib.hid hgv
 have HSZ := Lib.hid hsz
 have HB := Lib.hid hb3
 have HS := Lib.hid hs3
 have HK0 := Lib.hid (al j0)
 have HK1 := Lib.hid (al j1)
 have HK2 := Lib.hid (al j2)
 have HK3 := Lib.hid (al j3)
 have HR1 := Lib.hid r1
 rw [hnp, hnt, hng, hbt]
 clear hnp hnt hng hbt hpv htv hgv hsz hb1 hb2 hb3 hs1 hs2 hs3 hk0 hk1 hk2 hk3 j0 j1 j2 j3 al fr r1
 go_enter Tryz.func9, Tryz.ntmps9
 go_wp2_with fail
 clear m0 x0 x1 x2 x3 y0 y1 y2 y3 m1 zp hmk u1 v1
 go_loopw [5] (fun v5 wr => Below N w wr ∧ wr.heap.size = N + 5 ∧ Blk wr N 26 #[.int .i64 bt, .slice A1 np c1, .slice A2 nt c2, .slice A3 ng c3] ∧ Blk wr (N + 1) 26 #[.int .i64 0, .slice none 0 0, .slice none 0 0, .slice none 0 0] ∧ Blk wr (N + 1 + 1) 26 #[.int .i64 0, .slice none 0 0, .slice none 0 0, .slice none 0 0] ∧ Blk wr (N + 1 + 1 + 1) 26 #[.int .i64 bt, .slice (some ⟨N + 1 + 1 + 1 + 1, 0, none⟩) (np + 1) (np + 1), .slice none 0 0, .slice none 0 0] ∧ ∃ (i : Nat) (f : Nat → Value), v5 = .int .i64 (i : Int) ∧ i ≤ np ∧ Hid (RowOf 4 PortR wr 74 (N + 4) ((np + 1) * 4) (n.ports.take i) f)) (fun v5 _ => np - (intOf v5).toNat)
 case atStart =>
  refine ⟨HB.out.setCell (p := ⟨N + 1 + 1 + 1, 1, none⟩) (by show N ≤ N + 1 + 1 + 1; omega) _, by rw [World.size_setCell]; exact HS.out, HK0.out.far (p := ⟨N + 1 + 1 + 1, 1, none⟩) (by show N ≠ N + 1 + 1 + 1; omega) _, HK1.out.far (p := ⟨N + 1 + 1 + 1, 1, none⟩) (by show N + 1 ≠ N + 1 + 1 + 1; omega) _, HK2.out.far (p := ⟨N + 1 + 1 + 1, 1, none⟩) (by show N + 1 + 1 ≠ N + 1 + 1 + 1; omega) _, HK3.out.set_ 1 _, 0, _, rfl, Nat.zero_le _, Lib.hid (RowOf.first n.ports (HR1.out.setOther (a := ⟨N + 1 + 1 + 1, 1, none⟩) (by show N + 4 ≠ N + 1 + 1 + 1; omega) _))⟩
 case round =>
  clear HB HS HK0 HK1 HK2 HK3 HR1
  obtain ⟨hb, hs, hk0, hk1, hk2, hk3, i, f, rfl, hi, hrow⟩ := hrel
  obtain ⟨wa, hwa⟩ : ∃ wa, wa = wr := ⟨_, rfl⟩
  subst hwa
  have HB := Lib.hid hb
  have HS := Lib.hid hs
  have HK0 := Lib.hid hk0
  have HK1 := Lib.hid hk1
  have HK2 := Lib.hid hk2
  have HK3 := Lib.hid hk3
  have i0 : (0 : Int) ≤ (i : Int) := by omega
  have n1 : wa.cell? ⟨N, 1, none⟩ = some (.slice A1 np c1) := hk0.cell 1
  have n2 : wa.cell? ⟨N + 1 + 1 + 1, 1, none⟩ = some (.slice (some ⟨N + 1 + 1 + 1 + 1, 0, none⟩) (np + 1) (np + 1)) := hk3.cell 1
  by_cases hlt : i < np
  ·have p1 : decide ((i : Int) < (np : Int)) = true := decide_eq_true (by omega)
   have p2 : decide (i < np) = true := decide_eq_true hlt
   have p3 : (i : Int) < (np : Int) := by omega
   have p4 : (i : Int) < (np : Int) + 1 := by omega
   have p5 : i < np + 1 := by omega
   have z1 : IntKind.i64.wrap ((i : Int) + 1) = (i : Int) + 1 := by have := HSZ.out.np; have := HNP.out; rw [IntKind.wrap_i64]; omega
   obtain ⟨x, hx⟩ : ∃ x, n.ports[i]? = some x := ⟨_, List.getElem?_eq_getElem (by rw [HNP.out]; exact hlt)⟩
   obtain ⟨g, o, rfl, hg, a0, a1, a2, a3⟩ := HPV.out.at hx
   obtain ⟨xn, hxn⟩ : ∃ y, x.name = y := ⟨_, rfl⟩
   obtain ⟨xb, hxb⟩ : ∃ y, x.box = y := ⟨_, rfl⟩
   obtain ⟨xi, hxi⟩ : ∃ y, x.inn = y := ⟨_, rfl⟩
   obtain ⟨xd, hxd⟩ : ∃ y, x.dst = y := ⟨_, rfl⟩
   rw [hxn] at a0
   rw [hxb] at a1
   rw [hxi] at a2
   rw [hxd] at a3
   have hpr : PortR wa x [.string xn, .int .i64 xb, .bool xi, .int .i64 xd] := by unfold PortR; rw [hxn, hxb, hxi, hxd]
   rw [HN.out] at hg
   have hS0 : (fun w' : World => w'.cell? ⟨N + 1 + 1 + 1, 1, none⟩ = some (.slice (some ⟨N + 1 + 1 + 1 + 1, 0, none⟩) (np + 1) (np + 1)) ∧ w'.cell? ⟨N, 1, none⟩ = some (.slice (some ⟨g, o, none⟩) np c1) ∧ w'.cell? ⟨g, o + i * 4, none⟩ = some (.string xn) ∧ w'.cell? ⟨g, o + i * 4 + 1, none⟩ = some (.int .i64 xb) ∧ w'.cell? ⟨g, o + i * 4 + 2, none⟩ = some (.bool xi) ∧ w'.cell? ⟨g, o + i * 4 + 3, none⟩ = some (.int .i64 xd)) wa.drew := ⟨n2, n1, (hb.cell (p := ⟨g, o + i * 4, none⟩) hg).trans a0, (hb.cell (p := ⟨g, o + i * 4 + 1, none⟩) hg).trans a1, (hb.cell (p := ⟨g, o + i * 4 + 2, none⟩) hg).trans a2, (hb.cell (p := ⟨g, o + i * 4 + 3, none⟩) hg).trans a3⟩
   have HX := Lib.hid hx
   have HPR := Lib.hid hpr
   have HROW := hrow
   have HI := Lib.hid (show i + 1 ≤ np by omega)
   clear hb hs hk0 hk1 hk2 hk3 hi hlt hx hg hxn hxb hxi hxd hpr a0 a1 a2 a3 hrow
   go_wp2_with fail
   clear n1 n2
   refine wp_region_K 9 (fun w' : World => w'.cell? ⟨N + 1 + 1 + 1, 1, none⟩ = some (.slice (some ⟨N + 1 + 1 + 1 + 1, 0, none⟩) (np + 1) (np + 1)) ∧ w'.cell? ⟨N, 1, none⟩ = some (.slice (some ⟨g, o, none⟩) np c1) ∧ w'.cell? ⟨g, o + i * 4, none⟩ = some (.string xn) ∧ w'.cell? ⟨g, o + i * 4 + 1, none⟩ = some (.int .i64 xb) ∧ w'.cell? ⟨g, o + i * 4 + 2, none⟩ = some (.bool xi) ∧ w'.cell? ⟨g, o + i * 4 + 3, none⟩ = some (.int .i64 xd)) (by kernel_rfl) (fun hcl => ?_)
   have hS := hS0
   clear hS0
   refine tk 0 _ hcl hS (fun hcl2 => ?_)
   (try simp only [ly]); (try simp only [Act.put, pu]); clear hcl; have hcl := hcl2; clear hcl2
   refine tk 1 _ hcl hS (fun hcl2 => ?_)
   (try simp only [ly]); (try simp only [Act.put, pu]); clear hcl; have hcl := hcl2; clear hcl2
   refine tk 2 _ hcl hS (fun hcl2 => ?_)
   (try simp only [ly]); (try simp only [Act.put, pu]); clear hcl; have hcl := hcl2; clear hcl2
   refine tk 3 _ hcl hS (fun hcl2 => ?_)
   (try simp only [ly]); (try simp only [Act.put, pu]); clear hcl; have hcl := hcl2; clear hcl2
   refine tk 4 _ hcl hS (fun hcl2 => ?_)
   (try simp only [ly]); (try simp only [Act.put, pu]); clear hcl; have hcl := hcl2; clear hcl2
   refine tk 5 _ hcl hS (fun hcl2 => ?_)
   (try simp only [ly]); (try simp only [Act.put, pu]); clear hcl; have hcl := hcl2; clear hcl2
   refine tk 6 _ hcl hS (fun hcl2 => ?_)
   (try simp only [ly]); (try simp only [Act.put, pu]); clear hcl; have hcl := hcl2; clear hcl2
   refine tk 7 _ hcl hS (fun hcl2 => ?_)
   (try simp only [ly]); (try simp only [Act.put, pu]); clear hcl; have hcl := hcl2; clear hcl2
   refine tk 8 _ hcl hS (fun hcl2 => ?_)
   (try simp only [ly]); (try simp only [Act.put, pu]); clear hcl; have hcl := hcl2; clear hcl2
   have e0 : wa.cell? ⟨N + 1 + 1 + 1 + 1, i * 4, none⟩ = some (f (i * 4)) := HROW.out.1.cell (show i * 4 < (np + 1) * 4 by omega)
   have e1 : wa.cell? ⟨N + 1 + 1 + 1 + 1, i * 4 + 1, none⟩ = some (f (i * 4 + 1)) := HROW.out.1.cell (show i * 4 + 1 < (np + 1) * 4 by omega)
   have e2 : wa.cell? ⟨N + 1 + 1 + 1 + 1, i * 4 + 2, none⟩ = some (f (i * 4 + 2)) := HROW.out.1.cell (show i * 4 + 2 < (np + 1) * 4 by omega)
   have e3 : wa.cell? ⟨N + 1 + 1 + 1 + 1, i * 4 + 3, none⟩ = some (f (i * 4 + 3)) := HROW.out.1.cell (show i * 4 + 3 < (np + 1) * 4 by omega)
   have g0 : wa.frozen? ⟨N + 1 + 1 + 1 + 1, i * 4, none⟩ = false := HROW.out.1.frozen (i * 4)
   have g1 : wa.frozen? ⟨N + 1 + 1 + 1 + 1, i * 4 + 1, none⟩ = false := HROW.out.1.frozen (i * 4 + 1)
   have g2 : wa.frozen? ⟨N + 1 + 1 + 1 + 1, i * 4 + 2, none⟩ = false := HROW.out.1.frozen (i * 4 + 2)
   have g3 : wa.frozen? ⟨N + 1 + 1 + 1 + 1, i * 4 + 3, none⟩ = false := HROW.out.1.frozen (i * 4 + 3)
   clear hS
   refine wpAnyK_one (i := 9) hcl (by kernel_rfl) rfl (by rfl) (fun K hK => ?_)
   go_simp
   refine hK.out _ _ (Or.inl (by kernel_rfl)) (fun hcl2 => ?_)
   clear hK K hcl hcl2 e0 e1 e2 e3 g0 g1 g2 g3
   refine wpAnyK_done (by kernel_rfl) ?_ _
   (try simp only [Act.put, pu])
   go_wp2_with fail
   go_roundw
   case rel =>
    refine ⟨?_, ?_, ?_, ?_, ?_, ?_, i + 1, _, by rfl, HI.out, Lib.hid (RowOf.snoc HROW.out (rowIs_set4 (W := wa.drew) HROW.out.1 (i * 4) (.string xn) (.int .i64 xb) (.bool xi) (.int .i64 xd)) (fun j hj => upd_out (Or.inl hj)) (fun a cs h => h) HX.out (cs := [.string xn, .int .i64 xb, .bool xi, .int .i64 xd]) rfl HPR.out (fun j u hj => upd_in hj))⟩
    ·exact (((HB.out.drew.setCell (p := ⟨N + 1 + 1 + 1 + 1, i * 4, none⟩) (by show N ≤ N + 1 + 1 + 1 + 1; omega) _).setCell (p := ⟨N + 1 + 1 + 1 + 1, i * 4 + 1, none⟩) (by show N ≤ N + 1 + 1 + 1 + 1; omega) _).setCell (p := ⟨N + 1 + 1 + 1 + 1, i * 4 + 2, none⟩) (by show N ≤ N + 1 + 1 + 1 + 1; omega) _).setCell (p := ⟨N + 1 + 1 + 1 + 1, i * 4 + 3, none⟩) (by show N ≤ N + 1 + 1 + 1 + 1; omega) _
    ·rw [size_drew9]
     simp only [World.size_setCell]
     exact HS.out
    all_goals (refine Blk.far (p := ⟨N + 1 + 1 + 1 + 1, i * 4 + 3, none⟩) (Blk.far (p := ⟨N + 1 + 1 + 1 + 1, i * 4 + 2, none⟩) (Blk.far (p := ⟨N + 1 + 1 + 1 + 1, i * 4 + 1, none⟩) (Blk.far (p := ⟨N + 1 + 1 + 1 + 1, i * 4, none⟩) (w := wa.drew) ?_ (by show _ ≠ N + 1 + 1 + 1 + 1; omega) _) (by show _ ≠ N + 1 + 1 + 1 + 1; omega) _) (by show _ ≠ N + 1 + 1 + 1 + 1; omega) _) (by show _ ≠ N + 1 + 1 + 1 + 1; omega) _)
    ·exact HK0.out
    ·exact HK1.out
    ·exact HK2.out
    ·exact HK3.out
   case measure => have := HI.out; simp [intOf]; omega

  ·have p1 : decide ((i : Int) < (np : Int)) = false := decide_eq_false (by omega)
   have p2 : decide (i < np) = false := decide_eq_false hlt
   obtain rfl : np = i := by omega
   rw [← HNP.out, List.take_length] at hrow
   rw [HNP.out] at hrow
   have p4 : (np : Int) < (np : Int) + 1 := by omega
   have p5 : np < np + 1 := by omega
   have e0 : wa.cell? ⟨N + 1 + 1 + 1 + 1, np * 4, none⟩ = some (f (np * 4)) := hrow.out.1.cell (show np * 4 < (np + 1) * 4 by omega)
   have e1 : wa.cell? ⟨N + 1 + 1 + 1 + 1, np * 4 + 1, none⟩ = some (f (np * 4 + 1)) := hrow.out.1.cell (show np * 4 + 1 < (np + 1) * 4 by omega)
   have e2 : wa.cell? ⟨N + 1 + 1 + 1 + 1, np * 4 + 2, none⟩ = some (f (np * 4 + 2)) := hrow.out.1.cell (show np * 4 + 2 < (np + 1) * 4 by omega)
   have e3 : wa.cell? ⟨N + 1 + 1 + 1 + 1, np * 4 + 3, none⟩ = some (f (np * 4 + 3)) := hrow.out.1.cell (show np * 4 + 3 < (np + 1) * 4 by omega)
   have g0 : wa.frozen? ⟨N + 1 + 1 + 1 + 1, np * 4, none⟩ = false := hrow.out.1.frozen (np * 4)
   have g1 : wa.frozen? ⟨N + 1 + 1 + 1 + 1, np * 4 + 1, none⟩ = false := hrow.out.1.frozen (np * 4 + 1)
   have g2 : wa.frozen? ⟨N + 1 + 1 + 1 + 1, np * 4 + 2, none⟩ = false := hrow.out.1.frozen (np * 4 + 2)
   have g3 : wa.frozen? ⟨N + 1 + 1 + 1 + 1, np * 4 + 3, none⟩ = false := hrow.out.1.frozen (np * 4 + 3)
   obtain ⟨W4, hW4⟩ : ∃ W4, ((((wa.setCell ⟨N + 1 + 1 + 1 + 1, np * 4, none⟩ (.string ⟨#[98, 101, 104, 105, 110, 100, 32, 116, 104, 101, 32, 101, 110, 100]⟩)).setCell ⟨N + 1 + 1 + 1 + 1, np * 4 + 1, none⟩ (.int .i64 0)).setCell ⟨N + 1 + 1 + 1 + 1, np * 4 + 2, none⟩ (.bool false)).setCell ⟨N + 1 + 1 + 1 + 1, np * 4 + 3, none⟩ (.int .i64 0)) = W4 := ⟨_, rfl⟩
   have hr4 := rowIs_set4 hrow.out.1 (np * 4) (.string ⟨#[98, 101, 104, 105, 110, 100, 32, 116, 104, 101, 32, 101, 110, 100]⟩) (.int .i64 0) (.bool false) (.int .i64 0)
   have fr4 : ∀ {b : Nat} {cs : Array Value}, Blk wa b 26 cs → b < N + 1 + 1 + 1 + 1 → Blk W4 b 26 cs := fun h hne => by rw [← hW4]; exact (((h.far (p := ⟨N + 1 + 1 + 1 + 1, np * 4, none⟩) (Nat.ne_of_lt hne) _).far (p := ⟨N + 1 + 1 + 1 + 1, np * 4 + 1, none⟩) (Nat.ne_of_lt hne) _).far (p := ⟨N + 1 + 1 + 1 + 1, np * 4 + 2, none⟩) (Nat.ne_of_lt hne) _).far (p := ⟨N + 1 + 1 + 1 + 1, np * 4 + 3, none⟩) (Nat.ne_of_lt hne) _
   have hb4 : Below N w W4 := by rw [← hW4]; exact (((hb.setCell (p := ⟨N + 1 + 1 + 1 + 1, np * 4, none⟩) (by show N ≤ N + 1 + 1 + 1 + 1; omega) _).setCell (p := ⟨N + 1 + 1 + 1 + 1, np * 4 + 1, none⟩) (by show N ≤ N + 1 + 1 + 1 + 1; omega) _).setCell (p := ⟨N + 1 + 1 + 1 + 1, np * 4 + 2, none⟩) (by show N ≤ N + 1 + 1 + 1 + 1; omega) _).setCell (p := ⟨N + 1 + 1 + 1 + 1, np * 4 + 3, none⟩) (by show N ≤ N + 1 + 1 + 1 + 1; omega) _
   have hs4 : W4.heap.size = N + 5 := by rw [← hW4]; simp only [World.size_setCell]; exact hs
   rw [hW4] at hr4
   have hrow4 : RowOf 4 PortR W4 74 (N + 1 + 1 + 1 + 1) ((np + 1) * 4) n.ports (upd f (np * 4) [.string ⟨#[98, 101, 104, 105, 110, 100, 32, 116, 104, 101, 32, 101, 110, 100]⟩, .int .i64 0, .bool false, .int .i64 0]) := ⟨hr4, fun j a ha => by
    obtain ⟨cs, h1, h2, h3⟩ := hrow.out.2 j a ha
    have hj : j < np := by have := (List.getElem?_eq_some_iff.1 ha).1; rw [HNP.out] at this; exact this
    refine ⟨cs, h1, h2, fun jj u hu => ?_⟩
    have hjj : jj < 4 := by have := (List.getElem?_eq_some_iff.1 hu).1; omega
    rw [upd_out (Or.inl (by omega))]
    exact h3 jj u hu⟩
   have hmk4 : upd f (np * 4) [.string ⟨#[98, 101, 104, 105, 110, 100, 32, 116, 104, 101, 32, 101, 110, 100]⟩, .int .i64 0, .bool false, .int .i64 0] (np * 4) = .string MARK := upd_in (j := 0) rfl
   have q0 := fr4 hk0 (by omega)
   have q1 := fr4 hk1 (by omega)
   have q2 := fr4 hk2 (by omega)
   have q3 := fr4 hk3 (by omega)
   have m1 : W4.cell? ⟨N, 1, none⟩ = some (.slice A1 np c1) := q0.cell 1
   have x1 : W4.cell? ⟨N + 1 + 1 + 1, 1, none⟩ = some (.slice (some ⟨N + 1 + 1 + 1 + 1, 0, none⟩) (np + 1) (np + 1)) := q3.cell 1
   have y1 : W4.frozen? ⟨N + 1 + 1 + 1, 1, none⟩ = false := q3.frozen 1
   obtain ⟨W5, hW5⟩ : ∃ W5, W4.setCell ⟨N + 1 + 1 + 1, 1, none⟩ (.slice (some ⟨N + 1 + 1 + 1 + 1, 0, none⟩) np (np + 1)) = W5 := ⟨_, rfl⟩
   have t0 : Blk W5 N 26 #[.int .i64 bt, .slice A1 np c1, .slice A2 nt c2, .slice A3 ng c3] := by rw [← hW5]; exact q0.far (p := ⟨N + 1 + 1 + 1, 1, none⟩) (by show N ≠ N + 1 + 1 + 1; omega) _
   have t1 : Blk W5 (N + 1) 26 #[.int .i64 0, .slice none 0 0, .slice none 0 0, .slice none 0 0] := by rw [← hW5]; exact q1.far (p := ⟨N + 1 + 1 + 1, 1, none⟩) (by show N + 1 ≠ N + 1 + 1 + 1; omega) _
   have t2 : Blk W5 (N + 1 + 1) 26 #[.int .i64 0, .slice none 0 0, .slice none 0 0, .slice none 0 0] := by rw [← hW5]; exact q2.far (p := ⟨N + 1 + 1 + 1, 1, none⟩) (by show N + 1 + 1 ≠ N + 1 + 1 + 1; omega) _
   have t3 : Blk W5 (N + 1 + 1 + 1) 26 #[.int .i64 bt, .slice (some ⟨N + 1 + 1 + 1 + 1, 0, none⟩) np (np + 1), .slice none 0 0, .slice none 0 0] := by rw [← hW5]; exact q3.set_ 1 _
   have hk5 : KeepB (N + 4) W4 W5 := by rw [← hW5]; exact KeepB.set W4 (a := ⟨N + 1 + 1 + 1, 1, none⟩) (by show N + 1 + 1 + 1 < N + 4; omega) _
   have hb5 : Below N w W5 := by rw [← hW5]; exact hb4.setCell (p := ⟨N + 1 + 1 + 1, 1, none⟩) (by show N ≤ N + 1 + 1 + 1; omega) _
   have hs5 : W5.heap.size = N + 5 := by rw [← hW5, World.size_setCell]; exact hs4
   have m2 : W5.cell? ⟨N, 2, none⟩ = some (.slice A2 nt c2) := t0.cell 2
   have zt : IntKind.i64.wrap ((nt : Int) + 1) = (nt : Int) + 1 := by have := HSZ.out.nt; have := HNT.out; rw [IntKind.wrap_i64]; omega
   have hmk := run_make_tables .i64 .i64 ((nt : Int) + 1) (nt + 1) (by omega) (by have := HSZ.out.nt; have := HNT.out; omega) W5
   have r1 := rowIs_madeZ W5 #[.slice none 0 0] (nt + 1) 68
   obtain ⟨W6, hW6⟩ : ∃ W6, W5.alloc (.cells (madeCells #[.slice none 0 0] (nt + 1)) 68) = W6 := ⟨_, rfl⟩
   rw [hW6, hs5] at hmk r1
   have hs6 : W6.heap.size = N + 6 := by rw [← hW6, World.size_alloc, hs5]
   have hb6 : Below N w W6 := by rw [← hW6]; exact hb5.alloc (by omega) _
   have al : ∀ {b : Nat} {cs : Array Value}, Blk W5 b 26 cs → Blk W6 b 26 cs := fun h => by rw [← hW6]; exact h.alloc _
   have u1 : W6.cell? ⟨N + 1 + 1 + 1, 2, none⟩ = some (.slice none 0 0) := (al t3).cell 2
   have v1 : W6.frozen? ⟨N + 1 + 1 + 1, 2, none⟩ = false := (al t3).frozen 2
   have hk6 : KeepB (N + 4) W4 W6 := by rw [← hW6]; exact hk5.trans (KeepB.of_below ((Below.refl _ _).alloc (Nat.le_refl _) _))
   have HK6 := Lib.hid hk6
   have HS4 := Lib.hid hs4
   have HB6 := Lib.hid hb6
   have HS6 := Lib.hid hs6
   have HP0 := Lib.hid (al t0)
   have HP1 := Lib.hid (al t1)
   have HP2 := Lib.hid (al t2)
   have HP3 := Lib.hid (al t3)
   have HR1 := Lib.hid r1
   have HPORTS := Lib.hid (show RowOf 4 PortR W4 74 (N + 1 + 1 + 1 + 1) ((np + 1) * 4) n.ports (upd f (np * 4) [.string ⟨#[98, 101, 104, 105, 110, 100, 32, 116, 104, 101, 32, 101, 110, 100]⟩, .int .i64 0, .bool false, .int .i64 0]) ∧ upd f (np * 4) [.string ⟨#[98, 101, 104, 105, 110, 100, 32, 116, 104, 101, 32, 101, 110, 100]⟩, .int .i64 0, .bool false, .int .i64 0] (np * 4) = .string MARK from ⟨hrow4, hmk4⟩)
   clear HB HS HK0 HK1 HK2 HK3 hb hs hk0 hk1 hk2 hk3 hi hlt hrow hr4 fr4 hb4 hs4 hrow4 hmk4 q0 q1 q2 q3 t0 t1 t2 t3 hk5 hb5 hs5 r1 hs6 hb6 al hk6
   go_wp2_with fail
   clear p1 p2 p4 p5 e0 e1 e2 e3 g0 g1 g2 g3 m1 x1 y1 m2 zt hmk u1 v1 n1 n2 i0 hW4 hW5 hW6
   go_loopw [6] (fun v6 wr => Below N w wr ∧ N + 6 ≤ wr.heap.size ∧ Blk wr N 26 #[.int .i64 bt, .slice A1 np c1, .slice A2 nt c2, .slice A3 ng c3] ∧ Blk wr (N + 1) 26 #[.int .i64 0, .slice none 0 0, .slice none 0 0, .slice none 0 0] ∧ Blk wr (N + 1 + 1) 26 #[.int .i64 0, .slice none 0 0, .slice none 0 0, .slice none 0 0] ∧ Blk wr (N + 1 + 1 + 1) 26 #[.int .i64 bt, .slice (some ⟨N + 1 + 1 + 1 + 1, 0, none⟩) np (np + 1), .slice (some ⟨N + 1 + 1 + 1 + 1 + 1, 0, none⟩) (nt + 1) (nt + 1), .slice none 0 0] ∧ Hid (KeepB (N + 4) W4 wr) ∧ ∃ (b : Nat) (f : Nat → Value), v6 = .int .i64 (b : Int) ∧ b ≤ nt ∧ Hid (RowOf 1 (RTab (N + 6)) wr 68 (N + 1 + 1 + 1 + 1 + 1) (nt + 1) (n.tables.take b) f)) (fun v6 _ => nt - (intOf v6).toNat)
   case atStart =>
    refine ⟨HB6.out.setCell (p := ⟨N + 1 + 1 + 1, 2, none⟩) (by show N ≤ N + 1 + 1 + 1; omega) _, by rw [World.size_setCell, HS6.out]; exact Nat.le_refl _, HP0.out.far (p := ⟨N + 1 + 1 + 1, 2, none⟩) (by show N ≠ N + 1 + 1 + 1; omega) _, HP1.out.far (p := ⟨N + 1 + 1 + 1, 2, none⟩) (by show N + 1 ≠ N + 1 + 1 + 1; omega) _, HP2.out.far (p := ⟨N + 1 + 1 + 1, 2, none⟩) (by show N + 1 + 1 ≠ N + 1 + 1 + 1; omega) _, HP3.out.set_ 2 _, Lib.hid (HK6.out.setc (p := ⟨N + 1 + 1 + 1, 2, none⟩) (Or.inl (by show N + 1 + 1 + 1 < N + 4; omega)) _), 0, _, rfl, Nat.zero_le _, Lib.hid (RowOf.first n.tables (HR1.out.setOther (a := ⟨N + 1 + 1 + 1, 2, none⟩) (by show N + 1 + 1 + 1 + 1 + 1 ≠ N + 1 + 1 + 1; omega) _))⟩
   case round =>
    clear HB6 HS6 HP0 HP1 HP2 HP3 HR1 HK6
    obtain ⟨hb, hs, hk0, hk1, hk2, hk3, hkp, b, f2, rfl, hi, hrow⟩ := hrel
    obtain ⟨wb, hwb⟩ : ∃ wb, wb = wr := ⟨_, rfl⟩
    subst hwb
    have HB := Lib.hid hb
    have HS := Lib.hid hs
    have HK0 := Lib.hid hk0
    have HK1 := Lib.hid hk1
    have HK2 := Lib.hid hk2
    have HK3 := Lib.hid hk3
    have HKP := hkp
    have i0 : (0 : Int) ≤ (b : Int) := by omega
    have n1 : wb.cell? ⟨N, 2, none⟩ = some (.slice A2 nt c2) := hk0.cell 2
    have n2 : wb.cell? ⟨N + 1 + 1 + 1, 2, none⟩ = some (.slice (some ⟨N + 1 + 1 + 1 + 1 + 1, 0, none⟩) (nt + 1) (nt + 1)) := hk3.cell 2
    by_cases hlt : b < nt
    ·have p1 : decide ((b : Int) < (nt : Int)) = true := decide_eq_true (by omega)
     have p2 : decide (b < nt) = true := decide_eq_true hlt
     have p3 : (b : Int) < (nt : Int) := by omega
     have p4 : (b : Int) < (nt : Int) + 1 := by omega
     have p5 : b < nt + 1 := by omega
     have z1 : IntKind.i64.wrap ((b : Int) + 1) = (b : Int) + 1 := by have := HSZ.out.nt; have := HNT.out; rw [IntKind.wrap_i64]; omega
     obtain ⟨x, hx⟩ : ∃ x, n.tables[b]? = some x := ⟨_, List.getElem?_eq_getElem (by rw [HNT.out]; exact hlt)⟩
     obtain ⟨g, o, Ax, cx, rfl, hg, a0, hxv, _⟩ := HTV.out.at hx
     have hcall := fun W (hW : Below N w W) => ref9_roomTable Ax cx x W (hxv.more (by rw [HN.out]; exact hW)) (by have := (HSZ.out.tables x (List.mem_of_getElem? hx)).1; omega) (fun e he => by have := (HSZ.out.tables x (List.mem_of_getElem? hx)).2 e he; exact ⟨this.2.2.1, this.2.2.2.1, this.2.2.2.2.1⟩)
     obtain ⟨lx, hlx⟩ : ∃ lx, x.length = lx := ⟨_, rfl⟩
     rw [hlx] at a0 hcall
     rw [HN.out] at hg
     have hsw : ∀ W, Below wb.heap.size wb W → (fun w' : World => w'.cell? ⟨N + 1 + 1 + 1, 2, none⟩ = some (.slice (some ⟨N + 1 + 1 + 1 + 1 + 1, 0, none⟩) (nt + 1) (nt + 1)) ∧ w'.cell? ⟨N, 2, none⟩ = some (.slice (some ⟨g, o, none⟩) nt c2) ∧ w'.cell? ⟨g, o + b, none⟩ = some (.slice Ax lx cx)) W := fun W hW => ⟨(hW.cell (p := ⟨N + 1 + 1 + 1, 2, none⟩) hk3.lt).trans n2, (hW.cell (p := ⟨N, 2, none⟩) hk0.lt).trans n1, ((hb.trans (hW.mono (Nat.le_of_lt hk0.lt))).cell (p := ⟨g, o + b, none⟩) hg).trans a0⟩
     have HSW := Lib.hid hsw
     have HCALL := Lib.hid hcall
     have HX := Lib.hid hx
     have HLX := Lib.hid hlx
     have HROW := hrow
     have HI := Lib.hid (show b + 1 ≤ nt by omega)
     have hS0 := hsw _ ((Below.refl _ _).drew)
     clear hb hs hk0 hk1 hk2 hk3 hkp hi hlt hx hg hxv hlx a0 hcall hsw hrow
     go_wp2_with fail
     clear n1 n2
     refine wp_region_K 10 (fun w' : World => w'.cell? ⟨N + 1 + 1 + 1, 2, none⟩ = some (.slice (some ⟨N + 1 + 1 + 1 + 1 + 1, 0, none⟩) (nt + 1) (nt + 1)) ∧ w'.cell? ⟨N, 2, none⟩ = some (.slice (some ⟨g, o, none⟩) nt c2) ∧ w'.cell? ⟨g, o + b, none⟩ = some (.slice Ax lx cx)) (by kernel_rfl) (fun hcl => ?_)
     have hS := hS0
     clear hS0
     refine tk 0 _ hcl hS (fun hcl2 => ?_)
     (try simp only [ly]); (try simp only [Act.put, pu]); clear hcl; have hcl := hcl2; clear hcl2
     refine tk 1 _ hcl hS (fun hcl2 => ?_)
     (try simp only [ly]); (try simp only [Act.put, pu]); clear hcl; have hcl := hcl2; clear hcl2
     refine tk 2 _ hcl hS (fun hcl2 => ?_)
     (try simp only [ly]); (try simp only [Act.put, pu]); clear hcl; have hcl := hcl2; clear hcl2
     refine tk 3 _ hcl hS (fun hcl2 => ?_)
     (try simp only [ly]); (try simp only [Act.put, pu]); clear hcl; have hcl := hcl2; clear hcl2
     refine tk 4 _ hcl hS (fun hcl2 => ?_)
     (try simp only [ly]); (try simp only [Act.put, pu]); clear hcl; have hcl := hcl2; clear hcl2
     refine tk 5 _ hcl hS (fun hcl2 => ?_)
     (try simp only [ly]); (try simp only [Act.put, pu]); clear hcl; have hcl := hcl2; clear hcl2
     refine tk 6 _ hcl hS (fun hcl2 => ?_)
     (try simp only [ly]); (try simp only [Act.put, pu]); clear hcl; have hcl := hcl2; clear hcl2
     refine tk 7 _ hcl hS (fun hcl2 => ?_)
     (try simp only [ly]); (try simp only [Act.put, pu]); clear hcl; have hcl := hcl2; clear hcl2
     refine wpAnyK_one (i := 8) hcl (by kernel_rfl) rfl (by rfl) (fun K hK => ?_)
     go_simp
     refine (HCALL.out _ HB.out.drew).mono ?_
     rintro r w5 ⟨rfl, hb5, htab⟩
     have Hw5 := Lib.hid (show Below wb.heap.size wb w5 from (Below.refl wb.heap.size wb).drew.trans hb5)
     clear hS hb5
     have hS := HSW.out _ Hw5.out
     refine hK.out _ _ (Or.inr hS) (fun hcl2 => ?_)
     clear hK K hcl
     have hcl := hcl2
     clear hcl2
     have HTAB := Lib.hid (show RTab (N + 6) w5 x [.slice (some ⟨wb.heap.size, 0, none⟩) lx (lx + 2)] from RTab.mono htab (by show N + 6 ≤ wb.heap.size; exact HS.out))
     have HR5 := Lib.hid (HROW.out.keep (lo := N) (KeepB.of_below Hw5.out) (by omega) (fun a cs h => RTab.keep h (KeepB.of_below Hw5.out)))
     clear htab
     refine tk 9 _ hcl hS (fun hcl2 => ?_)
     (try simp only [ly]); (try simp only [Act.put, pu]); clear hcl; have hcl := hcl2; clear hcl2
     have c0 : w5.cell? ⟨N + 1 + 1 + 1 + 1 + 1, b, none⟩ = some (f2 b) := HR5.out.1.cell (show b < nt + 1 by have := HI.out; omega)
     have g0 : w5.frozen? ⟨N + 1 + 1 + 1 + 1 + 1, b, none⟩ = false := HR5.out.1.frozen b
     clear hS
     refine wpAnyK_one (i := 10) hcl (by kernel_rfl) rfl (by rfl) (fun K hK => ?_)
     go_simp
     refine hK.out _ _ (Or.inl (by kernel_rfl)) (fun hcl2 => ?_)
     clear hK K hcl hcl2 c0 g0
     refine wpAnyK_done (by kernel_rfl) ?_ _
     (try simp only [Act.put, pu])
     have hkeep : KeepB (N + 6) w5 (w5.setCell ⟨N + 1 + 1 + 1 + 1 + 1, b, none⟩ (.slice (some ⟨wb.heap.size, 0, none⟩) lx (lx + 2))) := KeepB.set w5 (a := ⟨N + 1 + 1 + 1 + 1 + 1, b, none⟩) (by show N + 1 + 1 + 1 + 1 + 1 < N + 6; omega) _
     have hsn := RowOf.snoc HR5.out (HR5.out.1.set b (.slice (some ⟨wb.heap.size, 0, none⟩) lx (lx + 2))) (fun j hj => if_neg (by omega)) (fun a cs h => RTab.keep h hkeep) HX.out (cs := [.slice (some ⟨wb.heap.size, 0, none⟩) lx (lx + 2)]) rfl (RTab.keep HTAB.out hkeep) (fun j u hj => by
      have h1 := (List.getElem?_eq_some_iff.1 hj).1
      obtain rfl : j = 0 := by simpa using h1
      obtain rfl : .slice (some ⟨wb.heap.size, 0, none⟩) lx (lx + 2) = u := by simpa using hj
      exact if_pos (by omega))
     have HSN := Lib.hid hsn
     clear hkeep hsn
     go_wp2_with fail
     go_roundw
     case rel =>
      skip
      have hlN : N < wb.heap.size := HK0.out.lt
      have h0 : ∀ {bb : Nat} {cs : Array Value}, Blk wb bb 26 cs → bb ≠ N + 1 + 1 + 1 + 1 + 1 → Blk (w5.setCell ⟨N + 1 + 1 + 1 + 1 + 1, b, none⟩ (.slice (some ⟨wb.heap.size, 0, none⟩) lx (lx + 2))) bb 26 cs := fun h hne => (h.below Hw5.out h.lt).far (p := ⟨N + 1 + 1 + 1 + 1 + 1, b, none⟩) hne _
      refine ⟨(HB.out.trans (Hw5.out.mono (Nat.le_of_lt hlN))).setCell (p := ⟨N + 1 + 1 + 1 + 1 + 1, b, none⟩) (by show N ≤ N + 1 + 1 + 1 + 1 + 1; omega) _, by rw [World.size_setCell]; exact Nat.le_trans HS.out Hw5.out.size, h0 HK0.out (by omega), h0 HK1.out (by omega), h0 HK2.out (by omega), h0 HK3.out (by omega), Lib.hid ((HKP.out.below (Hw5.out.mono HKP.out.size)).setc (p := ⟨N + 1 + 1 + 1 + 1 + 1, b, none⟩) (Or.inr (by rw [HS4.out]; show N + 5 ≤ N + 1 + 1 + 1 + 1 + 1; omega)) _), b + 1, _, by rfl, HI.out, HSN⟩
     case measure => have := HI.out; simp [intOf]; omega
    ·have p1 : decide ((b : Int) < (nt : Int)) = false := decide_eq_false (by omega)
     have p2 : decide (b < nt) = false := decide_eq_false hlt
     obtain rfl : nt = b := by omega
     rw [← HNT.out, List.take_length] at hrow
     rw [HNT.out] at hrow
     have p4 : (nt : Int) < (nt : Int) + 1 := by omega
     have p5 : nt < nt + 1 := by omega
     obtain ⟨M, hM⟩ : ∃ M, wb.heap.size = M := ⟨_, rfl⟩
     rw [hM] at hs
     obtain ⟨WA, hWA⟩ : ∃ WA, wb.alloc (.cells #[.string ⟨#[98, 101, 104, 105, 110, 100, 32, 116, 104, 101, 32, 101, 110, 100]⟩, .slice none 0 0, .slice none 0 0, .string ⟨#[]⟩, .slice none 0 0] 78) = WA := ⟨_, rfl⟩
     have hbA : Below M wb WA := by rw [← hWA, ← hM]; exact (Below.refl _ _).alloc (Nat.le_refl _) _
     have hsA : WA.heap.size = M + 1 := by rw [← hWA, World.size_alloc, hM]
     have hrA : RowOf 1 (RTab (N + 6)) WA 68 (N + 1 + 1 + 1 + 1 + 1) (nt + 1) n.tables f2 := hrow.out.keep (lo := N) (KeepB.of_below (by rw [hM]; exact hbA)) (by omega) (fun a cs h => RTab.keep h (KeepB.of_below (by rw [hM]; exact hbA)))
     have hmA : WA.rowIs M 78 5 (fun j => (#[.string ⟨#[98, 101, 104, 105, 110, 100, 32, 116, 104, 101, 32, 101, 110, 100]⟩, .slice none 0 0, .slice none 0 0, .string ⟨#[]⟩, .slice none 0 0] : Array Value).getD j undef) := by
      rw [← hWA, ← hM]
      exact World.rowIs_alloc wb #[.string ⟨#[98, 101, 104, 105, 110, 100, 32, 116, 104, 101, 32, 101, 110, 100]⟩, .slice none 0 0, .slice none 0 0, .string ⟨#[]⟩, .slice none 0 0] 78 _ (fun j hj => by rw [Array.getElem?_eq_getElem hj, Array.getD_eq_getD_getElem?, Array.getElem?_eq_getElem hj]; rfl)
     have e0 : WA.cell? ⟨N + 1 + 1 + 1 + 1 + 1, nt, none⟩ = some (f2 nt) := hrA.1.cell p5
     have g0 : WA.frozen? ⟨N + 1 + 1 + 1 + 1 + 1, nt, none⟩ = false := hrA.1.frozen nt
     obtain ⟨WB, hWB⟩ : ∃ WB, WA.setCell ⟨N + 1 + 1 + 1 + 1 + 1, nt, none⟩ (.slice (some ⟨M, 0, none⟩) 1 1) = WB := ⟨_, rfl⟩
     have frB : ∀ {b : Nat} {cs : Array Value}, Blk wb b 26 cs → b < N + 1 + 1 + 1 + 1 + 1 → Blk WB b 26 cs := fun h hne => by rw [← hWB, ← hWA]; exact (h.alloc _).far (p := ⟨N + 1 + 1 + 1 + 1 + 1, nt, none⟩) (Nat.ne_of_lt hne) _
     have q0 := frB hk0 (by omega)
     have q1 := frB hk1 (by omega)
     have q2 := frB hk2 (by omega)
     have q3 := frB hk3 (by omega)
     have hkB : KeepB (N + 6) WA WB := by rw [← hWB]; exact KeepB.set WA (a := ⟨N + 1 + 1 + 1 + 1 + 1, nt, none⟩) (by show N + 1 + 1 + 1 + 1 + 1 < N + 6; omega) _
     have hrB : WB.rowIs (N + 1 + 1 + 1 + 1 + 1) 68 (nt + 1) (fun j => if j = nt then .slice (some ⟨M, 0, none⟩) 1 1 else f2 j) := by rw [← hWB]; exact hrA.1.set nt _
     have x1 : WB.cell? ⟨N + 1 + 1 + 1, 2, none⟩ = some (.slice (some ⟨N + 1 + 1 + 1 + 1 + 1, 0, none⟩) (nt + 1) (nt + 1)) := q3.cell 2
     have y1 : WB.frozen? ⟨N + 1 + 1 + 1, 2, none⟩ = false := q3.frozen 2
     have m1 : WB.cell? ⟨N, 2, none⟩ = some (.slice A2 nt c2) := q0.cell 2
     obtain ⟨WC, hWC⟩ : ∃ WC, WB.setCell ⟨N + 1 + 1 + 1, 2, none⟩ (.slice (some ⟨N + 1 + 1 + 1 + 1 + 1, 0, none⟩) nt (nt + 1)) = WC := ⟨_, rfl⟩
     have t0 : Blk WC N 26 #[.int .i64 bt, .slice A1 np c1, .slice A2 nt c2, .slice A3 ng c3] := by rw [← hWC]; exact q0.far (p := ⟨N + 1 + 1 + 1, 2, none⟩) (by show N ≠ N + 1 + 1 + 1; omega) _
     have t1 : Blk WC (N + 1) 26 #[.int .i64 0, .slice none 0 0, .slice none 0 0, .slice none 0 0] := by rw [← hWC]; exact q1.far (p := ⟨N + 1 + 1 + 1, 2, none⟩) (by show N + 1 ≠ N + 1 + 1 + 1; omega) _
     have t2 : Blk WC (N + 1 + 1) 26 #[.int .i64 0, .slice none 0 0, .slice none 0 0, .slice none 0 0] := by rw [← hWC]; exact q2.far (p := ⟨N + 1 + 1 + 1, 2, none⟩) (by show N + 1 + 1 ≠ N + 1 + 1 + 1; omega) _
     have t3 : Blk WC (N + 1 + 1 + 1) 26 #[.int .i64 bt, .slice (some ⟨N + 1 + 1 + 1 + 1, 0, none⟩) np (np + 1), .slice (some ⟨N + 1 + 1 + 1 + 1 + 1, 0, none⟩) nt (nt + 1), .slice none 0 0] := by rw [← hWC]; exact q3.set_ 2 _
     have hkC : KeepB (N + 4) WB WC := by rw [← hWC]; exact KeepB.set WB (a := ⟨N + 1 + 1 + 1, 2, none⟩) (by show N + 1 + 1 + 1 < N + 4; omega) _
     obtain ⟨G, hG⟩ : ∃ G, M + 1 = G := ⟨_, rfl⟩
     have hsC : WC.heap.size = G := by rw [← hWC, World.size_setCell, ← hWB, World.size_setCell, hsA, hG]
     have hbC : Below N w WC := by rw [← hWC, ← hWB]; exact ((hb.trans (hbA.mono (by omega))).setCell (p := ⟨N + 1 + 1 + 1 + 1 + 1, nt, none⟩) (by show N ≤ N + 1 + 1 + 1 + 1 + 1; omega) _).setCell (p := ⟨N + 1 + 1 + 1, 2, none⟩) (by show N ≤ N + 1 + 1 + 1; omega) _
     have hkpC : KeepB (N + 4) W4 WC := by
      rw [← hWC, ← hWB]
      refine ((hkp.out.below (C := WA) (hbA.mono ?_)).setc (p := ⟨N + 1 + 1 + 1 + 1 + 1, nt, none⟩) (Or.inr (by rw [HS4.out]; show N + 5 ≤ N + 1 + 1 + 1 + 1 + 1; omega)) _).setc (p := ⟨N + 1 + 1 + 1, 2, none⟩) (Or.inl (by show N + 1 + 1 + 1 < N + 4; omega)) _
      have := HS4.out
      omega
     have htab : RowOf 1 (RTab (N + 4)) WC 68 (N + 1 + 1 + 1 + 1 + 1) (nt + 1) n.tables (fun j => if j = nt then .slice (some ⟨M, 0, none⟩) 1 1 else f2 j) := by
      have h1 : RowOf 1 (RTab (N + 6)) WB 68 (N + 1 + 1 + 1 + 1 + 1) (nt + 1) n.tables (fun j => if j = nt then .slice (some ⟨M, 0, none⟩) 1 1 else f2 j) := ⟨hrB, fun j a ha => by
       obtain ⟨cs, h1, h2, h3⟩ := hrA.2 j a ha
       have hj : j < nt := by have := (List.getElem?_eq_some_iff.1 ha).1; rw [HNT.out] at this; exact this
       refine ⟨cs, h1, RTab.keep h2 hkB, fun jj u hu => ?_⟩
       have hjj : jj < 1 := by have := (List.getElem?_eq_some_iff.1 hu).1; omega
       exact (if_neg (by omega)).trans (h3 jj u hu)⟩
      exact (h1.imp (fun a cs h => RTab.mono h (by omega))).keep hkC (by omega) (fun a cs h => RTab.keep h hkC)
     have hmC : WC.rowIs M 78 5 (fun j => (#[.string ⟨#[98, 101, 104, 105, 110, 100, 32, 116, 104, 101, 32, 101, 110, 100]⟩, .slice none 0 0, .slice none 0 0, .string ⟨#[]⟩, .slice none 0 0] : Array Value).getD j undef) := by
      rw [← hWC, ← hWB]
      exact (hmA.setOther (a := ⟨N + 1 + 1 + 1 + 1 + 1, nt, none⟩) (by show M ≠ N + 1 + 1 + 1 + 1 + 1; omega) _).setOther (a := ⟨N + 1 + 1 + 1, 2, none⟩) (by show M ≠ N + 1 + 1 + 1; omega) _
     have m3 : WC.cell? ⟨N, 3, none⟩ = some (.slice A3 ng c3) := t0.cell 3
     have zg : IntKind.i64.wrap ((ng : Int) + 1) = (ng : Int) + 1 := by have := HSZ.out.ng; have := HNG.out; rw [IntKind.wrap_i64]; omega
     have hmk := run_make_ggs .i64 .i64 ((ng : Int) + 1) (ng + 1) (by omega) (by have := HSZ.out.ng; have := HNG.out; omega) WC
     have r1 := rowIs_madeZ WC #[.slice none 0 0] (ng + 1) 70
     obtain ⟨WD, hWD⟩ : ∃ WD, WC.alloc (.cells (madeCells #[.slice none 0 0] (ng + 1)) 70) = WD := ⟨_, rfl⟩
     rw [hWD, hsC] at hmk r1
     have hsD : WD.heap.size = G + 1 := by rw [← hWD, World.size_alloc, hsC]
     have hbD : Below N w WD := by rw [← hWD]; exact hbC.alloc (by omega) _
     have al : ∀ {b : Nat} {cs : Array Value}, Blk WC b 26 cs → Blk WD b 26 cs := fun h => by rw [← hWD]; exact h.alloc _
     have u1 : WD.cell? ⟨N + 1 + 1 + 1, 3, none⟩ = some (.slice none 0 0) := (al t3).cell 3
     have v1 : WD.frozen? ⟨N + 1 + 1 + 1, 3, none⟩ = false := (al t3).frozen 3
     have HKE := Lib.hid (show KeepB (N + 4) WC WD by rw [← hWD]; exact KeepB.of_below ((Below.refl _ _).alloc (Nat.le_refl _) _))
     have HKPC := Lib.hid hkpC
     have HTAB := Lib.hid htab
     have HMC := Lib.hid hmC
     have HSC := Lib.hid hsC
     have HBE := Lib.hid hbD
     have HSE := Lib.hid hsD
     have HP0 := Lib.hid (al t0)
     have HP1 := Lib.hid (al t1)
     have HP2 := Lib.hid (al t2)
     have HP3 := Lib.hid (al t3)
     have HRE := Lib.hid r1
     have HM4 := Lib.hid (show N + 4 ≤ M by omega)
     have HG4 := Lib.hid (show N + 6 ≤ G by omega)
     have HMW := Lib.hid hM
     clear HB HS HK0 HK1 HK2 HK3 HKP hb hs hk0 hk1 hk2 hk3 hkp hi hlt hrow hbA hsA hrA hmA frB q0 q1 q2 q3 hkB hrB t0 t1 t2 t3 hkC hG hsC hbC hkpC htab hmC r1 hsD hbD al
     go_wp2_with fail
     clear p1 p2 p4 p5 e0 g0 x1 y1 m1 m3 zg hmk u1 v1 n1 n2 i0 hWA hWB hWC hWD hM
     go_loopw [7] (fun v7 wr => Below N w wr ∧ G + 1 ≤ wr.heap.size ∧ Blk wr N 26 #[.int .i64 bt, .slice A1 np c1, .slice A2 nt c2, .slice A3 ng c3] ∧ Blk wr (N + 1) 26 #[.int .i64 0, .slice none 0 0, .slice none 0 0, .slice none 0 0] ∧ Blk wr (N + 1 + 1) 26 #[.int .i64 0, .slice none 0 0, .slice none 0 0, .slice none 0 0] ∧ Blk wr (N + 1 + 1 + 1) 26 #[.int .i64 bt, .slice (some ⟨N + 1 + 1 + 1 + 1, 0, none⟩) np (np + 1), .slice (some ⟨N + 1 + 1 + 1 + 1 + 1, 0, none⟩) nt (nt + 1), .slice (some ⟨G, 0, none⟩) (ng + 1) (ng + 1)] ∧ Hid (KeepB (N + 4) WC wr) ∧ ∃ (b : Nat) (f : Nat → Value), v7 = .int .i64 (b : Int) ∧ b ≤ ng ∧ Hid (RowOf 1 (RGrd (G + 1)) wr 70 (G) (ng + 1) (n.guards.take b) f)) (fun v7 _ => ng - (intOf v7).toNat)
     case atStart =>
      have := HG4.out
      refine ⟨HBE.out.setCell (p := ⟨N + 1 + 1 + 1, 3, none⟩) (by show N ≤ N + 1 + 1 + 1; omega) _, by rw [World.size_setCell, HSE.out]; exact Nat.le_refl _, HP0.out.far (p := ⟨N + 1 + 1 + 1, 3, none⟩) (by show N ≠ N + 1 + 1 + 1; omega) _, HP1.out.far (p := ⟨N + 1 + 1 + 1, 3, none⟩) (by show N + 1 ≠ N + 1 + 1 + 1; omega) _, HP2.out.far (p := ⟨N + 1 + 1 + 1, 3, none⟩) (by show N + 1 + 1 ≠ N + 1 + 1 + 1; omega) _, HP3.out.set_ 3 _, Lib.hid (HKE.out.setc (p := ⟨N + 1 + 1 + 1, 3, none⟩) (Or.inl (by show N + 1 + 1 + 1 < N + 4; omega)) _), 0, _, rfl, Nat.zero_le _, Lib.hid (RowOf.first n.guards (HRE.out.setOther (a := ⟨N + 1 + 1 + 1, 3, none⟩) (by show G ≠ N + 1 + 1 + 1; omega) _))⟩
     case round =>
      clear HBE HSE HP0 HP1 HP2 HP3 HRE HKE
      obtain ⟨hb, hs, hk0, hk1, hk2, hk3, hkp, b, f2, rfl, hi, hrow⟩ := hrel
      obtain ⟨wb, hwb⟩ : ∃ wb, wb = wr := ⟨_, rfl⟩
      subst hwb
      have HB := Lib.hid hb
      have HS := Lib.hid hs
      have HK0 := Lib.hid hk0
      have HK1 := Lib.hid hk1
      have HK2 := Lib.hid hk2
      have HK3 := Lib.hid hk3
      have HKP := hkp
      have i0 : (0 : Int) ≤ (b : Int) := by omega
      have n1 : wb.cell? ⟨N, 3, none⟩ = some (.slice A3 ng c3) := hk0.cell 3
      have n2 : wb.cell? ⟨N + 1 + 1 + 1, 3, none⟩ = some (.slice (some ⟨G, 0, none⟩) (ng + 1) (ng + 1)) := hk3.cell 3
      by_cases hlt : b < ng
      ·have p1 : decide ((b : Int) < (ng : Int)) = true := decide_eq_true (by omega)
       have p2 : decide (b < ng) = true := decide_eq_true hlt
       have p3 : (b : Int) < (ng : Int) := by omega
       have p4 : (b : Int) < (ng : Int) + 1 := by omega
       have p5 : b < ng + 1 := by omega
       have z1 : IntKind.i64.wrap ((b : Int) + 1) = (b : Int) + 1 := by have := HSZ.out.ng; have := HNG.out; rw [IntKind.wrap_i64]; omega
       obtain ⟨x, hx⟩ : ∃ x, n.guards[b]? = some x := ⟨_, List.getElem?_eq_getElem (by rw [HNG.out]; exact hlt)⟩
       obtain ⟨g, o, Ax, cx, rfl, hg, a0, hxv, _⟩ := HGV.out.at hx
       have hcall := fun W (hW : Below N w W) => ref9_roomGuard Ax cx x W (hxv.more (by rw [HN.out]; exact hW)) (by have := (HSZ.out.guards x (List.mem_of_getElem? hx)).1; omega) (fun e he => ((HSZ.out.guards x (List.mem_of_getElem? hx)).2 e he).1)
       obtain ⟨lx, hlx⟩ : ∃ lx, x.length = lx := ⟨_, rfl⟩
       rw [hlx] at a0 hcall
       rw [HN.out] at hg
       have hsw : ∀ W, Below wb.heap.size wb W → (fun w' : World => w'.cell? ⟨N + 1 + 1 + 1, 3, none⟩ = some (.slice (some ⟨G, 0, none⟩) (ng + 1) (ng + 1)) ∧ w'.cell? ⟨N, 3, none⟩ = some (.slice (some ⟨g, o, none⟩) ng c3) ∧ w'.cell? ⟨g, o + b, none⟩ = some (.slice Ax lx cx)) W := fun W hW => ⟨(hW.cell (p := ⟨N + 1 + 1 + 1, 3, none⟩) hk3.lt).trans n2, (hW.cell (p := ⟨N, 3, none⟩) hk0.lt).trans n1, ((hb.trans (hW.mono (Nat.le_of_lt hk0.lt))).cell (p := ⟨g, o + b, none⟩) hg).trans a0⟩
       have HSW := Lib.hid hsw
       have HCALL := Lib.hid hcall
       have HX := Lib.hid hx
       have HLX := Lib.hid hlx
       have HROW := hrow
       have HI := Lib.hid (show b + 1 ≤ ng by omega)
       have hS0 := hsw _ ((Below.refl _ _).drew)
       clear hb hs hk0 hk1 hk2 hk3 hkp hi hlt hx hg hxv hlx a0 hcall hsw hrow
       go_wp2_with fail
       clear n1 n2
       refine wp_region_K 10 (fun w' : World => w'.cell? ⟨N + 1 + 1 + 1, 3, none⟩ = some (.slice (some ⟨G, 0, none⟩) (ng + 1) (ng + 1)) ∧ w'.cell? ⟨N, 3, none⟩ = some (.slice (some ⟨g, o, none⟩) ng c3) ∧ w'.cell? ⟨g, o + b, none⟩ = some (.slice Ax lx cx)) (by kernel_rfl) (fun hcl => ?_)
       have hS := hS0
       clear hS0
       refine tk 0 _ hcl hS (fun hcl2 => ?_)
       (try simp only [ly]); (try simp only [Act.put, pu]); clear hcl; have hcl := hcl2; clear hcl2
       refine tk 1 _ hcl hS (fun hcl2 => ?_)
       (try simp only [ly]); (try simp only [Act.put, pu]); clear hcl; have hcl := hcl2; clear hcl2
       refine tk 2 _ hcl hS (fun hcl2 => ?_)
       (try simp only [ly]); (try simp only [Act.put, pu]); clear hcl; have hcl := hcl2; clear hcl2
       refine tk 3 _ hcl hS (fun hcl2 => ?_)
       (try simp only [ly]); (try simp only [Act.put, pu]); clear hcl; have hcl := hcl2; clear hcl2
       refine tk 4 _ hcl hS (fun hcl2 => ?_)
       (try simp only [ly]); (try simp only [Act.put, pu]); clear hcl; have hcl := hcl2; clear hcl2
       refine tk 5 _ hcl hS (fun hcl2 => ?_)
       (try simp only [ly]); (try simp only [Act.put, pu]); clear hcl; have hcl := hcl2; clear hcl2
       refine tk 6 _ hcl hS (fun hcl2 => ?_)
       (try simp only [ly]); (try simp only [Act.put, pu]); clear hcl; have hcl := hcl2; clear hcl2
       refine tk 7 _ hcl hS (fun hcl2 => ?_)
       (try simp only [ly]); (try simp only [Act.put, pu]); clear hcl; have hcl := hcl2; clear hcl2
       refine wpAnyK_one (i := 8) hcl (by kernel_rfl) rfl (by rfl) (fun K hK => ?_)
       go_simp
       refine (HCALL.out _ HB.out.drew).mono ?_
       rintro r w5 ⟨rfl, hb5, htab⟩
       have Hw5 := Lib.hid (show Below wb.heap.size wb w5 from (Below.refl wb.heap.size wb).drew.trans hb5)
       clear hS hb5
       have hS := HSW.out _ Hw5.out
       refine hK.out _ _ (Or.inr hS) (fun hcl2 => ?_)
       clear hK K hcl
       have hcl := hcl2
       clear hcl2
       have HTAB := Lib.hid (show RGrd (G + 1) w5 x [.slice (some ⟨wb.heap.size, 0, none⟩) lx (lx + 2)] from RGrd.mono htab (by show G + 1 ≤ wb.heap.size; exact HS.out))
       have HR5 := Lib.hid (HROW.out.keep (lo := N) (KeepB.of_below Hw5.out) (by have := HG4.out; omega) (fun a cs h => RGrd.keep h (KeepB.of_below Hw5.out)))
       clear htab
       refine tk 9 _ hcl hS (fun hcl2 => ?_)
       (try simp only [ly]); (try simp only [Act.put, pu]); clear hcl; have hcl := hcl2; clear hcl2
       have c0 : w5.cell? ⟨G, b, none⟩ = some (f2 b) := HR5.out.1.cell (show b < ng + 1 by have := HI.out; omega)
       have g0 : w5.frozen? ⟨G, b, none⟩ = false := HR5.out.1.frozen b
       clear hS
       refine wpAnyK_one (i := 10) hcl (by kernel_rfl) rfl (by rfl) (fun K hK => ?_)
       go_simp
       refine hK.out _ _ (Or.inl (by kernel_rfl)) (fun hcl2 => ?_)
       clear hK K hcl hcl2 c0 g0
       refine wpAnyK_done (by kernel_rfl) ?_ _
       (try simp only [Act.put, pu])
       have hkeep : KeepB (G + 1) w5 (w5.setCell ⟨G, b, none⟩ (.slice (some ⟨wb.heap.size, 0, none⟩) lx (lx + 2))) := KeepB.set w5 (a := ⟨G, b, none⟩) (by show G < G + 1; omega) _
       have hsn := RowOf.snoc HR5.out (HR5.out.1.set b (.slice (some ⟨wb.heap.size, 0, none⟩) lx (lx + 2))) (fun j hj => if_neg (by omega)) (fun a cs h => RGrd.keep h hkeep) HX.out (cs := [.slice (some ⟨wb.heap.size, 0, none⟩) lx (lx + 2)]) rfl (RGrd.keep HTAB.out hkeep) (fun j u hj => by
        have h1 := (List.getElem?_eq_some_iff.1 hj).1
        obtain rfl : j = 0 := by simpa using h1
        obtain rfl : .slice (some ⟨wb.heap.size, 0, none⟩) lx (lx + 2) = u := by simpa using hj
        exact if_pos (by omega))
       have HSN := Lib.hid hsn
       clear hkeep hsn
       go_wp2_with fail
       go_roundw
       case rel =>
        have := HG4.out
        have hlN : N < wb.heap.size := HK0.out.lt
        have h0 : ∀ {bb : Nat} {cs : Array Value}, Blk wb bb 26 cs → bb ≠ G → Blk (w5.setCell ⟨G, b, none⟩ (.slice (some ⟨wb.heap.size, 0, none⟩) lx (lx + 2))) bb 26 cs := fun h hne => (h.below Hw5.out h.lt).far (p := ⟨G, b, none⟩) hne _
        refine ⟨(HB.out.trans (Hw5.out.mono (Nat.le_of_lt hlN))).setCell (p := ⟨G, b, none⟩) (by show N ≤ G; omega) _, by rw [World.size_setCell]; exact Nat.le_trans HS.out Hw5.out.size, h0 HK0.out (by omega), h0 HK1.out (by omega), h0 HK2.out (by omega), h0 HK3.out (by omega), Lib.hid ((HKP.out.below (Hw5.out.mono HKP.out.size)).setc (p := ⟨G, b, none⟩) (Or.inr (by rw [HSC.out]; exact Nat.le_refl G)) _), b + 1, _, by rfl, HI.out, HSN⟩
       case measure => have := HI.out; simp [intOf]; omega
      ·have p1 : decide ((b : Int) < (ng : Int)) = false := decide_eq_false (by omega)
       have p2 : decide (b < ng) = false := decide_eq_false hlt
       obtain rfl : ng = b := by omega
       rw [← HNG.out, List.take_length] at hrow
       rw [HNG.out] at hrow
       have hG4 := HG4.out
       have p4 : (ng : Int) < (ng : Int) + 1 := by omega
       have p5 : ng < ng + 1 := by omega
       obtain ⟨M2, hM⟩ : ∃ M2, wb.heap.size = M2 := ⟨_, rfl⟩
       rw [hM] at hs
       obtain ⟨WA0, hWA0⟩ : ∃ WA0, wb.alloc (.cells #[.string ⟨#[98, 101, 104, 105, 110, 100, 32, 116, 104, 101, 32, 101, 110, 100]⟩] 9) = WA0 := ⟨_, rfl⟩
       have hsA0 : WA0.heap.size = M2 + 1 := by rw [← hWA0, World.size_alloc, hM]
       obtain ⟨WA, hWA⟩ : ∃ WA, WA0.alloc (.cells #[.bool false, .slice (some ⟨M2, 0, none⟩) 1 1] 81) = WA := ⟨_, rfl⟩
       have hsA : WA.heap.size = M2 + 2 := by rw [← hWA, World.size_alloc, hsA0]
       have hbA : Below M2 wb WA := by rw [← hWA, ← hWA0, ← hM]; exact ((Below.refl _ _).alloc (Nat.le_refl _) _).alloc (by simp) _
       have hrA : RowOf 1 (RGrd (G + 1)) WA 70 G (ng + 1) n.guards f2 := hrow.out.keep (lo := N) (KeepB.of_below (by rw [hM]; exact hbA)) (by omega) (fun a cs h => RGrd.keep h (KeepB.of_below (by rw [hM]; exact hbA)))
       have hmA0 : WA.rowIs M2 9 1 (fun _ => .string MARK) := by
        have h := World.rowIs_alloc wb #[.string ⟨#[98, 101, 104, 105, 110, 100, 32, 116, 104, 101, 32, 101, 110, 100]⟩] 9 (fun _ => .string MARK) (fun j hj => by
         have : j = 0 := by simpa using hj
         subst this
         rfl)
        rw [hWA0, hM] at h
        rw [← hWA]
        exact h.of_block (by rw [← hWA] at *; exact Below.heap_alloc WA0 _ M2 (by omega))
       have hmA : WA.rowIs (M2 + 1) 81 2 (fun j => (#[.bool false, .slice (some ⟨M2, 0, none⟩) 1 1] : Array Value).getD j undef) := by
        have h := World.rowIs_alloc WA0 #[.bool false, .slice (some ⟨M2, 0, none⟩) 1 1] 81 (fun j => (#[.bool false, .slice (some ⟨M2, 0, none⟩) 1 1] : Array Value).getD j undef) (fun j hj => by rw [Array.getElem?_eq_getElem hj, Array.getD_eq_getD_getElem?, Array.getElem?_eq_getElem hj]; rfl)
        rw [hWA, hsA0] at h
        exact h
       have e0 : WA.cell? ⟨G, ng, none⟩ = some (f2 ng) := hrA.1.cell p5
       have g0 : WA.frozen? ⟨G, ng, none⟩ = false := hrA.1.frozen ng
       obtain ⟨WB, hWB⟩ : ∃ WB, WA.setCell ⟨G, ng, none⟩ (.slice (some ⟨M2 + 1, 0, none⟩) 1 1) = WB := ⟨_, rfl⟩
       have frB : ∀ {b : Nat} {cs : Array Value}, Blk wb b 26 cs → b < G → Blk WB b 26 cs := fun h hne => by rw [← hWB, ← hWA, ← hWA0]; exact ((h.alloc _).alloc _).far (p := ⟨G, ng, none⟩) (Nat.ne_of_lt hne) _
       have q0 := frB hk0 (by omega)
       have q1 := frB hk1 (by omega)
       have q2 := frB hk2 (by omega)
       have q3 := frB hk3 (by omega)
       have hkB : KeepB (G + 1) WA WB := by rw [← hWB]; exact KeepB.set WA (a := ⟨G, ng, none⟩) (by show G < G + 1; omega) _
       have hrB : WB.rowIs G 70 (ng + 1) (fun j => if j = ng then .slice (some ⟨M2 + 1, 0, none⟩) 1 1 else f2 j) := by rw [← hWB]; exact hrA.1.set ng _
       have x1 : WB.cell? ⟨N + 1 + 1 + 1, 3, none⟩ = some (.slice (some ⟨G, 0, none⟩) (ng + 1) (ng + 1)) := q3.cell 3
       have y1 : WB.frozen? ⟨N + 1 + 1 + 1, 3, none⟩ = false := q3.frozen 3
       have m1 : WB.cell? ⟨N, 3, none⟩ = some (.slice A3 ng c3) := q0.cell 3
       obtain ⟨WE, hWE⟩ : ∃ WE, WB.setCell ⟨N + 1 + 1 + 1, 3, none⟩ (.slice (some ⟨G, 0, none⟩) ng (ng + 1)) = WE := ⟨_, rfl⟩
       have t1 : Blk WE (N + 1) 26 #[.int .i64 0, .slice none 0 0, .slice none 0 0, .slice none 0 0] := by rw [← hWE]; exact q1.far (p := ⟨N + 1 + 1 + 1, 3, none⟩) (by show N + 1 ≠ N + 1 + 1 + 1; omega) _
       have t2 : Blk WE (N + 1 + 1) 26 #[.int .i64 0, .slice none 0 0, .slice none 0 0, .slice none 0 0] := by rw [← hWE]; exact q2.far (p := ⟨N + 1 + 1 + 1, 3, none⟩) (by show N + 1 + 1 ≠ N + 1 + 1 + 1; omega) _
       have t3 : Blk WE (N + 1 + 1 + 1) 26 #[.int .i64 bt, .slice (some ⟨N + 1 + 1 + 1 + 1, 0, none⟩) np (np + 1), .slice (some ⟨N + 1 + 1 + 1 + 1 + 1, 0, none⟩) nt (nt + 1), .slice (some ⟨G, 0, none⟩) ng (ng + 1)] := by rw [← hWE]; exact q3.set_ 3 _
       have hkC : KeepB (N + 4) WB WE := by rw [← hWE]; exact KeepB.set WB (a := ⟨N + 1 + 1 + 1, 3, none⟩) (by show N + 1 + 1 + 1 < N + 4; omega) _
       have hsE : WE.heap.size = M2 + 2 := by rw [← hWE, World.size_setCell, ← hWB, World.size_setCell, hsA]
       have hbE : Below N w WE := by rw [← hWE, ← hWB]; exact ((hb.trans (hbA.mono (by omega))).setCell (p := ⟨G, ng, none⟩) (by show N ≤ G; omega) _).setCell (p := ⟨N + 1 + 1 + 1, 3, none⟩) (by show N ≤ N + 1 + 1 + 1; omega) _
       have hkpE : KeepB (N + 4) WC WE := by
        rw [← hWE, ← hWB]
        refine ((hkp.out.below (C := WA) (hbA.mono ?_)).setc (p := ⟨G, ng, none⟩) (Or.inr (by rw [HSC.out]; exact Nat.le_refl G)) _).setc (p := ⟨N + 1 + 1 + 1, 3, none⟩) (Or.inl (by show N + 1 + 1 + 1 < N + 4; omega)) _
        have := HSC.out
        omega
       have hgrd : RowOf 1 (RGrd (N + 4)) WE 70 G (ng + 1) n.guards (fun j => if j = ng then .slice (some ⟨M2 + 1, 0, none⟩) 1 1 else f2 j) := by
        have h1 : RowOf 1 (RGrd (G + 1)) WB 70 G (ng + 1) n.guards (fun j => if j = ng then .slice (some ⟨M2 + 1, 0, none⟩) 1 1 else f2 j) := ⟨hrB, fun j a ha => by
         obtain ⟨cs, h1, h2, h3⟩ := hrA.2 j a ha
         have hj : j < ng := by have := (List.getElem?_eq_some_iff.1 ha).1; rw [HNG.out] at this; exact this
         refine ⟨cs, h1, RGrd.keep h2 hkB, fun jj u hu => ?_⟩
         have hjj : jj < 1 := by have := (List.getElem?_eq_some_iff.1 hu).1; omega
         exact (if_neg (by omega)).trans (h3 jj u hu)⟩
        exact (h1.imp (fun a cs h => RGrd.mono h (by omega))).keep hkC (by omega) (fun a cs h => RGrd.keep h hkC)
       have hm0E : WE.rowIs M2 9 1 (fun _ => .string MARK) := by
        rw [← hWE, ← hWB]
        exact (hmA0.setOther (a := ⟨G, ng, none⟩) (by show M2 ≠ G; omega) _).setOther (a := ⟨N + 1 + 1 + 1, 3, none⟩) (by show M2 ≠ N + 1 + 1 + 1; omega) _
       have hmE : WE.rowIs (M2 + 1) 81 2 (fun j => (#[.bool false, .slice (some ⟨M2, 0, none⟩) 1 1] : Array Value).getD j undef) := by
        rw [← hWE, ← hWB]
        exact (hmA.setOther (a := ⟨G, ng, none⟩) (by show M2 + 1 ≠ G; omega) _).setOther (a := ⟨N + 1 + 1 + 1, 3, none⟩) (by show M2 + 1 ≠ N + 1 + 1 + 1; omega) _
       have hnet : RNetAt (N + 4) WE n (N + 1 + 1 + 1 + 1) (N + 1 + 1 + 1 + 1 + 1) G := by
        have hkW : KeepB (N + 4) W4 WE := HKPC.out.trans hkpE
        refine ⟨by omega, by omega, by omega, ⟨_, by rw [HNP.out]; exact HPORTS.out.1.keep hkW (by omega) (fun _ _ h => h), by rw [HNP.out]; exact HPORTS.out.2⟩, ⟨_, M, 1, _, HM4.out, by rw [HNT.out]; exact HTAB.out.keep hkpE (by omega) (fun _ _ h => h.keep hkpE), by rw [HNT.out]; exact if_pos rfl, HMC.out.of_block (hkpE.same M HM4.out (by have := HMC.out.lt; exact this)), by rfl⟩, ⟨_, M2 + 1, 1, _, M2, 1, by omega, by omega, by rw [HNG.out]; exact hgrd, by rw [HNG.out]; exact if_pos rfl, hmE, by rfl, hm0E⟩⟩
       have hvw := hnet.views
       have hcall := fun W (hW : Below WE.heap.size WE W) => ref9_held (N + 4) n (some ⟨N + 1 + 1 + 1 + 1, 0, none⟩) (some ⟨N + 1 + 1 + 1 + 1 + 1, 0, none⟩) (some ⟨G, 0, none⟩) (np + 1) (nt + 1) (ng + 1) W HSZ.out (hvw.1.more hW) (hvw.2.1.more hW (fun _ _ h => h.more hW)) (hvw.2.2.more hW (fun _ _ h => h.more hW)) (by have := hW.size; omega)
       rw [HNP.out, HNT.out, HNG.out, HBT.out] at hcall
       have HCALL := Lib.hid hcall
       have HNET := Lib.hid hnet
       have HT1 := Lib.hid t1
       have HT2 := Lib.hid t2
       have HT3 := Lib.hid t3
       have HBE := Lib.hid hbE
       have hsw : ∀ W, Below WE.heap.size WE W → (fun w' : World => w'.cell? ⟨N + 1 + 1 + 1, 0, none⟩ = some (.int .i64 bt) ∧ w'.cell? ⟨N + 1 + 1 + 1, 1, none⟩ = some (.slice (some ⟨N + 1 + 1 + 1 + 1, 0, none⟩) np (np + 1)) ∧ w'.cell? ⟨N + 1 + 1 + 1, 2, none⟩ = some (.slice (some ⟨N + 1 + 1 + 1 + 1 + 1, 0, none⟩) nt (nt + 1)) ∧ w'.cell? ⟨N + 1 + 1 + 1, 3, none⟩ = some (.slice (some ⟨G, 0, none⟩) ng (ng + 1))) W := fun W hW => ⟨(hW.cell (p := ⟨N + 1 + 1 + 1, 0, none⟩) t3.lt).trans (t3.cell 0), (hW.cell (p := ⟨N + 1 + 1 + 1, 1, none⟩) t3.lt).trans (t3.cell 1), (hW.cell (p := ⟨N + 1 + 1 + 1, 2, none⟩) t3.lt).trans (t3.cell 2), (hW.cell (p := ⟨N + 1 + 1 + 1, 3, none⟩) t3.lt).trans (t3.cell 3)⟩
       have hS0 := hsw _ ((Below.refl _ _).drew)
       have HSW := Lib.hid hsw
       clear HB HS HK0 HK1 HK2 HK3 HKP hb hs hk0 hk1 hk2 hk3 hkp hi hlt hrow hbA hsA hrA hmA0 hmA frB q0 q1 q2 q3 hkB hrB t1 t2 t3 hkC hsE hbE hkpE hgrd hm0E hmE hnet hvw hcall hsw hG4
       go_wp2_with fail
       clear p1 p2 p4 p5 e0 g0 x1 y1 m1 n1 n2 i0 hWA hWB hWE hWA0 hM hsA0
       refine wp_region_K 4 (fun w' : World => w'.cell? ⟨N + 1 + 1 + 1, 0, none⟩ = some (.int .i64 bt) ∧ w'.cell? ⟨N + 1 + 1 + 1, 1, none⟩ = some (.slice (some ⟨N + 1 + 1 + 1 + 1, 0, none⟩) np (np + 1)) ∧ w'.cell? ⟨N + 1 + 1 + 1, 2, none⟩ = some (.slice (some ⟨N + 1 + 1 + 1 + 1 + 1, 0, none⟩) nt (nt + 1)) ∧ w'.cell? ⟨N + 1 + 1 + 1, 3, none⟩ = some (.slice (some ⟨G, 0, none⟩) ng (ng + 1))) (by kernel_rfl) (fun hcl => ?_)
       have hS := hS0
       clear hS0
       refine tk 0 _ hcl hS (fun hcl2 => ?_)
       (try simp only [ly]); (try simp only [Act.put, pu]); clear hcl; have hcl := hcl2; clear hcl2
       refine tk 1 _ hcl hS (fun hcl2 => ?_)
       (try simp only [ly]); (try simp only [Act.put, pu]); clear hcl; have hcl := hcl2; clear hcl2
       refine wpAnyK_one (i := 2) hcl (by kernel_rfl) rfl (by rfl) (fun K hK => ?_)
       go_simp
       refine (HCALL.out _ ((Below.refl _ _).drew)).mono ?_
       rintro r w5 ⟨B1, d1, B2, d2, B3, d3, rfl, hnet5, hb5⟩
       have Hw5 := Lib.hid (show Below WE.heap.size WE w5 from (Below.refl WE.heap.size WE).drew.trans hb5)
       have HN5 := Lib.hid hnet5
       clear hS hb5 hnet5
       have hS := HSW.out _ Hw5.out
       refine hK.out _ _ (Or.inr hS) (fun hcl2 => ?_)
       clear hK K hcl
       have hcl := hcl2
       clear hcl2
       have hq1 := HT1.out.below Hw5.out HT1.out.lt
       have hq2 := HT2.out.below Hw5.out HT2.out.lt
       have x0 : w5.cell? ⟨N + 1, 0, none⟩ = some (.int .i64 0) := hq1.cell 0
       have x1 : w5.cell? ⟨N + 1, 1, none⟩ = some (.slice none 0 0) := hq1.cell 1
       have x2 : w5.cell? ⟨N + 1, 2, none⟩ = some (.slice none 0 0) := hq1.cell 2
       have x3 : w5.cell? ⟨N + 1, 3, none⟩ = some (.slice none 0 0) := hq1.cell 3
       have y0 := hq1.frozen 0
       have y1 := hq1.frozen 1
       have y2 := hq1.frozen 2
       have y3 := hq1.frozen 3
       obtain ⟨W6, hW6⟩ : ∃ W6, ((((w5.setCell ⟨N + 1, 0, none⟩ (.int .i64 bt)).setCell ⟨N + 1, 1, none⟩ (.slice (some ⟨N + 1 + 1 + 1 + 1, 0, none⟩) np (np + 1))).setCell ⟨N + 1, 2, none⟩ (.slice (some ⟨N + 1 + 1 + 1 + 1 + 1, 0, none⟩) nt (nt + 1))).setCell ⟨N + 1, 3, none⟩ (.slice (some ⟨G, 0, none⟩) ng (ng + 1))) = W6 := ⟨_, rfl⟩
       have hr1 : Blk W6 (N + 1) 26 #[.int .i64 bt, .slice (some ⟨N + 1 + 1 + 1 + 1, 0, none⟩) np (np + 1), .slice (some ⟨N + 1 + 1 + 1 + 1 + 1, 0, none⟩) nt (nt + 1), .slice (some ⟨G, 0, none⟩) ng (ng + 1)] := by rw [← hW6]; exact (((hq1.set_ 0 _).set_ 1 _).set_ 2 _).set_ 3 _
       have hr2 : Blk W6 (N + 1 + 1) 26 #[.int .i64 0, .slice none 0 0, .slice none 0 0, .slice none 0 0] := by rw [← hW6]; exact (((hq2.far (p := ⟨N + 1, 0, none⟩) (by show N + 1 + 1 ≠ N + 1; omega) _).far (p := ⟨N + 1, 1, none⟩) (by show N + 1 + 1 ≠ N + 1; omega) _).far (p := ⟨N + 1, 2, none⟩) (by show N + 1 + 1 ≠ N + 1; omega) _).far (p := ⟨N + 1, 3, none⟩) (by show N + 1 + 1 ≠ N + 1; omega) _
       have X0 : W6.cell? ⟨N + 1 + 1, 0, none⟩ = some (.int .i64 0) := hr2.cell 0
       have X1 : W6.cell? ⟨N + 1 + 1, 1, none⟩ = some (.slice none 0 0) := hr2.cell 1
       have X2 : W6.cell? ⟨N + 1 + 1, 2, none⟩ = some (.slice none 0 0) := hr2.cell 2
       have X3 : W6.cell? ⟨N + 1 + 1, 3, none⟩ = some (.slice none 0 0) := hr2.cell 3
       have Y0 := hr2.frozen 0
       have Y1 := hr2.frozen 1
       have Y2 := hr2.frozen 2
       have Y3 := hr2.frozen 3
       have hq3 := HT3.out.below Hw5.out HT3.out.lt
       have hr3 : Blk W6 (N + 1 + 1 + 1) 26 #[.int .i64 bt, .slice (some ⟨N + 1 + 1 + 1 + 1, 0, none⟩) np (np + 1), .slice (some ⟨N + 1 + 1 + 1 + 1 + 1, 0, none⟩) nt (nt + 1), .slice (some ⟨G, 0, none⟩) ng (ng + 1)] := by rw [← hW6]; exact (((hq3.far (p := ⟨N + 1, 0, none⟩) (by show N + 1 + 1 + 1 ≠ N + 1; omega) _).far (p := ⟨N + 1, 1, none⟩) (by show N + 1 + 1 + 1 ≠ N + 1; omega) _).far (p := ⟨N + 1, 2, none⟩) (by show N + 1 + 1 + 1 ≠ N + 1; omega) _).far (p := ⟨N + 1, 3, none⟩) (by show N + 1 + 1 + 1 ≠ N + 1; omega) _
       have hS6 : (fun w' : World => w'.cell? ⟨N + 1 + 1 + 1, 0, none⟩ = some (.int .i64 bt) ∧ w'.cell? ⟨N + 1 + 1 + 1, 1, none⟩ = some (.slice (some ⟨N + 1 + 1 + 1 + 1, 0, none⟩) np (np + 1)) ∧ w'.cell? ⟨N + 1 + 1 + 1, 2, none⟩ = some (.slice (some ⟨N + 1 + 1 + 1 + 1 + 1, 0, none⟩) nt (nt + 1)) ∧ w'.cell? ⟨N + 1 + 1 + 1, 3, none⟩ = some (.slice (some ⟨G, 0, none⟩) ng (ng + 1))) W6 := ⟨hr3.cell 0, hr3.cell 1, hr3.cell 2, hr3.cell 3⟩
       obtain ⟨W7, hW7⟩ : ∃ W7, ((((W6.setCell ⟨N + 1 + 1, 0, none⟩ (.int .i64 bt)).setCell ⟨N + 1 + 1, 1, none⟩ (.slice B1 np d1)).setCell ⟨N + 1 + 1, 2, none⟩ (.slice B2 nt d2)).setCell ⟨N + 1 + 1, 3, none⟩ (.slice B3 ng d3)) = W7 := ⟨_, rfl⟩
       have hz1 : Blk W7 (N + 1) 26 #[.int .i64 bt, .slice (some ⟨N + 1 + 1 + 1 + 1, 0, none⟩) np (np + 1), .slice (some ⟨N + 1 + 1 + 1 + 1 + 1, 0, none⟩) nt (nt + 1), .slice (some ⟨G, 0, none⟩) ng (ng + 1)] := by rw [← hW7]; exact (((hr1.far (p := ⟨N + 1 + 1, 0, none⟩) (by show N + 1 ≠ N + 1 + 1; omega) _).far (p := ⟨N + 1 + 1, 1, none⟩) (by show N + 1 ≠ N + 1 + 1; omega) _).far (p := ⟨N + 1 + 1, 2, none⟩) (by show N + 1 ≠ N + 1 + 1; omega) _).far (p := ⟨N + 1 + 1, 3, none⟩) (by show N + 1 ≠ N + 1 + 1; omega) _
       have hz2 : Blk W7 (N + 1 + 1) 26 #[.int .i64 bt, .slice B1 np d1, .slice B2 nt d2, .slice B3 ng d3] := by rw [← hW7]; exact (((hr2.set_ 0 _).set_ 1 _).set_ 2 _).set_ 3 _
       have hkz : KeepB (N + 4) w5 W7 := by
        rw [← hW7, ← hW6]
        exact (((((((KeepB.set w5 (a := ⟨N + 1, 0, none⟩) (by show N + 1 < N + 4; omega) _).trans (KeepB.set _ (a := ⟨N + 1, 1, none⟩) (by show N + 1 < N + 4; omega) _)).trans (KeepB.set _ (a := ⟨N + 1, 2, none⟩) (by show N + 1 < N + 4; omega) _)).trans (KeepB.set _ (a := ⟨N + 1, 3, none⟩) (by show N + 1 < N + 4; omega) _)).trans (KeepB.set _ (a := ⟨N + 1 + 1, 0, none⟩) (by show N + 1 + 1 < N + 4; omega) _)).trans (KeepB.set _ (a := ⟨N + 1 + 1, 1, none⟩) (by show N + 1 + 1 < N + 4; omega) _)).trans (KeepB.set _ (a := ⟨N + 1 + 1, 2, none⟩) (by show N + 1 + 1 < N + 4; omega) _)).trans (KeepB.set _ (a := ⟨N + 1 + 1, 3, none⟩) (by show N + 1 + 1 < N + 4; omega) _)
       have hbz : Below N w W7 := by
        have h5 : Below N w w5 := HBE.out.trans (Hw5.out.mono (by have := HBE.out.size; rw [HN.out] at this; exact this))
        rw [← hW7, ← hW6]
        exact (((((((h5.setCell (p := ⟨N + 1, 0, none⟩) (by show N ≤ N + 1; omega) _).setCell (p := ⟨N + 1, 1, none⟩) (by show N ≤ N + 1; omega) _).setCell (p := ⟨N + 1, 2, none⟩) (by show N ≤ N + 1; omega) _).setCell (p := ⟨N + 1, 3, none⟩) (by show N ≤ N + 1; omega) _).setCell (p := ⟨N + 1 + 1, 0, none⟩) (by show N ≤ N + 1 + 1; omega) _).setCell (p := ⟨N + 1 + 1, 1, none⟩) (by show N ≤ N + 1 + 1; omega) _).setCell (p := ⟨N + 1 + 1, 2, none⟩) (by show N ≤ N + 1 + 1; omega) _).setCell (p := ⟨N + 1 + 1, 3, none⟩) (by show N ≤ N + 1 + 1; omega) _
       have HZ1 := Lib.hid hz1
       have HZ2 := Lib.hid hz2
       have HKZ := Lib.hid hkz
       have HBZ := Lib.hid hbz
       have HS6 := Lib.hid hS6
       clear hS hq1 hq2 hq3 hr1 hr2 hr3 hz1 hz2 hkz hbz hS6
       refine wpAnyK_one (i := 3) hcl (by kernel_rfl) rfl (by rfl) (fun K hK => ?_)
       go_simp
       refine hK.out _ _ (Or.inr HS6.out) (fun hcl2 => ?_)
       clear hK K hcl x0 x1 x2 x3 y0 y1 y2 y3
       have hcl := hcl2
       clear hcl2
       refine wpAnyK_one (i := 4) hcl (by kernel_rfl) rfl (by rfl) (fun K hK => ?_)
       go_simp
       refine hK.out _ _ (Or.inl (by kernel_rfl)) (fun hcl2 => ?_)
       clear hK K hcl hcl2 X0 X1 X2 X3 Y0 Y1 Y2 Y3
       refine wpAnyK_done (by kernel_rfl) ?_ _
       (try simp only [Act.put, pu])
       go_wp2_with fail
       refine bodyPost_ret (results_cell29 rfl _ _ (N + 1) (N + 1 + 1) 26 #[.int .i64 bt, .slice (some ⟨N + 1 + 1 + 1 + 1, 0, none⟩) np (np + 1), .slice (some ⟨N + 1 + 1 + 1 + 1 + 1, 0, none⟩) nt (nt + 1), .slice (some ⟨G, 0, none⟩) ng (ng + 1)] #[.int .i64 bt, .slice B1 np d1, .slice B2 nt d2, .slice B3 ng d3] _ rfl rfl HZ1.out HZ2.out Tryz.underlying26 rfl (by kernel_rfl) (by kernel_rfl)) rfl ?_
       have hn5 : RNetAt (N + 4) W7 n (N + 1 + 1 + 1 + 1) (N + 1 + 1 + 1 + 1 + 1) G := (HNET.out.more Hw5.out).keep HKZ.out
       refine ⟨N + 4, N + 1 + 1 + 1 + 1, N + 1 + 1 + 1 + 1 + 1, G, B1, d1, B2, d2, B3, d3, by rw [HN.out]; omega, by rw [HNP.out, HNT.out, HNG.out, HBT.out], hn5, ?_, by rw [HN.out]; exact HBZ.out⟩
       rw [HNP.out, HNT.out, HNG.out, HBT.out]
       exact HN5.out.keep HKZ.out
end Go.Proofs.YthnamoedpnknmaaGreatDoor
