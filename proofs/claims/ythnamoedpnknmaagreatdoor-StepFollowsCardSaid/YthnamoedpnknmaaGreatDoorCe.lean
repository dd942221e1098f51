/-
  Texts joined: Cd Ce.
-/
import Derived.Test.YthnamoedpnknmaaGreatDoorBz
import Derived.Test.YthnamoedpnknmaaGreatDoorGu
import Derived.Test.YthnamoedpnknmaaGreatDoorCc

set_option linter.unusedVariables false
set_option linter.unusedSimpArgs false
set_option maxRecDepth 100000
set_option maxHeartbeats 8000000
namespace Go.Proofs.YthnamoedpnknmaaGreatDoor
open Go.RowKit
theorem RNetAt.tab {lo : Nat} {W : World} {n : Sp.Net} {g1 g2 g3 : Nat} (h : RNetAt lo W n g1 g2 g3) {b : Nat} {x : List Sp.Entry} (hx : n.tables[b]? = some x) : ∃ g, g2 < W.heap.size ∧ g < W.heap.size ∧ W.cell? ⟨g2, b, none⟩ = some (.slice (some ⟨g, 0, none⟩) x.length (x.length + 2)) ∧
  W.cell? ⟨g, x.length * 5, none⟩ = some (.string MARK) ∧ W.cell? ⟨g, x.length * 5 + 2, none⟩ = some (.slice none 0 0) ∧ W.cell? ⟨g, (x.length + 1) * 5, none⟩ = some (.string MARK2) ∧ W.cell? ⟨g, (x.length + 1) * 5 + 2, none⟩ = some (.slice none 0 0) := by
 obtain ⟨f, m, c, fm, _, hr, _⟩ := h.tables
 obtain ⟨cs, hl, ⟨g, ft, _, rfl, hrow, e0, e1, e2, e3⟩, hc⟩ := hr.2 b x hx
 have hb := (List.getElem?_eq_some_iff.1 hx).1
 refine ⟨g, hr.1.lt, hrow.1.lt, ?_, ?_, ?_, ?_, ?_⟩
 ·rw [hr.1.cell (show b < n.tables.length + 1 by omega), ← hc 0 _ rfl, Nat.mul_one, Nat.add_zero]
 ·rw [hrow.1.cell (show x.length * 5 < (x.length + 2) * 5 by omega), e0]
 ·rw [hrow.1.cell (show x.length * 5 + 2 < (x.length + 2) * 5 by omega), e1]
 ·rw [hrow.1.cell (show (x.length + 1) * 5 < (x.length + 2) * 5 by omega), e2]
 ·rw [hrow.1.cell (show (x.length + 1) * 5 + 2 < (x.length + 2) * 5 by omega), e3]
theorem RNetAt.grd {lo : Nat} {W : World} {n : Sp.Net} {g1 g2 g3 : Nat} (h : RNetAt lo W n g1 g2 g3) {b : Nat} {x : List Sp.Guard} (hx : n.guards[b]? = some x) : ∃ g m1 m2 c1 c2, g3 < W.heap.size ∧ W.cell? ⟨g3, b, none⟩ = some (.slice (some ⟨g, 0, none⟩) x.length (x.length + 2)) ∧
  W.cell? ⟨g, x.length * 2 + 1, none⟩ = some (.slice (some ⟨m1, 0, none⟩) 1 c1) ∧ W.cell? ⟨g, (x.length + 1) * 2 + 1, none⟩ = some (.slice (some ⟨m2, 0, none⟩) 1 c2) ∧ W.cell? ⟨m1, 0, none⟩ = some (.string MARK) ∧ W.cell? ⟨m2, 0, none⟩ = some (.string MARK2) := by
 obtain ⟨f, m, c, fm, _, _, _, _, hr, _⟩ := h.guards
 obtain ⟨cs, hl, ⟨g, ft, m1, m2, c1, c2, _, _, _, rfl, hrow, e0, e1, h1, h2⟩, hc⟩ := hr.2 b x hx
 have hb := (List.getElem?_eq_some_iff.1 hx).1
 refine ⟨g, m1, m2, c1, c2, hr.1.lt, ?_, ?_, ?_, h1.cell (by omega), h2.cell (by omega)⟩
 ·rw [hr.1.cell (show b < n.guards.length + 1 by omega), ← hc 0 _ rfl, Nat.mul_one, Nat.add_zero]
 ·rw [hrow.1.cell (show x.length * 2 + 1 < (x.length + 2) * 2 by omega), e0]
 ·rw [hrow.1.cell (show (x.length + 1) * 2 + 1 < (x.length + 2) * 2 by omega), e1]
theorem ref9_markLists (lo : Nat) (n : Sp.Net) (g1 g2 g3 : Nat) (w : World) (hsz : Sp.SzdT n) (hnet : RNetAt lo w n g1 g2 g3) :
  Calls Tryz.prog 43 #[.agg #[.int .i64 n.bits, .slice (some ⟨g1, 0, none⟩) n.ports.length (n.ports.length + 1), .slice (some ⟨g2, 0, none⟩) n.tables.length (n.tables.length + 1), .slice (some ⟨g3, 0, none⟩) n.guards.length (n.guards.length + 1)]] w fun r w' => r = .returned (.bool true) ∧ Below w.heap.size w w' := by
 obtain ⟨np, hnp⟩ : ∃ np, n.ports.length = np := ⟨_, rfl⟩
 obtain ⟨nt, hnt⟩ : ∃ nt, n.tables.length = nt := ⟨_, rfl⟩
 obtain ⟨ng, hng⟩ : ∃ ng, n.guards.length = ng := ⟨_, rfl⟩
 obtain ⟨bt, hbt⟩ : ∃ bt, n.bits = bt := ⟨_, rfl⟩
 obtain ⟨N, hN⟩ : ∃ N, w.heap.size = N := ⟨_, rfl⟩
 obtain ⟨W2, hW2⟩ : ∃ W2, w.alloc (.cells #[.int .i64 bt, .slice (some ⟨g1, 0, none⟩) np (np + 1), .slice (some ⟨g2, 0, none⟩) nt (nt + 1), .slice (some ⟨g3, 0, none⟩) ng (ng + 1)] 26) = W2 := ⟨_, rfl⟩
 have hb2 : Below N w W2 := by rw [← hW2, ← hN]; exact (Below.refl _ _).alloc (Nat.le_refl _) _
 have hk0 : Blk W2 N 26 #[.int .i64 bt, .slice (some ⟨g1, 0, none⟩) np (np + 1), .slice (some ⟨g2, 0, none⟩) nt (nt + 1), .slice (some ⟨g3, 0, none⟩) ng (ng + 1)] := by rw [← hW2, ← hN]; exact Blk.new _ _ _
 have HN := Lib.hid hN
 have HNT := Lib.hid hnt
 have HNG := Lib.hid hng
 have HSZ := Lib.hid hsz
 have HNET := Lib.hid hnet
 have HB := Lib.hid hb2
 have HK0 := Lib.hid hk0
 rw [hnp, hnt, hng, hbt]
 clear hnp hnt hng hbt hsz hnet hb2 hk0
 go_enter Tryz.func43, Tryz.ntmps43
 go_wp2_with fail
 clear hW2
 go_loopw [3] (fun v3 wr => Below N w wr ∧ Blk wr N 26 #[.int .i64 bt, .slice (some ⟨g1, 0, none⟩) np (np + 1), .slice (some ⟨g2, 0, none⟩) nt (nt + 1), .slice (some ⟨g3, 0, none⟩) ng (ng + 1)] ∧ ∃ b : Nat, v3 = .int .i64 (b : Int) ∧ b ≤ nt) (fun v3 _ => nt - (intOf v3).toNat)
 case atStart => exact ⟨HB.out, HK0.out, 0, rfl, Nat.zero_le _⟩
 case round =>
  clear HB HK0
  obtain ⟨hb, hk0, b, rfl, hi⟩ := hrel
  obtain ⟨wa, hwa⟩ : ∃ wa, wa = wr := ⟨_, rfl⟩
  subst hwa
  have HB := Lib.hid hb
  have HK0 := Lib.hid hk0
  have i0 : (0 : Int) ≤ (b : Int) := by omega
  have n1 : wa.cell? ⟨N, 2, none⟩ = some (.slice (some ⟨g2, 0, none⟩) nt (nt + 1)) := hk0.cell 2
  by_cases hlt : b < nt
  ·have p1 : decide ((b : Int) < (nt : Int)) = true := decide_eq_true (by omega)
   have p2 : decide (b < nt) = true := decide_eq_true hlt
   have p3 : (b : Int) < (nt : Int) := by omega
   have z1 : IntKind.i64.wrap ((b : Int) + 1) = (b : Int) + 1 := by have := HSZ.out.nt; have := HNT.out; rw [IntKind.wrap_i64]; omega
   obtain ⟨x, hx⟩ : ∃ x, n.tables[b]? = some x := ⟨_, List.getElem?_eq_getElem (by rw [HNT.out]; exact hlt)⟩
   obtain ⟨g, _, _, k0, k1, k2, k3, k4⟩ := (HNET.out.more (by rw [HN.out]; exact hb)).tab hx
   have hxs := (HSZ.out.tables x (List.mem_of_getElem? hx)).1
   obtain ⟨lx, hlx⟩ : ∃ lx, x.length = lx := ⟨_, rfl⟩
   rw [hlx] at k0 k1 k2 k3 k4 hxs
   have z2 : IntKind.i64.wrap ((lx : Int) + 2) = (lx : Int) + 2 := by rw [IntKind.wrap_i64]; omega
   have z3 : IntKind.i64.wrap ((lx : Int) + 1) = (lx : Int) + 1 := by rw [IntKind.wrap_i64]; omega
   have s1 : (0 : Int) ≤ (lx : Int) := by omega
   have s2 : (lx : Int) < (lx : Int) + 2 := by omega
   have s3 : (lx : Int) + 1 < (lx : Int) + 2 := by omega
   have s4 : lx < lx + 2 := by omega
   have s5 : lx + 1 < lx + 2 := by omega
   have s6 : (0 : Int) ≤ (lx : Int) + 2 := by omega
   have s7 : (0 : Int) ≤ (lx : Int) + 1 := by omega
   have t1 : ((⟨#[98, 101, 104, 105, 110, 100, 32, 116, 104, 101, 32, 101, 110, 100]⟩ : ByteArray).toList != (⟨#[98, 101, 104, 105, 110, 100, 32, 116, 104, 101, 32, 101, 110, 100]⟩ : ByteArray).toList) = false := by rw [bne_eq_false_iff_eq]
   have t2 : ((⟨#[98, 101, 104, 105, 110, 100, 32, 116, 104, 101, 32, 101, 110, 100, 50]⟩ : ByteArray).toList != (⟨#[98, 101, 104, 105, 110, 100, 32, 116, 104, 101, 32, 101, 110, 100, 50]⟩ : ByteArray).toList) = false := by rw [bne_eq_false_iff_eq]
   unfold MARK at k1
   unfold MARK2 at k3
   have HI := Lib.hid (show b + 1 ≤ nt by omega)
   clear hb hk0 hi hlt hx hlx hxs
   go_wp2_with fail
   clear n1 k0
   refine wp_region_K 31 (fun w' : World => w'.cell? ⟨g, lx * 5, none⟩ = some (.string ⟨#[98, 101, 104, 105, 110, 100, 32, 116, 104, 101, 32, 101, 110, 100]⟩) ∧ w'.cell? ⟨g, lx * 5 + 2, none⟩ = some (.slice none 0 0) ∧ w'.cell? ⟨g, (lx + 1) * 5, none⟩ = some (.string ⟨#[98, 101, 104, 105, 110, 100, 32, 116, 104, 101, 32, 101, 110, 100, 50]⟩) ∧ w'.cell? ⟨g, (lx + 1) * 5 + 2, none⟩ = some (.slice none 0 0)) (by kernel_rfl) (fun hcl => ?_)
   have hS : (fun w' : World => w'.cell? ⟨g, lx * 5, none⟩ = some (.string ⟨#[98, 101, 104, 105, 110, 100, 32, 116, 104, 101, 32, 101, 110, 100]⟩) ∧ w'.cell? ⟨g, lx * 5 + 2, none⟩ = some (.slice none 0 0) ∧ w'.cell? ⟨g, (lx + 1) * 5, none⟩ = some (.string ⟨#[98, 101, 104, 105, 110, 100, 32, 116, 104, 101, 32, 101, 110, 100, 50]⟩) ∧ w'.cell? ⟨g, (lx + 1) * 5 + 2, none⟩ = some (.slice none 0 0)) wa.drew := ⟨k1, k2, k3, k4⟩
   refine tk 0 _ hcl hS (fun hcl2 => ?_)
   (try simp only [ly]); (try simp only [Act.put, pu]); clear hcl; have hcl := hcl2; clear hcl2
   refine tk 1 _ hcl hS (fun hcl2 => ?_)
   (try simp only [ly]); (try simp only [Act.put, pu]); clear hcl; have hcl := hcl2; clear hcl2
   refine tk 2 _ hcl hS (fun hcl2 => ?_)
   (try simp only [ly]); (try simp only [Act.put, pu]); clear hcl; have hcl := hcl2; clear hcl2
   refine tk 3 _ hcl hS (fun hcl2 => ?_)
   (try simp only [ly]); (try simp only [Act.put, pu]); clear hcl; have hcl := hcl2; clear hcl2
   refine tk 4 _ hcl hS (fun hcl2 => ?_)
   (try simp only [ly]); (try simp only [Act.put, pu]); clear hcl; have hcl := hcl2; clear hcl2
   refine tk 5 _ hcl hS (fun hcl2 => ?_)
   (try simp only [ly]); (try simp only [Act.put, pu]); clear hcl; have hcl := hcl2; clear hcl2
   refine tk 6 _ hcl hS (fun hcl2 => ?_)
   (try simp only [ly]); (try simp only [Act.put, pu]); clear hcl; have hcl := hcl2; clear hcl2
   refine tk 7 _ hcl hS (fun hcl2 => ?_)
   (try simp only [ly]); (try simp only [Act.put, pu]); clear hcl; have hcl := hcl2; clear hcl2
   refine tk 8 _ hcl hS (fun hcl2 => ?_)
   (try simp only [ly]); (try simp only [Act.put, pu]); clear hcl; have hcl := hcl2; clear hcl2
   refine tk 9 _ hcl hS (fun hcl2 => ?_)
   (try simp only [ly]); (try simp only [Act.put, pu]); clear hcl; have hcl := hcl2; clear hcl2
   refine tk 10 _ hcl hS (fun hcl2 => ?_)
   (try simp only [ly]); (try simp only [Act.put, pu]); clear hcl; have hcl := hcl2; clear hcl2
   refine tk 11 _ hcl hS (fun hcl2 => ?_)
   (try simp only [ly]); (try simp only [Act.put, pu]); clear hcl; have hcl := hcl2; clear hcl2
   refine tk 12 _ hcl hS (fun hcl2 => ?_)
   (try simp only [ly]); (try simp only [Act.put, pu]); clear hcl; have hcl := hcl2; clear hcl2
   refine tk 13 _ hcl hS (fun hcl2 => ?_)
   (try simp only [ly]); (try simp only [Act.put, pu]); clear hcl; have hcl := hcl2; clear hcl2
   refine tk 14 _ hcl hS (fun hcl2 => ?_)
   (try simp only [ly]); (try simp only [Act.put, pu]); clear hcl; have hcl := hcl2; clear hcl2
   refine tk 15 _ hcl hS (fun hcl2 => ?_)
   (try simp only [ly]); (try simp only [Act.put, pu]); clear hcl; have hcl := hcl2; clear hcl2
   refine tkM 10 16 _ hcl hS (fun hcl2 => ?_)
   (try simp only [ly]); (try simp only [Act.put, pu]); clear hcl; have hcl := hcl2; clear hcl2
   refine tkM 10 17 _ hcl hS (fun hcl2 => ?_)
   (try simp only [ly]); (try simp only [Act.put, pu]); clear hcl; have hcl := hcl2; clear hcl2
   refine tkM 10 18 _ hcl hS (fun hcl2 => ?_)
   (try simp only [ly]); (try simp only [Act.put, pu]); clear hcl; have hcl := hcl2; clear hcl2
   refine tkM 10 19 _ hcl hS (fun hcl2 => ?_)
   (try simp only [ly]); (try simp only [Act.put, pu]); clear hcl; have hcl := hcl2; clear hcl2
   refine tkM 10 20 _ hcl hS (fun hcl2 => ?_)
   (try simp only [ly]); (try simp only [Act.put, pu]); clear hcl; have hcl := hcl2; clear hcl2
   refine tkM 10 21 _ hcl hS (fun hcl2 => ?_)
   (try simp only [ly]); (try simp only [Act.put, pu]); clear hcl; have hcl := hcl2; clear hcl2
   refine tkM 10 22 _ hcl hS (fun hcl2 => ?_)
   (try simp only [ly]); (try simp only [Act.put, pu]); clear hcl; have hcl := hcl2; clear hcl2
   refine tkM 10 23 _ hcl hS (fun hcl2 => ?_)
   (try simp only [ly]); (try simp only [Act.put, pu]); clear hcl; have hcl := hcl2; clear hcl2
   refine tkM 10 24 _ hcl hS (fun hcl2 => ?_)
   (try simp only [ly]); (try simp only [Act.put, pu]); clear hcl; have hcl := hcl2; clear hcl2
   refine tkM 10 25 _ hcl hS (fun hcl2 => ?_)
   (try simp only [ly]); (try simp only [Act.put, pu]); clear hcl; have hcl := hcl2; clear hcl2
   refine tkM 10 26 _ hcl hS (fun hcl2 => ?_)
   (try simp only [ly]); (try simp only [Act.put, pu]); clear hcl; have hcl := hcl2; clear hcl2
   refine tkM 10 27 _ hcl hS (fun hcl2 => ?_)
   (try simp only [ly]); (try simp only [Act.put, pu]); clear hcl; have hcl := hcl2; clear hcl2
   refine tkM 10 28 _ hcl hS (fun hcl2 => ?_)
   (try simp only [ly]); (try simp only [Act.put, pu]); clear hcl; have hcl := hcl2; clear hcl2
   refine tkM 10 29 _ hcl hS (fun hcl2 => ?_)
   (try simp only [ly]); (try simp only [Act.put, pu]); clear hcl; have hcl := hcl2; clear hcl2
   refine tkM 10 30 _ hcl hS (fun hcl2 => ?_)
   (try simp only [ly]); (try simp only [Act.put, pu]); clear hcl; have hcl := hcl2; clear hcl2
   refine wpAnyK_one (i := 31) hcl (by kernel_rfl) rfl (by rfl) (fun K hK => ?_)
   go_simp
   refine hK.out _ _ (Or.inl (by kernel_rfl)) (fun hcl2 => ?_)
   clear hK K hcl hcl2 hS
   refine wpAnyK_done (by kernel_rfl) ?_ _
   (try simp only [Act.put, pu])
   go_wp2_with fail
   go_roundw
   case rel => exact ⟨HB.out.drew, HK0.out, b + 1, by rfl, HI.out⟩
   case measure => have := HI.out; simp [intOf]; omega
  ·have p1 : decide ((b : Int) < (nt : Int)) = false := decide_eq_false (by omega)
   have p2 : decide (b < nt) = false := decide_eq_false hlt
   obtain rfl : nt = b := by omega
   clear hb hk0 hi hlt
   go_wp2_with fail
   clear p1 p2 n1 i0
   go_loopw [6] (fun v6 wr => Below N w wr ∧ Blk wr N 26 #[.int .i64 bt, .slice (some ⟨g1, 0, none⟩) np (np + 1), .slice (some ⟨g2, 0, none⟩) nt (nt + 1), .slice (some ⟨g3, 0, none⟩) ng (ng + 1)] ∧ ∃ b : Nat, v6 = .int .i64 (b : Int) ∧ b ≤ ng) (fun v6 _ => ng - (intOf v6).toNat)
   case atStart => exact ⟨HB.out, HK0.out, 0, rfl, Nat.zero_le _⟩
   case round =>
    clear HB HK0
    obtain ⟨hb, hk0, b, rfl, hi⟩ := hrel
    have HB := Lib.hid hb
    have HK0 := Lib.hid hk0
    have i0 : (0 : Int) ≤ (b : Int) := by omega
    have n1 : wr.cell? ⟨N, 3, none⟩ = some (.slice (some ⟨g3, 0, none⟩) ng (ng + 1)) := hk0.cell 3
    by_cases hlt : b < ng
    ·have p1 : decide ((b : Int) < (ng : Int)) = true := decide_eq_true (by omega)
     have p2 : decide (b < ng) = true := decide_eq_true hlt
     have p3 : (b : Int) < (ng : Int) := by omega
     have z1 : IntKind.i64.wrap ((b : Int) + 1) = (b : Int) + 1 := by have := HSZ.out.ng; have := HNG.out; rw [IntKind.wrap_i64]; omega
     obtain ⟨x, hx⟩ : ∃ x, n.guards[b]? = some x := ⟨_, List.getElem?_eq_getElem (by rw [HNG.out]; exact hlt)⟩
     obtain ⟨g, m1, m2, e1, e2, _, k0, k1, k2, k3, k4⟩ := (HNET.out.more (by rw [HN.out]; exact hb)).grd hx
     have hxs := (HSZ.out.guards x (List.mem_of_getElem? hx)).1
     obtain ⟨lx, hlx⟩ : ∃ lx, x.length = lx := ⟨_, rfl⟩
     rw [hlx] at k0 k1 k2 hxs
     have z2 : IntKind.i64.wrap ((lx : Int) + 2) = (lx : Int) + 2 := by rw [IntKind.wrap_i64]; omega
     have z3 : IntKind.i64.wrap ((lx : Int) + 1) = (lx : Int) + 1 := by rw [IntKind.wrap_i64]; omega
     have s1 : (0 : Int) ≤ (lx : Int) := by omega
     have s2 : (lx : Int) < (lx : Int) + 2 := by omega
     have s3 : (lx : Int) + 1 < (lx : Int) + 2 := by omega
     have s4 : lx < lx + 2 := by omega
     have s5 : lx + 1 < lx + 2 := by omega
     have s6 : (0 : Int) ≤ (lx : Int) + 2 := by omega
     have s7 : (0 : Int) ≤ (lx : Int) + 1 := by omega
     have t1 : ((⟨#[98, 101, 104, 105, 110, 100, 32, 116, 104, 101, 32, 101, 110, 100]⟩ : ByteArray).toList != (⟨#[98, 101, 104, 105, 110, 100, 32, 116, 104, 101, 32, 101, 110, 100]⟩ : ByteArray).toList) = false := by rw [bne_eq_false_iff_eq]
     have t2 : ((⟨#[98, 101, 104, 105, 110, 100, 32, 116, 104, 101, 32, 101, 110, 100, 50]⟩ : ByteArray).toList != (⟨#[98, 101, 104, 105, 110, 100, 32, 116, 104, 101, 32, 101, 110, 100, 50]⟩ : ByteArray).toList) = false := by rw [bne_eq_false_iff_eq]
     unfold MARK at k3
     unfold MARK2 at k4
     have HI := Lib.hid (show b + 1 ≤ ng by omega)
     clear hb hk0 hi hlt hx hlx hxs
     go_wp2_with fail
     go_roundw
     case rel => exact ⟨HB.out, HK0.out, b + 1, by rfl, HI.out⟩
     case measure => have := HI.out; simp [intOf]; omega
    ·have p1 : decide ((b : Int) < (ng : Int)) = false := decide_eq_false (by omega)
     have p2 : decide (b < ng) = false := decide_eq_false hlt
     clear hb hk0 hi hlt
     go_wp2_with fail
     go_ret
     exact ⟨rfl, by rw [HN.out]; exact HB.out⟩
end Go.Proofs.YthnamoedpnknmaaGreatDoor

set_option linter.unusedVariables false
set_option linter.unusedSimpArgs false
set_option maxRecDepth 100000
set_option maxHeartbeats 8000000
namespace Go.Proofs.YthnamoedpnknmaaGreatDoor
open Go.RowKit
theorem RNetAt.outer {lo : Nat} {W : World} {n : Sp.Net} {g1 g2 g3 : Nat} (h : RNetAt lo W n g1 g2 g3) : ∃ m c m' c' m2 c2, W.cell? ⟨g1, n.ports.length * 4, none⟩ = some (.string MARK) ∧ W.cell? ⟨g2, n.tables.length, none⟩ = some (.slice (some ⟨m, 0, none⟩) 1 c) ∧ W.cell? ⟨m, 0, none⟩ = some (.string MARK) ∧
  W.cell? ⟨g3, n.guards.length, none⟩ = some (.slice (some ⟨m', 0, none⟩) 1 c') ∧ W.cell? ⟨m', 1, none⟩ = some (.slice (some ⟨m2, 0, none⟩) 1 c2) ∧ W.cell? ⟨m2, 0, none⟩ = some (.string MARK) := by
 obtain ⟨l1, l2, l3, ⟨f1, p1, p2⟩, ⟨f2, m, c, fm, q0, q1, q2, q3, q4⟩, ⟨f3, m', c', fm', m2, c2, r0, r0', r1, r2, r3, r4, r5⟩⟩ := h
 refine ⟨m, c, m', c', m2, c2, ?_, ?_, ?_, ?_, ?_, r5.cell (by omega)⟩
 ·rw [p1.1.cell (show n.ports.length * 4 < (n.ports.length + 1) * 4 by omega), p2]
 ·rw [q1.1.cell (show n.tables.length < n.tables.length + 1 by omega), q2]
 ·rw [q3.cell (show 0 < 5 by omega), q4]
 ·rw [r1.1.cell (show n.guards.length < n.guards.length + 1 by omega), r2]
 ·rw [r3.cell (show 1 < 2 by omega), r4]
theorem roomI_marks {W : World} {g : Nat} {l : List Int} (h : RoomI W g l.length l) : W.cell? ⟨g, 0 + l.length, none⟩ = some (.int .i64 (-4711)) ∧ W.cell? ⟨g, 0 + (l.length + 1), none⟩ = some (.int .i64 (-4712)) := by
 obtain ⟨f, h1, _, h2, h3⟩ := h
 rw [Nat.zero_add, Nat.zero_add, h1.cell (by omega), h1.cell (by omega), h2, h3]
 exact ⟨rfl, rfl⟩
theorem roomT_marks {W : World} {g : Nat} {l : List ByteArray} (h : RoomT W g l.length l) : W.cell? ⟨g, 0 + l.length, none⟩ = some (.string mark1) ∧ W.cell? ⟨g, 0 + (l.length + 1), none⟩ = some (.string mark2) := by
 obtain ⟨f, h1, _, h2, h3⟩ := h
 rw [Nat.zero_add, Nat.zero_add, h1.cell (by omega), h1.cell (by omega), h2, h3]
 exact ⟨rfl, rfl⟩
theorem ref9_Marked (lo : Nat) (n : Sp.Net) (g1 g2 g3 : Nat) (B1 B2 B3 : Option Addr) (d1 d2 d3 : Nat) (A1 A2 A3 : Option Addr) (c1 c2 c3 : Nat) (w : World) (hsz : Sp.SzdT n) (hnet : RNetAt lo w n g1 g2 g3)
  (hpk : PV w B1 n.ports) (htk : LView 1 (HTab lo) w B2 n.tables) (hgk : LView 1 (HGrd lo) w B3 n.guards) (hpv : PV w A1 n.ports) (htv : TTV w A2 n.tables) (hgv : GGV w A3 n.guards) :
  Calls Tryz.prog 14 #[.agg #[.int .i64 n.bits, .slice (some ⟨g1, 0, none⟩) n.ports.length (n.ports.length + 1), .slice (some ⟨g2, 0, none⟩) n.tables.length (n.tables.length + 1), .slice (some ⟨g3, 0, none⟩) n.guards.length (n.guards.length + 1)], .agg #[.int .i64 n.bits, .slice B1 n.ports.length d1, .slice B2 n.tables.length d2, .slice B3 n.guards.length d3], .agg #[.int .i64 n.bits, .slice A1 n.ports.length c1, .slice A2 n.tables.length c2, .slice A3 n.guards.length c3]] w fun r w' => r = .returned (.bool true) ∧ Below w.heap.size w w' := by
 obtain ⟨np, hnp⟩ : ∃ np, n.ports.length = np := ⟨_, rfl⟩
 obtain ⟨nt, hnt⟩ : ∃ nt, n.tables.length = nt := ⟨_, rfl⟩
 obtain ⟨ng, hng⟩ : ∃ ng, n.guards.length = ng := ⟨_, rfl⟩
 obtain ⟨bt, hbt⟩ : ∃ bt, n.bits = bt := ⟨_, rfl⟩
 obtain ⟨N, hN⟩ : ∃ N, w.heap.size = N := ⟨_, rfl⟩
 have htp : ∀ W, Below w.heap.size w W → TTV W B2 n.tables := fun W hW i a ha => by
  obtain ⟨g', o, cs', x1, x2, x3, x4, x5⟩ := (htk.more hW (fun _ _ h => h.more hW)) i a ha
  exact ⟨g', o, cs', x1, x2, x3, x4.plain, x5⟩
 have hgp : ∀ W, Below w.heap.size w W → GGV W B3 n.guards := fun W hW i a ha => by
  obtain ⟨g', o, cs', x1, x2, x3, x4, x5⟩ := (hgk.more hW (fun _ _ h => h.more hW)) i a ha
  exact ⟨g', o, cs', x1, x2, x3, x4.plain, x5⟩
 have hvn := hnet.held.plain
 have hvp : ∀ W, Below w.heap.size w W → PV W (some ⟨g1, 0, none⟩) n.ports ∧ TTV W (some ⟨g2, 0, none⟩) n.tables ∧ GGV W (some ⟨g3, 0, none⟩) n.guards := fun W hW => by
  obtain ⟨v1, v2, v3⟩ := (hnet.more hW).views
  refine ⟨v1, fun i a ha => ?_, fun i a ha => ?_⟩
  ·obtain ⟨g', o, cs', x1, x2, x3, x4, x5⟩ := v2 i a ha
   exact ⟨g', o, cs', x1, x2, x3, x4.plain, x5⟩
  ·obtain ⟨g', o, cs', x1, x2, x3, x4, x5⟩ := v3 i a ha
   exact ⟨g', o, cs', x1, x2, x3, x4.plain, x5⟩
 have hq1 := fun W (hW : Below w.heap.size w W) => ref9_Equal n (some ⟨g1, 0, none⟩) (some ⟨g2, 0, none⟩) (some ⟨g3, 0, none⟩) A1 A2 A3 (n.ports.length + 1) (n.tables.length + 1) (n.guards.length + 1) c1 c2 c3 W hsz (hvp W hW).1 (hvp W hW).2.1 (hvp W hW).2.2 (hpv.more hW) (htv.more hW) (hgv.more hW)
 have hq2 := fun W (hW : Below w.heap.size w W) => ref9_Equal n B1 B2 B3 A1 A2 A3 d1 d2 d3 c1 c2 c3 W hsz (hpk.more hW) (htp W hW) (hgp W hW) (hpv.more hW) (htv.more hW) (hgv.more hW)
 have hq3 := fun W (hW : Below w.heap.size w W) => ref9_markLists lo n g1 g2 g3 W hsz (hnet.more hW)
 rw [hnp, hnt, hng, hbt, hN] at hq1 hq2 hq3
 obtain ⟨W2, hW2⟩ : ∃ W2, ((w.alloc (.cells #[.int .i64 bt, .slice (some ⟨g1, 0, none⟩) np (np + 1), .slice (some ⟨g2, 0, none⟩) nt (nt + 1), .slice (some ⟨g3, 0, none⟩) ng (ng + 1)] 26)).alloc (.cells #[.int .i64 bt, .slice B1 np d1, .slice B2 nt d2, .slice B3 ng d3] 26)).alloc (.cells #[.int .i64 bt, .slice A1 np c1, .slice A2 nt c2, .slice A3 ng c3] 26) = W2 := ⟨_, rfl⟩
 have hb2 : Below N w W2 := by rw [← hW2, ← hN]; exact (((Below.refl _ _).alloc (Nat.le_refl _) _).alloc (by simp) _).alloc (by simp; omega) _
 have hk0 : Blk W2 N 26 #[.int .i64 bt, .slice (some ⟨g1, 0, none⟩) np (np + 1), .slice (some ⟨g2, 0, none⟩) nt (nt + 1), .slice (some ⟨g3, 0, none⟩) ng (ng + 1)] := by rw [← hW2, ← hN]; exact ((Blk.new _ _ _).alloc _).alloc _
 have hk1 : Blk W2 (N + 1) 26 #[.int .i64 bt, .slice B1 np d1, .slice B2 nt d2, .slice B3 ng d3] := by rw [← hW2, ← hN]; exact (blk_at9 (by simp)).alloc _
 have hk2 : Blk W2 (N + 1 + 1) 26 #[.int .i64 bt, .slice A1 np c1, .slice A2 nt c2, .slice A3 ng c3] := by rw [← hW2, ← hN]; exact blk_at9 (by simp)
 have m0 : W2.cell? ⟨N, 0, none⟩ = some (.int .i64 bt) := hk0.cell 0
 have m1 : W2.cell? ⟨N, 1, none⟩ = some (.slice (some ⟨g1, 0, none⟩) np (np + 1)) := hk0.cell 1
 have m2 : W2.cell? ⟨N, 2, none⟩ = some (.slice (some ⟨g2, 0, none⟩) nt (nt + 1)) := hk0.cell 2
 have m3 : W2.cell? ⟨N, 3, none⟩ = some (.slice (some ⟨g3, 0, none⟩) ng (ng + 1)) := hk0.cell 3
 have x0 : W2.cell? ⟨N + 1 + 1, 0, none⟩ = some (.int .i64 bt) := hk2.cell 0
 have x1 : W2.cell? ⟨N + 1 + 1, 1, none⟩ = some (.slice A1 np c1) := hk2.cell 1
 have x2 : W2.cell? ⟨N + 1 + 1, 2, none⟩ = some (.slice A2 nt c2) := hk2.cell 2
 have x3 : W2.cell? ⟨N + 1 + 1, 3, none⟩ = some (.slice A3 ng c3) := hk2.cell 3
 have HN := Lib.hid hN
 have HNP := Lib.hid hnp
 have HNT := Lib.hid hnt
 have HNG := Lib.hid hng
 have HSZ := Lib.hid hsz
 have HNET := Lib.hid hnet
 have HTK := Lib.hid htk
 have HGK := Lib.hid hgk
 have HQ1 := Lib.hid hq1
 have HQ2 := Lib.hid hq2
 have HQ3 := Lib.hid hq3
 have HB := Lib.hid hb2
 have HK0 := Lib.hid hk0
 have HK1 := Lib.hid hk1
 have HK2 := Lib.hid hk2
 rw [hnp, hnt, hng, hbt]
 clear hnp hnt hng hbt hsz hnet hpk htk hgk hpv htv hgv htp hgp hvn hvp hq1 hq2 hq3 hb2 hk0 hk1 hk2
 go_enter Tryz.func14, Tryz.ntmps14
 go_wp2_with fail
 refine (HQ1.out W2 HB.out).mono ?_
 rintro r W3 ⟨rfl, hb3⟩
 have hk1' := HK1.out.below hb3 HK1.out.lt
 have hk2' := HK2.out.below hb3 HK2.out.lt
 have HK0' := Lib.hid (HK0.out.below hb3 HK0.out.lt)
 have HB3 := Lib.hid (show Below N w W3 from HB.out.trans (hb3.mono (Nat.le_of_lt HK0.out.lt)))
 have a0 : W3.cell? ⟨N + 1, 0, none⟩ = some (.int .i64 bt) := hk1'.cell 0
 have a1 : W3.cell? ⟨N + 1, 1, none⟩ = some (.slice B1 np d1) := hk1'.cell 1
 have a2 : W3.cell? ⟨N + 1, 2, none⟩ = some (.slice B2 nt d2) := hk1'.cell 2
 have a3 : W3.cell? ⟨N + 1, 3, none⟩ = some (.slice B3 ng d3) := hk1'.cell 3
 have b0 : W3.cell? ⟨N + 1 + 1, 0, none⟩ = some (.int .i64 bt) := hk2'.cell 0
 have b1 : W3.cell? ⟨N + 1 + 1, 1, none⟩ = some (.slice A1 np c1) := hk2'.cell 1
 have b2 : W3.cell? ⟨N + 1 + 1, 2, none⟩ = some (.slice A2 nt c2) := hk2'.cell 2
 have b3 : W3.cell? ⟨N + 1 + 1, 3, none⟩ = some (.slice A3 ng c3) := hk2'.cell 3
 have HK1' := Lib.hid hk1'
 clear hb3 hk1' hk2' m0 m1 m2 m3 x0 x1 x2 x3 hW2 HB HK0 HK1 HK2
 go_wp2_with fail
 refine (HQ2.out W3 HB3.out).mono ?_
 rintro r W4 ⟨rfl, hb4⟩
 have hk0' := HK0'.out.below hb4 HK0'.out.lt
 have HK1 := Lib.hid (HK1'.out.below hb4 HK1'.out.lt)
 have HB := Lib.hid (show Below N w W4 from HB3.out.trans (hb4.mono (Nat.le_of_lt HK0'.out.lt)))
 have m0 : W4.cell? ⟨N, 0, none⟩ = some (.int .i64 bt) := hk0'.cell 0
 have m1 : W4.cell? ⟨N, 1, none⟩ = some (.slice (some ⟨g1, 0, none⟩) np (np + 1)) := hk0'.cell 1
 have m2 : W4.cell? ⟨N, 2, none⟩ = some (.slice (some ⟨g2, 0, none⟩) nt (nt + 1)) := hk0'.cell 2
 have m3 : W4.cell? ⟨N, 3, none⟩ = some (.slice (some ⟨g3, 0, none⟩) ng (ng + 1)) := hk0'.cell 3
 have HK0 := Lib.hid hk0'
 clear hb4 hk0' a0 a1 a2 a3 b0 b1 b2 b3 HK0' HK1' HB3
 go_wp2_with fail
 refine (HQ3.out W4 HB.out).mono ?_
 rintro r W5 ⟨rfl, hb5⟩
 have HK05 := Lib.hid (HK0.out.below hb5 HK0.out.lt)
 have HK15 := Lib.hid (HK1.out.below hb5 HK1.out.lt)
 have HB5 := Lib.hid (show Below N w W5 from HB.out.trans (hb5.mono (Nat.le_of_lt HK0.out.lt)))
 clear hb5 m0 m1 m2 m3 HK0 HK1 HB HQ1 HQ2 HQ3
 go_wp2_with fail
 go_loopw [7] (fun v7 wr => Below N w wr ∧ Blk wr N 26 #[.int .i64 bt, .slice (some ⟨g1, 0, none⟩) np (np + 1), .slice (some ⟨g2, 0, none⟩) nt (nt + 1), .slice (some ⟨g3, 0, none⟩) ng (ng + 1)] ∧ Blk wr (N + 1) 26 #[.int .i64 bt, .slice B1 np d1, .slice B2 nt d2, .slice B3 ng d3] ∧ ∃ b : Nat, v7 = .int .i64 (b : Int) ∧ b ≤ nt) (fun v7 _ => nt - (intOf v7).toNat)
 case atStart => exact ⟨HB5.out, HK05.out, HK15.out, 0, rfl, Nat.zero_le _⟩
 case round =>
  clear HB5 HK05 HK15
  obtain ⟨hb, hk0, hk1, b, rfl, hi⟩ := hrel
  obtain ⟨wb, hwb⟩ : ∃ wb, wb = wr := ⟨_, rfl⟩
  subst hwb
  have HB := Lib.hid hb
  have HK0 := Lib.hid hk0
  have HK1 := Lib.hid hk1
  have i0 : (0 : Int) ≤ (b : Int) := by omega
  have n1 : wb.cell? ⟨N + 1, 2, none⟩ = some (.slice B2 nt d2) := hk1.cell 2
  by_cases hlt : b < nt
  ·have p1 : decide ((b : Int) < (nt : Int)) = true := decide_eq_true (by omega)
   have p2 : decide (b < nt) = true := decide_eq_true hlt
   have p3 : (b : Int) < (nt : Int) := by omega
   have z1 : IntKind.i64.wrap ((b : Int) + 1) = (b : Int) + 1 := by have := HSZ.out.nt; have := HNT.out; rw [IntKind.wrap_i64]; omega
   obtain ⟨x, hx⟩ : ∃ x, n.tables[b]? = some x := ⟨_, List.getElem?_eq_getElem (by rw [HNT.out]; exact hlt)⟩
   obtain ⟨g, o, Ax, cx, rfl, hg, a0, hxv, _⟩ := htab_at HTK.out hx
   have hxs := HSZ.out.tables x (List.mem_of_getElem? hx)
   obtain ⟨lx, hlx⟩ : ∃ lx, x.length = lx := ⟨_, rfl⟩
   rw [hlx] at a0 hxs
   rw [HN.out] at hg
   have HLX := Lib.hid hlx
   have HXV := Lib.hid hxv
   have HXS := Lib.hid hxs
   have HG := Lib.hid hg
   have HA0 := Lib.hid a0
   have HI := Lib.hid (show b + 1 ≤ nt by omega)
   clear hb hk0 hk1 hi hlt hx hg a0 hxv hxs hlx
   go_wp2_with fail
   clear n1
   go_loopw [8] (fun v8 wr => Below N w wr ∧ Blk wr N 26 #[.int .i64 bt, .slice (some ⟨g1, 0, none⟩) np (np + 1), .slice (some ⟨g2, 0, none⟩) nt (nt + 1), .slice (some ⟨g3, 0, none⟩) ng (ng + 1)] ∧ Blk wr (N + 1) 26 #[.int .i64 bt, .slice B1 np d1, .slice (some ⟨g, o, none⟩) nt d2, .slice B3 ng d3] ∧ ∃ i : Nat, v8 = .int .i64 (i : Int) ∧ i ≤ lx) (fun v8 _ => lx - (intOf v8).toNat)
   case atStart => exact ⟨HB.out, HK0.out, HK1.out, 0, rfl, Nat.zero_le _⟩
   case round =>
    clear HB HK0 HK1
    obtain ⟨hb, hk0, hk1, i, rfl, hi⟩ := hrel
    have HB := Lib.hid hb
    have HK0 := Lib.hid hk0
    have HK1 := Lib.hid hk1
    have j0 : (0 : Int) ≤ (i : Int) := by omega
    have n1 : wr.cell? ⟨N + 1, 2, none⟩ = some (.slice (some ⟨g, o, none⟩) nt d2) := hk1.cell 2
    have k0 : wr.cell? ⟨g, o + b, none⟩ = some (.slice Ax lx cx) := (hb.cell (p := ⟨g, o + b, none⟩) HG.out).trans HA0.out
    by_cases hli : i < lx
    ·have s1 : decide ((i : Int) < (lx : Int)) = true := decide_eq_true (by omega)
     have s2 : decide (i < lx) = true := decide_eq_true hli
     have s3 : (i : Int) < (lx : Int) := by omega
     have z3 : IntKind.i64.wrap ((i : Int) + 1) = (i : Int) + 1 := by have := HXS.out.1; rw [IntKind.wrap_i64]; omega
     obtain ⟨y, hy⟩ : ∃ y, x[i]? = some y := ⟨_, List.getElem?_eq_getElem (by rw [HLX.out]; exact hli)⟩
     obtain ⟨gx, ox, e1, e2, e3, rfl, hgx, q0, q1, q2, q3, q4, r1, r2, r3, r4, r5, r6⟩ := rent_at HXV.out hy
     have hys := HXS.out.2 y (List.mem_of_getElem? hy)
     have hm1 := fun W (hW : Below N w W) => ref9_markInts e1 0 y.ins.length (y.ins.length + 2) W (Nat.le_refl _) (by omega) (roomI_marks (r4.keep (lo := 0) (KeepB.of_below (by rw [HN.out]; exact hW)) (Nat.zero_le _))).1 (roomI_marks (r4.keep (lo := 0) (KeepB.of_below (by rw [HN.out]; exact hW)) (Nat.zero_le _))).2
     have hm2 := fun W (hW : Below N w W) => ref9_markTexts e2 0 y.cubes.length (y.cubes.length + 2) W (Nat.le_refl _) (by omega) (roomT_marks (r5.keep (lo := 0) (KeepB.of_below (by rw [HN.out]; exact hW)) (Nat.zero_le _))).1 (roomT_marks (r5.keep (lo := 0) (KeepB.of_below (by rw [HN.out]; exact hW)) (Nat.zero_le _))).2
     have hm3 := fun W (hW : Below N w W) => ref9_markInts e3 0 y.outs.length (y.outs.length + 2) W (Nat.le_refl _) (by omega) (roomI_marks (r6.keep (lo := 0) (KeepB.of_below (by rw [HN.out]; exact hW)) (Nat.zero_le _))).1 (roomI_marks (r6.keep (lo := 0) (KeepB.of_below (by rw [HN.out]; exact hW)) (Nat.zero_le _))).2
     obtain ⟨yn, hyn⟩ : ∃ z, y.name = z := ⟨_, rfl⟩
     obtain ⟨yw, hyw⟩ : ∃ z, y.write = z := ⟨_, rfl⟩
     obtain ⟨y1, hy1⟩ : ∃ z, y.ins.length = z := ⟨_, rfl⟩
     obtain ⟨y2, hy2⟩ : ∃ z, y.cubes.length = z := ⟨_, rfl⟩
     obtain ⟨y3, hy3⟩ : ∃ z, y.outs.length = z := ⟨_, rfl⟩
     rw [hyn] at q0
     rw [hy1] at q1 hm1
     rw [hy2] at q2 hm2
     rw [hyw] at q3
     rw [hy3] at q4 hm3
     rw [HN.out] at hgx
     have u0 : wr.cell? ⟨gx, ox + i * 5, none⟩ = some (.string yn) := (hb.cell (p := ⟨gx, ox + i * 5, none⟩) hgx).trans q0
     have u1 : wr.cell? ⟨gx, ox + i * 5 + 1, none⟩ = some (.slice (some ⟨e1, 0, none⟩) y1 (y1 + 2)) := (hb.cell (p := ⟨gx, ox + i * 5 + 1, none⟩) hgx).trans q1
     have u2 : wr.cell? ⟨gx, ox + i * 5 + 2, none⟩ = some (.slice (some ⟨e2, 0, none⟩) y2 (y2 + 2)) := (hb.cell (p := ⟨gx, ox + i * 5 + 2, none⟩) hgx).trans q2
     have u3 : wr.cell? ⟨gx, ox + i * 5 + 3, none⟩ = some (.string yw) := (hb.cell (p := ⟨gx, ox + i * 5 + 3, none⟩) hgx).trans q3
     have u4 : wr.cell? ⟨gx, ox + i * 5 + 4, none⟩ = some (.slice (some ⟨e3, 0, none⟩) y3 (y3 + 2)) := (hb.cell (p := ⟨gx, ox + i * 5 + 4, none⟩) hgx).trans q4
     obtain ⟨M, hM⟩ : ∃ M, wr.heap.size = M := ⟨_, rfl⟩
     obtain ⟨WX, hWX⟩ : ∃ WX, wr.alloc (.cells #[.string yn, .slice (some ⟨e1, 0, none⟩) y1 (y1 + 2), .slice (some ⟨e2, 0, none⟩) y2 (y2 + 2), .string yw, .slice (some ⟨e3, 0, none⟩) y3 (y3 + 2)] 78) = WX := ⟨_, rfl⟩
     have hbX : Below M wr WX := by rw [← hWX, ← hM]; exact (Below.refl _ _).alloc (Nat.le_refl _) _
     have hkX : Blk WX M 78 #[.string yn, .slice (some ⟨e1, 0, none⟩) y1 (y1 + 2), .slice (some ⟨e2, 0, none⟩) y2 (y2 + 2), .string yw, .slice (some ⟨e3, 0, none⟩) y3 (y3 + 2)] := by rw [← hWX, ← hM]; exact Blk.new _ _ _
     have hlN := hk1.lt
     rw [hM] at hlN
     have v1 : WX.cell? ⟨M, 1, none⟩ = some (.slice (some ⟨e1, 0, none⟩) y1 (y1 + 2)) := hkX.cell 1
     have v2 : WX.cell? ⟨M, 2, none⟩ = some (.slice (some ⟨e2, 0, none⟩) y2 (y2 + 2)) := hkX.cell 2
     have v4 : WX.cell? ⟨M, 4, none⟩ = some (.slice (some ⟨e3, 0, none⟩) y3 (y3 + 2)) := hkX.cell 4
     have HBX := Lib.hid (show Below N w WX from hb.trans (hbX.mono (by omega)))
     have HK0X := Lib.hid (hk0.below hbX (by omega))
     have HK1X := Lib.hid (hk1.below hbX hlN)
     have HM1 := Lib.hid (hm1 WX HBX.out)
     have HM2 := Lib.hid (hm2 WX HBX.out)
     have HM3 := Lib.hid (hm3 WX HBX.out)
     have HJ := Lib.hid (show i + 1 ≤ lx by omega)
     clear hb hk0 hk1 hi hli hy hgx r1 r2 r3 r4 r5 r6 hys hm1 hm2 hm3 hyn hyw hy1 hy2 hy3 q0 q1 q2 q3 q4 hbX hkX hlN HB HK0 HK1
     go_wp2_with fail
     refine HM1.out.mono ?_
     rintro r _ ⟨rfl, rfl⟩
     go_wp2_with fail
     refine HM3.out.mono ?_
     rintro r _ ⟨rfl, rfl⟩
     go_wp2_with fail
     refine HM2.out.mono ?_
     rintro r _ ⟨rfl, rfl⟩
     go_wp2_with fail
     go_roundw
     case rel => exact ⟨HBX.out, HK0X.out, HK1X.out, i + 1, by rfl, HJ.out⟩
     case measure => have := HJ.out; simp [intOf]; omega
    ·have s1 : decide ((i : Int) < (lx : Int)) = false := decide_eq_false (by omega)
     have s2 : decide (i < lx) = false := decide_eq_false hli
     clear hb hk0 hk1 hi hli
     go_wp2_with fail
     go_roundw
     case rel => exact ⟨HB.out, HK0.out, HK1.out, b + 1, by rfl, HI.out⟩
     case measure => have := HI.out; simp [intOf]; omega
  ·have p1 : decide ((b : Int) < (nt : Int)) = false := decide_eq_false (by omega)
   have p2 : decide (b < nt) = false := decide_eq_false hlt
   obtain rfl : nt = b := by omega
   clear hb hk0 hk1 hi hlt
   go_wp2_with fail
   clear p1 p2 n1 i0
   go_loopw [10] (fun v10 wr => Below N w wr ∧ Blk wr N 26 #[.int .i64 bt, .slice (some ⟨g1, 0, none⟩) np (np + 1), .slice (some ⟨g2, 0, none⟩) nt (nt + 1), .slice (some ⟨g3, 0, none⟩) ng (ng + 1)] ∧ Blk wr (N + 1) 26 #[.int .i64 bt, .slice B1 np d1, .slice B2 nt d2, .slice B3 ng d3] ∧ ∃ b : Nat, v10 = .int .i64 (b : Int) ∧ b ≤ ng) (fun v10 _ => ng - (intOf v10).toNat)
   case atStart => exact ⟨HB.out, HK0.out, HK1.out, 0, rfl, Nat.zero_le _⟩
   case round =>
    clear HB HK0 HK1
    obtain ⟨hb, hk0, hk1, b, rfl, hi⟩ := hrel
    obtain ⟨wc, hwc⟩ : ∃ wc, wc = wr := ⟨_, rfl⟩
    subst hwc
    have HB := Lib.hid hb
    have HK0 := Lib.hid hk0
    have HK1 := Lib.hid hk1
    have i0 : (0 : Int) ≤ (b : Int) := by omega
    have n1 : wc.cell? ⟨N + 1, 3, none⟩ = some (.slice B3 ng d3) := hk1.cell 3
    by_cases hlt : b < ng
    ·have p1 : decide ((b : Int) < (ng : Int)) = true := decide_eq_true (by omega)
     have p2 : decide (b < ng) = true := decide_eq_true hlt
     have p3 : (b : Int) < (ng : Int) := by omega
     have z1 : IntKind.i64.wrap ((b : Int) + 1) = (b : Int) + 1 := by have := HSZ.out.ng; have := HNG.out; rw [IntKind.wrap_i64]; omega
     obtain ⟨x, hx⟩ : ∃ x, n.guards[b]? = some x := ⟨_, List.getElem?_eq_getElem (by rw [HNG.out]; exact hlt)⟩
     obtain ⟨g, o, Ax, cx, rfl, hg, a0, hxv, _⟩ := hgrd_at HGK.out hx
     have hxs := HSZ.out.guards x (List.mem_of_getElem? hx)
     obtain ⟨lx, hlx⟩ : ∃ lx, x.length = lx := ⟨_, rfl⟩
     rw [hlx] at a0 hxs
     rw [HN.out] at hg
     have HLX := Lib.hid hlx
     have HXV := Lib.hid hxv
     have HXS := Lib.hid hxs
     have HG := Lib.hid hg
     have HA0 := Lib.hid a0
     have HI := Lib.hid (show b + 1 ≤ ng by omega)
     clear hb hk0 hk1 hi hlt hx hg a0 hxv hxs hlx
     go_wp2_with fail
     clear n1
     go_loopw [11] (fun v11 wr => Below N w wr ∧ Blk wr N 26 #[.int .i64 bt, .slice (some ⟨g1, 0, none⟩) np (np + 1), .slice (some ⟨g2, 0, none⟩) nt (nt + 1), .slice (some ⟨g3, 0, none⟩) ng (ng + 1)] ∧ Blk wr (N + 1) 26 #[.int .i64 bt, .slice B1 np d1, .slice B2 nt d2, .slice (some ⟨g, o, none⟩) ng d3] ∧ ∃ i : Nat, v11 = .int .i64 (i : Int) ∧ i ≤ lx) (fun v11 _ => lx - (intOf v11).toNat)
     case atStart => exact ⟨HB.out, HK0.out, HK1.out, 0, rfl, Nat.zero_le _⟩
     case round =>
      clear HB HK0 HK1
      obtain ⟨hb, hk0, hk1, i, rfl, hi⟩ := hrel
      have HB := Lib.hid hb
      have HK0 := Lib.hid hk0
      have HK1 := Lib.hid hk1
      have j0 : (0 : Int) ≤ (i : Int) := by omega
      have n1 : wr.cell? ⟨N + 1, 3, none⟩ = some (.slice (some ⟨g, o, none⟩) ng d3) := hk1.cell 3
      have k0 : wr.cell? ⟨g, o + b, none⟩ = some (.slice Ax lx cx) := (hb.cell (p := ⟨g, o + b, none⟩) HG.out).trans HA0.out
      by_cases hli : i < lx
      ·have s1 : decide ((i : Int) < (lx : Int)) = true := decide_eq_true (by omega)
       have s2 : decide (i < lx) = true := decide_eq_true hli
       have s3 : (i : Int) < (lx : Int) := by omega
       have z3 : IntKind.i64.wrap ((i : Int) + 1) = (i : Int) + 1 := by have := HXS.out.1; rw [IntKind.wrap_i64]; omega
       obtain ⟨y, hy⟩ : ∃ y, x[i]? = some y := ⟨_, List.getElem?_eq_getElem (by rw [HLX.out]; exact hli)⟩
       obtain ⟨gx, ox, e1, rfl, hgx, q0, q1, r1, r2⟩ := rgrd_at HXV.out hy
       have hys := HXS.out.2 y (List.mem_of_getElem? hy)
       have hm1 := fun W (hW : Below N w W) => ref9_markTexts e1 0 y.cubes.length (y.cubes.length + 2) W (Nat.le_refl _) (by omega) (roomT_marks (r2.keep (lo := 0) (KeepB.of_below (by rw [HN.out]; exact hW)) (Nat.zero_le _))).1 (roomT_marks (r2.keep (lo := 0) (KeepB.of_below (by rw [HN.out]; exact hW)) (Nat.zero_le _))).2
       obtain ⟨y1, hy1⟩ : ∃ z, y.cubes.length = z := ⟨_, rfl⟩
       rw [hy1] at q1 hm1
       rw [HN.out] at hgx
       have u1 : wr.cell? ⟨gx, ox + i * 2 + 1, none⟩ = some (.slice (some ⟨e1, 0, none⟩) y1 (y1 + 2)) := (hb.cell (p := ⟨gx, ox + i * 2 + 1, none⟩) hgx).trans q1
       have HM1 := Lib.hid (hm1 wr hb)
       have HJ := Lib.hid (show i + 1 ≤ lx by omega)
       clear hb hk0 hk1 hi hli hy hgx r1 r2 hys hm1 hy1 q0 q1
       go_wp2_with fail
       refine HM1.out.mono ?_
       rintro r _ ⟨rfl, rfl⟩
       go_wp2_with fail
       go_roundw
       case rel => exact ⟨HB.out, HK0.out, HK1.out, i + 1, by rfl, HJ.out⟩
       case measure => have := HJ.out; simp [intOf]; omega
      ·have s1 : decide ((i : Int) < (lx : Int)) = false := decide_eq_false (by omega)
       have s2 : decide (i < lx) = false := decide_eq_false hli
       clear hb hk0 hk1 hi hli
       go_wp2_with fail
       go_roundw
       case rel => exact ⟨HB.out, HK0.out, HK1.out, b + 1, by rfl, HI.out⟩
       case measure => have := HI.out; simp [intOf]; omega
    ·have p1 : decide ((b : Int) < (ng : Int)) = false := decide_eq_false (by omega)
     have p2 : decide (b < ng) = false := decide_eq_false hlt
     obtain rfl : ng = b := by omega
     obtain ⟨m, e, m', e', m2, e2, o1, o2, o3, o4, o5, o6⟩ := (HNET.out.more (by rw [HN.out]; exact hb)).outer
     rw [HNP.out] at o1
     rw [HNT.out] at o2
     rw [HNG.out] at o4
     unfold MARK at o1 o3 o6
     have y1 : wc.cell? ⟨N, 1, none⟩ = some (.slice (some ⟨g1, 0, none⟩) np (np + 1)) := hk0.cell 1
     have y2 : wc.cell? ⟨N, 2, none⟩ = some (.slice (some ⟨g2, 0, none⟩) nt (nt + 1)) := hk0.cell 2
     have y3 : wc.cell? ⟨N, 3, none⟩ = some (.slice (some ⟨g3, 0, none⟩) ng (ng + 1)) := hk0.cell 3
     have s1 : (np : Int) < (np : Int) + 1 := by omega
     have s2 : (nt : Int) < (nt : Int) + 1 := by omega
     have s3 : (ng : Int) < (ng : Int) + 1 := by omega
     have s4 : np < np + 1 := by omega
     have s5 : nt < nt + 1 := by omega
     have s6 : ng < ng + 1 := by omega
     have s7 : (0 : Int) ≤ (np : Int) + 1 := by omega
     have s8 : (0 : Int) ≤ (nt : Int) + 1 := by omega
     have s9 : (0 : Int) ≤ (ng : Int) + 1 := by omega
     have z1 : IntKind.i64.wrap ((np : Int) + 1) = (np : Int) + 1 := by have := HSZ.out.np; have := HNP.out; rw [IntKind.wrap_i64]; omega
     have z2 : IntKind.i64.wrap ((nt : Int) + 1) = (nt : Int) + 1 := by have := HSZ.out.nt; have := HNT.out; rw [IntKind.wrap_i64]; omega
     have z3 : IntKind.i64.wrap ((ng : Int) + 1) = (ng : Int) + 1 := by have := HSZ.out.ng; have := HNG.out; rw [IntKind.wrap_i64]; omega
     have t1 : ((⟨#[98, 101, 104, 105, 110, 100, 32, 116, 104, 101, 32, 101, 110, 100]⟩ : ByteArray).toList == (⟨#[98, 101, 104, 105, 110, 100, 32, 116, 104, 101, 32, 101, 110, 100]⟩ : ByteArray).toList) = true := by rw [beq_iff_eq]
     clear hb hk0 hk1 hi hlt
     go_wp2_with fail
     go_ret
     exact ⟨rfl, by rw [HN.out]; exact HB.out⟩
end Go.Proofs.YthnamoedpnknmaaGreatDoor
