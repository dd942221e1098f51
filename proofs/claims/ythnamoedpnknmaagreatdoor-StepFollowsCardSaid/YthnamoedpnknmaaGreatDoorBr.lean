/-
 THE WALK of reachref10.Applied (chapter 10).
-/
import Derived.Test.YthnamoedpnknmaaGreatDoorBq
import Derived.Test.YthnamoedpnknmaaGreatDoorUw
import Derived.Test.YthnamoedpnknmaaGreatDoorAe
import Derived.Test.YthnamoedpnknmaaGreatDoorMw
set_option linter.unusedVariables false
set_option linter.unusedSimpArgs false
set_option maxRecDepth 100000
set_option maxHeartbeats 8000000
namespace Go.Proofs.YthnamoedpnknmaaGreatDoor
open Go.RowKit
namespace Sp
theorem fitN_eq0 {n : Net} {p : Nat} {q : Port} {h : ByteArray} {g : List Guard} {t : List Entry} (hg : n.guards[p]? = some g) (hq : n.ports[p]? = some q) (ht : n.tables[q.box.toNat]? = some t) : fitN n p h = if letsB g h = true then fitI t p h else -1 := by
 unfold fitN
 rw [hg, hq]
 simp only [List.getD_eq_getElem?_getD, ht]
 rfl
theorem fitsE2_of {n : Net} {p : Int} {h : ByteArray} (hn : NetOk n) (hs : StateOk n p h) {g : List Guard} (hg : g ∈ n.guards) : fitsE2 g h := by
 have h1 := hn.guards.1
 have h2 := len_le_sum hg
 refine ⟨fun l hl => ?_, by omega⟩
 have h3 := (hn.guards.2 g hg).2 l hl
 exact ⟨by have := h3.1; omega, fun c hc => cubeOk_size hs (h3.2 c hc)⟩
theorem bits_of {n : Net} {p : Int} {h : ByteArray} (hs : StateOk n p h) : ∀ k (hk : k < h.size), h[k] = 48 ∨ h[k] = 49 := fun k hk => hs.digits k _ (by rw [List.getElem?_eq_getElem (show k < h.data.toList.length from hk)]; rfl)
end Sp
theorem results_tc {P : Program} {fn : Func} {p q : Tmp} {ty : TypeId} (h : fn.results = #[.tmp p, .cell q ty]) (tmps : Array Value) (w : World) (g : Nat) (t : TypeId) (cs : Array Value) (d : TypeDesc)
  (hq : tmps.getD q undef = .pointer (some ⟨g, 0, none⟩)) (hg : w.heap[g]? = some (.cells cs t (0, 0)))
  (hu : P.underlying ty = some d) (hd : (match d with | .struct _ | .array _ _ => true | _ => false) = true) (hi : (P.info? ty).map (·.size) = some cs.size) :
  (results fn tmps).run P w = .ok (.tuple #[tmps.getD p undef, .agg cs]) w := by
 have hq' : tmps[q]?.getD undef = .pointer (some ⟨g, 0, none⟩) := by simpa using hq
 simp [results, h, hq', asAddr, run_loadVar_row w g t ty cs (0, 0) d hg hu hd hi, Sem.run_bind, Result.andThen]
theorem blk_set5 {w : World} {g : Nat} {t : TypeId} {a0 a1 a2 a3 a4 : Value} (h : Blk w g t #[a0, a1, a2, a3, a4]) (u0 u1 u2 u3 u4 : Value) : Blk (((((w.setCell ⟨g, 0, none⟩ u0).setCell ⟨g, 1, none⟩ u1).setCell ⟨g, 2, none⟩ u2).setCell ⟨g, 3, none⟩ u3).setCell ⟨g, 4, none⟩ u4) g t #[u0, u1, u2, u3, u4] := by
 have := ((((h.set_ 0 u0).set_ 1 u1).set_ 2 u2).set_ 3 u3).set_ 4 u4
 simpa using this
theorem below_set5 {B g : Nat} {a w : World} (h : Below B a w) (hg : B ≤ g) (u0 u1 u2 u3 u4 : Value) : Below B a (((((w.setCell ⟨g, 0, none⟩ u0).setCell ⟨g, 1, none⟩ u1).setCell ⟨g, 2, none⟩ u2).setCell ⟨g, 3, none⟩ u3).setCell ⟨g, 4, none⟩ u4) :=
 ((((h.setCell (p := ⟨g, 0, none⟩) hg u0).setCell (p := ⟨g, 1, none⟩) hg u1).setCell (p := ⟨g, 2, none⟩) hg u2).setCell (p := ⟨g, 3, none⟩) hg u3).setCell (p := ⟨g, 4, none⟩) hg u4
def AppEnd (n : Sp.Net) (p : Nat) (h : ByteArray) (q : Sp.Port) (t : List Sp.Entry) (w : World) (r : Ending) (w' : World) : Prop :=
 Below w.heap.size w w' ∧ ((Sp.fitN n p h < 0 ∧ r = .returned (.tuple #[.int .i64 (-1), .agg #[.string ⟨#[]⟩, .slice none 0 0, .slice none 0 0, .string ⟨#[]⟩, .slice none 0 0]])) ∨
  ∃ (k : Nat) (e : Sp.Entry) (B1 B2 B3 : Option Addr) (d1 d2 d3 : Nat), Sp.fitN n p h = (k : Int) ∧ t[k]? = some e ∧ r = .returned (.tuple #[.int .i64 (Sp.numB n q.box.toNat k : Int), .agg #[.string e.name, .slice B1 e.ins.length d1, .slice B2 e.cubes.length d2, .string e.write, .slice B3 e.outs.length d3]]) ∧ IV w B3 e.outs ∧ e.outs.length ≤ d3)
theorem ref10_Applied (n : Sp.Net) (A1 A2 A3 : Option Addr) (c1 c2 c3 : Nat) (p : Nat) (h : ByteArray) (q : Sp.Port) (g : List Sp.Guard) (t : List Sp.Entry) (w : World) (hpv : PV w A1 n.ports) (htv : TTV w A2 n.tables) (hgv : GGV w A3 n.guards) (hok : Sp.NetOk n) (hso : Sp.StateOk n p h) (hio : Sp.InOk n p h q g t) :
  Calls Tryz.prog 59 #[.agg #[.int .i64 n.bits, .slice A1 n.ports.length c1, .slice A2 n.tables.length c2, .slice A3 n.guards.length c3], .agg #[.int .i64 (p : Int), .string h]] w fun r w' => AppEnd n p h q t w r w' := by
 have hfit := Sp.fitN_eq0 (h := h) hio.hg hio.hq hio.ht
 have hf2 := Sp.fitsE2_of hok hso (List.mem_of_getElem? hio.hg)
 have hbit := Sp.bits_of hso
 have hsz : h.size ≤ 1000000 := by have h1 := hso.bits; have h2 := hok.bits.2; omega
 have hp0 : 0 < h.size := by have h1 := hso.bits; have h2 := hok.bits.1; omega
 have htok := hok.tables.2 q.box.toNat t hio.ht
 have h48 := hok.nports
 have h16 := hok.ntables
 have htl := hok.tables.1
 obtain ⟨g1, o1, rfl, hg1, _, a1, _, _⟩ := hpv.at hio.hq
 obtain ⟨g3, o3, Ag, cg, rfl, hg3, b0, hgl, _⟩ := hgv.at hio.hg
 obtain ⟨g2, o2, At, ct, rfl, hg2, d0, htl2, _⟩ := htv.at hio.ht
 obtain ⟨np, hnp⟩ : ∃ np, n.ports.length = np := ⟨_, rfl⟩
 obtain ⟨nt, hnt⟩ : ∃ nt, n.tables.length = nt := ⟨_, rfl⟩
 obtain ⟨ng, hng⟩ : ∃ ng, n.guards.length = ng := ⟨_, rfl⟩
 obtain ⟨b, hbb⟩ : ∃ b, n.bits = b := ⟨_, rfl⟩
 obtain ⟨mt, hmt⟩ : ∃ mt, t.length = mt := ⟨_, rfl⟩
 obtain ⟨mg, hmg⟩ : ∃ mg, g.length = mg := ⟨_, rfl⟩
 obtain ⟨bx, hbx⟩ : ∃ bx : Nat, q.box = (bx : Int) := ⟨q.box.toNat, by have := hio.hb; omega⟩
 have hbx2 : q.box.toNat = bx := by omega
 rw [hbx2] at d0 htok
 rw [hbx] at a1
 rw [hmt] at d0
 rw [hmg] at b0
 have hpn : p < np := by rw [← hnp]; exact (List.getElem?_eq_some_iff.1 hio.hq).1
 have hbn : bx < nt := by rw [← hnt, ← hbx2]; exact (List.getElem?_eq_some_iff.1 hio.ht).1
 have hpg : p < ng := by rw [← hng]; exact (List.getElem?_eq_some_iff.1 hio.hg).1
 have hmtl : mt ≤ 256 := by have := Sp.len_le_sum (List.mem_of_getElem? hio.ht); omega
 rw [hnp, hnt, hng, hbb]
 rw [hnp] at h48
 rw [hnt] at h16
 obtain ⟨N, hN⟩ : ∃ N, w.heap.size = N := ⟨_, rfl⟩
 obtain ⟨W3, hW3⟩ : ∃ W3, ((w.alloc (.cells #[.int .i64 b, .slice (some ⟨g1, o1, none⟩) np c1, .slice (some ⟨g2, o2, none⟩) nt c2, .slice (some ⟨g3, o3, none⟩) ng c3] 26)).alloc (.cells #[.int .i64 (p : Int), .string h] 28)).alloc (.cells #[.string ⟨#[]⟩, .slice none 0 0, .slice none 0 0, .string ⟨#[]⟩, .slice none 0 0] 78) = W3 := ⟨_, rfl⟩

 have hal : Below w.heap.size w W3 := by rw [← hW3]; exact (((Below.refl _ _).alloc (Nat.le_refl _) _).alloc (by simp) _).alloc (by simp; omega) _
 have hkn : Blk W3 N 26 #[.int .i64 b, .slice (some ⟨g1, o1, none⟩) np c1, .slice (some ⟨g2, o2, none⟩) nt c2, .slice (some ⟨g3, o3, none⟩) ng c3] := by rw [← hW3, ← hN]; exact ((Blk.new w _ _).alloc _).alloc _
 have hks : Blk W3 (N + 1) 28 #[.int .i64 (p : Int), .string h] := by
  have := (Blk.new (w.alloc (.cells #[.int .i64 b, .slice (some ⟨g1, o1, none⟩) np c1, .slice (some ⟨g2, o2, none⟩) nt c2, .slice (some ⟨g3, o3, none⟩) ng c3] 26)) 28 #[.int .i64 (p : Int), .string h]).alloc (.cells #[.string ⟨#[]⟩, .slice none 0 0, .slice none 0 0, .string ⟨#[]⟩, .slice none 0 0] 78)
  rw [World.size_alloc, hN] at this
  rw [← hW3]
  exact this
 have hke : Blk W3 (N + 1 + 1) 78 #[.string ⟨#[]⟩, .slice none 0 0, .slice none 0 0, .string ⟨#[]⟩, .slice none 0 0] := by
  have := Blk.new ((w.alloc (.cells #[.int .i64 b, .slice (some ⟨g1, o1, none⟩) np c1, .slice (some ⟨g2, o2, none⟩) nt c2, .slice (some ⟨g3, o3, none⟩) ng c3] 26)).alloc (.cells #[.int .i64 (p : Int), .string h] 28)) 78 #[.string ⟨#[]⟩, .slice none 0 0, .slice none 0 0, .string ⟨#[]⟩, .slice none 0 0]
  rw [World.size_alloc, World.size_alloc, hN] at this
  rw [← hW3]
  exact this
 rw [hN] at hal hg1 hg2 hg3
 have hs3 := hke.lt
 have n0 : W3.cell? ⟨N, 0, none⟩ = some (.int .i64 b) := hkn.cell 0
 have n1 : W3.cell? ⟨N, 1, none⟩ = some (.slice (some ⟨g1, o1, none⟩) np c1) := hkn.cell 1
 have n2 : W3.cell? ⟨N, 2, none⟩ = some (.slice (some ⟨g2, o2, none⟩) nt c2) := hkn.cell 2
 have n3 : W3.cell? ⟨N, 3, none⟩ = some (.slice (some ⟨g3, o3, none⟩) ng c3) := hkn.cell 3
 have s0 : W3.cell? ⟨N + 1, 0, none⟩ = some (.int .i64 (p : Int)) := hks.cell 0
 have s1 : W3.cell? ⟨N + 1, 1, none⟩ = some (.string h) := hks.cell 1
 have x1 : W3.cell? ⟨g1, o1 + p * 4 + 1, none⟩ = some (.int .i64 (bx : Int)) := (hal.cell (p := ⟨g1, o1 + p * 4 + 1, none⟩) hg1).trans a1
 have x3 : W3.cell? ⟨g3, o3 + p, none⟩ = some (.slice Ag mg cg) := (hal.cell (p := ⟨g3, o3 + p, none⟩) hg3).trans b0
 have x2 : W3.cell? ⟨g2, o2 + bx, none⟩ = some (.slice At mt ct) := (hal.cell (p := ⟨g2, o2 + bx, none⟩) hg2).trans d0
 have y1 : decide ((p : Int) < (np : Int)) = true := decide_eq_true (by omega)
 have y2 : decide (p < np) = true := decide_eq_true hpn
 have y3 : (p : Int) < (np : Int) := by omega
 have y4 : (0 : Int) ≤ (p : Int) := by omega
 have y5 : decide ((bx : Int) < (nt : Int)) = true := decide_eq_true (by omega)
 have y6 : decide (bx < nt) = true := decide_eq_true hbn
 have y7 : (bx : Int) < (nt : Int) := by omega
 have y8 : (0 : Int) ≤ (bx : Int) := by omega
 have y9 : decide ((p : Int) < (ng : Int)) = true := decide_eq_true (by omega)
 have y10 : decide (p < ng) = true := decide_eq_true hpg
 have y11 : (p : Int) < (ng : Int) := by omega
 have HN := Lib.hid hN
 have HW3 := Lib.hid hW3
 have HAL := Lib.hid hal
 have HKN := Lib.hid hkn
 have HKS := Lib.hid hks
 have HKE := Lib.hid hke
 have HG1 := Lib.hid hg1
 have HG2 := Lib.hid hg2
 have HG3 := Lib.hid hg3
 have HX1 := Lib.hid a1
 have HX2 := Lib.hid d0
 have HX3 := Lib.hid b0
 have HTV := Lib.hid htv
 have HGL := Lib.hid hgl
 have HTL := Lib.hid htl2
 have HIO := Lib.hid hio
 have HOK := Lib.hid hok
 have HSO := Lib.hid hso
 have HFIT := Lib.hid hfit
 have HF2 := Lib.hid hf2
 have HBIT := Lib.hid hbit
 have HHS := Lib.hid hsz
 have HP0 := Lib.hid hp0
 have HTOK := Lib.hid htok
 have HSUM := Lib.hid htl
 have HNT := Lib.hid hnt
 have HMT := Lib.hid hmt
 have HMG := Lib.hid hmg
 have HBX := Lib.hid hbx2
 have HBN := Lib.hid hbn
 have HMTL := Lib.hid hmtl
 have HS3 := Lib.hid hs3
 have HH16 := Lib.hid h16
 clear hpv htv hgv hok hso hio hfit hf2 hbit hsz hp0 htok hnp hnt hng hbb hmt hmg hbx hbx2 hal hkn hks hke hg1 hg2 hg3 a1 b0 d0 htl htl2 hgl h48 h16 hs3
 go_enter Tryz.func59, Tryz.ntmps59
 go_wp2_with fail
 clear hW3
 go_loop [7, 8] (fun v7 v8 => ∃ (i s : Nat), v8 = .int .i64 (i : Int) ∧ v7 = .int .i64 (s : Int) ∧ i ≤ bx ∧ s ≤ 256 ∧ Hid (s = ((n.tables.take i).map List.length).sum)) (fun _ v8 => bx - (intOf v8).toNat)
 case atStart => exact ⟨0, 0, rfl, rfl, Nat.zero_le _, by omega, Lib.hid (by simp)⟩
 case round =>
  obtain ⟨i, s, rfl, rfl, hi, hs, hsum⟩ := hrel
  have i0 : (0 : Int) ≤ (i : Int) := by omega
  by_cases hlt : i < bx
  ·have q1 : decide ((i : Int) < (bx : Int)) = true := decide_eq_true (by omega)
   have q2 : decide (i < bx) = true := decide_eq_true hlt
   have q3 : (i : Int) < (nt : Int) := by omega
   have q4 : decide ((i : Int) < (nt : Int)) = true := decide_eq_true q3
   have q5 : decide (i < nt) = true := decide_eq_true (by omega)
   have z1 : IntKind.i64.wrap ((i : Int) + 1) = (i : Int) + 1 := by have := HH16.out; rw [IntKind.wrap_i64]; omega
   obtain ⟨ti, hti⟩ : ∃ ti, n.tables[i]? = some ti := ⟨_, List.getElem?_eq_getElem (by rw [HNT.out]; omega)⟩
   obtain ⟨g', o', Ai, ci, eA, _, k0, _, _⟩ := HTV.out.at hti
   injection eA with eA
   injection eA with e1 e2
   subst e1 e2
   have k0 : W3.cell? ⟨g2, o2 + i, none⟩ = some (.slice Ai ti.length ci) := (HAL.out.cell (p := ⟨g2, o2 + i, none⟩) HG2.out).trans k0
   have hst := Sp.numB_step hti
   have hle := Sp.take_sum_le (l := n.tables) (i + 1)
   rw [hst, ← hsum.out] at hle
   obtain ⟨m, hm⟩ : ∃ m, ti.length = m := ⟨_, rfl⟩
   rw [hm] at k0 hle hst
   have HSB := Lib.hid (show s + m ≤ 256 by have := HSUM.out; omega)
   have HST := Lib.hid (show s + m = ((n.tables.take (i + 1)).map List.length).sum by rw [hst, ← hsum.out])
   have z2 : IntKind.i64.wrap ((s : Int) + (m : Int)) = (s : Int) + (m : Int) := by have := HSB.out; rw [IntKind.wrap_i64]; omega
   have HI := Lib.hid (show i + 1 ≤ bx by omega)
   clear hi hs hsum hlt hti hst hle hm
   go_wp2_with fail
   go_round
   case rel => exact ⟨i + 1, s + m, by rfl, by go_num, HI.out, HSB.out, HST⟩
   case measure => have := HI.out; simp [intOf]; omega
  ·have q1 : decide ((i : Int) < (bx : Int)) = false := decide_eq_false (by omega)
   have q2 : decide (i < bx) = false := decide_eq_false hlt
   obtain rfl : i = bx := by omega
   have HSI := Lib.hid hs
   have HSU := hsum
   clear hi hs hsum hlt
   go_wp2_with fail
   have hlets : ∀ W, Below N w W → Calls Tryz.prog 61 #[.slice Ag mg cg, .string h] W fun e w' => e = .returned (.bool (Sp.letsB g h)) ∧ Below W.heap.size W w' := fun W hW => by
    rw [← HMG.out]
    exact ref10_Lets Ag cg g h W (HGL.out.more (by rw [HN.out]; exact hW)) HF2.out HHS.out HP0.out HBIT.out
   obtain ⟨T, hT⟩ : ∃ T, Sp.letsB g h = T := ⟨_, rfl⟩
   simp only [hT] at hlets
   have HLETS := Lib.hid (hlets W3.drew HAL.out.drew)
   have HT := Lib.hid hT
   clear hlets hT
   refine wp_region_K 9 (fun w' => w'.cell? ⟨N, 3, none⟩ = some (.slice (some ⟨g3, o3, none⟩) ng c3) ∧ w'.cell? ⟨N + 1, 0, none⟩ = some (.int .i64 (p : Int)) ∧ w'.cell? ⟨N + 1, 1, none⟩ = some (.string h) ∧ w'.cell? ⟨g3, o3 + p, none⟩ = some (.slice Ag mg cg)) (by kernel_rfl) (fun hcl => ?_)
   have hS : (fun w' : World => w'.cell? ⟨N, 3, none⟩ = some (.slice (some ⟨g3, o3, none⟩) ng c3) ∧ w'.cell? ⟨N + 1, 0, none⟩ = some (.int .i64 (p : Int)) ∧ w'.cell? ⟨N + 1, 1, none⟩ = some (.string h) ∧ w'.cell? ⟨g3, o3 + p, none⟩ = some (.slice Ag mg cg)) W3.drew := ⟨n3, s0, s1, x3⟩
   refine tk 0 _ hcl hS (fun hcl2 => ?_)
   (try simp only [ly]); (try simp only [Act.put, pu]); clear hcl; have hcl := hcl2; clear hcl2
   refine tk 1 _ hcl hS (fun hcl2 => ?_)
   (try simp only [ly]); (try simp only [Act.put, pu]); clear hcl; have hcl := hcl2; clear hcl2
   refine tk 2 _ hcl hS (fun hcl2 => ?_)
   (try simp only [ly]); (try simp only [Act.put, pu]); clear hcl; have hcl := hcl2; clear hcl2
   refine tk 3 _ hcl hS (fun hcl2 => ?_)
   (try simp only [ly]); (try simp only [Act.put, pu]); clear hcl; have hcl := hcl2; clear hcl2
   refine tk 4 _ hcl hS (fun hcl2 => ?_)
   (try simp only [ly]); (try simp only [Act.put, pu]); clear hcl; have hcl := hcl2; clear hcl2
   refine tk 5 _ hcl hS (fun hcl2 => ?_)
   (try simp only [ly]); (try simp only [Act.put, pu]); clear hcl; have hcl := hcl2; clear hcl2
   refine tk 6 _ hcl hS (fun hcl2 => ?_)
   (try simp only [ly]); (try simp only [Act.put, pu]); clear hcl; have hcl := hcl2; clear hcl2
   refine tk 7 _ hcl hS (fun hcl2 => ?_)
   (try simp only [ly]); (try simp only [Act.put, pu]); clear hcl; have hcl := hcl2; clear hcl2
   refine wpAnyK_one (i := 8) hcl (by kernel_rfl) rfl (by rfl) (fun K hK => ?_)
   go_simp
   refine HLETS.out.mono ?_
   rintro r w4 ⟨rfl, hb4⟩
   have hb4' : Below (N + 3) W3 w4 := (Below.refl _ _).drew.trans (hb4.mono (by have := HS3.out; simp only [World.drew] at *; omega))
   have hb4w : Below N w w4 := HAL.out.trans (hb4'.mono (by omega))
   clear hS
   have hS : (fun w' : World => w'.cell? ⟨N, 3, none⟩ = some (.slice (some ⟨g3, o3, none⟩) ng c3) ∧ w'.cell? ⟨N + 1, 0, none⟩ = some (.int .i64 (p : Int)) ∧ w'.cell? ⟨N + 1, 1, none⟩ = some (.string h) ∧ w'.cell? ⟨g3, o3 + p, none⟩ = some (.slice Ag mg cg)) w4 := ⟨(HKN.out.below hb4' (by omega)).cell 3, (HKS.out.below hb4' (by omega)).cell 0, (HKS.out.below hb4' (by omega)).cell 1, (hb4w.cell (p := ⟨g3, o3 + p, none⟩) HG3.out).trans HX3.out⟩
   refine hK.out _ _ (Or.inr hS) (fun hcl2 => ?_)
   have HB4 := Lib.hid hb4'
   have HBW4 := Lib.hid hb4w
   clear hK K hcl hS hb4 hb4' hb4w
   have hcl := hcl2
   clear hcl2
   refine wpAnyK_one (i := 9) hcl (by kernel_rfl) rfl (by rfl) (fun K hK => ?_)
   go_simp
   refine hK.out _ _ (Or.inl (by kernel_rfl)) (fun hcl2 => ?_)
   clear hK K hcl hcl2
   refine wpAnyK_done (by kernel_rfl) ?_ _
   (try simp only [Act.put, pu])
   clear n0 n1 n2 n3 s0 s1 x1 x2 x3
   have n2 : w4.cell? ⟨N, 2, none⟩ = some (.slice (some ⟨g2, o2, none⟩) nt c2) := (HKN.out.below HB4.out (by omega)).cell 2
   have x2 : w4.cell? ⟨g2, o2 + i, none⟩ = some (.slice At mt ct) := (HBW4.out.cell (p := ⟨g2, o2 + i, none⟩) HG2.out).trans HX2.out
   cases T with
   | false =>
    have HFN := Lib.hid (show Sp.fitN n p h < 0 by rw [HFIT.out, HT.out]; simp)
    have hke4 := HKE.out.below HB4.out (by omega)
    have HKE4 := Lib.hid hke4
    have ec0 := hke4.cell 0
    have ec1 := hke4.cell 1
    have ec2 := hke4.cell 2
    have ec3 := hke4.cell 3
    have ec4 := hke4.cell 4
    have ef0 := hke4.frozen 0
    have ef1 := hke4.frozen 1
    have ef2 := hke4.frozen 2
    have ef3 := hke4.frozen 3
    have ef4 := hke4.frozen 4
    clear hke4
    go_wp2_with fail
    refine bodyPost_ret (results_tc rfl _ _ (N + 1 + 1) 78 #[.string ⟨#[]⟩, .slice none 0 0, .slice none 0 0, .string ⟨#[]⟩, .slice none 0 0] _ rfl (blk_set5 HKE4.out _ _ _ _ _) Tryz.underlying78 rfl (by kernel_rfl)) rfl ?_
    exact ⟨by rw [HN.out]; exact below_set5 HBW4.out (by omega) _ _ _ _ _, .inl ⟨HFN.out, rfl⟩⟩
   | true =>
    go_wp2_with fail
    clear n2 x2
    go_loopw [11, 12] (fun v11 v12 wr => Below (N + 3) W3 wr ∧ ∃ j : Nat, v11 = .int .i64 (j : Int) ∧ j ≤ mt ∧ Hid (∀ (k : Nat) (e : Sp.Entry), k < j → t[k]? = some e → Sp.fitsE e (p : Int) h = false)) (fun v11 _ _ => mt - (intOf v11).toNat)
    case atStart => exact ⟨HB4.out, 0, rfl, Nat.zero_le _, Lib.hid (fun k e hk => by omega)⟩
    case round =>
     clear HB4 HBW4
     obtain ⟨hb, j, rfl, hj, hno⟩ := hrel
     have hbw : Below N w wr := HAL.out.trans (hb.mono (by omega))
     have HB := Lib.hid hb
     have HBW := Lib.hid hbw
     have j0 : (0 : Int) ≤ (j : Int) := by omega
     by_cases hlt : j < mt
     ·have q1 : decide ((j : Int) < (mt : Int)) = true := decide_eq_true (by omega)
      have q2 : decide (j < mt) = true := decide_eq_true hlt
      have q3 : (j : Int) < (mt : Int) := by omega
      have z1 : IntKind.i64.wrap ((j : Int) + 1) = (j : Int) + 1 := by have := HMTL.out; rw [IntKind.wrap_i64]; omega
      have z2 : IntKind.i64.wrap ((s : Int) + (j : Int)) = (s : Int) + (j : Int) := by have := HMTL.out; have := HSI.out; rw [IntKind.wrap_i64]; omega
      obtain ⟨e, he⟩ : ∃ e, t[j]? = some e := ⟨_, List.getElem?_eq_getElem (by rw [HMT.out]; exact hlt)⟩
      obtain ⟨gx, ox, B1, d1, B2, d2, B3, d3, rfl, hgx, e0, e1, e2, e3, e4, hiv, hsv, hov, _, _, hd3⟩ := HTL.out.at he
      rw [HN.out] at hgx
      have hft := HIO.out.hft e (List.mem_of_getElem? he)
      have heok := HTOK.out.2 e (List.mem_of_getElem? he)
      have hin := ref10_in B1 d1 e.ins (p : Int) wr.drew (hiv.more (by rw [HN.out]; exact hbw.drew)) (by have := hft.1; omega)
      have hhas := ref10_has B2 d2 e.cubes h wr.drew (hsv.more (by rw [HN.out]; exact hbw.drew)) (fun c hc => Sp.cubeOk_size HSO.out (heok.cubes.2 c hc)) HHS.out (by have := heok.cubes.1; omega) HP0.out HBIT.out
      have hfe : Sp.fitsE e (p : Int) h = (Sp.memB e.ins (p : Int) && Sp.hasB e.cubes h) := rfl
      obtain ⟨T1, hT1⟩ : ∃ T1, Sp.memB e.ins (p : Int) = T1 := ⟨_, rfl⟩
      obtain ⟨T2, hT2⟩ : ∃ T2, Sp.hasB e.cubes h = T2 := ⟨_, rfl⟩
      obtain ⟨l1, hl1⟩ : ∃ l1, e.ins.length = l1 := ⟨_, rfl⟩
      obtain ⟨l2, hl2⟩ : ∃ l2, e.cubes.length = l2 := ⟨_, rfl⟩
      obtain ⟨l3, hl3⟩ : ∃ l3, e.outs.length = l3 := ⟨_, rfl⟩
      rw [hT1, hl1] at hin
      rw [hT2, hl2] at hhas
      rw [hT1, hT2] at hfe
      rw [hl1] at e1
      rw [hl2] at e2
      rw [hl3] at e4
      have HL1 := Lib.hid hl1
      have HL2 := Lib.hid hl2
      have HL3 := Lib.hid hl3
      have HOV := Lib.hid hov
      have HD3 := Lib.hid hd3
      have HIN := Lib.hid hin
      have HHAS := Lib.hid hhas
      have HFE := Lib.hid hfe
      have HX := Lib.hid he
      have HLT := Lib.hid hlt
      have HGX := Lib.hid hgx
      have HE0 := Lib.hid e0
      have HE1 := Lib.hid e1
      have HE2 := Lib.hid e2
      have HE3 := Lib.hid e3
      have HE4 := Lib.hid e4
      clear hb hbw hj hlt hgx hft heok hin hhas hfe hT1 hT2 hl1 hl2 hl3 hov hd3 e0 e1 e2 e3 e4 hiv hsv he
      go_wp2_with fail
      refine wp_region_K 18 (fun w' => w'.cell? ⟨N + 1, 0, none⟩ = some (.int .i64 (p : Int)) ∧ w'.cell? ⟨N + 1, 1, none⟩ = some (.string h) ∧ w'.cell? ⟨gx, ox + j * 5 + 1, none⟩ = some (.slice B1 l1 d1) ∧ w'.cell? ⟨gx, ox + j * 5 + 2, none⟩ = some (.slice B2 l2 d2)) (by kernel_rfl) (fun hcl => ?_)
      have hS : (fun w' : World => w'.cell? ⟨N + 1, 0, none⟩ = some (.int .i64 (p : Int)) ∧ w'.cell? ⟨N + 1, 1, none⟩ = some (.string h) ∧ w'.cell? ⟨gx, ox + j * 5 + 1, none⟩ = some (.slice B1 l1 d1) ∧ w'.cell? ⟨gx, ox + j * 5 + 2, none⟩ = some (.slice B2 l2 d2)) wr.drew := ⟨(HKS.out.below HB.out (by omega)).cell 0, (HKS.out.below HB.out (by omega)).cell 1, (HBW.out.cell (p := ⟨gx, ox + j * 5 + 1, none⟩) HGX.out).trans HE1.out, (HBW.out.cell (p := ⟨gx, ox + j * 5 + 2, none⟩) HGX.out).trans HE2.out⟩
      refine tk 0 _ hcl hS (fun hcl2 => ?_)
      (try simp only [ly]); (try simp only [Act.put, pu]); clear hcl; have hcl := hcl2; clear hcl2
      refine tk 1 _ hcl hS (fun hcl2 => ?_)
      (try simp only [ly]); (try simp only [Act.put, pu]); clear hcl; have hcl := hcl2; clear hcl2
      refine tk 2 _ hcl hS (fun hcl2 => ?_)
      (try simp only [ly]); (try simp only [Act.put, pu]); clear hcl; have hcl := hcl2; clear hcl2
      refine tk 3 _ hcl hS (fun hcl2 => ?_)
      (try simp only [ly]); (try simp only [Act.put, pu]); clear hcl; have hcl := hcl2; clear hcl2
      refine tk 4 _ hcl hS (fun hcl2 => ?_)
      (try simp only [ly]); (try simp only [Act.put, pu]); clear hcl; have hcl := hcl2; clear hcl2
      refine tk 5 _ hcl hS (fun hcl2 => ?_)
      (try simp only [ly]); (try simp only [Act.put, pu]); clear hcl; have hcl := hcl2; clear hcl2
      refine tk 6 _ hcl hS (fun hcl2 => ?_)
      (try simp only [ly]); (try simp only [Act.put, pu]); clear hcl; have hcl := hcl2; clear hcl2
      refine wpAnyK_one (i := 7) hcl (by kernel_rfl) rfl (by rfl) (fun K hK => ?_)
      go_simp
      refine HIN.out.mono ?_
      rintro r w5 ⟨rfl, rfl⟩
      refine hK.out _ _ (Or.inr hS) (fun hcl2 => ?_)
      clear hK K hcl
      have hcl := hcl2
      clear hcl2
      refine tk 8 _ hcl hS (fun hcl2 => ?_)
      (try simp only [ly]); (try simp only [Act.put, pu]); clear hcl; have hcl := hcl2; clear hcl2
      cases T1 with
      | false =>
       refine wpAnyK_pass3 (i := 9) hcl hS rfl (by kernel_rfl) (fun _ _ _ h => h) (by rfl) (fun hcl2 => ?_)
       (try simp only [ly])
       (try simp only [Act.put, pu])
       clear hcl; have hcl := hcl2; clear hcl2
       refine wpAnyK_pass3 (i := 10) hcl hS rfl (by kernel_rfl) (fun _ _ _ h => h) (by rfl) (fun hcl2 => ?_)
       (try simp only [ly])
       (try simp only [Act.put, pu])
       clear hcl; have hcl := hcl2; clear hcl2
       refine wpAnyK_pass3 (i := 11) hcl hS rfl (by kernel_rfl) (fun _ _ _ h => h) (by rfl) (fun hcl2 => ?_)
       (try simp only [ly])
       (try simp only [Act.put, pu])
       clear hcl; have hcl := hcl2; clear hcl2
       refine wpAnyK_pass3 (i := 12) hcl hS rfl (by kernel_rfl) (fun _ _ _ h => h) (by rfl) (fun hcl2 => ?_)
       (try simp only [ly])
       (try simp only [Act.put, pu])
       clear hcl; have hcl := hcl2; clear hcl2
       refine wpAnyK_pass3 (i := 13) hcl hS rfl (by kernel_rfl) (fun _ _ _ h => h) (by rfl) (fun hcl2 => ?_)
       (try simp only [ly])
       (try simp only [Act.put, pu])
       clear hcl; have hcl := hcl2; clear hcl2
       refine wpAnyK_pass3 (i := 14) hcl hS rfl (by kernel_rfl) (fun _ _ _ h => h) (by rfl) (fun hcl2 => ?_)
       (try simp only [ly])
       (try simp only [Act.put, pu])
       clear hcl; have hcl := hcl2; clear hcl2
       refine wpAnyK_pass3 (i := 15) hcl hS rfl (by kernel_rfl) (fun _ _ _ h => h) (by rfl) (fun hcl2 => ?_)
       (try simp only [ly])
       (try simp only [Act.put, pu])
       clear hcl; have hcl := hcl2; clear hcl2
       refine wpAnyK_pass3 (i := 16) hcl hS rfl (by kernel_rfl) (fun _ _ _ h => h) (by rfl) (fun hcl2 => ?_)
       (try simp only [ly])
       (try simp only [Act.put, pu])
       clear hcl; have hcl := hcl2; clear hcl2
       refine tk 17 _ hcl hS (fun hcl2 => ?_)
       (try simp only [ly]); (try simp only [Act.put, pu]); clear hcl; have hcl := hcl2; clear hcl2
       refine wpAnyK_one (i := 18) hcl (by kernel_rfl) rfl (by rfl) (fun K hK => ?_)
       go_simp
       refine hK.out _ _ (Or.inl (by kernel_rfl)) (fun hcl2 => ?_)
       clear hK K hcl hcl2 hS
       refine wpAnyK_done (by kernel_rfl) ?_ _
       (try simp only [Act.put, pu])
       have HNX := Lib.hid (show ∀ (k : Nat) (e : Sp.Entry), k < j + 1 → t[k]? = some e → Sp.fitsE e (p : Int) h = false by
        intro k e2 hk he2
        by_cases hkj : k = j
        ·subst hkj
         rw [HX.out] at he2
         injection he2 with he2
         rw [← he2, HFE.out]
         rfl
        ·exact hno.out k e2 (by omega) he2)
       clear hno
       go_wp2_with fail
       go_roundw
       case rel => exact ⟨HB.out.drew, j + 1, by rfl, HLT.out, HNX⟩
       case measure => have := HLT.out; simp [intOf]; omega
      | true =>
       refine tk 9 _ hcl hS (fun hcl2 => ?_)
       (try simp only [ly]); (try simp only [Act.put, pu]); clear hcl; have hcl := hcl2; clear hcl2
       refine tk 10 _ hcl hS (fun hcl2 => ?_)
       (try simp only [ly]); (try simp only [Act.put, pu]); clear hcl; have hcl := hcl2; clear hcl2
       refine tk 11 _ hcl hS (fun hcl2 => ?_)
       (try simp only [ly]); (try simp only [Act.put, pu]); clear hcl; have hcl := hcl2; clear hcl2
       refine tk 12 _ hcl hS (fun hcl2 => ?_)
       (try simp only [ly]); (try simp only [Act.put, pu]); clear hcl; have hcl := hcl2; clear hcl2
       refine tk 13 _ hcl hS (fun hcl2 => ?_)
       (try simp only [ly]); (try simp only [Act.put, pu]); clear hcl; have hcl := hcl2; clear hcl2
       refine tk 14 _ hcl hS (fun hcl2 => ?_)
       (try simp only [ly]); (try simp only [Act.put, pu]); clear hcl; have hcl := hcl2; clear hcl2
       refine tk 15 _ hcl hS (fun hcl2 => ?_)
       (try simp only [ly]); (try simp only [Act.put, pu]); clear hcl; have hcl := hcl2; clear hcl2
       refine wpAnyK_one (i := 16) hcl (by kernel_rfl) rfl (by rfl) (fun K hK => ?_)
       go_simp
       refine HHAS.out.mono ?_
       rintro r w5 ⟨rfl, hb5⟩
       have hb5' : Below (N + 3) W3 w5 := HB.out.drew.trans (hb5.mono (by have := HB.out.size; have := HS3.out; simp only [World.drew] at *; omega))
       have hb5w : Below N w w5 := HAL.out.trans (hb5'.mono (by omega))
       clear hS
       have hS : (fun w' : World => w'.cell? ⟨N + 1, 0, none⟩ = some (.int .i64 (p : Int)) ∧ w'.cell? ⟨N + 1, 1, none⟩ = some (.string h) ∧ w'.cell? ⟨gx, ox + j * 5 + 1, none⟩ = some (.slice B1 l1 d1) ∧ w'.cell? ⟨gx, ox + j * 5 + 2, none⟩ = some (.slice B2 l2 d2)) w5 := ⟨(HKS.out.below hb5' (by omega)).cell 0, (HKS.out.below hb5' (by omega)).cell 1, (hb5w.cell (p := ⟨gx, ox + j * 5 + 1, none⟩) HGX.out).trans HE1.out, (hb5w.cell (p := ⟨gx, ox + j * 5 + 2, none⟩) HGX.out).trans HE2.out⟩
       have HB5 := Lib.hid hb5'
       have HBW5 := Lib.hid hb5w
       refine hK.out _ _ (Or.inr hS) (fun hcl2 => ?_)
       clear hK K hcl hb5 hb5' hb5w
       have hcl := hcl2
       clear hcl2
       refine tk 17 _ hcl hS (fun hcl2 => ?_)
       (try simp only [ly]); (try simp only [Act.put, pu]); clear hcl; have hcl := hcl2; clear hcl2
       refine wpAnyK_one (i := 18) hcl (by kernel_rfl) rfl (by rfl) (fun K hK => ?_)
       go_simp
       refine hK.out _ _ (Or.inl (by kernel_rfl)) (fun hcl2 => ?_)
       clear hK K hcl hcl2 hS
       refine wpAnyK_done (by kernel_rfl) ?_ _
       (try simp only [Act.put, pu])
       cases T2 with
       | false =>
        have HNX := Lib.hid (show ∀ (k : Nat) (e : Sp.Entry), k < j + 1 → t[k]? = some e → Sp.fitsE e (p : Int) h = false by
         intro k e2 hk he2
         by_cases hkj : k = j
         ·subst hkj
          rw [HX.out] at he2
          injection he2 with he2
          rw [← he2, HFE.out]
          rfl
         ·exact hno.out k e2 (by omega) he2)
        clear hno
        go_wp2_with fail
        go_roundw
        case rel => exact ⟨HB5.out, j + 1, by rfl, HLT.out, HNX⟩
        case measure => have := HLT.out; simp [intOf]; omega
       | true =>
        have HFI := Lib.hid (show Sp.fitN n p h = (j : Int) by
         rw [HFIT.out, HT.out, if_pos rfl]
         exact Sp.idxF_yes HX.out HFE.out (fun k e2 hk he2 => hno.out k e2 hk he2))
        clear hno
        go_wp2_with fail
        have HE5 := Lib.hid (show w5.cell? ⟨gx, ox + j * 5, none⟩ = some (.string e.name) ∧ w5.cell? ⟨gx, ox + j * 5 + 1, none⟩ = some (.slice B1 l1 d1) ∧ w5.cell? ⟨gx, ox + j * 5 + 2, none⟩ = some (.slice B2 l2 d2) ∧ w5.cell? ⟨gx, ox + j * 5 + 3, none⟩ = some (.string e.write) ∧ w5.cell? ⟨gx, ox + j * 5 + 4, none⟩ = some (.slice B3 l3 d3) from ⟨(HBW5.out.cell (p := ⟨gx, ox + j * 5, none⟩) HGX.out).trans HE0.out, (HBW5.out.cell (p := ⟨gx, ox + j * 5 + 1, none⟩) HGX.out).trans HE1.out, (HBW5.out.cell (p := ⟨gx, ox + j * 5 + 2, none⟩) HGX.out).trans HE2.out, (HBW5.out.cell (p := ⟨gx, ox + j * 5 + 3, none⟩) HGX.out).trans HE3.out, (HBW5.out.cell (p := ⟨gx, ox + j * 5 + 4, none⟩) HGX.out).trans HE4.out⟩)
        refine wp_region_K 8 (fun w' => w'.cell? ⟨gx, ox + j * 5, none⟩ = some (.string e.name) ∧ w'.cell? ⟨gx, ox + j * 5 + 1, none⟩ = some (.slice B1 l1 d1) ∧ w'.cell? ⟨gx, ox + j * 5 + 2, none⟩ = some (.slice B2 l2 d2) ∧ w'.cell? ⟨gx, ox + j * 5 + 3, none⟩ = some (.string e.write) ∧ w'.cell? ⟨gx, ox + j * 5 + 4, none⟩ = some (.slice B3 l3 d3)) (by kernel_rfl) (fun hcl => ?_)
        have hS : (fun w' : World => w'.cell? ⟨gx, ox + j * 5, none⟩ = some (.string e.name) ∧ w'.cell? ⟨gx, ox + j * 5 + 1, none⟩ = some (.slice B1 l1 d1) ∧ w'.cell? ⟨gx, ox + j * 5 + 2, none⟩ = some (.slice B2 l2 d2) ∧ w'.cell? ⟨gx, ox + j * 5 + 3, none⟩ = some (.string e.write) ∧ w'.cell? ⟨gx, ox + j * 5 + 4, none⟩ = some (.slice B3 l3 d3)) w5.drew := HE5.out
        refine tk 0 _ hcl hS (fun hcl2 => ?_)
        (try simp only [ly]); (try simp only [Act.put, pu]); clear hcl; have hcl := hcl2; clear hcl2
        refine tk 1 _ hcl hS (fun hcl2 => ?_)
        (try simp only [ly]); (try simp only [Act.put, pu]); clear hcl; have hcl := hcl2; clear hcl2
        refine tk 2 _ hcl hS (fun hcl2 => ?_)
        (try simp only [ly]); (try simp only [Act.put, pu]); clear hcl; have hcl := hcl2; clear hcl2
        refine tk 3 _ hcl hS (fun hcl2 => ?_)
        (try simp only [ly]); (try simp only [Act.put, pu]); clear hcl; have hcl := hcl2; clear hcl2
        refine tk 4 _ hcl hS (fun hcl2 => ?_)
        (try simp only [ly]); (try simp only [Act.put, pu]); clear hcl; have hcl := hcl2; clear hcl2
        refine tk 5 _ hcl hS (fun hcl2 => ?_)
        (try simp only [ly]); (try simp only [Act.put, pu]); clear hcl; have hcl := hcl2; clear hcl2
        refine tk 6 _ hcl hS (fun hcl2 => ?_)
        (try simp only [ly]); (try simp only [Act.put, pu]); clear hcl; have hcl := hcl2; clear hcl2
        refine tk 7 _ hcl hS (fun hcl2 => ?_)
        (try simp only [ly]); (try simp only [Act.put, pu]); clear hcl; have hcl := hcl2; clear hcl2
        have hke4 := HKE.out.below HB5.out (by omega)
        have HKE4 := Lib.hid hke4
        have ec0 := hke4.cell 0
        have ec1 := hke4.cell 1
        have ec2 := hke4.cell 2
        have ec3 := hke4.cell 3
        have ec4 := hke4.cell 4
        have ef0 := hke4.frozen 0
        have ef1 := hke4.frozen 1
        have ef2 := hke4.frozen 2
        have ef3 := hke4.frozen 3
        have ef4 := hke4.frozen 4
        clear hke4
        clear hS
        refine wpAnyK_one (i := 8) hcl (by kernel_rfl) rfl (by rfl) (fun K hK => ?_)
        go_simp
        refine hK.out _ _ (Or.inl (by kernel_rfl)) (fun hcl2 => ?_)
        clear hK K hcl hcl2
        refine wpAnyK_done (by kernel_rfl) ?_ _
        (try simp only [Act.put, pu])
        go_wp2_with fail
        refine bodyPost_ret (results_tc rfl _ _ (N + 1 + 1) 78 #[.string e.name, .slice B1 l1 d1, .slice B2 l2 d2, .string e.write, .slice B3 l3 d3] _ rfl (blk_set5 (show Blk w5.drew _ _ _ from HKE4.out) _ _ _ _ _) Tryz.underlying78 rfl (by kernel_rfl)) rfl ?_
        refine ⟨by rw [HN.out]; exact below_set5 HBW5.out.drew (by omega) _ _ _ _ _, .inr ⟨j, e, B1, B2, B3, d1, d2, d3, HFI.out, HX.out, ?_, HOV.out, HD3.out⟩⟩
        rw [HL1.out, HL2.out, HL3.out, HBX.out]
        unfold Sp.numB
        rw [← HSU.out]
        exact congrArg (fun x : Int => Ending.returned (.tuple #[.int .i64 x, _])) (by omega)
     ·have q1 : decide ((j : Int) < (mt : Int)) = false := decide_eq_false (by omega)
      have q2 : decide (j < mt) = false := decide_eq_false hlt
      have HFN := Lib.hid (show Sp.fitN n p h < 0 by
       rw [HFIT.out, HT.out, if_pos rfl]
       rw [show Sp.fitI t (p : Int) h = -1 from Sp.idxF_no (fun k e he => hno.out k e (by have := (List.getElem?_eq_some_iff.1 he).1; rw [HMT.out] at this; omega) he)]
       omega)
      have hke4 := HKE.out.below HB.out (by omega)
      have HKE4 := Lib.hid hke4
      have ec0 := hke4.cell 0
      have ec1 := hke4.cell 1
      have ec2 := hke4.cell 2
      have ec3 := hke4.cell 3
      have ec4 := hke4.cell 4
      have ef0 := hke4.frozen 0
      have ef1 := hke4.frozen 1
      have ef2 := hke4.frozen 2
      have ef3 := hke4.frozen 3
      have ef4 := hke4.frozen 4
      clear hke4
      clear hb hbw hj hlt hno
      go_wp2_with fail
      refine bodyPost_ret (results_tc rfl _ _ (N + 1 + 1) 78 #[.string ⟨#[]⟩, .slice none 0 0, .slice none 0 0, .string ⟨#[]⟩, .slice none 0 0] _ rfl (blk_set5 HKE4.out _ _ _ _ _) Tryz.underlying78 rfl (by kernel_rfl)) rfl ?_
      exact ⟨by rw [HN.out]; exact below_set5 HBW.out (by omega) _ _ _ _ _, .inl ⟨HFN.out, rfl⟩⟩
end Go.Proofs.YthnamoedpnknmaaGreatDoor
