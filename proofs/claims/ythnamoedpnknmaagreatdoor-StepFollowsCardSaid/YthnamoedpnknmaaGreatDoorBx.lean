/-
  Texts joined: Bw Bx.
-/
import Derived.Test.YthnamoedpnknmaaGreatDoorBz

set_option linter.unusedVariables false
set_option linter.unusedSimpArgs false
set_option maxRecDepth 100000
set_option maxHeartbeats 4000000
namespace Go.Proofs.YthnamoedpnknmaaGreatDoor
open Go.RowKit
theorem ref9_roomGuard (A : Option Addr) (cap : Nat) (l : List Sp.Guard) (w : World) (hv : GV w A l) (hl : l.length ≤ 4398046511104) (hc : ∀ x ∈ l, x.cubes.length ≤ 8796093022208) :
  Calls Tryz.prog 34 #[.slice A l.length cap] w fun e w' => e = .returned (.slice (some ⟨w.heap.size, 0, none⟩) l.length (l.length + 2)) ∧ Below w.heap.size w w' ∧ RGrd w.heap.size w' l [.slice (some ⟨w.heap.size, 0, none⟩) l.length (l.length + 2)] := by
 obtain ⟨n, hn⟩ : ∃ n, l.length = n := ⟨_, rfl⟩
 rw [hn] at hl ⊢
 obtain ⟨N, hN⟩ : ∃ N, w.heap.size = N := ⟨_, rfl⟩
 have hmk2 := run_make_guards .i64 .i64 ((n : Int) + 2) (n + 2) (by omega) (by omega) w
 have k1 := rowIs_madeZ w #[.bool false, .slice none 0 0] ((n + 2) * 2) 81
 obtain ⟨W2, hW2⟩ : ∃ W2, w.alloc (.cells (madeCells #[.bool false, .slice none 0 0] ((n + 2) * 2)) 81) = W2 := ⟨_, rfl⟩
 have k2 : Below N w W2 := by rw [← hW2]; exact (Below.refl _ _).alloc (by omega) _
 have hsz : W2.heap.size = N + 1 := by rw [← hW2, World.size_alloc, hN]
 rw [hW2, hN] at hmk2 k1
 rw [hN]
 have HN := Lib.hid hN
 have HNL := Lib.hid hn
 have HV := Lib.hid hv
 have HC := Lib.hid hc
 have K1 := Lib.hid k1
 have K2 := Lib.hid k2
 have HSZ := Lib.hid hsz
 have HLN := Lib.hid hl
 have z0 : IntKind.i64.wrap ((n : Int) + 2) = (n : Int) + 2 := by rw [IntKind.wrap_i64]; omega
 clear hn hv hc hW2 k1 k2 hsz
 go_enter Tryz.func34, Tryz.ntmps34
 go_wp2_with fail
 clear hmk2
 go_loopw [4] (fun v4 wr => Below N w wr ∧ N + 1 ≤ wr.heap.size ∧ ∃ (i : Nat) (f : Nat → Value), v4 = .int .i64 (i : Int) ∧ i ≤ n ∧ Hid (RowOf 2 (RGrdR (N + 1)) wr 81 N ((n + 2) * 2) (l.take i) f)) (fun v4 _ => n - (intOf v4).toNat)
 case atStart => exact ⟨K2.out, by rw [HSZ.out]; exact Nat.le_refl _, 0, _, rfl, Nat.zero_le _, Lib.hid (RowOf.first l K1.out)⟩
 case round =>
  obtain ⟨hb, hs, i, f, rfl, hi, hrow⟩ := hrel
  have HROW0 := hrow
  have HB := Lib.hid hb
  have HS := Lib.hid hs
  have i0 : (0 : Int) ≤ (i : Int) := by omega
  by_cases hlt : i < n
  ·have p1 : decide ((i : Int) < (n : Int)) = true := decide_eq_true (by omega)
   have p2 : decide (i < n) = true := decide_eq_true hlt
   have p3 : (i : Int) < (n : Int) := by omega
   have p4 : (i : Int) < (n : Int) + 2 := by omega
   have p5 : i < n + 2 := by omega
   have p6 : decide ((i : Int) < (n : Int) + 2) = true := decide_eq_true p4
   have p7 : decide (i < n + 2) = true := decide_eq_true p5
   have z1 : IntKind.i64.wrap ((i : Int) + 1) = (i : Int) + 1 := by have := HLN.out; rw [IntKind.wrap_i64]; omega
   obtain ⟨x, hx⟩ : ∃ x, l[i]? = some x := ⟨_, List.getElem?_eq_getElem (by rw [HNL.out]; exact hlt)⟩
   obtain ⟨g, o, A1, c1, rfl, hg, a0, a1, hsv, _⟩ := (HV.out.more (by rw [HN.out]; exact hb)).at hx
   have hrt := ref9_roomTexts A1 c1 x.cubes wr.drew (SV.more hsv ((Below.refl _ _).drew)) (HC.out x (List.mem_of_getElem? hx))
   obtain ⟨lc, hlc⟩ : ∃ lc, x.cubes.length = lc := ⟨_, rfl⟩
   obtain ⟨pm, hpm⟩ : ∃ pm, x.permit = pm := ⟨_, rfl⟩
   rw [hlc] at a1 hrt
   rw [hpm] at a0
   have HRT := Lib.hid hrt
   have HX := Lib.hid hx
   have HG := Lib.hid hg
   have HA0 := Lib.hid a0
   have HA1 := Lib.hid a1
   have HROW := hrow
   have HLC := Lib.hid hlc
   have HPM := Lib.hid hpm
   have HI := Lib.hid (show i + 1 ≤ n by omega)
   clear hb hs hi hlt hx hg hsv hrt hlc hpm
   go_wp2_with fail
   refine wp_region_K 15 (fun w' => w'.cell? ⟨g, o + i * 2, none⟩ = some (.bool pm) ∧ w'.cell? ⟨g, o + i * 2 + 1, none⟩ = some (.slice A1 lc c1)) (by kernel_rfl) (fun hcl => ?_)
   have hS : (fun w' : World => w'.cell? ⟨g, o + i * 2, none⟩ = some (.bool pm) ∧ w'.cell? ⟨g, o + i * 2 + 1, none⟩ = some (.slice A1 lc c1)) wr.drew := ⟨a0, a1⟩
   refine tk 0 _ hcl hS (fun hcl2 => ?_)
   (try simp only [ly]); (try simp only [Act.put, pu]); clear hcl; have hcl := hcl2; clear hcl2
   refine tk 1 _ hcl hS (fun hcl2 => ?_)
   (try simp only [ly]); (try simp only [Act.put, pu]); clear hcl; have hcl := hcl2; clear hcl2
   refine tk 2 _ hcl hS (fun hcl2 => ?_)
   (try simp only [ly]); (try simp only [Act.put, pu]); clear hcl; have hcl := hcl2; clear hcl2
   refine tk 3 _ hcl hS (fun hcl2 => ?_)
   (try simp only [ly]); (try simp only [Act.put, pu]); clear hcl; have hcl := hcl2; clear hcl2
   refine tk 4 _ hcl hS (fun hcl2 => ?_)
   (try simp only [ly]); (try simp only [Act.put, pu]); clear hcl; have hcl := hcl2; clear hcl2
   refine tk 5 _ hcl hS (fun hcl2 => ?_)
   (try simp only [ly]); (try simp only [Act.put, pu]); clear hcl; have hcl := hcl2; clear hcl2
   refine tk 6 _ hcl hS (fun hcl2 => ?_)
   (try simp only [ly]); (try simp only [Act.put, pu]); clear hcl; have hcl := hcl2; clear hcl2
   refine tk 7 _ hcl hS (fun hcl2 => ?_)
   (try simp only [ly]); (try simp only [Act.put, pu]); clear hcl; have hcl := hcl2; clear hcl2
   refine tk 8 _ hcl hS (fun hcl2 => ?_)
   (try simp only [ly]); (try simp only [Act.put, pu]); clear hcl; have hcl := hcl2; clear hcl2
   refine tk 9 _ hcl hS (fun hcl2 => ?_)
   (try simp only [ly]); (try simp only [Act.put, pu]); clear hcl; have hcl := hcl2; clear hcl2
   refine tk 10 _ hcl hS (fun hcl2 => ?_)
   (try simp only [ly]); (try simp only [Act.put, pu]); clear hcl; have hcl := hcl2; clear hcl2
   refine tk 11 _ hcl hS (fun hcl2 => ?_)
   (try simp only [ly]); (try simp only [Act.put, pu]); clear hcl; have hcl := hcl2; clear hcl2
   refine wpAnyK_one (i := 12) hcl (by kernel_rfl) rfl (by rfl) (fun K hK => ?_)
   go_simp
   refine HRT.out.mono ?_
   rintro r w5 ⟨rfl, hb5, hroom⟩
   have hb5w : Below wr.heap.size wr w5 := (Below.refl wr.heap.size wr).drew.trans hb5
   have hbN : Below N w w5 := HB.out.trans (hb5w.mono (by have := HS.out; omega))
   have hrow5 := HROW.out.keep (lo := N) (KeepB.of_below hb5w) (Nat.le_refl _) (fun a cs h => RGrdR.keep h (KeepB.of_below hb5w))
   have hS5 : (fun w' : World => w'.cell? ⟨g, o + i * 2, none⟩ = some (.bool pm) ∧ w'.cell? ⟨g, o + i * 2 + 1, none⟩ = some (.slice A1 lc c1)) w5 := ⟨(hb5w.cell (p := ⟨g, o + i * 2, none⟩) HG.out).trans HA0.out, (hb5w.cell (p := ⟨g, o + i * 2 + 1, none⟩) HG.out).trans HA1.out⟩
   have HBN := Lib.hid hbN
   have HS5 := Lib.hid (show N + 1 ≤ w5.heap.size from Nat.le_trans HS.out hb5w.size)
   have HR5 := Lib.hid hrow5
   have HROOM := Lib.hid (show RoomT w5 wr.heap.size lc x.cubes from hroom)
   clear hS
   have hS := hS5
   refine hK.out _ _ (Or.inr hS) (fun hcl2 => ?_)
   clear hK K hcl hb5 hroom hb5w hbN hrow5 hS5
   have hcl := hcl2
   clear hcl2
   refine tk 13 _ hcl hS (fun hcl2 => ?_)
   (try simp only [ly]); (try simp only [Act.put, pu]); clear hcl; have hcl := hcl2; clear hcl2
   refine tk 14 _ hcl hS (fun hcl2 => ?_)
   (try simp only [ly]); (try simp only [Act.put, pu]); clear hcl; have hcl := hcl2; clear hcl2
   have c0 := HR5.out.1.cell (show i * 2 < (n + 2) * 2 by omega)
   have c1' := HR5.out.1.cell (show i * 2 + 1 < (n + 2) * 2 by omega)
   have f0 := HR5.out.1.frozen (i * 2)
   have f1 := HR5.out.1.frozen (i * 2 + 1)
   clear hS
   refine wpAnyK_one (i := 15) hcl (by kernel_rfl) rfl (by rfl) (fun K hK => ?_)
   go_simp
   refine hK.out _ _ (Or.inl (by kernel_rfl)) (fun hcl2 => ?_)
   clear hK K hcl hcl2
   refine wpAnyK_done (by kernel_rfl) ?_ _
   (try simp only [Act.put, pu])
   clear c0 c1' f0 f1
   have hkeep : KeepB (N + 1) w5 ((w5.setCell ⟨N, i * 2, none⟩ (.bool pm)).setCell ⟨N, i * 2 + 1, none⟩ (.slice (some ⟨wr.heap.size, 0, none⟩) lc (lc + 2))) := (KeepB.set w5 (a := ⟨N, i * 2, none⟩) (by show N < N + 1; omega) _).trans (KeepB.set _ (a := ⟨N, i * 2 + 1, none⟩) (by show N < N + 1; omega) _)
   have hsn := RowOf.snoc HR5.out (rowIs_set2 HR5.out.1 (i * 2) (.bool pm) (.slice (some ⟨wr.heap.size, 0, none⟩) lc (lc + 2))) (fun j hj => upd_out (Or.inl hj)) (fun a cs h => RGrdR.keep h hkeep) HX.out (cs := [.bool pm, .slice (some ⟨wr.heap.size, 0, none⟩) lc (lc + 2)]) rfl ⟨wr.heap.size, HS.out, by rw [HPM.out, HLC.out], by rw [HLC.out]; exact HROOM.out.keep hkeep HS.out⟩ (fun j u hj => upd_in hj)
   have HSN := Lib.hid hsn
   clear hkeep hsn
   go_wp2_with fail
   go_roundw
   case rel => exact ⟨(HBN.out.setCell (p := ⟨N, i * 2, none⟩) (Nat.le_refl _) _).setCell (p := ⟨N, i * 2 + 1, none⟩) (Nat.le_refl _) _, by rw [World.size_setCell, World.size_setCell]; exact HS5.out, i + 1, _, by rfl, HI.out, HSN⟩
   case measure => have := HI.out; simp [intOf]; omega
  ·have p1 : decide ((i : Int) < (n : Int)) = false := decide_eq_false (by omega)
   have p2 : decide (i < n) = false := decide_eq_false hlt
   obtain rfl : i = n := by omega
   obtain ⟨M, hM⟩ : ∃ M, wr.heap.size = M := ⟨_, rfl⟩
   have hMN : N + 1 ≤ M := by omega
   obtain ⟨W6, hW6⟩ : ∃ W6, wr.alloc (.cells #[.string ⟨#[98, 101, 104, 105, 110, 100, 32, 116, 104, 101, 32, 101, 110, 100]⟩] 9) = W6 := ⟨_, rfl⟩
   have hsz6 : W6.heap.size = M + 1 := by rw [← hW6, World.size_alloc, hM]
   have hb6 : Below M wr W6 := by rw [← hW6]; exact (Below.refl _ _).alloc (by omega) _
   have hrow6 := (HROW0.out).keep (lo := N) (KeepB.of_below (A := wr) (by rw [hM]; exact hb6)) (Nat.le_refl _) (fun a cs h => RGrdR.keep h (KeepB.of_below (A := wr) (by rw [hM]; exact hb6)))
   have c0 := hrow6.1.cell (show i * 2 < (i + 2) * 2 by omega)
   have c1' := hrow6.1.cell (show i * 2 + 1 < (i + 2) * 2 by omega)
   have f0 := hrow6.1.frozen (i * 2)
   have f1 := hrow6.1.frozen (i * 2 + 1)
   obtain ⟨W7, hW7⟩ : ∃ W7, ((W6.setCell ⟨N, i * 2, none⟩ (.bool false)).setCell ⟨N, i * 2 + 1, none⟩ (.slice (some ⟨M, 0, none⟩) 1 1)).alloc (.cells #[.string ⟨#[98, 101, 104, 105, 110, 100, 32, 116, 104, 101, 32, 101, 110, 100, 50]⟩] 9) = W7 := ⟨_, rfl⟩
   have p3 : (i : Int) < (i : Int) + 2 := by omega
   have p4 : i < i + 2 := by omega
   have p5 : (i : Int) + 1 < (i : Int) + 2 := by omega
   have p6 : i + 1 < i + 2 := by omega
   have z1 : IntKind.i64.wrap ((i : Int) + 1) = (i : Int) + 1 := by have := HLN.out; rw [IntKind.wrap_i64]; omega
   have hset := rowIs_set2 hrow6.1 (i * 2) (.bool false) (.slice (some ⟨M, 0, none⟩) 1 1)
   have hb7 : Below (M + 1) ((W6.setCell ⟨N, i * 2, none⟩ (.bool false)).setCell ⟨N, i * 2 + 1, none⟩ (.slice (some ⟨M, 0, none⟩) 1 1)) W7 := by rw [← hW7]; exact (Below.refl _ _).alloc (by rw [World.size_setCell, World.size_setCell, hsz6]; exact Nat.le_refl _) _
   have hset7 := hset.of_block (hb7.block N (by omega))
   have d0 := hset7.cell (show (i + 1) * 2 < (i + 2) * 2 by omega)
   have d1 := hset7.cell (show (i + 1) * 2 + 1 < (i + 2) * 2 by omega)
   have g0 := hset7.frozen ((i + 1) * 2)
   have g1 := hset7.frozen ((i + 1) * 2 + 1)
   have hset8 := rowIs_set2 hset7 ((i + 1) * 2) (.bool false) (.slice (some ⟨M + 1, 0, none⟩) 1 1)
   have q6 : KeepB (N + 1) wr W6 := KeepB.of_below (by rw [hM]; exact hb6)
   have q7 : KeepB (N + 1) W6 ((W6.setCell ⟨N, i * 2, none⟩ (.bool false)).setCell ⟨N, i * 2 + 1, none⟩ (.slice (some ⟨M, 0, none⟩) 1 1)) := (KeepB.set W6 (a := ⟨N, i * 2, none⟩) (by show N < N + 1; omega) _).trans (KeepB.set _ (a := ⟨N, i * 2 + 1, none⟩) (by show N < N + 1; omega) _)
   have q8 : KeepB (N + 1) ((W6.setCell ⟨N, i * 2, none⟩ (.bool false)).setCell ⟨N, i * 2 + 1, none⟩ (.slice (some ⟨M, 0, none⟩) 1 1)) W7 := KeepB.of_below (by rw [World.size_setCell, World.size_setCell, hsz6]; exact hb7)
   have q9 : KeepB (N + 1) W7 ((W7.setCell ⟨N, (i + 1) * 2, none⟩ (.bool false)).setCell ⟨N, (i + 1) * 2 + 1, none⟩ (.slice (some ⟨M + 1, 0, none⟩) 1 1)) := (KeepB.set W7 (a := ⟨N, (i + 1) * 2, none⟩) (by show N < N + 1; omega) _).trans (KeepB.set _ (a := ⟨N, (i + 1) * 2 + 1, none⟩) (by show N < N + 1; omega) _)
   have hM6 := heap_alloc_new wr (.cells #[.string ⟨#[98, 101, 104, 105, 110, 100, 32, 116, 104, 101, 32, 101, 110, 100]⟩] 9)
   rw [hW6, hM] at hM6
   have hM7 := heap_alloc_new ((W6.setCell ⟨N, i * 2, none⟩ (.bool false)).setCell ⟨N, i * 2 + 1, none⟩ (.slice (some ⟨M, 0, none⟩) 1 1)) (.cells #[.string ⟨#[98, 101, 104, 105, 110, 100, 32, 116, 104, 101, 32, 101, 110, 100, 50]⟩] 9)
   rw [hW7, World.size_setCell, World.size_setCell, hsz6] at hM7
   have hsz7 : W7.heap.size = M + 2 := by rw [← hW7, World.size_alloc, World.size_setCell, World.size_setCell, hsz6]
   have r1 : ((W7.setCell ⟨N, (i + 1) * 2, none⟩ (.bool false)).setCell ⟨N, (i + 1) * 2 + 1, none⟩ (.slice (some ⟨M + 1, 0, none⟩) 1 1)).rowIs M 9 1 (fun _ => .string MARK) := ⟨_, (((q7.trans q8).trans q9).same M (by omega) (by omega)).trans hM6, rfl, fun j hj => by have h0 : j = 0 := Nat.lt_one_iff.1 hj; subst h0; rfl⟩
   have r2 : ((W7.setCell ⟨N, (i + 1) * 2, none⟩ (.bool false)).setCell ⟨N, (i + 1) * 2 + 1, none⟩ (.slice (some ⟨M + 1, 0, none⟩) 1 1)).rowIs (M + 1) 9 1 (fun _ => .string MARK2) := ⟨_, (q9.same (M + 1) (by omega) (by omega)).trans hM7, rfl, fun j hj => by have h0 : j = 0 := Nat.lt_one_iff.1 hj; subst h0; rfl⟩
   have hb6N : Below N w W6 := HB.out.trans (hb6.mono (by omega))
   have hb6X : Below N w ((W6.setCell ⟨N, i * 2, none⟩ (.bool false)).setCell ⟨N, i * 2 + 1, none⟩ (.slice (some ⟨M, 0, none⟩) 1 1)) := (hb6N.setCell (p := ⟨N, i * 2, none⟩) (Nat.le_refl _) _).setCell (p := ⟨N, i * 2 + 1, none⟩) (Nat.le_refl _) _
   have hb7N : Below N ((W6.setCell ⟨N, i * 2, none⟩ (.bool false)).setCell ⟨N, i * 2 + 1, none⟩ (.slice (some ⟨M, 0, none⟩) 1 1)) W7 := hb7.mono (by omega)
   have hbl : Below N w ((W7.setCell ⟨N, (i + 1) * 2, none⟩ (.bool false)).setCell ⟨N, (i + 1) * 2 + 1, none⟩ (.slice (some ⟨M + 1, 0, none⟩) 1 1)) := ((hb6X.trans hb7N).setCell (p := ⟨N, (i + 1) * 2, none⟩) (Nat.le_refl _) _).setCell (p := ⟨N, (i + 1) * 2 + 1, none⟩) (Nat.le_refl _) _
   have hfin : RGrd N ((W7.setCell ⟨N, (i + 1) * 2, none⟩ (.bool false)).setCell ⟨N, (i + 1) * 2 + 1, none⟩ (.slice (some ⟨M + 1, 0, none⟩) 1 1)) l [.slice (some ⟨N, 0, none⟩) i (i + 2)] := by
    refine ⟨N, _, M, M + 1, 1, 1, Nat.le_refl _, by omega, by omega, by rw [HNL.out], ⟨by rw [HNL.out]; exact hset8, fun j a ha => ?_⟩, ?_, ?_, r1, r2⟩
    ·have hj : j < i := by have := (List.getElem?_eq_some_iff.1 ha).1; rw [HNL.out] at this; exact this
     obtain ⟨cs, h1, h2, h3⟩ := HROW0.out.2 j a (by rw [List.getElem?_take, if_pos hj]; exact ha)
     refine ⟨cs, h1, ?_, fun jj u hu => ?_⟩
     ·obtain ⟨gg, e1, e2, e3⟩ := RGrdR.keep h2 (((q6.trans q7).trans q8).trans q9)
      exact ⟨gg, by omega, e2, e3⟩
     ·have hjj : jj < 2 := by have := (List.getElem?_eq_some_iff.1 hu).1; omega
      rw [upd_out (Or.inl (by omega)), upd_out (Or.inl (by omega))]
      exact h3 jj u hu
    ·rw [HNL.out, upd_out (Or.inl (by omega))]
     exact upd_in (j := 1) rfl
    ·rw [HNL.out]
     exact upd_in (j := 1) rfl
   have HFIN := Lib.hid hfin
   have HBL := Lib.hid hbl
   clear hb6N hb6X hb7N hset8 q6 q7 q8 q9 hM6 hM7 hsz7 r1 r2 hbl hfin hset hb7 hset7 hrow6 hb6 hrow hs hb
   go_wp2_with fail
   go_ret
   exact ⟨by rfl, HBL.out, HFIN.out⟩
end Go.Proofs.YthnamoedpnknmaaGreatDoor

set_option linter.unusedVariables false
set_option linter.unusedSimpArgs false
set_option maxRecDepth 100000
set_option maxHeartbeats 4000000
namespace Go.Proofs.YthnamoedpnknmaaGreatDoor
open Go.RowKit
theorem ref9_roomTable (A : Option Addr) (cap : Nat) (l : List Sp.Entry) (w : World) (hv : EV w A l) (hl : l.length ≤ 2199023255552) (hc : ∀ x ∈ l, x.ins.length ≤ 17592186044416 ∧ x.cubes.length ≤ 8796093022208 ∧ x.outs.length ≤ 17592186044416) :
  Calls Tryz.prog 33 #[.slice A l.length cap] w fun e w' => e = .returned (.slice (some ⟨w.heap.size, 0, none⟩) l.length (l.length + 2)) ∧ Below w.heap.size w w' ∧ RTab w.heap.size w' l [.slice (some ⟨w.heap.size, 0, none⟩) l.length (l.length + 2)] := by
 obtain ⟨n, hn⟩ : ∃ n, l.length = n := ⟨_, rfl⟩
 rw [hn] at hl ⊢
 obtain ⟨N, hN⟩ : ∃ N, w.heap.size = N := ⟨_, rfl⟩
 have hmk2 := run_make_entries .i64 .i64 ((n : Int) + 2) (n + 2) (by omega) (by omega) w
 have k1 := rowIs_madeZ w #[.string ⟨#[]⟩, .slice none 0 0, .slice none 0 0, .string ⟨#[]⟩, .slice none 0 0] ((n + 2) * 5) 78
 obtain ⟨W2, hW2⟩ : ∃ W2, w.alloc (.cells (madeCells #[.string ⟨#[]⟩, .slice none 0 0, .slice none 0 0, .string ⟨#[]⟩, .slice none 0 0] ((n + 2) * 5)) 78) = W2 := ⟨_, rfl⟩
 have k2 : Below N w W2 := by rw [← hW2]; exact (Below.refl _ _).alloc (by omega) _
 have hsz : W2.heap.size = N + 1 := by rw [← hW2, World.size_alloc, hN]
 rw [hW2, hN] at hmk2 k1
 rw [hN]
 have HN := Lib.hid hN
 have HNL := Lib.hid hn
 have HV := Lib.hid hv
 have HC := Lib.hid hc
 have K1 := Lib.hid k1
 have K2 := Lib.hid k2
 have HSZ := Lib.hid hsz
 have HLN := Lib.hid hl
 have z0 : IntKind.i64.wrap ((n : Int) + 2) = (n : Int) + 2 := by rw [IntKind.wrap_i64]; omega
 clear hn hv hc hW2 k1 k2 hsz
 go_enter Tryz.func33, Tryz.ntmps33
 go_wp2_with fail
 clear hmk2
 go_loopw [4] (fun v4 wr => Below N w wr ∧ N + 1 ≤ wr.heap.size ∧ ∃ (i : Nat) (f : Nat → Value), v4 = .int .i64 (i : Int) ∧ i ≤ n ∧ Hid (RowOf 5 (REntR (N + 1)) wr 78 N ((n + 2) * 5) (l.take i) f)) (fun v4 _ => n - (intOf v4).toNat)
 case atStart => exact ⟨K2.out, by rw [HSZ.out]; exact Nat.le_refl _, 0, _, rfl, Nat.zero_le _, Lib.hid (RowOf.first l K1.out)⟩
 case round =>
  obtain ⟨hb, hs, i, f, rfl, hi, hrow⟩ := hrel
  have HROW0 := hrow
  have HB := Lib.hid hb
  have HS := Lib.hid hs
  have i0 : (0 : Int) ≤ (i : Int) := by omega
  by_cases hlt : i < n
  ·have p1 : decide ((i : Int) < (n : Int)) = true := decide_eq_true (by omega)
   have p2 : decide (i < n) = true := decide_eq_true hlt
   have p3 : (i : Int) < (n : Int) := by omega
   have p4 : (i : Int) < (n : Int) + 2 := by omega
   have p5 : i < n + 2 := by omega
   have p6 : decide ((i : Int) < (n : Int) + 2) = true := decide_eq_true p4
   have p7 : decide (i < n + 2) = true := decide_eq_true p5
   have z1 : IntKind.i64.wrap ((i : Int) + 1) = (i : Int) + 1 := by have := HLN.out; rw [IntKind.wrap_i64]; omega
   obtain ⟨x, hx⟩ : ∃ x, l[i]? = some x := ⟨_, List.getElem?_eq_getElem (by rw [HNL.out]; exact hlt)⟩
   obtain ⟨g, o, A1, c1, A2, c2, A3, c3, rfl, hg, a0, a1, a2, a3, a4, hiv, hsv, hov, _, _, _⟩ := (HV.out.more (by rw [HN.out]; exact hb)).at hx
   obtain ⟨l1, hl1⟩ : ∃ l1, x.ins.length = l1 := ⟨_, rfl⟩
   obtain ⟨l2, hl2⟩ : ∃ l2, x.cubes.length = l2 := ⟨_, rfl⟩
   obtain ⟨l3, hl3⟩ : ∃ l3, x.outs.length = l3 := ⟨_, rfl⟩
   have hcx := HC.out x (List.mem_of_getElem? hx)
   have hr1 := fun W (hW : Below wr.heap.size wr W) => ref9_roomInts A1 c1 x.ins W (hiv.more hW) hcx.1
   have hr2 := fun W (hW : Below wr.heap.size wr W) => ref9_roomTexts A2 c2 x.cubes W (hsv.more hW) hcx.2.1
   have hr3 := fun W (hW : Below wr.heap.size wr W) => ref9_roomInts A3 c3 x.outs W (hov.more hW) hcx.2.2
   rw [hl1] at a1 hr1
   rw [hl2] at a2 hr2
   rw [hl3] at a4 hr3
   have hsw : ∀ W, Below wr.heap.size wr W → (fun w' : World => w'.cell? ⟨g, o + i * 5, none⟩ = some (.string x.name) ∧ w'.cell? ⟨g, o + i * 5 + 1, none⟩ = some (.slice A1 l1 c1) ∧ w'.cell? ⟨g, o + i * 5 + 2, none⟩ = some (.slice A2 l2 c2) ∧ w'.cell? ⟨g, o + i * 5 + 3, none⟩ = some (.string x.write) ∧ w'.cell? ⟨g, o + i * 5 + 4, none⟩ = some (.slice A3 l3 c3)) W := fun W hW => ⟨(hW.cell (p := ⟨g, o + i * 5, none⟩) hg).trans a0, (hW.cell (p := ⟨g, o + i * 5 + 1, none⟩) hg).trans a1, (hW.cell (p := ⟨g, o + i * 5 + 2, none⟩) hg).trans a2, (hW.cell (p := ⟨g, o + i * 5 + 3, none⟩) hg).trans a3, (hW.cell (p := ⟨g, o + i * 5 + 4, none⟩) hg).trans a4⟩
   have HSW := Lib.hid hsw
   have HR1 := Lib.hid hr1
   have HR2 := Lib.hid hr2
   have HR3 := Lib.hid hr3
   have HL1 := Lib.hid hl1
   have HL2 := Lib.hid hl2
   have HL3 := Lib.hid hl3
   have HX := Lib.hid hx
   have HROW := hrow
   have HI := Lib.hid (show i + 1 ≤ n by omega)
   clear hb hs hi hlt hx hg hiv hsv hov hl1 hl2 hl3 hr1 hr2 hr3 hcx hsw
   go_wp2_with fail
   refine wp_region_K 32 (fun w' => w'.cell? ⟨g, o + i * 5, none⟩ = some (.string x.name) ∧ w'.cell? ⟨g, o + i * 5 + 1, none⟩ = some (.slice A1 l1 c1) ∧ w'.cell? ⟨g, o + i * 5 + 2, none⟩ = some (.slice A2 l2 c2) ∧ w'.cell? ⟨g, o + i * 5 + 3, none⟩ = some (.string x.write) ∧ w'.cell? ⟨g, o + i * 5 + 4, none⟩ = some (.slice A3 l3 c3)) (by kernel_rfl) (fun hcl => ?_)
   have hS : (fun w' : World => w'.cell? ⟨g, o + i * 5, none⟩ = some (.string x.name) ∧ w'.cell? ⟨g, o + i * 5 + 1, none⟩ = some (.slice A1 l1 c1) ∧ w'.cell? ⟨g, o + i * 5 + 2, none⟩ = some (.slice A2 l2 c2) ∧ w'.cell? ⟨g, o + i * 5 + 3, none⟩ = some (.string x.write) ∧ w'.cell? ⟨g, o + i * 5 + 4, none⟩ = some (.slice A3 l3 c3)) wr.drew := ⟨a0, a1, a2, a3, a4⟩
   refine tk 0 _ hcl hS (fun hcl2 => ?_)
   (try simp only [ly]); (try simp only [Act.put, pu]); clear hcl; have hcl := hcl2; clear hcl2
   refine tk 1 _ hcl hS (fun hcl2 => ?_)
   (try simp only [ly]); (try simp only [Act.put, pu]); clear hcl; have hcl := hcl2; clear hcl2
   refine tk 2 _ hcl hS (fun hcl2 => ?_)
   (try simp only [ly]); (try simp only [Act.put, pu]); clear hcl; have hcl := hcl2; clear hcl2
   refine tk 3 _ hcl hS (fun hcl2 => ?_)
   (try simp only [ly]); (try simp only [Act.put, pu]); clear hcl; have hcl := hcl2; clear hcl2
   refine tk 4 _ hcl hS (fun hcl2 => ?_)
   (try simp only [ly]); (try simp only [Act.put, pu]); clear hcl; have hcl := hcl2; clear hcl2
   refine tk 5 _ hcl hS (fun hcl2 => ?_)
   (try simp only [ly]); (try simp only [Act.put, pu]); clear hcl; have hcl := hcl2; clear hcl2
   refine tk 6 _ hcl hS (fun hcl2 => ?_)
   (try simp only [ly]); (try simp only [Act.put, pu]); clear hcl; have hcl := hcl2; clear hcl2
   refine tk 7 _ hcl hS (fun hcl2 => ?_)
   (try simp only [ly]); (try simp only [Act.put, pu]); clear hcl; have hcl := hcl2; clear hcl2
   refine tk 8 _ hcl hS (fun hcl2 => ?_)
   (try simp only [ly]); (try simp only [Act.put, pu]); clear hcl; have hcl := hcl2; clear hcl2
   refine tk 9 _ hcl hS (fun hcl2 => ?_)
   (try simp only [ly]); (try simp only [Act.put, pu]); clear hcl; have hcl := hcl2; clear hcl2
   refine tk 10 _ hcl hS (fun hcl2 => ?_)
   (try simp only [ly]); (try simp only [Act.put, pu]); clear hcl; have hcl := hcl2; clear hcl2
   refine tk 11 _ hcl hS (fun hcl2 => ?_)
   (try simp only [ly]); (try simp only [Act.put, pu]); clear hcl; have hcl := hcl2; clear hcl2
   refine tk 13 _ hcl hS (fun hcl2 => ?_)
   (try simp only [ly]); (try simp only [Act.put, pu]); clear hcl; have hcl := hcl2; clear hcl2
   refine tk 14 _ hcl hS (fun hcl2 => ?_)
   (try simp only [ly]); (try simp only [Act.put, pu]); clear hcl; have hcl := hcl2; clear hcl2
   refine tk 15 _ hcl hS (fun hcl2 => ?_)
   (try simp only [ly]); (try simp only [Act.put, pu]); clear hcl; have hcl := hcl2; clear hcl2
   refine tk 16 _ hcl hS (fun hcl2 => ?_)
   (try simp only [ly]); (try simp only [Act.put, pu]); clear hcl; have hcl := hcl2; clear hcl2
   refine tk 17 _ hcl hS (fun hcl2 => ?_)
   (try simp only [ly]); (try simp only [Act.put, pu]); clear hcl; have hcl := hcl2; clear hcl2
   refine tk 19 _ hcl hS (fun hcl2 => ?_)
   (try simp only [ly]); (try simp only [Act.put, pu]); clear hcl; have hcl := hcl2; clear hcl2
   refine tk 20 _ hcl hS (fun hcl2 => ?_)
   (try simp only [ly]); (try simp only [Act.put, pu]); clear hcl; have hcl := hcl2; clear hcl2
   refine tk 21 _ hcl hS (fun hcl2 => ?_)
   (try simp only [ly]); (try simp only [Act.put, pu]); clear hcl; have hcl := hcl2; clear hcl2
   refine tk 22 _ hcl hS (fun hcl2 => ?_)
   (try simp only [ly]); (try simp only [Act.put, pu]); clear hcl; have hcl := hcl2; clear hcl2
   refine tk 23 _ hcl hS (fun hcl2 => ?_)
   (try simp only [ly]); (try simp only [Act.put, pu]); clear hcl; have hcl := hcl2; clear hcl2
   refine tk 24 _ hcl hS (fun hcl2 => ?_)
   (try simp only [ly]); (try simp only [Act.put, pu]); clear hcl; have hcl := hcl2; clear hcl2
   refine tk 25 _ hcl hS (fun hcl2 => ?_)
   (try simp only [ly]); (try simp only [Act.put, pu]); clear hcl; have hcl := hcl2; clear hcl2
   refine tk 26 _ hcl hS (fun hcl2 => ?_)
   (try simp only [ly]); (try simp only [Act.put, pu]); clear hcl; have hcl := hcl2; clear hcl2
   refine tk 27 _ hcl hS (fun hcl2 => ?_)
   (try simp only [ly]); (try simp only [Act.put, pu]); clear hcl; have hcl := hcl2; clear hcl2
   refine tk 28 _ hcl hS (fun hcl2 => ?_)
   (try simp only [ly]); (try simp only [Act.put, pu]); clear hcl; have hcl := hcl2; clear hcl2
   refine wpAnyK_one (i := 12) hcl (by kernel_rfl) rfl (by rfl) (fun K hK => ?_)
   go_simp
   refine (HR1.out _ ((Below.refl _ _).drew)).mono ?_
   rintro r w5 ⟨rfl, hb5, hroom1⟩
   have Hw5 := Lib.hid (show Below wr.heap.size wr w5 from (Below.refl wr.heap.size wr).drew.trans hb5)
   clear hS hb5
   have hS : (fun w' : World => w'.cell? ⟨g, o + i * 5, none⟩ = some (.string x.name) ∧ w'.cell? ⟨g, o + i * 5 + 1, none⟩ = some (.slice A1 l1 c1) ∧ w'.cell? ⟨g, o + i * 5 + 2, none⟩ = some (.slice A2 l2 c2) ∧ w'.cell? ⟨g, o + i * 5 + 3, none⟩ = some (.string x.write) ∧ w'.cell? ⟨g, o + i * 5 + 4, none⟩ = some (.slice A3 l3 c3)) w5 := HSW.out _ Hw5.out
   refine hK.out _ _ (Or.inr hS) (fun hcl2 => ?_)
   clear hK K hcl
   have hcl := hcl2
   clear hcl2
   refine wpAnyK_one (i := 18) hcl (by kernel_rfl) rfl (by rfl) (fun K hK => ?_)
   go_simp
   refine (HR2.out _ Hw5.out).mono ?_
   rintro r w6 ⟨rfl, hb6, hroom2⟩
   have Hw6 := Lib.hid (show Below wr.heap.size wr w6 from Hw5.out.trans (hb6.mono Hw5.out.size))
   clear hS
   have hS : (fun w' : World => w'.cell? ⟨g, o + i * 5, none⟩ = some (.string x.name) ∧ w'.cell? ⟨g, o + i * 5 + 1, none⟩ = some (.slice A1 l1 c1) ∧ w'.cell? ⟨g, o + i * 5 + 2, none⟩ = some (.slice A2 l2 c2) ∧ w'.cell? ⟨g, o + i * 5 + 3, none⟩ = some (.string x.write) ∧ w'.cell? ⟨g, o + i * 5 + 4, none⟩ = some (.slice A3 l3 c3)) w6 := HSW.out _ Hw6.out
   refine hK.out _ _ (Or.inr hS) (fun hcl2 => ?_)
   clear hK K hcl
   have hcl := hcl2
   clear hcl2
   refine wpAnyK_one (i := 29) hcl (by kernel_rfl) rfl (by rfl) (fun K hK => ?_)
   go_simp
   refine (HR3.out _ Hw6.out).mono ?_
   rintro r w7 ⟨rfl, hb7, hroom3⟩
   have Hw7 := Lib.hid (show Below wr.heap.size wr w7 from Hw6.out.trans (hb7.mono Hw6.out.size))
   clear hS
   have hS : (fun w' : World => w'.cell? ⟨g, o + i * 5, none⟩ = some (.string x.name) ∧ w'.cell? ⟨g, o + i * 5 + 1, none⟩ = some (.slice A1 l1 c1) ∧ w'.cell? ⟨g, o + i * 5 + 2, none⟩ = some (.slice A2 l2 c2) ∧ w'.cell? ⟨g, o + i * 5 + 3, none⟩ = some (.string x.write) ∧ w'.cell? ⟨g, o + i * 5 + 4, none⟩ = some (.slice A3 l3 c3)) w7 := HSW.out _ Hw7.out
   refine hK.out _ _ (Or.inr hS) (fun hcl2 => ?_)
   clear hK K hcl
   have hcl := hcl2
   clear hcl2
   refine tk 30 _ hcl hS (fun hcl2 => ?_)
   (try simp only [ly]); (try simp only [Act.put, pu]); clear hcl; have hcl := hcl2; clear hcl2
   refine tk 31 _ hcl hS (fun hcl2 => ?_)
   (try simp only [ly]); (try simp only [Act.put, pu]); clear hcl; have hcl := hcl2; clear hcl2
   have hbN : Below N w w7 := HB.out.trans (Hw7.out.mono (by have := HS.out; omega))
   have HBN := Lib.hid hbN
   have HR7 := Lib.hid (HROW.out.keep (lo := N) (KeepB.of_below Hw7.out) (Nat.le_refl _) (fun a cs h => REntR.keep h (KeepB.of_below Hw7.out)))
   have HQ1 := Lib.hid (RoomI.keep (lo := N + 1) hroom1 ((KeepB.of_below (hb6)).trans (KeepB.of_below hb7)) HS.out)
   have HQ2 := Lib.hid (RoomT.keep (lo := N + 1) hroom2 (KeepB.of_below hb7) (Nat.le_trans HS.out Hw5.out.size))
   have HQ3 := Lib.hid hroom3
   have e0 := HR7.out.1.cell (show i * 5 < (n + 2) * 5 by omega)
   have f0 := HR7.out.1.frozen (i * 5)
   have e1 := HR7.out.1.cell (show i * 5 + 1 < (n + 2) * 5 by omega)
   have f1 := HR7.out.1.frozen (i * 5 + 1)
   have e2 := HR7.out.1.cell (show i * 5 + 2 < (n + 2) * 5 by omega)
   have f2 := HR7.out.1.frozen (i * 5 + 2)
   have e3 := HR7.out.1.cell (show i * 5 + 3 < (n + 2) * 5 by omega)
   have f3 := HR7.out.1.frozen (i * 5 + 3)
   have e4 := HR7.out.1.cell (show i * 5 + 4 < (n + 2) * 5 by omega)
   have f4 := HR7.out.1.frozen (i * 5 + 4)
   clear hS hbN
   refine wpAnyK_one (i := 32) hcl (by kernel_rfl) rfl (by rfl) (fun K hK => ?_)
   go_simp
   refine hK.out _ _ (Or.inl (by kernel_rfl)) (fun hcl2 => ?_)
   clear hK K hcl hcl2
   refine wpAnyK_done (by kernel_rfl) ?_ _
   (try simp only [Act.put, pu])
   clear e0 e1 e2 e3 e4 f0 f1 f2 f3 f4
   have hkeep : KeepB (N + 1) w7 (((((w7.setCell ⟨N, i * 5, none⟩ (.string x.name)).setCell ⟨N, i * 5 + 1, none⟩ (.slice (some ⟨wr.heap.size, 0, none⟩) l1 (l1 + 2))).setCell ⟨N, i * 5 + 2, none⟩ (.slice (some ⟨w5.heap.size, 0, none⟩) l2 (l2 + 2))).setCell ⟨N, i * 5 + 3, none⟩ (.string x.write)).setCell ⟨N, i * 5 + 4, none⟩ (.slice (some ⟨w6.heap.size, 0, none⟩) l3 (l3 + 2))) := ((((KeepB.set w7 (a := ⟨N, i * 5, none⟩) (by show N < N + 1; omega) _).trans (KeepB.set _ (a := ⟨N, i * 5 + 1, none⟩) (by show N < N + 1; omega) _)).trans (KeepB.set _ (a := ⟨N, i * 5 + 2, none⟩) (by show N < N + 1; omega) _)).trans (KeepB.set _ (a := ⟨N, i * 5 + 3, none⟩) (by show N < N + 1; omega) _)).trans (KeepB.set _ (a := ⟨N, i * 5 + 4, none⟩) (by show N < N + 1; omega) _)
   have hsn := RowOf.snoc HR7.out (rowIs_set5 HR7.out.1 (i * 5) (.string x.name) (.slice (some ⟨wr.heap.size, 0, none⟩) l1 (l1 + 2)) (.slice (some ⟨w5.heap.size, 0, none⟩) l2 (l2 + 2)) (.string x.write) (.slice (some ⟨w6.heap.size, 0, none⟩) l3 (l3 + 2))) (fun j hj => upd_out (Or.inl hj)) (fun a cs h => REntR.keep h hkeep) HX.out (cs := [.string x.name, .slice (some ⟨wr.heap.size, 0, none⟩) l1 (l1 + 2), .slice (some ⟨w5.heap.size, 0, none⟩) l2 (l2 + 2), .string x.write, .slice (some ⟨w6.heap.size, 0, none⟩) l3 (l3 + 2)]) rfl ⟨wr.heap.size, w5.heap.size, w6.heap.size, HS.out, Nat.le_trans HS.out Hw5.out.size, Nat.le_trans HS.out Hw6.out.size, by rw [HL1.out, HL2.out, HL3.out], by rw [HL1.out]; exact HQ1.out.keep hkeep HS.out, by rw [HL2.out]; exact HQ2.out.keep hkeep (Nat.le_trans HS.out Hw5.out.size), by rw [HL3.out]; exact HQ3.out.keep hkeep (Nat.le_trans HS.out Hw6.out.size)⟩ (fun j u hj => upd_in hj)
   have HSN := Lib.hid hsn
   clear hkeep hsn
   go_wp2_with fail
   go_roundw
   case rel => exact ⟨((((HBN.out.setCell (p := ⟨N, i * 5, none⟩) (Nat.le_refl _) _).setCell (p := ⟨N, i * 5 + 1, none⟩) (Nat.le_refl _) _).setCell (p := ⟨N, i * 5 + 2, none⟩) (Nat.le_refl _) _).setCell (p := ⟨N, i * 5 + 3, none⟩) (Nat.le_refl _) _).setCell (p := ⟨N, i * 5 + 4, none⟩) (Nat.le_refl _) _, by simp only [World.size_setCell]; exact Nat.le_trans HS.out Hw7.out.size, i + 1, _, by rfl, HI.out, HSN⟩
   case measure => have := HI.out; simp [intOf]; omega
  ·have p1 : decide ((i : Int) < (n : Int)) = false := decide_eq_false (by omega)
   have p2 : decide (i < n) = false := decide_eq_false hlt
   obtain rfl : i = n := by omega
   have p3 : (i : Int) < (i : Int) + 2 := by omega
   have p4 : i < i + 2 := by omega
   have p5 : (i : Int) + 1 < (i : Int) + 2 := by omega
   have p6 : i + 1 < i + 2 := by omega
   have z1 : IntKind.i64.wrap ((i : Int) + 1) = (i : Int) + 1 := by have := HLN.out; rw [IntKind.wrap_i64]; omega
   have hset := rowIs_set5 hrow.out.1 (i * 5) (.string MARK) (.slice none 0 0) (.slice none 0 0) (.string ⟨#[]⟩) (.slice none 0 0)
   have d0 := hrow.out.1.cell (show i * 5 < (i + 2) * 5 by omega)
   have df0 := hrow.out.1.frozen (i * 5)
   have d1 := hrow.out.1.cell (show i * 5 + 1 < (i + 2) * 5 by omega)
   have df1 := hrow.out.1.frozen (i * 5 + 1)
   have d2 := hrow.out.1.cell (show i * 5 + 2 < (i + 2) * 5 by omega)
   have df2 := hrow.out.1.frozen (i * 5 + 2)
   have d3 := hrow.out.1.cell (show i * 5 + 3 < (i + 2) * 5 by omega)
   have df3 := hrow.out.1.frozen (i * 5 + 3)
   have d4 := hrow.out.1.cell (show i * 5 + 4 < (i + 2) * 5 by omega)
   have df4 := hrow.out.1.frozen (i * 5 + 4)
   have e0 := hset.cell (show (i + 1) * 5 < (i + 2) * 5 by omega)
   have ef0 := hset.frozen ((i + 1) * 5)
   have e1 := hset.cell (show (i + 1) * 5 + 1 < (i + 2) * 5 by omega)
   have ef1 := hset.frozen ((i + 1) * 5 + 1)
   have e2 := hset.cell (show (i + 1) * 5 + 2 < (i + 2) * 5 by omega)
   have ef2 := hset.frozen ((i + 1) * 5 + 2)
   have e3 := hset.cell (show (i + 1) * 5 + 3 < (i + 2) * 5 by omega)
   have ef3 := hset.frozen ((i + 1) * 5 + 3)
   have e4 := hset.cell (show (i + 1) * 5 + 4 < (i + 2) * 5 by omega)
   have ef4 := hset.frozen ((i + 1) * 5 + 4)
   unfold MARK at e0 e1 e2 e3 e4 ef0 ef1 ef2 ef3 ef4
   go_wp2_with fail
   go_ret
   have hset8 := rowIs_set5 hset ((i + 1) * 5) (.string MARK2) (.slice none 0 0) (.slice none 0 0) (.string ⟨#[]⟩) (.slice none 0 0)
   refine ⟨by rfl, ?_, N, _, Nat.le_refl _, by rw [HNL.out], ⟨by rw [HNL.out]; exact hset8, fun j a ha => ?_⟩, ?_, ?_, ?_, ?_⟩
   ·exact (((((((((HB.out.setCell (p := ⟨N, i * 5, none⟩) (Nat.le_refl _) _).setCell (p := ⟨N, i * 5 + 1, none⟩) (Nat.le_refl _) _).setCell (p := ⟨N, i * 5 + 2, none⟩) (Nat.le_refl _) _).setCell (p := ⟨N, i * 5 + 3, none⟩) (Nat.le_refl _) _).setCell (p := ⟨N, i * 5 + 4, none⟩) (Nat.le_refl _) _).setCell (p := ⟨N, (i + 1) * 5, none⟩) (Nat.le_refl _) _).setCell (p := ⟨N, (i + 1) * 5 + 1, none⟩) (Nat.le_refl _) _).setCell (p := ⟨N, (i + 1) * 5 + 2, none⟩) (Nat.le_refl _) _).setCell (p := ⟨N, (i + 1) * 5 + 3, none⟩) (Nat.le_refl _) _).setCell (p := ⟨N, (i + 1) * 5 + 4, none⟩) (Nat.le_refl _) _
   ·have hj : j < i := by have := (List.getElem?_eq_some_iff.1 ha).1; rw [HNL.out] at this; exact this
    obtain ⟨cs, h1, h2, h3⟩ := hrow.out.2 j a (by rw [List.getElem?_take, if_pos hj]; exact ha)
    refine ⟨cs, h1, ?_, fun jj u hu => ?_⟩
    ·exact REntR.mono (REntR.keep h2 ((((((((((KeepB.set wr (a := ⟨N, i * 5, none⟩) (by show N < N + 1; omega) _).trans (KeepB.set _ (a := ⟨N, i * 5 + 1, none⟩) (by show N < N + 1; omega) _)).trans (KeepB.set _ (a := ⟨N, i * 5 + 2, none⟩) (by show N < N + 1; omega) _)).trans (KeepB.set _ (a := ⟨N, i * 5 + 3, none⟩) (by show N < N + 1; omega) _)).trans (KeepB.set _ (a := ⟨N, i * 5 + 4, none⟩) (by show N < N + 1; omega) _)).trans (KeepB.set _ (a := ⟨N, (i + 1) * 5, none⟩) (by show N < N + 1; omega) _)).trans (KeepB.set _ (a := ⟨N, (i + 1) * 5 + 1, none⟩) (by show N < N + 1; omega) _)).trans (KeepB.set _ (a := ⟨N, (i + 1) * 5 + 2, none⟩) (by show N < N + 1; omega) _)).trans (KeepB.set _ (a := ⟨N, (i + 1) * 5 + 3, none⟩) (by show N < N + 1; omega) _)).trans (KeepB.set _ (a := ⟨N, (i + 1) * 5 + 4, none⟩) (by show N < N + 1; omega) _))) (Nat.le_succ N)
    ·have hjj : jj < 5 := by have := (List.getElem?_eq_some_iff.1 hu).1; omega
     rw [upd_out (Or.inl (by omega)), upd_out (Or.inl (by omega))]
     exact h3 jj u hu
   ·rw [HNL.out, upd_out (Or.inl (by omega))]
    exact upd_in (j := 0) rfl
   ·rw [HNL.out, upd_out (Or.inl (by omega))]
    exact upd_in (j := 2) rfl
   ·rw [HNL.out]
    exact upd_in (j := 0) rfl
   ·rw [HNL.out]
    exact upd_in (j := 2) rfl
end Go.Proofs.YthnamoedpnknmaaGreatDoor
