/-
 THE WALK of reachref10.Follow (chapter 10): it answers what step.Follow answers.
-/
import Derived.Test.YthnamoedpnknmaaGreatDoorBu
import Derived.Test.YthnamoedpnknmaaGreatDoorBj
import Derived.Test.YthnamoedpnknmaaGreatDoorHb
import Derived.Test.YthnamoedpnknmaaGreatDoorBz
set_option linter.unusedVariables false
set_option linter.unusedSimpArgs false
set_option maxRecDepth 100000
set_option maxHeartbeats 8000000
namespace Go.Proofs.YthnamoedpnknmaaGreatDoor
open Go.RowKit
namespace Sp
def LastAt {α : Type} (P : α → Bool) (L : List α) (j : Nat) (t : Int) : Prop := (((L.take j).filter P).getLast? = none ∧ t = -1) ∨ ∃ (i : Nat) (c : α), t = (i : Int) ∧ i < j ∧ L[i]? = some c ∧ ((L.take j).filter P).getLast? = some c
theorem LastAt.start {α : Type} (P : α → Bool) (L : List α) : LastAt P L 0 (-1) := .inl ⟨by simp, rfl⟩
theorem LastAt.hit {α : Type} {P : α → Bool} {L : List α} {j : Nat} {c : α} (hc : L[j]? = some c) (hP : P c = true) : LastAt P L (j + 1) (j : Int) := by
 refine .inr ⟨j, c, rfl, by omega, hc, ?_⟩
 rw [List.take_add_one, hc, List.filter_append]
 simp [hP]
theorem LastAt.miss {α : Type} {P : α → Bool} {L : List α} {j : Nat} {t : Int} {c : α} (h : LastAt P L j t) (hc : L[j]? = some c) (hP : P c = false) : LastAt P L (j + 1) t := by
 have he : (L.take (j + 1)).filter P = (L.take j).filter P := by
  rw [List.take_add_one, hc, List.filter_append]
  simp [hP]
 rcases h with ⟨h1, h2⟩ | ⟨i, d, h1, h2, h3, h4⟩
 ·exact .inl ⟨by rw [he]; exact h1, h2⟩
 ·exact .inr ⟨i, d, h1, by omega, h3, by rw [he]; exact h4⟩
theorem LastAt.done {α : Type} {P : α → Bool} {L : List α} {t : Int} (h : LastAt P L L.length t) : ((L.filter P).getLast? = none ∧ t = -1) ∨ ∃ (i : Nat) (c : α), t = (i : Int) ∧ i < L.length ∧ L[i]? = some c ∧ (L.filter P).getLast? = some c := by
 unfold LastAt at h
 rw [List.take_length] at h
 exact h
theorem stV_range {n : Net} (hn : NetOk n) {k : Nat} {h : ByteArray} {c : Int × ByteArray} (hc : c ∈ stV (movesV n k h)) : 0 ≤ c.1 ∧ c.1 < (n.ports.length : Int) := by
 obtain ⟨m, hm, ⟨h0, rfl⟩ | ⟨h0, rfl⟩⟩ := mem_stV.1 hc
 ·exact ⟨h0, (movesV_fine hn hm).out h0⟩
 ·exact ⟨h0, (movesV_fine hn hm).inn h0⟩
def RfI (n : Net) (p : Int) (hd : ByteArray) (l : List Int) (i : Nat) (k : Nat) (h : ByteArray) (a : Int) : Prop := StateOk n (k : Int) h ∧ followT n p hd l = followV n k h (l.drop i) (i : Int) a
end Sp
theorem ref10_Follow (n : Sp.Net) (A1 A2 A3 : Option Addr) (c1 c2 c3 : Nat) (p : Int) (hd : ByteArray) (Ap : Option Addr) (kp : Nat) (l : List Int) (w : World) (hpv : PV w A1 n.ports) (htv : TTV w A2 n.tables) (hgv : GGV w A3 n.guards) (hsz : Sp.Szd n) (hst : Sp.Szt n) (hh : hd.size ≤ 9223372036854775807) (hv : IV w Ap l) (hlk : l.length ≤ kp) (hl : l.length ≤ 4611686018427387904) :
  Calls Tryz.prog 17 #[.agg #[.int .i64 n.bits, .slice A1 n.ports.length c1, .slice A2 n.tables.length c2, .slice A3 n.guards.length c3], .agg #[.int .i64 p, .string hd], .slice Ap l.length kp] w (FollowEnd n p hd l w) := by
 have hck := fun W (hW : Below w.heap.size w W) => ref10_check n A1 A2 A3 c1 c2 c3 p hd W (hpv.more hW) (htv.more hW) (hgv.more hW) hsz hst hh
 have hnx := fun (k : Nat) (h : ByteArray) (W : World) (hW : Below w.heap.size w W) (hok : Sp.NetOk n) (hso : Sp.StateOk n k h) => ref10_next n A1 A2 A3 c1 c2 c3 k h W (hpv.more hW) (htv.more hW) (hgv.more hW) hok hso
 obtain ⟨np, hnp⟩ : ∃ np, n.ports.length = np := ⟨_, rfl⟩
 obtain ⟨nt, hnt⟩ : ∃ nt, n.tables.length = nt := ⟨_, rfl⟩
 obtain ⟨ng, hng⟩ : ∃ ng, n.guards.length = ng := ⟨_, rfl⟩
 obtain ⟨bt, hbt⟩ : ∃ bt, n.bits = bt := ⟨_, rfl⟩
 obtain ⟨r, hr⟩ : ∃ r, l.length = r := ⟨_, rfl⟩
 obtain ⟨E, hE⟩ : ∃ E, Sp.checkE n p hd = E := ⟨_, rfl⟩
 rw [hnp, hnt, hng, hbt] at hck hnx ⊢
 rw [hr] at hl hlk ⊢
 rw [hE] at hck
 obtain ⟨N, hN⟩ : ∃ N, w.heap.size = N := ⟨_, rfl⟩
 rw [hN] at hck hnx
 obtain ⟨W2, hW2⟩ : ∃ W2, (w.alloc (.cells #[.int .i64 bt, .slice A1 np c1, .slice A2 nt c2, .slice A3 ng c3] 26)).alloc (.cells #[.int .i64 p, .string hd] 28) = W2 := ⟨_, rfl⟩
 have hb2 : Below N w W2 := by rw [← hW2, ← hN]; exact ((Below.refl _ _).alloc (Nat.le_refl _) _).alloc (by simp) _
 have hk0 : Blk W2 N 26 #[.int .i64 bt, .slice A1 np c1, .slice A2 nt c2, .slice A3 ng c3] := by rw [← hW2, ← hN]; exact (Blk.new _ _ _).alloc _
 have hk1 : Blk W2 (N + 1) 28 #[.int .i64 p, .string hd] := by rw [← hW2, ← hN]; exact blk_new_at2 (by simp)
 have n0 : W2.cell? ⟨N, 0, none⟩ = some (.int .i64 bt) := hk0.cell 0
 have n1 : W2.cell? ⟨N, 1, none⟩ = some (.slice A1 np c1) := hk0.cell 1
 have n2 : W2.cell? ⟨N, 2, none⟩ = some (.slice A2 nt c2) := hk0.cell 2
 have n3 : W2.cell? ⟨N, 3, none⟩ = some (.slice A3 ng c3) := hk0.cell 3
 have s0 : W2.cell? ⟨N + 1, 0, none⟩ = some (.int .i64 p) := hk1.cell 0
 have s1 : W2.cell? ⟨N + 1, 1, none⟩ = some (.string hd) := hk1.cell 1
 have HN := Lib.hid hN
 have HNP := Lib.hid hnp
 have HR := Lib.hid hr
 have HE := Lib.hid hE
 have HCK := Lib.hid hck
 have HNX := Lib.hid hnx
 have HPV := Lib.hid hpv
 have HV := Lib.hid hv
 have HB := Lib.hid hb2
 have HK0 := Lib.hid hk0
 have HK1 := Lib.hid hk1
 have hlg : (r : Int) ≤ 4611686018427387904 := by omega
 clear hck hnx hnp hnt hng hbt hr hE hpv htv hgv hsz hst hh hv hb2 hk0 hk1
 by_cases hlong : 130 < r
 ·have t1 : decide ((r : Int) > 130) = true := decide_eq_true (by omega)
  have t2 : decide (130 < r) = true := decide_eq_true hlong
  have HL := Lib.hid hlong
  clear hlong
  go_enter Tryz.func17, Tryz.ntmps17
  go_wp2_with fail
  refine bodyPost_ret (results_tmp3 rfl _ _ _) rfl ?_
  refine FollowEnd.of ?_ (by rw [HN.out]; exact HB.out)
  unfold Sp.followT
  rw [if_pos (by rw [HR.out]; exact HL.out)]
 have t1 : decide ((r : Int) > 130) = false := decide_eq_false (by omega)
 have t2 : decide (130 < r) = false := decide_eq_false hlong
 have HL := Lib.hid hlong
 have hl130 : r ≤ 130 := by omega
 clear hlong hl hlg
 go_enter Tryz.func17, Tryz.ntmps17
 go_wp2_with fail
 refine (HCK.out W2 HB.out).mono ?_
 rintro e W3 ⟨rfl, hb3⟩
 have HB3 := Lib.hid (show Below N w W3 from HB.out.trans (hb3.mono (Nat.le_of_lt HK0.out.lt)))
 have HK03 := Lib.hid (HK0.out.below hb3 HK0.out.lt)
 have HK13 := Lib.hid (HK1.out.below hb3 HK1.out.lt)
 clear hb3 n0 n1 n2 n3 s0 s1 t1 t2 HB HK0 HK1 HCK hW2
 by_cases hz : E = 0
 rotate_left
 ·have te : (E != 0) = true := bne_iff_ne.2 hz
  have HZ := Lib.hid hz
  clear hz
  go_wp2_with fail
  refine bodyPost_ret (results_tmp3 rfl _ _ _) rfl ?_
  refine FollowEnd.of ?_ (by rw [HN.out]; exact HB3.out)
  unfold Sp.followT
  rw [if_neg (by rw [HR.out]; exact HL.out), HE.out, if_neg HZ.out]
 have te : (E != 0) = false := by rw [hz]; rfl
 obtain ⟨hok, hso⟩ := Sp.checkE_zero (HE.out.trans hz)
 have HOK := Lib.hid hok
 have HSO := Lib.hid hso
 have HZ := Lib.hid hz
 obtain ⟨kk, rfl⟩ : ∃ k : Nat, p = k := ⟨p.toNat, by have := hso.port.1; omega⟩
 clear hz hok hso
 have s0 : W3.cell? ⟨N + 1, 0, none⟩ = some (.int .i64 (kk : Int)) := HK13.out.cell 0
 cases hlc : l with
 | nil =>
  obtain rfl : r = 0 := by rw [← HR.out, hlc]; rfl
  clear hl130
  go_wp2_with fail
  refine wp_region_K 10 (fun w' : World => True) (by kernel_rfl) (fun hcl => ?_)
  have hS : (fun w' : World => True) W3.drew := trivial
  refine tk 0 _ hcl hS (fun hcl2 => ?_)
  (try simp only [ly]); (try simp only [Act.put, pu]); clear hcl; have hcl := hcl2; clear hcl2
  refine tk 1 _ hcl hS (fun hcl2 => ?_)
  (try simp only [ly]); (try simp only [Act.put, pu]); clear hcl; have hcl := hcl2; clear hcl2
  refine tk 2 _ hcl hS (fun hcl2 => ?_)
  (try simp only [ly]); (try simp only [Act.put, pu]); clear hcl; have hcl := hcl2; clear hcl2
  refine tk 3 _ hcl hS (fun hcl2 => ?_)
  (try simp only [ly]); (try simp only [Act.put, pu]); clear hcl; have hcl := hcl2; clear hcl2
  refine wpAnyK_pass3 (i := 4) hcl hS rfl (by kernel_rfl) (fun _ _ _ h => h) (by rfl) (fun hcl2 => ?_)
  (try simp only [ly])
  (try simp only [Act.put, pu])
  clear hcl; have hcl := hcl2; clear hcl2
  refine wpAnyK_pass3 (i := 5) hcl hS rfl (by kernel_rfl) (fun _ _ _ h => h) (by rfl) (fun hcl2 => ?_)
  (try simp only [ly])
  (try simp only [Act.put, pu])
  clear hcl; have hcl := hcl2; clear hcl2
  refine wpAnyK_pass3 (i := 6) hcl hS rfl (by kernel_rfl) (fun _ _ _ h => h) (by rfl) (fun hcl2 => ?_)
  (try simp only [ly])
  (try simp only [Act.put, pu])
  clear hcl; have hcl := hcl2; clear hcl2
  refine wpAnyK_pass3 (i := 7) hcl hS rfl (by kernel_rfl) (fun _ _ _ h => h) (by rfl) (fun hcl2 => ?_)
  (try simp only [ly])
  (try simp only [Act.put, pu])
  clear hcl; have hcl := hcl2; clear hcl2
  refine wpAnyK_pass3 (i := 8) hcl hS rfl (by kernel_rfl) (fun _ _ _ h => h) (by rfl) (fun hcl2 => ?_)
  (try simp only [ly])
  (try simp only [Act.put, pu])
  clear hcl; have hcl := hcl2; clear hcl2
  refine wpAnyK_pass3 (i := 9) hcl hS rfl (by kernel_rfl) (fun _ _ _ h => h) (by rfl) (fun hcl2 => ?_)
  (try simp only [ly])
  (try simp only [Act.put, pu])
  clear hcl; have hcl := hcl2; clear hcl2
  refine wpAnyK_one (i := 10) hcl (by kernel_rfl) rfl (by rfl) (fun K hK => ?_)
  go_simp
  refine hK.out _ _ (Or.inl (by kernel_rfl)) (fun hcl2 => ?_)
  clear hK K hcl hcl2
  refine wpAnyK_done (by kernel_rfl) ?_ _
  (try simp only [Act.put, pu])
  go_wp2_with fail
  refine bodyPost_ret (results_tmp3 rfl _ _ _) rfl ?_
  refine FollowEnd.of ?_ (by rw [HN.out]; exact HB3.out.drew)
  unfold Sp.followT
  rw [if_neg (by rw [← hlc, HR.out]; omega), HE.out, if_pos HZ.out]
 | cons x rest =>
  obtain ⟨r', rfl⟩ : ∃ r', r = r' + 1 := ⟨rest.length, by rw [← HR.out, hlc]; rfl⟩
  obtain ⟨gl, ol, rfl, hgl, a0⟩ := HV.out.at (i := 0) (x := x) (by rw [hlc]; rfl)
  rw [HN.out] at hgl
  rw [Nat.add_zero] at a0
  have a1 : W3.cell? ⟨gl, ol, none⟩ = some (.int .i64 x) := (HB3.out.cell (p := ⟨gl, ol, none⟩) hgl).trans a0
  have z1 : ((r' : Int) + 1 == 0) = false := beq_eq_false_iff_ne.2 (by omega)
  have z2 : (0 : Int) < (r' : Int) + 1 := by omega
  have z3 : ((r' + 1 : Nat) == 0) = false := rfl
  have HGL := Lib.hid hgl
  have HLC := Lib.hid hlc
  clear a0 hgl hlc
  go_wp2_with fail
  refine wp_region_K 10 (fun w' : World => w'.cell? ⟨gl, ol, none⟩ = some (.int .i64 x) ∧ w'.cell? ⟨N + 1, 0, none⟩ = some (.int .i64 (kk : Int))) (by kernel_rfl) (fun hcl => ?_)
  have hS : (fun w' : World => w'.cell? ⟨gl, ol, none⟩ = some (.int .i64 x) ∧ w'.cell? ⟨N + 1, 0, none⟩ = some (.int .i64 (kk : Int))) W3.drew := ⟨a1, s0⟩
  refine tk 0 _ hcl hS (fun hcl2 => ?_)
  (try simp only [ly]); (try simp only [Act.put, pu]); clear hcl; have hcl := hcl2; clear hcl2
  refine tk 1 _ hcl hS (fun hcl2 => ?_)
  (try simp only [ly]); (try simp only [Act.put, pu]); clear hcl; have hcl := hcl2; clear hcl2
  refine tk 2 _ hcl hS (fun hcl2 => ?_)
  (try simp only [ly]); (try simp only [Act.put, pu]); clear hcl; have hcl := hcl2; clear hcl2
  refine tk 3 _ hcl hS (fun hcl2 => ?_)
  (try simp only [ly]); (try simp only [Act.put, pu]); clear hcl; have hcl := hcl2; clear hcl2
  refine tk 4 _ hcl hS (fun hcl2 => ?_)
  (try simp only [ly]); (try simp only [Act.put, pu]); clear hcl; have hcl := hcl2; clear hcl2
  refine tk 5 _ hcl hS (fun hcl2 => ?_)
  (try simp only [ly]); (try simp only [Act.put, pu]); clear hcl; have hcl := hcl2; clear hcl2
  refine tk 6 _ hcl hS (fun hcl2 => ?_)
  (try simp only [ly]); (try simp only [Act.put, pu]); clear hcl; have hcl := hcl2; clear hcl2
  refine tk 7 _ hcl hS (fun hcl2 => ?_)
  (try simp only [ly]); (try simp only [Act.put, pu]); clear hcl; have hcl := hcl2; clear hcl2
  refine tk 8 _ hcl hS (fun hcl2 => ?_)
  (try simp only [ly]); (try simp only [Act.put, pu]); clear hcl; have hcl := hcl2; clear hcl2
  refine tk 9 _ hcl hS (fun hcl2 => ?_)
  (try simp only [ly]); (try simp only [Act.put, pu]); clear hcl; have hcl := hcl2; clear hcl2
  refine wpAnyK_one (i := 10) hcl (by kernel_rfl) rfl (by rfl) (fun K hK => ?_)
  go_simp
  refine hK.out _ _ (Or.inl (by kernel_rfl)) (fun hcl2 => ?_)
  clear hK K hcl hcl2 hS
  refine wpAnyK_done (by kernel_rfl) ?_ _
  (try simp only [Act.put, pu])
  clear a1 s0 z1 z2 z3
  by_cases hxk : x = (kk : Int)
  rotate_left
  ·have te2 : (x != (kk : Int)) = true := bne_iff_ne.2 hxk
   have HXK := Lib.hid hxk
   clear hxk
   go_wp2_with fail
   refine bodyPost_ret (results_tmp3 rfl _ _ _) rfl ?_
   refine FollowEnd.of ?_ (by rw [HN.out]; exact HB3.out.drew)
   rw [HLC.out]
   unfold Sp.followT
   rw [if_neg (by rw [← HLC.out, HR.out]; exact HL.out), HE.out, if_pos HZ.out]
   simp only []
   rw [if_neg (fun e => HXK.out e.symm)]
  have te2 : (x != (kk : Int)) = false := by rw [hxk, bne_eq_false_iff_eq]
  have hrf : Sp.RfI n (kk : Int) hd (x :: rest) 1 kk hd 0 := ⟨HSO.out, by
   unfold Sp.followT
   rw [if_neg (by rw [← HLC.out, HR.out]; exact HL.out), HE.out, if_pos HZ.out]
   simp only []
   rw [if_pos hxk.symm, Int.toNat_natCast]
   rfl⟩
  have HRF := Lib.hid hrf
  clear hxk hrf
  simp only [te2]
  go_wp2_with fail
  clear te2
  go_loopw [6, 7, 8, 10, 11] (fun _ _ _ v10 v11 wr => Below N w wr ∧ Blk wr N 26 #[.int .i64 bt, .slice A1 np c1, .slice A2 nt c2, .slice A3 ng c3] ∧ ∃ (i k a : Nat) (h : ByteArray), v10 = .int .i64 (a : Int) ∧ v11 = .int .i64 (i : Int) ∧ i ≤ r' + 1 ∧ a ≤ i ∧ Blk wr (N + 1) 28 #[.int .i64 (k : Int), .string h] ∧ Hid (Sp.RfI n (kk : Int) hd (x :: rest) i k h (a : Int))) (fun _ _ _ _ v11 _ => r' + 1 - (intOf v11).toNat)
  case atStart => exact ⟨HB3.out.drew, HK03.out, 1, kk, 0, hd, rfl, rfl, by omega, by omega, HK13.out, HRF⟩
  case round =>
   clear HB3 HK03 HK13 HRF
   obtain ⟨hb, hk0, i, k, a, h, rfl, rfl, hi, hai, hk1, hrf⟩ := hrel
   obtain ⟨wo, hwo⟩ : ∃ wo, wo = wr := ⟨_, rfl⟩
   subst hwo
   have HB := Lib.hid hb
   have HK0 := Lib.hid hk0
   have HK1 := Lib.hid hk1
   have i0 : (0 : Int) ≤ (i : Int) := by omega
   by_cases hlt : i < r' + 1
   ·have p1 : decide ((i : Int) < (r' : Int) + 1) = true := decide_eq_true (by omega)
    have p2 : decide (i < r' + 1) = true := decide_eq_true hlt
    have p3 : (i : Int) < (r' : Int) + 1 := by omega
    have z1 : IntKind.i64.wrap ((i : Int) + 1) = (i : Int) + 1 := by rw [IntKind.wrap_i64]; omega
    have z2 : IntKind.i64.wrap ((a : Int) + 1) = (a : Int) + 1 := by rw [IntKind.wrap_i64]; omega
    obtain ⟨x', hx'⟩ : ∃ x', l[i]? = some x' := ⟨_, List.getElem?_eq_getElem (by rw [HR.out]; exact hlt)⟩
    obtain ⟨gl', ol', e9, hgl', b0⟩ := HV.out.at hx'
    obtain ⟨rfl, rfl⟩ : gl = gl' ∧ ol = ol' := by injection e9 with e9; injection e9 with e1 e2; exact ⟨e1, e2⟩
    clear e9 hgl'
    have hdr : (x :: rest).drop i = x' :: (x :: rest).drop (i + 1) := by
     rw [← HLC.out]
     obtain ⟨h1, h2⟩ := List.getElem?_eq_some_iff.1 hx'
     rw [List.drop_eq_getElem_cons h1, h2]
    obtain ⟨q, hq⟩ := Sp.port_at hrf.out.1
    rw [Int.toNat_natCast] at hq
    obtain ⟨gp, op, rfl, hgp, k0, k1, k2, k3⟩ := HPV.out.at hq
    rw [HN.out] at hgp
    have hcall := HNX.out k h wo hb HOK.out hrf.out.1
    obtain ⟨L, hL⟩ : ∃ L, Sp.stV (Sp.movesV n k h) = L := ⟨_, rfl⟩
    have hLl : L.length ≤ 1000000 := by
     have h1 := Sp.stV_len (Sp.movesV n k h)
     have h2 := Sp.movesV_len HOK.out hrf.out.1
     rw [hL] at h1
     omega
    have hLr : ∀ c ∈ L, 0 ≤ c.1 ∧ c.1 < (np : Int) := fun c hc => by
     have := Sp.stV_range HOK.out (k := k) (h := h) (c := c) (by rw [hL]; exact hc)
     rw [HNP.out] at this
     exact this
    unfold NxEnd at hcall
    rw [hL] at hcall
    obtain ⟨qi, hqi⟩ : ∃ qi, q.inn = qi := ⟨_, rfl⟩
    rw [hqi] at k2
    have n0 : wo.cell? ⟨N, 0, none⟩ = some (.int .i64 bt) := hk0.cell 0
    have n1 : wo.cell? ⟨N, 1, none⟩ = some (.slice (some ⟨gp, op, none⟩) np c1) := hk0.cell 1
    have n2 : wo.cell? ⟨N, 2, none⟩ = some (.slice A2 nt c2) := hk0.cell 2
    have n3 : wo.cell? ⟨N, 3, none⟩ = some (.slice A3 ng c3) := hk0.cell 3
    have s0 : wo.cell? ⟨N + 1, 0, none⟩ = some (.int .i64 (k : Int)) := hk1.cell 0
    have s1 : wo.cell? ⟨N + 1, 1, none⟩ = some (.string h) := hk1.cell 1
    have HC := Lib.hid hcall
    have HQ := Lib.hid hq
    have HQI := Lib.hid hqi
    have HL2 := Lib.hid hL
    have HLL := Lib.hid hLl
    have HLR := Lib.hid hLr
    have HDR := Lib.hid hdr
    have HRF := hrf
    have HGP := Lib.hid hgp
    have HK2 := Lib.hid k2
    have HB0 := Lib.hid b0
    have HI := Lib.hid (show i + 1 ≤ r' + 1 ∧ a ≤ i by omega)
    have HLT := Lib.hid (show k < np by have := hrf.out.1.port.2; have := HNP.out; omega)
    clear hb hk0 hk1 hrf hi hai hlt hx' hq hgp hcall hL hLl hLr hdr hqi k0 k1 k2 k3 b0
    go_wp2_with fail
    refine HC.out.mono ?_
    rintro e w5 ⟨v, rfl, hst5, hb5⟩
    obtain ⟨As, cap, rfl, hsv⟩ := st_view hst5
    have HB5 := Lib.hid (show Below N w w5 from HB.out.trans (hb5.mono (Nat.le_of_lt HK0.out.lt)))
    have HK05 := Lib.hid (HK0.out.below hb5 HK0.out.lt)
    have HK15 := Lib.hid (HK1.out.below hb5 HK1.out.lt)
    have HSV := Lib.hid hsv
    obtain ⟨m, hm⟩ : ∃ m, L.length = m := ⟨_, rfl⟩
    rw [hm]
    have HM := Lib.hid hm
    clear hst5 hb5 hsv hm HC n0 n1 n2 n3 s0 s1 HB HK0 HK1
    go_wp2_with fail
    clear p1 p2 p3 i0
    go_loopw [14, 15] (fun v14 v15 wr => Below w5.heap.size w5 wr ∧ ∃ (j : Nat) (t : Int), v14 = .int .i64 t ∧ v15 = .int .i64 (j : Int) ∧ j ≤ m ∧ Hid (Sp.LastAt (fun q' : Int × ByteArray => q'.1 == x' && Sp.portIn n q'.1.toNat != qi) L j t)) (fun _ v15 _ => m - (intOf v15).toNat)
    case atStart => exact ⟨Below.refl _ _, 0, -1, rfl, rfl, Nat.zero_le _, Lib.hid (Sp.LastAt.start _ _)⟩
    case round =>
     obtain ⟨hb6, j, t, rfl, rfl, hj, hla⟩ := hrel
     have HB6 := Lib.hid hb6
     have HLA := Lib.hid hla.out
     have j0 : (0 : Int) ≤ (j : Int) := by omega
     by_cases hjm : j < m
     ·have u1 : decide ((j : Int) < (m : Int)) = true := decide_eq_true (by omega)
      have u2 : decide (j < m) = true := decide_eq_true hjm
      have u3 : (j : Int) < (m : Int) := by omega
      have z3 : IntKind.i64.wrap ((j : Int) + 1) = (j : Int) + 1 := by have := HLL.out; have := HM.out; rw [IntKind.wrap_i64]; omega
      have v3 : (i : Int) < (r' : Int) + 1 := by have := HI.out.1; omega
      have v0 : (0 : Int) ≤ (i : Int) := by omega
      obtain ⟨c, hc⟩ : ∃ c, L[j]? = some c := ⟨_, List.getElem?_eq_getElem (by rw [HM.out]; exact hjm)⟩
      obtain ⟨gs, os, rfl, hgs, y0, y1⟩ := HSV.out.at hc
      have hcr := HLR.out c (List.mem_of_getElem? hc)
      obtain ⟨cp, ch⟩ := c
      simp only at y0 y1 hcr
      obtain ⟨ck, rfl⟩ : ∃ ck : Nat, cp = ck := ⟨cp.toNat, by omega⟩
      have hckp : ck < n.ports.length := by rw [HNP.out]; omega
      have hq' : n.ports[ck]? = some (n.ports[ck]) := List.getElem?_eq_getElem hckp
      obtain ⟨gp', op', e9, hgp', w0, w1, w2, w3⟩ := HPV.out.at hq'
      obtain ⟨rfl, rfl⟩ : gp = gp' ∧ op = op' := by injection e9 with e9; injection e9 with e1 e2; exact ⟨e1, e2⟩
      obtain ⟨qb, hqb⟩ : ∃ qb, (n.ports[ck]).inn = qb := ⟨_, rfl⟩
      rw [hqb] at w2
      have hpi : Sp.portIn n ((ck : Int)).toNat = qb := by rw [Int.toNat_natCast]; unfold Sp.portIn; rw [hq']; exact hqb
      have hb6N : Below N w wr := HB5.out.trans (hb6.mono (Nat.le_of_lt HK05.out.lt))
      have hS0 : (fun w' : World => w'.cell? ⟨gs, os + j * 2, none⟩ = some (.int .i64 (ck : Int)) ∧ w'.cell? ⟨gl, ol + i, none⟩ = some (.int .i64 x') ∧ w'.cell? ⟨N, 1, none⟩ = some (.slice (some ⟨gp, op, none⟩) np c1) ∧ w'.cell? ⟨N + 1, 0, none⟩ = some (.int .i64 (k : Int)) ∧ w'.cell? ⟨gp, op + ck * 4 + 2, none⟩ = some (.bool qb) ∧ w'.cell? ⟨gp, op + k * 4 + 2, none⟩ = some (.bool qi)) wr.drew := ⟨(hb6.cell (p := ⟨gs, os + j * 2, none⟩) hgs).trans y0, (hb6N.cell (p := ⟨gl, ol + i, none⟩) HGL.out).trans HB0.out, (hb6.cell (p := ⟨N, 1, none⟩) HK05.out.lt).trans (HK05.out.cell 1), (hb6.cell (p := ⟨N + 1, 0, none⟩) HK15.out.lt).trans (HK15.out.cell 0), (hb6N.cell (p := ⟨gp, op + ck * 4 + 2, none⟩) HGP.out).trans w2, (hb6N.cell (p := ⟨gp, op + k * 4 + 2, none⟩) HGP.out).trans HK2.out⟩
      have y5 : (0 : Int) ≤ (ck : Int) := by omega
      have y6 : (ck : Int) < (np : Int) := by omega
      have y7 : (0 : Int) ≤ (k : Int) := by omega
      have y8 : (k : Int) < (np : Int) := by have := HLT.out; omega
      have HC5 := Lib.hid hc
      have HPI := Lib.hid hpi
      have HJ := Lib.hid (show j + 1 ≤ m by omega)
      clear hb6 hla hj hjm hc hgs y0 y1 hcr hckp hq' e9 hgp' w0 w1 w2 w3 hqb hpi hb6N
      by_cases hcx : (ck : Int) = x'
      ·have e1 : ((ck : Int) == x') = true := beq_iff_eq.2 hcx
       obtain ⟨bb, hbb⟩ : ∃ bb, (!(qb == qi)) = bb := ⟨_, rfl⟩
       have HBB := Lib.hid (show (qb != qi) = bb from hbb)
       have HCX := Lib.hid hcx
       clear hcx
       go_wp2_with fail
       refine wp_region_K 29 (fun w' : World => w'.cell? ⟨gs, os + j * 2, none⟩ = some (.int .i64 (ck : Int)) ∧ w'.cell? ⟨gl, ol + i, none⟩ = some (.int .i64 x') ∧ w'.cell? ⟨N, 1, none⟩ = some (.slice (some ⟨gp, op, none⟩) np c1) ∧ w'.cell? ⟨N + 1, 0, none⟩ = some (.int .i64 (k : Int)) ∧ w'.cell? ⟨gp, op + ck * 4 + 2, none⟩ = some (.bool qb) ∧ w'.cell? ⟨gp, op + k * 4 + 2, none⟩ = some (.bool qi)) (by kernel_rfl) (fun hcl => ?_)
       have hS := hS0
       clear hS0
       refine tk 0 _ hcl hS (fun hcl2 => ?_)
       (try simp only [ly]); (try simp only [Act.put, pu]); clear hcl; have hcl := hcl2; clear hcl2
       refine tk 1 _ hcl hS (fun hcl2 => ?_)
       (try simp only [ly]); (try simp only [Act.put, pu]); clear hcl; have hcl := hcl2; clear hcl2
       refine tk 2 _ hcl hS (fun hcl2 => ?_)
       (try simp only [ly]); (try simp only [Act.put, pu]); clear hcl; have hcl := hcl2; clear hcl2
       refine tk 3 _ hcl hS (fun hcl2 => ?_)
       (try simp only [ly]); (try simp only [Act.put, pu]); clear hcl; have hcl := hcl2; clear hcl2
       refine tk 4 _ hcl hS (fun hcl2 => ?_)
       (try simp only [ly]); (try simp only [Act.put, pu]); clear hcl; have hcl := hcl2; clear hcl2
       refine tk 5 _ hcl hS (fun hcl2 => ?_)
       (try simp only [ly]); (try simp only [Act.put, pu]); clear hcl; have hcl := hcl2; clear hcl2
       refine tk 6 _ hcl hS (fun hcl2 => ?_)
       (try simp only [ly]); (try simp only [Act.put, pu]); clear hcl; have hcl := hcl2; clear hcl2
       refine tk 7 _ hcl hS (fun hcl2 => ?_)
       (try simp only [ly]); (try simp only [Act.put, pu]); clear hcl; have hcl := hcl2; clear hcl2
       refine tk 8 _ hcl hS (fun hcl2 => ?_)
       (try simp only [ly]); (try simp only [Act.put, pu]); clear hcl; have hcl := hcl2; clear hcl2
       refine tk 9 _ hcl hS (fun hcl2 => ?_)
       (try simp only [ly]); (try simp only [Act.put, pu]); clear hcl; have hcl := hcl2; clear hcl2
       refine tk 10 _ hcl hS (fun hcl2 => ?_)
       (try simp only [ly]); (try simp only [Act.put, pu]); clear hcl; have hcl := hcl2; clear hcl2
       refine tk 11 _ hcl hS (fun hcl2 => ?_)
       (try simp only [ly]); (try simp only [Act.put, pu]); clear hcl; have hcl := hcl2; clear hcl2
       refine tk 12 _ hcl hS (fun hcl2 => ?_)
       (try simp only [ly]); (try simp only [Act.put, pu]); clear hcl; have hcl := hcl2; clear hcl2
       refine tk 13 _ hcl hS (fun hcl2 => ?_)
       (try simp only [ly]); (try simp only [Act.put, pu]); clear hcl; have hcl := hcl2; clear hcl2
       refine tk 14 _ hcl hS (fun hcl2 => ?_)
       (try simp only [ly]); (try simp only [Act.put, pu]); clear hcl; have hcl := hcl2; clear hcl2
       refine tkM 10 15 _ hcl hS (fun hcl2 => ?_)
       (try simp only [ly]); (try simp only [Act.put, pu]); clear hcl; have hcl := hcl2; clear hcl2
       refine tkM 10 16 _ hcl hS (fun hcl2 => ?_)
       (try simp only [ly]); (try simp only [Act.put, pu]); clear hcl; have hcl := hcl2; clear hcl2
       refine tkM 10 17 _ hcl hS (fun hcl2 => ?_)
       (try simp only [ly]); (try simp only [Act.put, pu]); clear hcl; have hcl := hcl2; clear hcl2
       refine tkM 10 18 _ hcl hS (fun hcl2 => ?_)
       (try simp only [ly]); (try simp only [Act.put, pu]); clear hcl; have hcl := hcl2; clear hcl2
       refine tkM 10 19 _ hcl hS (fun hcl2 => ?_)
       (try simp only [ly]); (try simp only [Act.put, pu]); clear hcl; have hcl := hcl2; clear hcl2
       refine tkM 10 20 _ hcl hS (fun hcl2 => ?_)
       (try simp only [ly]); (try simp only [Act.put, pu]); clear hcl; have hcl := hcl2; clear hcl2
       refine tkM 10 21 _ hcl hS (fun hcl2 => ?_)
       (try simp only [ly]); (try simp only [Act.put, pu]); clear hcl; have hcl := hcl2; clear hcl2
       refine tkM 10 22 _ hcl hS (fun hcl2 => ?_)
       (try simp only [ly]); (try simp only [Act.put, pu]); clear hcl; have hcl := hcl2; clear hcl2
       refine tkM 10 23 _ hcl hS (fun hcl2 => ?_)
       (try simp only [ly]); (try simp only [Act.put, pu]); clear hcl; have hcl := hcl2; clear hcl2
       refine tkM 10 24 _ hcl hS (fun hcl2 => ?_)
       (try simp only [ly]); (try simp only [Act.put, pu]); clear hcl; have hcl := hcl2; clear hcl2
       refine tkM 10 25 _ hcl hS (fun hcl2 => ?_)
       (try simp only [ly]); (try simp only [Act.put, pu]); clear hcl; have hcl := hcl2; clear hcl2
       refine tkM 10 26 _ hcl hS (fun hcl2 => ?_)
       (try simp only [ly]); (try simp only [Act.put, pu]); clear hcl; have hcl := hcl2; clear hcl2
       refine tkM 10 27 _ hcl hS (fun hcl2 => ?_)
       (try simp only [ly]); (try simp only [Act.put, pu]); clear hcl; have hcl := hcl2; clear hcl2
       refine tkM 10 28 _ hcl hS (fun hcl2 => ?_)
       (try simp only [ly]); (try simp only [Act.put, pu]); clear hcl; have hcl := hcl2; clear hcl2
       refine wpAnyK_one (i := 29) hcl (by kernel_rfl) rfl (by rfl) (fun K hK => ?_)
       go_simp
       refine hK.out _ _ (Or.inl (by kernel_rfl)) (fun hcl2 => ?_)
       clear hK K hcl hcl2 hS
       refine wpAnyK_done (by kernel_rfl) ?_ _
       (try simp only [Act.put, pu])
       clear hbb
       cases bb with
       | true =>
        go_wp2_with fail
        go_roundw
        case rel => exact ⟨HB6.out.drew, j + 1, (j : Int), by rfl, by rfl, HJ.out, Lib.hid (Sp.LastAt.hit HC5.out (by show ((ck : Int) == x' && Sp.portIn n ((ck : Int)).toNat != qi) = true; rw [HPI.out, HBB.out, beq_iff_eq.2 HCX.out]; rfl))⟩
        case measure => have := HJ.out; simp [intOf]; omega
       | false =>
        go_wp2_with fail
        go_roundw
        case rel => exact ⟨HB6.out.drew, j + 1, t, by rfl, by rfl, HJ.out, Lib.hid (Sp.LastAt.miss HLA.out HC5.out (by show ((ck : Int) == x' && Sp.portIn n ((ck : Int)).toNat != qi) = false; rw [HPI.out, HBB.out, Bool.and_false]))⟩
        case measure => have := HJ.out; simp [intOf]; omega
      ·have e1 : ((ck : Int) == x') = false := beq_eq_false_iff_ne.2 hcx
       have HE1 := Lib.hid hcx
       clear hcx
       go_wp2_with fail
       refine wp_region_K 29 (fun w' : World => w'.cell? ⟨gs, os + j * 2, none⟩ = some (.int .i64 (ck : Int)) ∧ w'.cell? ⟨gl, ol + i, none⟩ = some (.int .i64 x') ∧ w'.cell? ⟨N, 1, none⟩ = some (.slice (some ⟨gp, op, none⟩) np c1) ∧ w'.cell? ⟨N + 1, 0, none⟩ = some (.int .i64 (k : Int)) ∧ w'.cell? ⟨gp, op + ck * 4 + 2, none⟩ = some (.bool qb) ∧ w'.cell? ⟨gp, op + k * 4 + 2, none⟩ = some (.bool qi)) (by kernel_rfl) (fun hcl => ?_)
       have hS := hS0
       clear hS0
       refine tk 0 _ hcl hS (fun hcl2 => ?_)
       (try simp only [ly]); (try simp only [Act.put, pu]); clear hcl; have hcl := hcl2; clear hcl2
       refine tk 1 _ hcl hS (fun hcl2 => ?_)
       (try simp only [ly]); (try simp only [Act.put, pu]); clear hcl; have hcl := hcl2; clear hcl2
       refine tk 2 _ hcl hS (fun hcl2 => ?_)
       (try simp only [ly]); (try simp only [Act.put, pu]); clear hcl; have hcl := hcl2; clear hcl2
       refine tk 3 _ hcl hS (fun hcl2 => ?_)
       (try simp only [ly]); (try simp only [Act.put, pu]); clear hcl; have hcl := hcl2; clear hcl2
       refine tk 4 _ hcl hS (fun hcl2 => ?_)
       (try simp only [ly]); (try simp only [Act.put, pu]); clear hcl; have hcl := hcl2; clear hcl2
       refine tk 5 _ hcl hS (fun hcl2 => ?_)
       (try simp only [ly]); (try simp only [Act.put, pu]); clear hcl; have hcl := hcl2; clear hcl2
       refine tk 6 _ hcl hS (fun hcl2 => ?_)
       (try simp only [ly]); (try simp only [Act.put, pu]); clear hcl; have hcl := hcl2; clear hcl2
       refine tk 7 _ hcl hS (fun hcl2 => ?_)
       (try simp only [ly]); (try simp only [Act.put, pu]); clear hcl; have hcl := hcl2; clear hcl2
       refine tk 8 _ hcl hS (fun hcl2 => ?_)
       (try simp only [ly]); (try simp only [Act.put, pu]); clear hcl; have hcl := hcl2; clear hcl2
       refine tk 9 _ hcl hS (fun hcl2 => ?_)
       (try simp only [ly]); (try simp only [Act.put, pu]); clear hcl; have hcl := hcl2; clear hcl2
       refine tk 10 _ hcl hS (fun hcl2 => ?_)
       (try simp only [ly]); (try simp only [Act.put, pu]); clear hcl; have hcl := hcl2; clear hcl2
       refine wpAnyK_pass3 (i := 11) hcl hS rfl (by kernel_rfl) (fun _ _ _ h => h) (by rfl) (fun hcl2 => ?_)
       (try simp only [ly])
       (try simp only [Act.put, pu])
       clear hcl; have hcl := hcl2; clear hcl2
       refine wpAnyK_pass3 (i := 12) hcl hS rfl (by kernel_rfl) (fun _ _ _ h => h) (by rfl) (fun hcl2 => ?_)
       (try simp only [ly])
       (try simp only [Act.put, pu])
       clear hcl; have hcl := hcl2; clear hcl2
       refine wpAnyK_pass3 (i := 13) hcl hS rfl (by kernel_rfl) (fun _ _ _ h => h) (by rfl) (fun hcl2 => ?_)
       (try simp only [ly])
       (try simp only [Act.put, pu])
       clear hcl; have hcl := hcl2; clear hcl2
       refine wpAnyK_pass3 (i := 14) hcl hS rfl (by kernel_rfl) (fun _ _ _ h => h) (by rfl) (fun hcl2 => ?_)
       (try simp only [ly])
       (try simp only [Act.put, pu])
       clear hcl; have hcl := hcl2; clear hcl2
       refine wpAnyK_pass3 (i := 15) hcl hS rfl (by kernel_rfl) (fun _ _ _ h => h) (by rfl) (fun hcl2 => ?_)
       (try simp only [ly])
       (try simp only [Act.put, pu])
       clear hcl; have hcl := hcl2; clear hcl2
       refine wpAnyK_pass3 (i := 16) hcl hS rfl (by kernel_rfl) (fun _ _ _ h => h) (by rfl) (fun hcl2 => ?_)
       (try simp only [ly])
       (try simp only [Act.put, pu])
       clear hcl; have hcl := hcl2; clear hcl2
       refine wpAnyK_pass3 (i := 17) hcl hS rfl (by kernel_rfl) (fun _ _ _ h => h) (by rfl) (fun hcl2 => ?_)
       (try simp only [ly])
       (try simp only [Act.put, pu])
       clear hcl; have hcl := hcl2; clear hcl2
       refine wpAnyK_pass3 (i := 18) hcl hS rfl (by kernel_rfl) (fun _ _ _ h => h) (by rfl) (fun hcl2 => ?_)
       (try simp only [ly])
       (try simp only [Act.put, pu])
       clear hcl; have hcl := hcl2; clear hcl2
       refine wpAnyK_pass3 (i := 19) hcl hS rfl (by kernel_rfl) (fun _ _ _ h => h) (by rfl) (fun hcl2 => ?_)
       (try simp only [ly])
       (try simp only [Act.put, pu])
       clear hcl; have hcl := hcl2; clear hcl2
       refine wpAnyK_pass3 (i := 20) hcl hS rfl (by kernel_rfl) (fun _ _ _ h => h) (by rfl) (fun hcl2 => ?_)
       (try simp only [ly])
       (try simp only [Act.put, pu])
       clear hcl; have hcl := hcl2; clear hcl2
       refine wpAnyK_pass3 (i := 21) hcl hS rfl (by kernel_rfl) (fun _ _ _ h => h) (by rfl) (fun hcl2 => ?_)
       (try simp only [ly])
       (try simp only [Act.put, pu])
       clear hcl; have hcl := hcl2; clear hcl2
       refine wpAnyK_pass3 (i := 22) hcl hS rfl (by kernel_rfl) (fun _ _ _ h => h) (by rfl) (fun hcl2 => ?_)
       (try simp only [ly])
       (try simp only [Act.put, pu])
       clear hcl; have hcl := hcl2; clear hcl2
       refine wpAnyK_pass3 (i := 23) hcl hS rfl (by kernel_rfl) (fun _ _ _ h => h) (by rfl) (fun hcl2 => ?_)
       (try simp only [ly])
       (try simp only [Act.put, pu])
       clear hcl; have hcl := hcl2; clear hcl2
       refine wpAnyK_pass3 (i := 24) hcl hS rfl (by kernel_rfl) (fun _ _ _ h => h) (by rfl) (fun hcl2 => ?_)
       (try simp only [ly])
       (try simp only [Act.put, pu])
       clear hcl; have hcl := hcl2; clear hcl2
       refine wpAnyK_pass3 (i := 25) hcl hS rfl (by kernel_rfl) (fun _ _ _ h => h) (by rfl) (fun hcl2 => ?_)
       (try simp only [ly])
       (try simp only [Act.put, pu])
       clear hcl; have hcl := hcl2; clear hcl2
       refine wpAnyK_pass3 (i := 26) hcl hS rfl (by kernel_rfl) (fun _ _ _ h => h) (by rfl) (fun hcl2 => ?_)
       (try simp only [ly])
       (try simp only [Act.put, pu])
       clear hcl; have hcl := hcl2; clear hcl2
       refine wpAnyK_pass3 (i := 27) hcl hS rfl (by kernel_rfl) (fun _ _ _ h => h) (by rfl) (fun hcl2 => ?_)
       (try simp only [ly])
       (try simp only [Act.put, pu])
       clear hcl; have hcl := hcl2; clear hcl2
       refine wpAnyK_pass3 (i := 28) hcl hS rfl (by kernel_rfl) (fun _ _ _ h => h) (by rfl) (fun hcl2 => ?_)
       (try simp only [ly])
       (try simp only [Act.put, pu])
       clear hcl; have hcl := hcl2; clear hcl2
       refine wpAnyK_one (i := 29) hcl (by kernel_rfl) rfl (by rfl) (fun K hK => ?_)
       go_simp
       refine hK.out _ _ (Or.inl (by kernel_rfl)) (fun hcl2 => ?_)
       clear hK K hcl hcl2 hS
       refine wpAnyK_done (by kernel_rfl) ?_ _
       (try simp only [Act.put, pu])
       go_wp2_with fail
       go_roundw
       case rel => exact ⟨HB6.out.drew, j + 1, t, by rfl, by rfl, HJ.out, Lib.hid (Sp.LastAt.miss HLA.out HC5.out (by simp [HE1.out]))⟩
       case measure => have := HJ.out; simp [intOf]; omega
     ·have u1 : decide ((j : Int) < (m : Int)) = false := decide_eq_false (by omega)
      have u2 : decide (j < m) = false := decide_eq_false hjm
      obtain rfl : m = j := by omega
      have hla2 : Sp.LastAt (fun q' : Int × ByteArray => q'.1 == x' && Sp.portIn n q'.1.toNat != qi) L L.length t := by rw [HM.out]; exact hla.out
      have hb6N : Below N w wr := HB5.out.trans (hb6.mono (Nat.le_of_lt HK05.out.lt))
      have HB6 := Lib.hid hb6N
      have hk06 := HK05.out.below hb6 HK05.out.lt
      have hk16 := HK15.out.below hb6 HK15.out.lt
      have HK06 := Lib.hid hk06
      have HK16 := Lib.hid hk16
      rcases hla2.done with ⟨h1, rfl⟩ | ⟨ti, c, rfl, hti, hc, h1⟩
      ·have hfm := Sp.follow_miss HOK.out HQ.out (x := x') (h := h) (by rw [HQI.out, HL2.out]; exact h1) ((x :: rest).drop (i + 1)) (i : Int) (a : Int)
       have HFM := Lib.hid hfm
       clear hla2 hla h1 hfm hb6N hb6 hk06 hk16 hj hjm
       go_wp2_with fail
       (try simp only [Exit.inBlock, Exit.then]); refine bodyPost_ret (results_tmp3 rfl _ _ _) rfl ?_
       refine FollowEnd.of ?_ (by rw [HN.out]; exact HB6.out)
       rw [HLC.out, HRF.out.2, HDR.out]
       exact HFM.out
      ·have hfh := Sp.follow_hit HOK.out HRF.out.1 HQ.out (x := x') (c := c) (by rw [HQI.out, HL2.out]; exact h1) ((x :: rest).drop (i + 1)) (i : Int) (a : Int)
       obtain ⟨k', e1, e2, hso', hfv⟩ := hfh
       rw [HM.out] at hti
       obtain ⟨gs, os, rfl, hgs, y0, y1⟩ := HSV.out.at hc
       have y0 := (hb6.cell (p := ⟨gs, os + ti * 2, none⟩) hgs).trans y0
       have y1 := (hb6.cell (p := ⟨gs, os + ti * 2 + 1, none⟩) hgs).trans y1
       rw [e1] at y0
       obtain ⟨ch, hch⟩ : ∃ ch, c.2 = ch := ⟨_, rfl⟩
       rw [hch] at y1 hso' hfv
       rw [HQI.out] at hfv
       have t1 : decide ((ti : Int) < 0) = false := decide_eq_false (by omega)
       have t2 : (0 : Int) ≤ (ti : Int) := by omega
       have t3 : (ti : Int) < (m : Int) := by omega
       have t4 : (0 : Int) ≤ (k : Int) := by omega
       have t5 : (k : Int) < (np : Int) := by have := HLT.out; omega
       have n1 : wr.cell? ⟨N, 1, none⟩ = some (.slice (some ⟨gp, op, none⟩) np c1) := hk06.cell 1
       have s0 : wr.cell? ⟨N + 1, 0, none⟩ = some (.int .i64 (k : Int)) := hk16.cell 0
       have s1 : wr.cell? ⟨N + 1, 1, none⟩ = some (.string h) := hk16.cell 1
       have f0 := hk16.frozen 0
       have f1 := hk16.frozen 1
       have k2 : wr.cell? ⟨gp, op + k * 4 + 2, none⟩ = some (.bool qi) := (hb6N.cell (p := ⟨gp, op + k * 4 + 2, none⟩) HGP.out).trans HK2.out
       have HSO' := Lib.hid hso'
       have HFV := Lib.hid hfv
       clear hla2 hla h1 hb6N hb6 hk06 hk16 hj hjm hc e1 e2 hso' hfv hti hgs hch
       cases qi with
       | true =>
        go_wp2_with fail
        go_roundw
        case rel => exact ⟨(HB6.out.setCell (p := ⟨N + 1, 0, none⟩) (by show N ≤ N + 1; omega) _).setCell (p := ⟨N + 1, 1, none⟩) (by show N ≤ N + 1; omega) _, (HK06.out.far (p := ⟨N + 1, 0, none⟩) (by show N ≠ N + 1; omega) _).far (p := ⟨N + 1, 1, none⟩) (by show N ≠ N + 1; omega) _, i + 1, k', a + 1, ch, by rfl, by rfl, HI.out.1, by have := HI.out.2; omega, (HK16.out.set_ 0 _).set_ 1 _, Lib.hid ⟨HSO'.out, by rw [HRF.out.2, HDR.out, HFV.out]; rfl⟩⟩
        case measure => have := HI.out.1; simp [intOf]; omega
       | false =>
        go_wp2_with fail
        go_roundw
        case rel => exact ⟨(HB6.out.setCell (p := ⟨N + 1, 0, none⟩) (by show N ≤ N + 1; omega) _).setCell (p := ⟨N + 1, 1, none⟩) (by show N ≤ N + 1; omega) _, (HK06.out.far (p := ⟨N + 1, 0, none⟩) (by show N ≠ N + 1; omega) _).far (p := ⟨N + 1, 1, none⟩) (by show N ≠ N + 1; omega) _, i + 1, k', a, ch, by rfl, by rfl, HI.out.1, by have := HI.out.2; omega, (HK16.out.set_ 0 _).set_ 1 _, Lib.hid ⟨HSO'.out, by rw [HRF.out.2, HDR.out, HFV.out]; rfl⟩⟩
        case measure => have := HI.out.1; simp [intOf]; omega
   ·have p1 : decide ((i : Int) < (r' : Int) + 1) = false := decide_eq_false (by omega)
    have p2 : decide (i < r' + 1) = false := decide_eq_false hlt
    have s1 : wo.cell? ⟨N + 1, 1, none⟩ = some (.string h) := hk1.cell 1
    have hfin : Sp.followT n (kk : Int) hd (x :: rest) = (h, (a : Int), 0) := by
     rw [hrf.out.2, List.drop_eq_nil_of_le (by rw [← HLC.out, HR.out]; omega)]
     unfold Sp.followV
     rfl
    have HFIN := Lib.hid hfin
    clear hb hk0 hk1 hrf hi hai hlt hfin
    go_wp2_with fail
    (try simp only [Exit.inBlock, Exit.then]); refine bodyPost_ret (results_tmp3 rfl _ _ _) rfl ?_
    exact FollowEnd.of (by rw [HLC.out]; exact HFIN.out) (by rw [HN.out]; exact HB.out)
end Go.Proofs.YthnamoedpnknmaaGreatDoor
