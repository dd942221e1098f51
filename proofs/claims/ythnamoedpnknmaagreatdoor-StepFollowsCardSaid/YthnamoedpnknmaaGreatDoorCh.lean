/-
 THE WALK of the law StepFollows (chapter 10).
-/
import Derived.Test.YthnamoedpnknmaaGreatDoorCf
import Derived.Test.YthnamoedpnknmaaGreatDoorCg
set_option linter.unusedVariables false
set_option linter.unusedSimpArgs false
set_option maxRecDepth 100000
set_option maxHeartbeats 8000000
namespace Go.Proofs.YthnamoedpnknmaaGreatDoor
open Go.RowKit
theorem iv_pre {W : World} {A : Option Addr} {l l' : List Int} (h : IV W A (l ++ l')) : IV W A l := fun i a ha => h i a (by rw [List.getElem?_append_left (List.getElem?_eq_some_iff.1 ha).1]; exact ha)
theorem law_follows (n : Sp.Net) (A1 A2 A3 : Option Addr) (c1 c2 c3 : Nat) (p : Int) (h : ByteArray) (Ap : Option Addr) (kp : Nat) (l : List Int) (w : World) (hG : Gn w)
  (hnr : NetR w n [.int .i64 n.bits, .slice A1 n.ports.length c1, .slice A2 n.tables.length c2, .slice A3 n.guards.length c3]) (hsz : Sp.SzdT n) (hh : h.size ≤ 9223372036854775807) (hv : IV w Ap l) (hl : l.length * 8 ≤ 140737488355320) :
  Calls Tryz.prog 4 #[.agg #[.int .i64 n.bits, .slice A1 n.ports.length c1, .slice A2 n.tables.length c2, .slice A3 n.guards.length c3], .agg #[.int .i64 p, .string h], .slice Ap l.length kp] w fun e w' => e = .returned (.bool true) ∧ Below w.heap.size w w' := by
 obtain ⟨hp1, ht1, hg1⟩ := net_views hnr
 have hrm := fun W (hW : Below w.heap.size w W) => ref9_Roomy n A1 A2 A3 c1 c2 c3 W hsz (hp1.more hW) (ht1.more hW) (hg1.more hW)
 have hcp := fun W (hW : Below w.heap.size w W) => law10_copyInts Ap kp l W (hv.more hW) hl
 have hrf := fun (W : World) Av kv (hW : Below w.heap.size w W) (hi : IV W Av l) (hk : l.length ≤ kv) => ref10_Follow n A1 A2 A3 c1 c2 c3 p h Av kv l W (hp1.more hW) (ht1.more hW) (hg1.more hW) hsz.szd hsz.szt hh hi hk (by omega)
 have hst := fun (W : World) g1 g2 g3 lo Av kv (hW : Below w.heap.size w W) (hN : RNetAt lo W n g1 g2 g3) (hi : IV W Av l) (hk : l.length ≤ kv) => step_Follow n (some ⟨g1, 0, none⟩) (some ⟨g2, 0, none⟩) (some ⟨g3, 0, none⟩) (n.ports.length + 1) (n.tables.length + 1) (n.guards.length + 1) p h Av kv l W (hG.below hW) hN.held.plain hsz.szd hh hi hk (by omega)
 have hmk := fun (W : World) g1 g2 g3 lo B1 B2 B3 d1 d2 d3 (hW : Below w.heap.size w W) (hN : RNetAt lo W n g1 g2 g3) (hK : HNet lo W n [.int .i64 n.bits, .slice B1 n.ports.length d1, .slice B2 n.tables.length d2, .slice B3 n.guards.length d3]) => ref9_Marked lo n g1 g2 g3 B1 B2 B3 d1 d2 d3 A1 A2 A3 c1 c2 c3 W hsz hN (hnet_views hK).1 (hnet_views hK).2.1 (hnet_views hK).2.2 (hp1.more hW) (ht1.more hW) (hg1.more hW)
 have hkn := fun (W : World) (hW : Below w.heap.size w W) => law10_known W (hG.below hW)
 have hii := fun (W : World) Aa Ab ka kb (ia : IV W Aa l) (ib : IV W Ab l) => law10_ints Aa Ab ka kb l W ia ib (by omega)
 unfold RoomyEnd at hrm
 unfold FollowEnd at hrf hst
 obtain ⟨⟨fh, fa, fe⟩, hT⟩ : ∃ T, Sp.followT n p h l = T := ⟨_, rfl⟩
 rw [hT] at hrf hst
 simp only at hrf hst
 obtain ⟨np, hnp⟩ : ∃ np, n.ports.length = np := ⟨_, rfl⟩
 obtain ⟨nt, hnt⟩ : ∃ nt, n.tables.length = nt := ⟨_, rfl⟩
 obtain ⟨ng, hng⟩ : ∃ ng, n.guards.length = ng := ⟨_, rfl⟩
 obtain ⟨bt, hbt⟩ : ∃ bt, n.bits = bt := ⟨_, rfl⟩
 obtain ⟨r, hr⟩ : ∃ r, l.length = r := ⟨_, rfl⟩
 obtain ⟨N, hN⟩ : ∃ N, w.heap.size = N := ⟨_, rfl⟩
 rw [hnp, hnt, hng, hbt, hN] at hrm hmk
 rw [hnp, hnt, hng, hbt, hN, hr] at hrf hst
 rw [hr] at hl hii
 rw [hN, hr] at hcp
 rw [hN] at hkn
 obtain ⟨W2, hW2⟩ : ∃ W2, (w.alloc (.cells #[.int .i64 bt, .slice A1 np c1, .slice A2 nt c2, .slice A3 ng c3] 26)).alloc (.cells #[.int .i64 p, .string h] 28) = W2 := ⟨_, rfl⟩
 have hb2 : Below N w W2 := by rw [← hW2, ← hN]; exact ((Below.refl _ _).alloc (Nat.le_refl _) _).alloc (by simp) _
 have hk0 : Blk W2 N 26 #[.int .i64 bt, .slice A1 np c1, .slice A2 nt c2, .slice A3 ng c3] := by rw [← hW2, ← hN]; exact (Blk.new _ _ _).alloc _
 have hk1 : Blk W2 (N + 1) 28 #[.int .i64 p, .string h] := by rw [← hW2, ← hN]; exact blk_at9 (by simp)
 have m0 : W2.cell? ⟨N, 0, none⟩ = some (.int .i64 bt) := hk0.cell 0
 have m1 : W2.cell? ⟨N, 1, none⟩ = some (.slice A1 np c1) := hk0.cell 1
 have m2 : W2.cell? ⟨N, 2, none⟩ = some (.slice A2 nt c2) := hk0.cell 2
 have m3 : W2.cell? ⟨N, 3, none⟩ = some (.slice A3 ng c3) := hk0.cell 3
 have HN := Lib.hid hN
 have HR := Lib.hid hr
 have HLB := Lib.hid hl
 have HRM := Lib.hid (hrm W2 hb2)
 have HCP := Lib.hid hcp
 have HRF := Lib.hid hrf
 have HST := Lib.hid hst
 have HMK := Lib.hid hmk
 have HKN := Lib.hid hkn
 have HII := Lib.hid hii
 have HB := Lib.hid hb2
 have HK0 := Lib.hid hk0
 have HK1 := Lib.hid hk1
 rw [hnp, hnt, hng, hbt, hr]
 clear hnp hnt hng hbt hr hT hp1 ht1 hg1 hG hnr hsz hh hv hrm hcp hrf hst hmk hkn hii hb2 hk0 hk1
 go_enter Tryz.func4, Tryz.ntmps4
 go_wp2_with fail
 refine HRM.out.mono ?_
 rintro e W3 ⟨lo, g1, g2, g3, B1, d1, B2, d2, B3, d3, _, rfl, hnet, hkept, hb3⟩
 obtain ⟨M, hM⟩ : ∃ M, W3.heap.size = M := ⟨_, rfl⟩
 obtain ⟨W4, hW4⟩ : ∃ W4, (W3.alloc (.cells #[.int .i64 bt, .slice (some ⟨g1, 0, none⟩) np (np + 1), .slice (some ⟨g2, 0, none⟩) nt (nt + 1), .slice (some ⟨g3, 0, none⟩) ng (ng + 1)] 26)).alloc (.cells #[.int .i64 bt, .slice B1 np d1, .slice B2 nt d2, .slice B3 ng d3] 26) = W4 := ⟨_, rfl⟩
 have hb34 : Below M W3 W4 := by rw [← hW4, ← hM]; exact ((Below.refl _ _).alloc (Nat.le_refl _) _).alloc (by simp) _
 have hk4M : Blk W4 M 26 #[.int .i64 bt, .slice (some ⟨g1, 0, none⟩) np (np + 1), .slice (some ⟨g2, 0, none⟩) nt (nt + 1), .slice (some ⟨g3, 0, none⟩) ng (ng + 1)] := by rw [← hW4, ← hM]; exact (Blk.new _ _ _).alloc _
 have hk4K : Blk W4 (M + 1) 26 #[.int .i64 bt, .slice B1 np d1, .slice B2 nt d2, .slice B3 ng d3] := by rw [← hW4, ← hM]; exact blk_at9 (by simp)
 have hb4 : Below W2.heap.size W2 W4 := hb3.trans (by rw [← hM] at hb34; exact hb34.mono hb3.size)
 have HK40 := Lib.hid (HK0.out.below hb4 HK0.out.lt)
 have HK41 := Lib.hid (HK1.out.below hb4 HK1.out.lt)
 have HN4 := Lib.hid (hnet.more (by rw [hM]; exact hb34))
 have HP4 := Lib.hid (hkept.more (by rw [hM]; exact hb34))
 have HB4 := Lib.hid (show Below N w W4 from HB.out.trans (hb4.mono (Nat.le_of_lt HK0.out.lt)))
 have HK4M := Lib.hid hk4M
 have HK4K := Lib.hid hk4K
 clear hb3 hnet hkept hb34 hk4M hk4K hb4 HRM HB HK0 HK1 m0 m1 m2 m3
 go_wp2_with fail
 refine (HCP.out W4 HB4.out).mono ?_
 rintro e W5 ⟨v5, rfl, hin5, hb5⟩
 obtain ⟨Av, kv, rfl, hkv, hiv5⟩ := in_view hin5
 rw [HR.out] at hkv ⊢
 have hk50 := HK40.out.below hb5 HK40.out.lt
 have hk51 := HK41.out.below hb5 HK41.out.lt
 have HB5 := Lib.hid (show Below N w W5 from HB4.out.trans (hb5.mono (Nat.le_of_lt HK40.out.lt)))
 have HN5 := Lib.hid (HN4.out.more hb5)
 have HP5 := Lib.hid (HP4.out.more hb5)
 have HK5M := Lib.hid (HK4M.out.below hb5 HK4M.out.lt)
 have HK5K := Lib.hid (HK4K.out.below hb5 HK4K.out.lt)
 have x0 : W5.cell? ⟨N, 0, none⟩ = some (.int .i64 bt) := hk50.cell 0
 have x1 : W5.cell? ⟨N, 1, none⟩ = some (.slice A1 np c1) := hk50.cell 1
 have x2 : W5.cell? ⟨N, 2, none⟩ = some (.slice A2 nt c2) := hk50.cell 2
 have x3 : W5.cell? ⟨N, 3, none⟩ = some (.slice A3 ng c3) := hk50.cell 3
 have y0 : W5.cell? ⟨N + 1, 0, none⟩ = some (.int .i64 p) := hk51.cell 0
 have y1 : W5.cell? ⟨N + 1, 1, none⟩ = some (.string h) := hk51.cell 1
 have HC5 := Lib.hid (HRF.out W5 Av kv HB5.out hiv5 hkv)
 have HIV5 := Lib.hid hiv5
 have HK50 := Lib.hid hk50
 have HK51 := Lib.hid hk51
 clear hb5 hin5 hiv5 hkv hk50 hk51 HB4 HN4 HP4 HK40 HK41 HK4M HK4K hM hW4
 go_wp2_with fail
 refine HC5.out.mono ?_
 rintro e W6 ⟨rfl, hb6⟩
 have HB6 := Lib.hid (show Below N w W6 from HB5.out.trans (hb6.mono (Nat.le_of_lt HK50.out.lt)))
 have HN6 := Lib.hid (HN5.out.more hb6)
 have HP6 := Lib.hid (HP5.out.more hb6)
 have HIV6 := Lib.hid (HIV5.out.more hb6)
 have HK60 := Lib.hid (HK50.out.below hb6 HK50.out.lt)
 have HK61 := Lib.hid (HK51.out.below hb6 HK51.out.lt)
 have HK6M := Lib.hid (HK5M.out.below hb6 HK5M.out.lt)
 have HK6K := Lib.hid (HK5K.out.below hb6 HK5K.out.lt)
 clear hb6 x0 x1 x2 x3 y0 y1 HB5 HN5 HP5 HK50 HK51 HK5M HK5K HC5 HIV5 HRF
 go_wp2_with fail
 refine (HCP.out W6 HB6.out).mono ?_
 rintro e W7 ⟨v7, rfl, hin7, hb7⟩
 have HIN7 := Lib.hid hin7
 have HB67 := Lib.hid hb7
 clear hin7 hb7 HCP
 go_wp2_with (at_builtin; refine wpList_int rfl _ _ rfl W6.heap.size v7 l rfl W7 7777 rfl HIN7.out HB67.out.size (by rw [HR.out]; exact HLB.out) ?_; intro v8 W8 hin8 hb8; have HIN8 := Lib.hid hin8; have HB8 := Lib.hid hb8; clear hin8 hb8)
 obtain ⟨Ar, cr, rfl, hcr, hiv8⟩ := in_view HIN8.out
 have hb68 : Below W6.heap.size W6 W8 := HB67.out.trans HB8.out
 have hcr2 : r + 1 ≤ cr := by rw [List.length_append, HR.out] at hcr; simpa using hcr
 rw [List.length_append, HR.out]
 have hb68N : Below N w W8 := HB6.out.trans (hb68.mono (Nat.le_of_lt HK60.out.lt))
 have hiv8l := iv_pre hiv8
 have hk80 := HK60.out.below hb68 HK60.out.lt
 have hk81 := HK61.out.below hb68 HK61.out.lt
 have hk8M := HK6M.out.below hb68 HK6M.out.lt
 have hk8K := HK6K.out.below hb68 HK6K.out.lt
 have hsw : ∀ W, Below W8.heap.size W8 W → (fun w' : World => w'.cell? ⟨M, 0, none⟩ = some (.int .i64 bt) ∧ w'.cell? ⟨M, 1, none⟩ = some (.slice (some ⟨g1, 0, none⟩) np (np + 1)) ∧ w'.cell? ⟨M, 2, none⟩ = some (.slice (some ⟨g2, 0, none⟩) nt (nt + 1)) ∧ w'.cell? ⟨M, 3, none⟩ = some (.slice (some ⟨g3, 0, none⟩) ng (ng + 1)) ∧ w'.cell? ⟨N + 1, 0, none⟩ = some (.int .i64 p) ∧ w'.cell? ⟨N + 1, 1, none⟩ = some (.string h)) W := fun W hW => ⟨(hW.cell (p := ⟨M, 0, none⟩) hk8M.lt).trans (hk8M.cell 0), (hW.cell (p := ⟨M, 1, none⟩) hk8M.lt).trans (hk8M.cell 1), (hW.cell (p := ⟨M, 2, none⟩) hk8M.lt).trans (hk8M.cell 2), (hW.cell (p := ⟨M, 3, none⟩) hk8M.lt).trans (hk8M.cell 3), (hW.cell (p := ⟨N + 1, 0, none⟩) hk81.lt).trans (hk81.cell 0), (hW.cell (p := ⟨N + 1, 1, none⟩) hk81.lt).trans (hk81.cell 1)⟩
 have hN8 := HN6.out.more hb68
 have HP8 := Lib.hid (HP6.out.more hb68)
 have HIV8a := Lib.hid (HIV6.out.more hb68)
 have hcall := HST.out W8.drew g1 g2 g3 lo Ar cr hb68N.drew (hN8.more ((Below.refl _ _).drew)) (hiv8l.more ((Below.refl _ _).drew)) (by omega)
 obtain ⟨gr, og, rfl, hgr, a7⟩ := hiv8.at (i := r) (x := 7777) (by rw [List.getElem?_append_right (by rw [HR.out]; exact Nat.le_refl _), HR.out, Nat.sub_self]; rfl)
 have HB8N := Lib.hid hb68N
 have HN8 := Lib.hid hN8
 have HIVl := Lib.hid hiv8l
 have HK80 := Lib.hid hk80
 have HK8M := Lib.hid hk8M
 have HK8K := Lib.hid hk8K
 have HSW := Lib.hid hsw
 have HCALL := Lib.hid hcall
 have HGR := Lib.hid hgr
 have HA7 := Lib.hid a7
 have q1 : (r : Int) ≤ (cr : Int) := by omega
 have q2 : r ≤ cr := by omega
 have q3 : (0 : Int) ≤ (r : Int) := by omega
 have q4 : IntKind.i64.wrap (r : Int) = (r : Int) := by have := HLB.out; rw [IntKind.wrap_i64]; omega
 have q5 : (r : Int) < (r : Int) + 1 := by omega
 have q6 : r < r + 1 := by omega
 have hS0 := hsw W8.drew ((Below.refl _ _).drew)
 have HCR := Lib.hid hcr2
 clear hcr hcr2 hiv8 hb68 hb68N hiv8l hk80 hk81 hk8M hk8K hsw hN8 hcall hgr a7 HB6 HN6 HP6 HIV6 HK60 HK61 HK6M HK6K HIN7 HB67 HIN8 HB8 HST
 refine wp_region_K 13 (fun w' : World => w'.cell? ⟨M, 0, none⟩ = some (.int .i64 bt) ∧ w'.cell? ⟨M, 1, none⟩ = some (.slice (some ⟨g1, 0, none⟩) np (np + 1)) ∧ w'.cell? ⟨M, 2, none⟩ = some (.slice (some ⟨g2, 0, none⟩) nt (nt + 1)) ∧ w'.cell? ⟨M, 3, none⟩ = some (.slice (some ⟨g3, 0, none⟩) ng (ng + 1)) ∧ w'.cell? ⟨N + 1, 0, none⟩ = some (.int .i64 p) ∧ w'.cell? ⟨N + 1, 1, none⟩ = some (.string h)) (by kernel_rfl) (fun hcl => ?_)
 have hS := hS0
 clear hS0
 refine tk 0 _ hcl hS (fun hcl2 => ?_)
 (try simp only [ly]); (try simp only [Act.put, pu]); clear hcl; have hcl := hcl2; clear hcl2
 refine tk 1 _ hcl hS (fun hcl2 => ?_)
 (try simp only [ly]); (try simp only [Act.put, pu]); clear hcl; have hcl := hcl2; clear hcl2
 refine tk 2 _ hcl hS (fun hcl2 => ?_)
 (try simp only [ly]); (try simp only [Act.put, pu]); clear hcl; have hcl := hcl2; clear hcl2
 refine tk 3 _ hcl hS (fun hcl2 => ?_)
 (try simp only [ly]); (try simp only [Act.put, pu]); clear hcl; have hcl := hcl2; clear hcl2
 refine tk 4 _ hcl hS (fun hcl2 => ?_)
 (try simp only [ly]); (try simp only [Act.put, pu]); clear hcl; have hcl := hcl2; clear hcl2
 refine tk 5 _ hcl hS (fun hcl2 => ?_)
 (try simp only [ly]); (try simp only [Act.put, pu]); clear hcl; have hcl := hcl2; clear hcl2
 refine wpAnyK_one (i := 6) hcl (by kernel_rfl) rfl (by rfl) (fun K hK => ?_)
 go_simp
 refine HCALL.out.mono ?_
 rintro e W9 ⟨rfl, hb9⟩
 have Hb9 := Lib.hid (show Below W8.heap.size W8 W9 from (Below.refl W8.heap.size W8).drew.trans hb9)
 clear hS hb9
 have hS := HSW.out _ Hb9.out
 refine hK.out _ _ (Or.inr hS) (fun hcl2 => ?_)
 clear hK K hcl
 have hcl := hcl2
 clear hcl2
 refine tk 7 _ hcl hS (fun hcl2 => ?_)
 (try simp only [ly]); (try simp only [Act.put, pu]); clear hcl; have hcl := hcl2; clear hcl2
 refine tk 8 _ hcl hS (fun hcl2 => ?_)
 (try simp only [ly]); (try simp only [Act.put, pu]); clear hcl; have hcl := hcl2; clear hcl2
 refine tk 9 _ hcl hS (fun hcl2 => ?_)
 (try simp only [ly]); (try simp only [Act.put, pu]); clear hcl; have hcl := hcl2; clear hcl2
 refine tk 10 _ hcl hS (fun hcl2 => ?_)
 (try simp only [ly]); (try simp only [Act.put, pu]); clear hcl; have hcl := hcl2; clear hcl2
 refine tk 11 _ hcl hS (fun hcl2 => ?_)
 (try simp only [ly]); (try simp only [Act.put, pu]); clear hcl; have hcl := hcl2; clear hcl2
 refine tk 12 _ hcl hS (fun hcl2 => ?_)
 (try simp only [ly]); (try simp only [Act.put, pu]); clear hcl; have hcl := hcl2; clear hcl2
 clear hS
 refine wpAnyK_one (i := 13) hcl (by kernel_rfl) rfl (by rfl) (fun K hK => ?_)
 go_simp
 refine hK.out _ _ (Or.inl (by kernel_rfl)) (fun hcl2 => ?_)
 clear hK K hcl hcl2
 refine wpAnyK_done (by kernel_rfl) ?_ _
 (try simp only [Act.put, pu])
 have HB9 := Lib.hid (show Below N w W9 from HB8N.out.trans (Hb9.out.mono (Nat.le_of_lt HK80.out.lt)))
 have HN9 := Lib.hid (HN8.out.more Hb9.out)
 have HP9 := Lib.hid (HP8.out.more Hb9.out)
 have hk90 := HK80.out.below Hb9.out HK80.out.lt
 have hk9M := HK8M.out.below Hb9.out HK8M.out.lt
 have hk9K := HK8K.out.below Hb9.out HK8K.out.lt
 have HIVa := Lib.hid (HIV8a.out.more Hb9.out)
 have HIVb := Lib.hid (HIVl.out.more Hb9.out)
 have hgr9 : gr < W9.heap.size := Nat.lt_of_lt_of_le HGR.out Hb9.out.size
 have ha79 : W9.cell? ⟨gr, og + r, none⟩ = some (.int .i64 7777) := (Hb9.out.cell (p := ⟨gr, og + r, none⟩) HGR.out).trans HA7.out
 have x0 : W9.cell? ⟨N, 0, none⟩ = some (.int .i64 bt) := hk90.cell 0
 have x1 : W9.cell? ⟨N, 1, none⟩ = some (.slice A1 np c1) := hk90.cell 1
 have x2 : W9.cell? ⟨N, 2, none⟩ = some (.slice A2 nt c2) := hk90.cell 2
 have x3 : W9.cell? ⟨N, 3, none⟩ = some (.slice A3 ng c3) := hk90.cell 3
 have u0 : W9.cell? ⟨M, 0, none⟩ = some (.int .i64 bt) := hk9M.cell 0
 have u1 : W9.cell? ⟨M, 1, none⟩ = some (.slice (some ⟨g1, 0, none⟩) np (np + 1)) := hk9M.cell 1
 have u2 : W9.cell? ⟨M, 2, none⟩ = some (.slice (some ⟨g2, 0, none⟩) nt (nt + 1)) := hk9M.cell 2
 have u3 : W9.cell? ⟨M, 3, none⟩ = some (.slice (some ⟨g3, 0, none⟩) ng (ng + 1)) := hk9M.cell 3
 have v0 : W9.cell? ⟨M + 1, 0, none⟩ = some (.int .i64 bt) := hk9K.cell 0
 have v1 : W9.cell? ⟨M + 1, 1, none⟩ = some (.slice B1 np d1) := hk9K.cell 1
 have v2 : W9.cell? ⟨M + 1, 2, none⟩ = some (.slice B2 nt d2) := hk9K.cell 2
 have v3 : W9.cell? ⟨M + 1, 3, none⟩ = some (.slice B3 ng d3) := hk9K.cell 3
 have hc9 := HMK.out W9 g1 g2 g3 lo B1 B2 B3 d1 d2 d3 HB9.out HN9.out HP9.out
 have HC9 := Lib.hid hc9
 have HL9 := Lib.hid hk90.lt
 have HA79 := Lib.hid ha79
 have HGR9 := Lib.hid hgr9
 have t0 : (fh.toList == fh.toList) = true := by rw [beq_iff_eq]
 have t1 : decide (fh = fh) = true := decide_eq_true rfl
 clear hc9 hk90 hk9M hk9K hgr9 ha79 HMK HN8 HP8 HIV8a HIVl HK80 HK8M HK8K HSW HCALL HGR HA7
 go_wp2_with (first
  | (go_at_call 12; refine (law10_num _ _).mono ?_; rintro e w9 ⟨rfl, hw⟩; rw [hw]; clear hw))
 refine HC9.out.mono ?_
 rintro e W10 ⟨rfl, hb10⟩
 have HB10 := Lib.hid (show Below N w W10 from HB9.out.trans (hb10.mono (Nat.le_of_lt HL9.out)))
 have HCI := Lib.hid (HII.out W10 (some ⟨gr, og, none⟩) Av cr kv (HIVb.out.more hb10) (HIVa.out.more hb10))
 have HA10 := Lib.hid (show W10.cell? ⟨gr, og + r, none⟩ = some (.int .i64 7777) from (hb10.cell (p := ⟨gr, og + r, none⟩) HGR9.out).trans HA79.out)
 have HGR10 := Lib.hid (Nat.lt_of_lt_of_le HGR9.out hb10.size)
 clear hb10 x0 x1 x2 x3 u0 u1 u2 u3 v0 v1 v2 v3
 go_wp2_with fail
 refine HCI.out.mono ?_
 rintro e W11 ⟨rfl, hb11⟩
 have HB11 := Lib.hid (show Below N w W11 from HB10.out.trans (hb11.mono (by have := HB10.out.size; rw [HN.out] at this; exact this)))
 have a11 : W11.cell? ⟨gr, og + r, none⟩ = some (.int .i64 7777) := (hb11.cell (p := ⟨gr, og + r, none⟩) HGR10.out).trans HA10.out
 clear hb11
 go_wp2_with fail
 refine (HKN.out W11 HB11.out).mono ?_
 rintro e W12 ⟨rfl, hb12⟩
 have HB12 := Lib.hid (show Below N w W12 from HB11.out.trans (hb12.mono (by have := HB11.out.size; rw [HN.out] at this; exact this)))
 clear hb12
 go_wp2_with fail
 go_ret
 exact ⟨rfl, by rw [HN.out]; exact HB12.out⟩
end Go.Proofs.YthnamoedpnknmaaGreatDoor
