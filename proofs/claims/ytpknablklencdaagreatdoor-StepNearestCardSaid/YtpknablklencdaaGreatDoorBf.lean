/-
  reachlaw10.path on paths that are alike; THE LAW StepNearest (chapter 10).
-/
import Derived.Test.YtpknablklencdaaGreatDoorBb
import Derived.Test.YtpknablklencdaaGreatDoorBe
set_option linter.unusedVariables false
set_option linter.unusedSimpArgs false
set_option maxRecDepth 100000
set_option maxHeartbeats 8000000
namespace Go.Proofs.YtpknablklencdaaGreatDoor
open Go.RowKit
theorem law10_path (A1 A2 B1 B2 : Option Addr) (c1 c2 d1 d2 : Nat) (l e : List Int) (h : ByteArray) (w : World) (k1 : IV w A1 l) (k2 : IV w A2 l) (k3 : IV w B1 e) (k4 : IV w B2 e) (hl : l.length ≤ 1000000) (he : e.length ≤ 1000000) :
    Calls Tryz.prog 18 #[.agg #[.slice A1 l.length c1, .slice B1 e.length d1, .string h], .agg #[.slice A2 l.length c2, .slice B2 e.length d2, .string h]] w fun r w' => r = .returned (.bool true) ∧ Below w.heap.size w w' := by
  obtain ⟨N, hN⟩ : ∃ N, w.heap.size = N := ⟨_, rfl⟩
  obtain ⟨W2, hW2⟩ : ∃ W2, (w.alloc (.cells #[.slice A1 l.length c1, .slice B1 e.length d1, .string h] 40)).alloc (.cells #[.slice A2 l.length c2, .slice B2 e.length d2, .string h] 40) = W2 := ⟨_, rfl⟩
  have hb2 : Below N w W2 := by rw [← hW2, ← hN]; exact ((Below.refl _ _).alloc (Nat.le_refl _) _).alloc (by simp) _
  have hbw : Below w.heap.size w W2 := by rw [hN]; exact hb2
  have hk1 : Blk W2 N 40 #[.slice A1 l.length c1, .slice B1 e.length d1, .string h] := by rw [← hW2, ← hN]; exact (Blk.new w _ _).alloc _
  have hk2 : Blk W2 (N + 1) 40 #[.slice A2 l.length c2, .slice B2 e.length d2, .string h] := by rw [← hW2]; exact blk_at (by rw [World.size_alloc]; omega)
  have hi1 := law10_ints A1 A2 c1 c2 l W2 (k1.more hbw) (k2.more hbw) (by omega)
  have HI2 := Lib.hid (fun (W : World) (hb : Below N w W) => law10_ints B1 B2 d1 d2 e W (k3.more (show Below w.heap.size w W by rw [hN]; exact hb)) (k4.more (show Below w.heap.size w W by rw [hN]; exact hb)) (by omega))
  obtain ⟨ll, hll⟩ : ∃ ll, l.length = ll := ⟨_, rfl⟩
  obtain ⟨ee, hee⟩ : ∃ ee, e.length = ee := ⟨_, rfl⟩
  rw [hll, hee] at hk1 hk2 hW2 ⊢
  rw [hll] at hi1
  rw [hee] at HI2
  have HI1 := Lib.hid hi1
  have HN := Lib.hid hN
  have HB2 := Lib.hid hb2
  have HK1 := Lib.hid hk1
  have HK2 := Lib.hid hk2
  have x0 : W2.cell? ⟨N, 0, none⟩ = some (.slice A1 ll c1) := hk1.cell 0
  have x1 : W2.cell? ⟨N + 1, 0, none⟩ = some (.slice A2 ll c2) := hk2.cell 0
  have hsz : N + 2 ≤ W2.heap.size := by have := hk2.lt; omega
  have HSZ := Lib.hid hsz
  clear k1 k2 k3 k4 hl he hb2 hbw hi1 hll hee hk1 hk2 hsz
  go_enter Tryz.func18, Tryz.ntmps18
  go_wp2_with fail
  go_at_call 13
  refine HI1.out.mono ?_
  rintro r W3 ⟨rfl, hb3⟩
  have HB3 := Lib.hid (HB2.out.trans (hb3.mono (by have := HSZ.out; omega)))
  have e1 := HK1.out.below hb3 HK1.out.lt
  have e2 := HK2.out.below hb3 HK2.out.lt
  have HE1 := Lib.hid e1
  have HE2 := Lib.hid e2
  clear x0 x1 hW2
  have x0 : W3.cell? ⟨N, 1, none⟩ = some (.slice B1 ee d1) := e1.cell 1
  have x1 : W3.cell? ⟨N + 1, 1, none⟩ = some (.slice B2 ee d2) := e2.cell 1
  clear e1 e2
  go_wp2_with fail
  go_at_call 13
  refine (HI2.out W3 HB3.out).mono ?_
  rintro r W4 ⟨rfl, hb4⟩
  have HB4 := Lib.hid (HB3.out.trans (hb4.mono (by have := HB3.out.size; have := HN.out; omega)))
  have e1 := HE1.out.below hb4 HE1.out.lt
  have e2 := HE2.out.below hb4 HE2.out.lt
  clear x0 x1 hb3 hb4
  have x0 : W4.cell? ⟨N, 2, none⟩ = some (.string h) := e1.cell 2
  have x1 : W4.cell? ⟨N + 1, 2, none⟩ = some (.string h) := e2.cell 2
  have z1 : (h.toList == h.toList) = true := by simp
  clear e1 e2
  go_wp2_with fail
  go_ret
  exact ⟨rfl, by rw [HN.out]; exact HB4.out⟩
namespace Sp
def BestN (n : Net) (tp : Int) (l : List Path) (best : Int) : Prop := 0 ≤ best ∧ best ≤ 1048576 ∧ (∀ E : Int, E ≤ 1048576 → (∀ q ∈ l, ∀ k : Nat, q.ports[k]? = some tp → E ≤ (cntIn n (q.ports.take k) : Int)) → E ≤ best) ∧ ((∀ q ∈ l, ∀ k : Nat, q.ports[k]? ≠ some tp) → best = 1048576)
theorem BestN.first (n : Net) (tp : Int) (l : List Path) : BestN n tp l 1048576 := ⟨by omega, by omega, fun E h _ => h, fun _ => rfl⟩
theorem BestN.less {n : Net} {tp : Int} {l : List Path} {best : Int} (h : BestN n tp l best) {q : Path} (hq : q ∈ l) {k : Nat} (ht : q.ports[k]? = some tp) (hlt : (cntIn n (q.ports.take k) : Int) < best) : BestN n tp l (cntIn n (q.ports.take k) : Int) :=
  ⟨by omega, by have := h.2.1; omega, fun E _ hE => hE q hq k ht, fun hn => absurd ht (hn q hq k)⟩
theorem first_at {l : List Int} {tp : Int} (h : tp ∉ l) {i : Nat} (hi : (l ++ [tp])[i]? = some tp) (hf : ∀ j, j < i → (l ++ [tp])[j]? ≠ some tp) : i = l.length := by
  rcases Nat.lt_trichotomy i l.length with h9 | h9 | h9
  · rw [List.getElem?_append_left h9] at hi
    exact absurd (List.mem_of_getElem? hi) h
  · exact h9
  · exfalso
    exact hf l.length h9 (by simp)
end Sp
theorem law_nearest (n : Sp.Net) (A1 A2 A3 : Option Addr) (c1 c2 c3 : Nat) (p : Int) (h : ByteArray) (tp hops k : Int) (w : World) (hG : Gn w) (hnr : NetR w n [.int .i64 n.bits, .slice A1 n.ports.length c1, .slice A2 n.tables.length c2, .slice A3 n.guards.length c3]) (hsz : Sp.Szd n) (hh : h.size ≤ 9223372036854775807) :
    Calls Tryz.prog 6 #[.agg #[.int .i64 n.bits, .slice A1 n.ports.length c1, .slice A2 n.tables.length c2, .slice A3 n.guards.length c3], .agg #[.int .i64 p, .string h], .int .i64 tp, .int .i64 hops, .int .i64 k] w fun e w' => e = .returned (.bool true) ∧ Below w.heap.size w w' := by
  obtain ⟨N, hN⟩ : ∃ N, w.heap.size = N := ⟨_, rfl⟩
  obtain ⟨W2, hW2⟩ : ∃ W2, (w.alloc (.cells #[.int .i64 n.bits, .slice A1 n.ports.length c1, .slice A2 n.tables.length c2, .slice A3 n.guards.length c3] 26)).alloc (.cells #[.int .i64 p, .string h] 28) = W2 := ⟨_, rfl⟩
  have hb2 : Below N w W2 := by rw [← hW2, ← hN]; exact ((Below.refl _ _).alloc (Nat.le_refl _) _).alloc (by simp) _
  have hs2 : W2.heap.size = N + 2 := by rw [← hW2, ← hN]; simp
  have hk1 : Blk W2 N 26 #[.int .i64 n.bits, .slice A1 n.ports.length c1, .slice A2 n.tables.length c2, .slice A3 n.guards.length c3] := by rw [← hW2, ← hN]; exact (Blk.new w _ _).alloc _
  have hk2 : Blk W2 (N + 1) 28 #[.int .i64 p, .string h] := by rw [← hW2]; exact blk_at (by rw [World.size_alloc]; omega)
  have HREA := Lib.hid (fun (W : World) (hb : Below N w W) (hops' : Int) => step_Reach n A1 A2 A3 c1 c2 c3 p h tp hops' W (hG.below (by rw [hN]; exact hb)) (hnr.more (by rw [hN]; exact hb)) hsz hh)
  have HFOL := Lib.hid (fun (W : World) (hb : Below N w W) (Ap : Option Addr) (kp : Nat) (l : List Int) (hv : IV W Ap l) (hlk : l.length ≤ kp) (hl : l.length ≤ 1000000) =>
    step_Follow n A1 A2 A3 c1 c2 c3 p h Ap kp l W (hG.below (by rw [hN]; exact hb)) (hnr.more (by rw [hN]; exact hb)) hsz hh hv hlk (by omega))
  have HKN := Lib.hid (fun (W : World) (hb : Below N w W) => law10_known W (hG.below (by rw [hN]; exact hb)))
  obtain ⟨kn, hkn⟩ : ∃ kn : Nat, Sp.withinV k 60 = kn := ⟨(Sp.withinV k 60).toNat, by unfold Sp.withinV; split <;> (try split) <;> omega⟩
  have hkn60 : kn ≤ 60 := by unfold Sp.withinV at hkn; split at hkn <;> (try split at hkn) <;> omega
  have HSO := Lib.hid (fun (W : World) (hb : Below N w W) => law10_some n A1 A2 A3 c1 c2 c3 p h hops kn W (hG.below (by rw [hN]; exact hb)) (hnr.more (by rw [hN]; exact hb)) hsz hh (by omega))
  obtain ⟨b1, d1, b2, d2, b3, d3, hcse, hpv, _⟩ := hnr
  obtain ⟨rfl, rfl⟩ : A1 = b1 ∧ c1 = d1 := by injection hcse with _ hc; injection hc with hc _; injection hc with q1 q2 q3; exact ⟨q1, q3⟩
  have HCOM := Lib.hid (fun (W : World) (hb : Below N w W) (Ap B2 : Option Addr) (kp k2 e2 : Nat) (l : List Int) (hd : ByteArray) (hv : IV W Ap l) (hl : l.length ≤ 1000000) =>
    law10_comes n A1 A2 A3 c1 c2 c3 Ap B2 kp k2 e2 l hd tp W (hpv.more (by rw [hN]; exact hb)) hv hl)
  obtain ⟨np, hnp⟩ : ∃ np, n.ports.length = np := ⟨_, rfl⟩
  obtain ⟨nt, hnt⟩ : ∃ nt, n.tables.length = nt := ⟨_, rfl⟩
  obtain ⟨ng, hng⟩ : ∃ ng, n.guards.length = ng := ⟨_, rfl⟩
  obtain ⟨b, hbi⟩ : ∃ b, n.bits = b := ⟨_, rfl⟩
  rw [hbi, hnp, hnt, hng] at hk1 HSO hW2 HFOL HREA HCOM ⊢
  have HN := Lib.hid hN
  have HB2 := Lib.hid hb2
  have HS2 := Lib.hid hs2
  have HK1 := Lib.hid hk1
  have HK2 := Lib.hid hk2
  have HKN60 := Lib.hid hkn60
  have HKNE := Lib.hid hkn
  clear hG hsz hh hb2 hs2 hk1 hk2 hbi hnp hnt hng hkn60 hkn hcse hpv
  have x0 : W2.cell? ⟨N, 0, none⟩ = some (.int .i64 b) := HK1.out.cell 0
  have x1 : W2.cell? ⟨N, 1, none⟩ = some (.slice A1 np c1) := HK1.out.cell 1
  have x2 : W2.cell? ⟨N, 2, none⟩ = some (.slice A2 nt c2) := HK1.out.cell 2
  have x3 : W2.cell? ⟨N, 3, none⟩ = some (.slice A3 ng c3) := HK1.out.cell 3
  have x4 : W2.cell? ⟨N + 1, 0, none⟩ = some (.int .i64 p) := HK2.out.cell 0
  have x5 : W2.cell? ⟨N + 1, 1, none⟩ = some (.string h) := HK2.out.cell 1
  go_enter Tryz.func6, Tryz.ntmps6
  go_wp2_with fail
  go_at_call 17
  refine (HREA.out W2 HB2.out hops).mono ?_
  rintro e W3 ⟨v1, v2, ⟨PP, EE, hd⟩, ok, e9, rfl, hq1, hq2, hb3, hR⟩
  obtain ⟨Ap, kp, rfl, hkp, hvp⟩ := in_view hq1
  obtain ⟨Ae, ke, rfl, hke, hve⟩ := in_view hq2
  simp only [] at hkp hvp hke hve
  obtain ⟨lp, hlp⟩ : ∃ lp, PP.length = lp := ⟨_, rfl⟩
  obtain ⟨le, hle⟩ : ∃ le, EE.length = le := ⟨_, rfl⟩
  simp only [hlp, hle]
  obtain ⟨Nb, hNb⟩ : ∃ Nb, W3.heap.size = Nb := ⟨_, rfl⟩
  obtain ⟨W5, hW5⟩ : ∃ W5, W3.alloc (.cells #[.slice Ap lp kp, .slice Ae le ke, .string hd] 40) = W5 := ⟨_, rfl⟩
  have hb35 : Below W3.heap.size W3 W5 := by rw [← hW5]; exact (Below.refl _ _).alloc (Nat.le_refl _) _
  have hb25 : Below W2.heap.size W2 W5 := hb3.trans (hb35.mono hb3.size)
  have hkb : Blk W5 Nb 40 #[.slice Ap lp kp, .slice Ae le ke, .string hd] := by rw [← hW5, ← hNb]; exact Blk.new W3 _ _
  have HB5 := Lib.hid (HB2.out.trans (hb25.mono (by have := HS2.out; omega)))
  have HS5 := Lib.hid (Nat.le_trans (show N + 2 ≤ W2.heap.size by have := HS2.out; omega) hb25.size)
  have HK15 := Lib.hid (HK1.out.below hb25 HK1.out.lt)
  have HK25 := Lib.hid (HK2.out.below hb25 HK2.out.lt)
  have HKB := Lib.hid hkb
  have HVP := Lib.hid (hvp.more hb35)
  have HVE := Lib.hid (hve.more hb35)
  have HKP := Lib.hid (show lp ≤ kp by rw [← hlp]; exact hkp)
  have HR := Lib.hid (Sp.reach_law hR)
  have HLP := Lib.hid hlp
  have HLE := Lib.hid hle
  clear hq1 hq2 hb3 hR hvp hkp hke hve x0 x1 x2 x3 x4 x5 hW2 hb35 hb25 hkb hlp hle
  have x0 : W5.cell? ⟨N, 0, none⟩ = some (.int .i64 b) := HK15.out.cell 0
  have x1 : W5.cell? ⟨N, 1, none⟩ = some (.slice A1 np c1) := HK15.out.cell 1
  have x2 : W5.cell? ⟨N, 2, none⟩ = some (.slice A2 nt c2) := HK15.out.cell 2
  have x3 : W5.cell? ⟨N, 3, none⟩ = some (.slice A3 ng c3) := HK15.out.cell 3
  have x4 : W5.cell? ⟨N + 1, 0, none⟩ = some (.int .i64 p) := HK25.out.cell 0
  have x5 : W5.cell? ⟨N + 1, 1, none⟩ = some (.string h) := HK25.out.cell 1
  have y0 : W5.cell? ⟨Nb, 0, none⟩ = some (.slice Ap lp kp) := HKB.out.cell 0
  have y1 : W5.cell? ⟨Nb, 1, none⟩ = some (.slice Ae le ke) := HKB.out.cell 1
  have y2 : W5.cell? ⟨Nb, 2, none⟩ = some (.string hd) := HKB.out.cell 2
  rcases HR.out with ⟨h1, rfl, h2⟩ | ⟨rfl, s, rfl, hck, hR2⟩
  · have t1 : (e9 != 0) = true := bne_iff_ne.2 h1
    have hl0 : lp = 0 := by rw [← HLP.out]; injection h2 with h3; rw [h3]; rfl
    subst hl0
    clear h1 h2
    go_wp2_with (first
      | (go_at_call 10; refine (law10_num _ _).mono ?_; rintro e wq ⟨rfl, hw⟩; have hw2 := Eq.symm hw; subst hw2; clear hw)
      | (go_at_call 11; refine (HKN.out _ HB5.out).mono ?_; rintro e W8 ⟨rfl, hb8⟩))
    go_ret
    exact ⟨rfl, by rw [HN.out]; exact HB5.out.trans (hb8.mono (by have := HB5.out.size; have := HN.out; omega))⟩
  have H64 := Lib.hid hck.2.2
  have HR2 := Lib.hid hR2
  clear hck hR2
  go_wp2_with (go_at_call 10; refine (law10_num _ _).mono ?_; rintro e wq ⟨rfl, hw⟩; have hw2 := Eq.symm hw; subst hw2; clear hw)
  refine wp_region_K 6 (fun W => (W.cell? ⟨N, 0, none⟩ = some (.int .i64 b) ∧ W.cell? ⟨N, 1, none⟩ = some (.slice A1 np c1) ∧ W.cell? ⟨N, 2, none⟩ = some (.slice A2 nt c2) ∧ W.cell? ⟨N, 3, none⟩ = some (.slice A3 ng c3)) ∧ W.cell? ⟨N + 1, 0, none⟩ = some (.int .i64 (s : Int)) ∧ W.cell? ⟨N + 1, 1, none⟩ = some (.string h)) (by kernel_rfl) (fun hcl => ?_)
  have hS : (fun W : World => (W.cell? ⟨N, 0, none⟩ = some (.int .i64 b) ∧ W.cell? ⟨N, 1, none⟩ = some (.slice A1 np c1) ∧ W.cell? ⟨N, 2, none⟩ = some (.slice A2 nt c2) ∧ W.cell? ⟨N, 3, none⟩ = some (.slice A3 ng c3)) ∧ W.cell? ⟨N + 1, 0, none⟩ = some (.int .i64 (s : Int)) ∧ W.cell? ⟨N + 1, 1, none⟩ = some (.string h)) W5.drew := ⟨⟨HK15.out.cell 0, HK15.out.cell 1, HK15.out.cell 2, HK15.out.cell 3⟩, HK25.out.cell 0, HK25.out.cell 1⟩
  clear x0 x1 x2 x3 x4 x5 y0 y1 y2
  refine tk 0 ?_ hcl hS ?_ (fun hcl2 => ?_); rotate_left
  · (intro w hSw; (try dsimp only at hSw); first | (go_simp; done) | (go_simp; with_reducible rfl))
  (try simp only [ly]); (try simp only [Act.put, pu]); clear hcl; have hcl := hcl2; clear hcl2
  refine tk 1 ?_ hcl hS ?_ (fun hcl2 => ?_); rotate_left
  · (intro w hSw; (try dsimp only at hSw); first | (go_simp; done) | (go_simp; with_reducible rfl))
  (try simp only [ly]); (try simp only [Act.put, pu]); clear hcl; have hcl := hcl2; clear hcl2
  refine tk 2 ?_ hcl hS ?_ (fun hcl2 => ?_); rotate_left
  · (intro w hSw; (try dsimp only at hSw); first | (go_simp; done) | (go_simp; with_reducible rfl))
  (try simp only [ly]); (try simp only [Act.put, pu]); clear hcl; have hcl := hcl2; clear hcl2
  refine tk 3 ?_ hcl hS ?_ (fun hcl2 => ?_); rotate_left
  · (intro w hSw; (try dsimp only at hSw); first | (go_simp; done) | (go_simp; with_reducible rfl))
  (try simp only [ly]); (try simp only [Act.put, pu]); clear hcl; have hcl := hcl2; clear hcl2
  refine wpAnyK_one (i := 4) hcl (by kernel_rfl) rfl (by rfl) (fun K hK => ?_)
  go_simp
  refine (law10_within k 60 _).mono ?_
  rintro r w' ⟨rfl, rfl⟩
  rw [HKNE.out]
  refine hK.out _ _ (Or.inr hS) (fun hcl2 => ?_)
  clear hK K hcl
  have hcl := hcl2
  clear hcl2
  refine wpAnyK_one (i := 5) hcl (by kernel_rfl) rfl (by rfl) (fun K hK => ?_)
  go_simp
  refine (HSO.out W5.drew HB5.out.drew).mono ?_
  rintro r W6 ⟨v, xs, rfl, hpts, hmap, hb6⟩
  have hb56 : Below W5.heap.size W5 W6 := ((Below.refl W5.heap.size W5).drew).trans hb6
  obtain ⟨Av, cv, rfl, hat⟩ := pts_any hpts
  obtain ⟨L, hL⟩ : ∃ L, xs.length = L := ⟨_, rfl⟩
  simp only [hL]
  have hL60 : L ≤ 60 := by
    have := congrArg List.length hmap
    rw [List.length_map, List.length_take, hL] at this
    have := HKN60.out
    omega
  have HAT := Lib.hid hat
  have HMAP := Lib.hid hmap
  have HL := Lib.hid hL
  have HL60 := Lib.hid hL60
  have HB6 := Lib.hid (HB5.out.trans (hb56.mono (by have := HS5.out; omega)))
  have HS6 := Lib.hid (show N + 2 ≤ W6.heap.size by have := HS5.out; have := hb56.size; omega)
  have HK16 := Lib.hid (HK15.out.below hb56 HK15.out.lt)
  have HK26 := Lib.hid (HK25.out.below hb56 HK25.out.lt)
  have HKB6 := Lib.hid (HKB.out.below hb56 HKB.out.lt)
  have HVP6 := Lib.hid (HVP.out.more hb56)
  have HVE6 := Lib.hid (HVE.out.more hb56)
  clear hS hpts hmap hb6 hb56 hat hL hL60 HK15 HK25 HKB HVP HVE HK1 HK2
  refine hK.out _ _ (Or.inr ⟨⟨HK16.out.cell 0, HK16.out.cell 1, HK16.out.cell 2, HK16.out.cell 3⟩, HK26.out.cell 0, HK26.out.cell 1⟩) (fun hcl2 => ?_)
  clear hK K hcl
  have hcl := hcl2
  clear hcl2
  refine wpAnyK_one (i := 6) hcl (by kernel_rfl) rfl (by rfl) (fun K hK => ?_)
  go_simp
  refine hK.out _ _ (Or.inl (by kernel_rfl)) (fun hcl2 => ?_)
  clear hK K hcl hcl2
  refine wpAnyK_done (by kernel_rfl) ?_ _
  (try simp only [Act.put, pu])
  go_wp2_with fail
  go_loopw [15, 16, 17, 18] (fun v15 v16 v17 v18 wr => ∃ (i : Nat) (best : Int), v16 = .int .i64 (i : Int) ∧ v15 = .int .i64 best ∧ i ≤ L ∧ Sp.BestN n tp ((Sp.pathsV n (s : Int) h hops).take kn) best ∧ Below W6.heap.size W6 wr) (fun _ v16 _ _ _ => L - (intOf v16).toNat)
  case atStart => exact ⟨0, 1048576, rfl, rfl, Nat.zero_le _, Sp.BestN.first _ _ _, Below.refl _ _⟩
  case round =>
    obtain ⟨i, best, rfl, rfl, hi, hbest, hb⟩ := hrel
    have HB := Lib.hid hb
    have HBE := Lib.hid hbest
    have HK1r := Lib.hid (HK16.out.below hb HK16.out.lt)
    have HK2r := Lib.hid (HK26.out.below hb HK26.out.lt)
    have HKBr := Lib.hid (HKB6.out.below hb HKB6.out.lt)
    have j0 : (0 : Int) ≤ (i : Int) := by omega
    by_cases hlt : i < L
    · have p1 : decide ((i : Int) < (L : Int)) = true := decide_eq_true (by omega)
      have p2 : decide (i < L) = true := decide_eq_true hlt
      have p3 : (i : Int) < (L : Int) := by omega
      have z0 : IntKind.i64.wrap ((i : Int) + 1) = (i : Int) + 1 := by have := HL60.out; rw [IntKind.wrap_i64]; omega
      obtain ⟨⟨v1, v2, ⟨P, Es, hd2⟩⟩, hx⟩ : ∃ x, xs[i]? = some x := ⟨_, List.getElem?_eq_getElem (by rw [HL.out]; exact hlt)⟩
      have hpi : ((Sp.pathsV n (s : Int) h hops).take kn)[i]? = some ⟨P, Es, hd2⟩ := by rw [← HMAP.out, List.getElem?_map, hx]; rfl
      have hqm := List.mem_of_getElem? hpi
      have hq : (⟨P, Es, hd2⟩ : Sp.Path) ∈ Sp.pathsV n (s : Int) h hops := List.mem_of_mem_take hqm
      obtain ⟨g, o, rfl, B1, k1, B2, k2, a0, a1, a2, hiv, hk1c⟩ := HAT.out wr hb i _ hx
      simp only [] at a0 a1 a2 hiv hk1c
      have hlen := (Sp.paths_whole hq).ports_len H64.out
      simp only [] at hlen
      obtain ⟨m, hm⟩ : ∃ m, P.length = m := ⟨_, rfl⟩
      obtain ⟨e2, he2⟩ : ∃ e2, Es.length = e2 := ⟨_, rfl⟩
      have hco := HCOM.out wr.drew (HB6.out.trans (HB.out.drew.mono (by have := HS6.out; omega))) B1 B2 k1 k2 e2 P hd2 (hiv.more (Below.refl _ _).drew) (by omega)
      rw [hm] at a0 hco
      rw [he2] at a1
      have HCO := Lib.hid hco
      have HQM := Lib.hid hqm
      have HLT := Lib.hid hlt
      have HB9 := Lib.hid HB.out.drew
      clear hi hb hbest hlt hx hpi hqm hq hiv hk1c hlen hm he2 hco
      go_wp2_with fail
      refine wp_region_K 11 (fun W => (W.cell? ⟨N, 0, none⟩ = some (.int .i64 b) ∧ W.cell? ⟨N, 1, none⟩ = some (.slice A1 np c1) ∧ W.cell? ⟨N, 2, none⟩ = some (.slice A2 nt c2) ∧ W.cell? ⟨N, 3, none⟩ = some (.slice A3 ng c3)) ∧ W.cell? ⟨g, o + i * 3, none⟩ = some (.slice B1 m k1) ∧ W.cell? ⟨g, o + i * 3 + 1, none⟩ = some (.slice B2 e2 k2) ∧ W.cell? ⟨g, o + i * 3 + 2, none⟩ = some (.string hd2)) (by kernel_rfl) (fun hcl => ?_)
      have hS : (fun W : World => (W.cell? ⟨N, 0, none⟩ = some (.int .i64 b) ∧ W.cell? ⟨N, 1, none⟩ = some (.slice A1 np c1) ∧ W.cell? ⟨N, 2, none⟩ = some (.slice A2 nt c2) ∧ W.cell? ⟨N, 3, none⟩ = some (.slice A3 ng c3)) ∧ W.cell? ⟨g, o + i * 3, none⟩ = some (.slice B1 m k1) ∧ W.cell? ⟨g, o + i * 3 + 1, none⟩ = some (.slice B2 e2 k2) ∧ W.cell? ⟨g, o + i * 3 + 2, none⟩ = some (.string hd2)) wr.drew := ⟨⟨HK1r.out.cell 0, HK1r.out.cell 1, HK1r.out.cell 2, HK1r.out.cell 3⟩, a0, a1, a2⟩
      have HA0 := Lib.hid a0
      have HA1 := Lib.hid a1
      have HA2 := Lib.hid a2
      clear a0 a1 a2
      refine tk 0 ?_ hcl hS ?_ (fun hcl2 => ?_); rotate_left
      · (intro w hSw; (try dsimp only at hSw); first | (go_simp; done) | (go_simp; with_reducible rfl))
      (try simp only [ly]); (try simp only [Act.put, pu]); clear hcl; have hcl := hcl2; clear hcl2
      refine tk 1 ?_ hcl hS ?_ (fun hcl2 => ?_); rotate_left
      · (intro w hSw; (try dsimp only at hSw); first | (go_simp; done) | (go_simp; with_reducible rfl))
      (try simp only [ly]); (try simp only [Act.put, pu]); clear hcl; have hcl := hcl2; clear hcl2
      refine tk 2 ?_ hcl hS ?_ (fun hcl2 => ?_); rotate_left
      · (intro w hSw; (try dsimp only at hSw); first | (go_simp; done) | (go_simp; with_reducible rfl))
      (try simp only [ly]); (try simp only [Act.put, pu]); clear hcl; have hcl := hcl2; clear hcl2
      refine tk 3 ?_ hcl hS ?_ (fun hcl2 => ?_); rotate_left
      · (intro w hSw; (try dsimp only at hSw); first | (go_simp; done) | (go_simp; with_reducible rfl))
      (try simp only [ly]); (try simp only [Act.put, pu]); clear hcl; have hcl := hcl2; clear hcl2
      refine tk 4 ?_ hcl hS ?_ (fun hcl2 => ?_); rotate_left
      · (intro w hSw; (try dsimp only at hSw); first | (go_simp; done) | (go_simp; with_reducible rfl))
      (try simp only [ly]); (try simp only [Act.put, pu]); clear hcl; have hcl := hcl2; clear hcl2
      refine tk 5 ?_ hcl hS ?_ (fun hcl2 => ?_); rotate_left
      · (intro w hSw; (try dsimp only at hSw); first | (go_simp; done) | (go_simp; with_reducible rfl))
      (try simp only [ly]); (try simp only [Act.put, pu]); clear hcl; have hcl := hcl2; clear hcl2
      refine wpAnyK_one (i := 6) hcl (by kernel_rfl) rfl (by rfl) (fun K hK => ?_)
      go_simp
      refine HCO.out.mono ?_
      rintro r W9 ⟨hce, hb9⟩
      have hb89 : Below wr.heap.size wr W9 := ((Below.refl wr.heap.size wr).drew).trans hb9
      have hcell : ∀ (j : Nat) (v : Value), wr.cell? ⟨g, j, none⟩ = some v → W9.cell? ⟨g, j, none⟩ = some v := fun j v hv => by
        obtain ⟨ob, hob, _⟩ := cells_of_cell hv
        exact (hb89.cell (p := ⟨g, j, none⟩) (heap_lt hob)).trans hv
      have hS9 : (fun W : World => (W.cell? ⟨N, 0, none⟩ = some (.int .i64 b) ∧ W.cell? ⟨N, 1, none⟩ = some (.slice A1 np c1) ∧ W.cell? ⟨N, 2, none⟩ = some (.slice A2 nt c2) ∧ W.cell? ⟨N, 3, none⟩ = some (.slice A3 ng c3)) ∧ W.cell? ⟨g, o + i * 3, none⟩ = some (.slice B1 m k1) ∧ W.cell? ⟨g, o + i * 3 + 1, none⟩ = some (.slice B2 e2 k2) ∧ W.cell? ⟨g, o + i * 3 + 2, none⟩ = some (.string hd2)) W9 := by
        have hk := HK1r.out.below hb89 HK1r.out.lt
        exact ⟨⟨hk.cell 0, hk.cell 1, hk.cell 2, hk.cell 3⟩, hcell _ _ HA0.out, hcell _ _ HA1.out, hcell _ _ HA2.out⟩
      have HB10 := Lib.hid (HB.out.trans (hb89.mono HB.out.size))
      clear hS hb9 hb89 hcell
      have hS := hS9
      clear hS9
      rcases hce with ⟨i2, rfl, hi2, _⟩ | ⟨rfl, _⟩
      · obtain ⟨c, hc⟩ : ∃ c, Sp.cntIn n (P.take i2) = c := ⟨_, rfl⟩
        rw [hc]
        have HC := Lib.hid hc
        have HI2 := Lib.hid hi2
        clear hc hi2
        refine hK.out _ _ (Or.inr hS) (fun hcl2 => ?_)
        clear hK K hcl
        have hcl := hcl2
        clear hcl2
        refine tk 7 ?_ hcl hS ?_ (fun hcl2 => ?_); rotate_left
        · (intro w hSw; (try dsimp only at hSw); first | (go_simp; done) | (go_simp; with_reducible rfl))
        (try simp only [ly]); (try simp only [Act.put, pu]); clear hcl; have hcl := hcl2; clear hcl2
        refine tk 8 ?_ hcl hS ?_ (fun hcl2 => ?_); rotate_left
        · (intro w hSw; (try dsimp only at hSw); first | (go_simp; done) | (go_simp; with_reducible rfl))
        (try simp only [ly]); (try simp only [Act.put, pu]); clear hcl; have hcl := hcl2; clear hcl2
        refine tk 9 ?_ hcl hS ?_ (fun hcl2 => ?_); rotate_left
        · (intro w hSw; (try dsimp only at hSw); first | (go_simp; done) | (go_simp; with_reducible rfl))
        (try simp only [ly]); (try simp only [Act.put, pu]); clear hcl; have hcl := hcl2; clear hcl2
        refine tk 10 ?_ hcl hS ?_ (fun hcl2 => ?_); rotate_left
        · (intro w hSw; (try dsimp only at hSw); first | (go_simp; done) | (go_simp; with_reducible rfl))
        (try simp only [ly]); (try simp only [Act.put, pu]); clear hcl; have hcl := hcl2; clear hcl2
        refine wpAnyK_one (i := 11) hcl (by kernel_rfl) rfl (by rfl) (fun K hK => ?_)
        go_simp
        refine hK.out _ _ (Or.inl (by kernel_rfl)) (fun hcl2 => ?_)
        clear hK K hcl hcl2 hS
        refine wpAnyK_done (by kernel_rfl) ?_ _
        (try simp only [Act.put, pu])
        have y1 : decide ((i2 : Int) ≥ 0) = true := decide_eq_true (by omega)
        by_cases hcb : (c : Int) < best
        · have y2 : decide ((c : Int) < best) = true := decide_eq_true hcb
          have HBN := Lib.hid (HBE.out.less HQM.out HI2.out (by rw [HC.out]; exact hcb))
          clear hcb
          go_wp2_with fail
          go_roundw
          case rel => exact ⟨i + 1, (c : Int), by rfl, by rfl, HLT.out, by have h9 := HBN.out; rw [HC.out] at h9; exact h9, HB10.out⟩
          case measure => have := HLT.out; simp [intOf]; omega
        · have y2 : decide ((c : Int) < best) = false := decide_eq_false hcb
          clear hcb
          go_wp2_with fail
          go_roundw
          case rel => exact ⟨i + 1, best, by rfl, by rfl, HLT.out, HBE.out, HB10.out⟩
          case measure => have := HLT.out; simp [intOf]; omega
      · obtain ⟨c, hc⟩ : ∃ c, Sp.cntIn n P.dropLast = c := ⟨_, rfl⟩
        rw [hc]
        clear hc
        refine hK.out _ _ (Or.inr hS) (fun hcl2 => ?_)
        clear hK K hcl
        have hcl := hcl2
        clear hcl2
        refine tk 7 ?_ hcl hS ?_ (fun hcl2 => ?_); rotate_left
        · (intro w hSw; (try dsimp only at hSw); first | (go_simp; done) | (go_simp; with_reducible rfl))
        (try simp only [ly]); (try simp only [Act.put, pu]); clear hcl; have hcl := hcl2; clear hcl2
        refine tk 8 ?_ hcl hS ?_ (fun hcl2 => ?_); rotate_left
        · (intro w hSw; (try dsimp only at hSw); first | (go_simp; done) | (go_simp; with_reducible rfl))
        (try simp only [ly]); (try simp only [Act.put, pu]); clear hcl; have hcl := hcl2; clear hcl2
        refine tk 9 ?_ hcl hS ?_ (fun hcl2 => ?_); rotate_left
        · (intro w hSw; (try dsimp only at hSw); first | (go_simp; done) | (go_simp; with_reducible rfl))
        (try simp only [ly]); (try simp only [Act.put, pu]); clear hcl; have hcl := hcl2; clear hcl2
        refine tk 10 ?_ hcl hS ?_ (fun hcl2 => ?_); rotate_left
        · (intro w hSw; (try dsimp only at hSw); first | (go_simp; done) | (go_simp; with_reducible rfl))
        (try simp only [ly]); (try simp only [Act.put, pu]); clear hcl; have hcl := hcl2; clear hcl2
        refine wpAnyK_one (i := 11) hcl (by kernel_rfl) rfl (by rfl) (fun K hK => ?_)
        go_simp
        refine hK.out _ _ (Or.inl (by kernel_rfl)) (fun hcl2 => ?_)
        clear hK K hcl hcl2 hS
        refine wpAnyK_done (by kernel_rfl) ?_ _
        (try simp only [Act.put, pu])
        go_wp2_with fail
        go_roundw
        case rel => exact ⟨i + 1, best, by rfl, by rfl, HLT.out, HBE.out, HB10.out⟩
        case measure => have := HLT.out; simp [intOf]; omega
    · have p1 : decide ((i : Int) < (L : Int)) = false := decide_eq_false (by omega)
      have p2 : decide (i < L) = false := decide_eq_false hlt
      have HBN8 := Lib.hid (HB6.out.trans (hb.mono (by have := HS6.out; omega)))
      have y0 : wr.cell? ⟨Nb, 0, none⟩ = some (.slice Ap lp kp) := HKBr.out.cell 0
      rcases HR2.out with ⟨rfl, hpe, hnone⟩ | ⟨rfl, hend, hsame, hless⟩
      · have hbe : best = 1048576 := hbest.2.2.2 (fun q hq => hnone q (List.mem_of_mem_take hq))
        have hl0 : lp = 0 := by rw [← HLP.out]; injection hpe with h3; rw [h3]; rfl
        subst hl0
        subst hbe
        clear hpe hnone hb hi hlt hbest
        go_wp2_with (go_at_call 11; refine (HKN.out _ HBN8.out).mono ?_; rintro e W8 ⟨rfl, hb8⟩)
        go_ret
        exact ⟨rfl, by rw [HN.out]; exact HBN8.out.trans (hb8.mono (by have := HBN8.out.size; have := HN.out; omega))⟩
      have hfo := hend.follow
      have hsh := hend.short
      simp only [] at hfo hsh hsame hless
      have hle1 : (le : Int) ≤ hops := by have := hend.within; simp only [HLE.out] at this; exact this
      have hle2 : (le : Int) ≤ best := hbest.2.2.1 _ (by have := H64.out; omega) (fun q hq kk ht => by
        have h9 := hend.best q (List.mem_of_mem_take hq) kk ht
        simp only [HLE.out] at h9
        omega)
      obtain ⟨lh, hlh, htp⟩ := hend.here
      simp only [] at hlh
      have hlhl : lh.length + 1 = lp := by rw [← HLP.out, hlh, List.length_append]; rfl
      have hf := HFOL.out wr HBN8.out Ap kp PP (HVP6.out.more hb) (by rw [HLP.out]; exact HKP.out) (by omega)
      unfold FollowEnd at hf
      rw [hfo, HLP.out, HLE.out] at hf
      have HF := Lib.hid hf
      have HLH := Lib.hid hlh
      have HTP := Lib.hid htp
      have HLHL := Lib.hid hlhl
      have HSH := Lib.hid (show lp ≤ 130 by rw [← HLP.out]; exact hsh)
      rw [HLE.out] at hsame hless
      have HSAME := Lib.hid hsame
      have HLESS := Lib.hid hless
      have HLE1 := Lib.hid hle1
      have HLE2 := Lib.hid hle2
      have HIVP := Lib.hid (HVP6.out.more hb)
      have HIVE := Lib.hid (HVE6.out.more hb)
      have x0 : wr.cell? ⟨N, 0, none⟩ = some (.int .i64 b) := HK1r.out.cell 0
      have x1 : wr.cell? ⟨N, 1, none⟩ = some (.slice A1 np c1) := HK1r.out.cell 1
      have x2 : wr.cell? ⟨N, 2, none⟩ = some (.slice A2 nt c2) := HK1r.out.cell 2
      have x3 : wr.cell? ⟨N, 3, none⟩ = some (.slice A3 ng c3) := HK1r.out.cell 3
      have x4 : wr.cell? ⟨N + 1, 0, none⟩ = some (.int .i64 (s : Int)) := HK2r.out.cell 0
      have x5 : wr.cell? ⟨N + 1, 1, none⟩ = some (.string h) := HK2r.out.cell 1
      have y1 : wr.cell? ⟨Nb, 1, none⟩ = some (.slice Ae le ke) := HKBr.out.cell 1
      have y2 : wr.cell? ⟨Nb, 2, none⟩ = some (.string hd) := HKBr.out.cell 2
      clear hb hi hlt hbest hend hfo hsh hf hlh htp hlhl hsame hless hle1 hle2
      go_wp2_with fail
      go_at_call 12
      refine HF.out.mono ?_
      rintro e W8 ⟨rfl, hb8⟩
      have HB8 := Lib.hid (HBN8.out.trans (hb8.mono (by have := HBN8.out.size; have := HN.out; omega)))
      have HK18 := Lib.hid (HK1r.out.below hb8 HK1r.out.lt)
      have HK28 := Lib.hid (HK2r.out.below hb8 HK2r.out.lt)
      have HKB8 := Lib.hid (HKBr.out.below hb8 HKBr.out.lt)
      have HIV8 := Lib.hid (HIVP.out.more hb8)
      have HIE8 := Lib.hid (HIVE.out.more hb8)
      clear hb8 x0 x1 x2 x3 x4 x5 y0 y1 y2
      have x0 : W8.cell? ⟨N, 0, none⟩ = some (.int .i64 b) := HK18.out.cell 0
      have x1 : W8.cell? ⟨N, 1, none⟩ = some (.slice A1 np c1) := HK18.out.cell 1
      have x2 : W8.cell? ⟨N, 2, none⟩ = some (.slice A2 nt c2) := HK18.out.cell 2
      have x3 : W8.cell? ⟨N, 3, none⟩ = some (.slice A3 ng c3) := HK18.out.cell 3
      have x4 : W8.cell? ⟨N + 1, 0, none⟩ = some (.int .i64 (s : Int)) := HK28.out.cell 0
      have x5 : W8.cell? ⟨N + 1, 1, none⟩ = some (.string h) := HK28.out.cell 1
      have y0 : W8.cell? ⟨Nb, 0, none⟩ = some (.slice Ap lp kp) := HKB8.out.cell 0
      have y1 : W8.cell? ⟨Nb, 1, none⟩ = some (.slice Ae le ke) := HKB8.out.cell 1
      have y2 : W8.cell? ⟨Nb, 2, none⟩ = some (.string hd) := HKB8.out.cell 2
      have hco := HCOM.out W8 HB8.out Ap Ae kp ke le PP hd HIV8.out (by rw [HLP.out]; have := HSH.out; omega)
      rw [HLP.out] at hco
      have HCO := Lib.hid hco
      clear hco
      go_wp2_with fail
      go_at_call 16
      refine HCO.out.mono ?_
      rintro r W9 ⟨hce, hb9⟩
      have HB9 := Lib.hid (HB8.out.trans (hb9.mono (by have := HB8.out.size; have := HN.out; omega)))
      have HK19 := Lib.hid (HK18.out.below hb9 HK18.out.lt)
      have HK29 := Lib.hid (HK28.out.below hb9 HK28.out.lt)
      have HKB9 := Lib.hid (HKB8.out.below hb9 HKB8.out.lt)
      have HIV9 := Lib.hid (HIV8.out.more hb9)
      have HIE9 := Lib.hid (HIE8.out.more hb9)
      clear hb9 x0 x1 x2 x3 x4 x5 y0 y1 y2
      have x0 : W9.cell? ⟨N, 0, none⟩ = some (.int .i64 b) := HK19.out.cell 0
      have x1 : W9.cell? ⟨N, 1, none⟩ = some (.slice A1 np c1) := HK19.out.cell 1
      have x2 : W9.cell? ⟨N, 2, none⟩ = some (.slice A2 nt c2) := HK19.out.cell 2
      have x3 : W9.cell? ⟨N, 3, none⟩ = some (.slice A3 ng c3) := HK19.out.cell 3
      have x4 : W9.cell? ⟨N + 1, 0, none⟩ = some (.int .i64 (s : Int)) := HK29.out.cell 0
      have x5 : W9.cell? ⟨N + 1, 1, none⟩ = some (.string h) := HK29.out.cell 1
      have y0 : W9.cell? ⟨Nb, 0, none⟩ = some (.slice Ap lp kp) := HKB9.out.cell 0
      have y1 : W9.cell? ⟨Nb, 1, none⟩ = some (.slice Ae le ke) := HKB9.out.cell 1
      have y2 : W9.cell? ⟨Nb, 2, none⟩ = some (.string hd) := HKB9.out.cell 2
      rcases hce with ⟨i2, rfl, hi2, hif⟩ | ⟨_, hno⟩
      rotate_left
      · exfalso
        exact hno lh.length (by rw [HLH.out]; simp)
      have hi2l : i2 = lh.length := by
        rw [HLH.out] at hi2 hif
        exact Sp.first_at HTP.out hi2 hif
      obtain ⟨c, hc⟩ : ∃ c, Sp.cntIn n (PP.take i2) = c := ⟨_, rfl⟩
      rw [hc]
      have z1 : (hd.toList != hd.toList) = false := by simp
      have z1b : (hd.toList == hd.toList) = true := by simp
      have z2 : ((le : Int) != (le : Int)) = false := by simp
      have z3 : decide ((le : Int) > hops) = false := decide_eq_false (by have := HLE1.out; omega)
      have z4 : decide ((le : Int) > best) = false := decide_eq_false (by have := HLE2.out; omega)
      have z5 : IntKind.i64.wrap ((lp : Int) - 1) = (lp : Int) - 1 := by have := HSH.out; rw [IntKind.wrap_i64]; omega
      have z6 : ((i2 : Int) != (lp : Int) - 1) = false := by rw [bne_eq_false_iff_eq, hi2l]; have := HLHL.out; omega
      have z7 : decide ((i2 : Int) < 0) = false := decide_eq_false (by omega)
      clear hc hi2 hif hi2l
      by_cases hl0 : le = 0
      · have z8 : decide ((le : Int) > 0) = false := decide_eq_false (by omega)
        have z8b : decide (0 < le) = false := decide_eq_false (by omega)
        have z8c : decide (le > 0) = false := decide_eq_false (by omega)
        clear hl0
        go_wp2_with (go_at_call 10; refine (law10_num _ _).mono ?_; rintro e wq ⟨rfl, hw⟩; have hw2 := Eq.symm hw; subst hw2; clear hw)
        go_at_call 17
        refine (HREA.out W9 HB9.out (le : Int)).mono ?_
        rintro e W12 ⟨v1, v2, ⟨P2, E2, hd2⟩, ok1, e1, rfl, hq1, hq2, hb12, hR1⟩
        obtain ⟨hpp, rfl, rfl⟩ := HSAME.out _ _ _ hR1
        injection hpp with hp1 hp2 hp3
        subst hp1
        subst hp2
        subst hp3
        obtain ⟨a1, a3, rfl, _, ha⟩ := in_view hq1
        obtain ⟨d1, d3, rfl, _, hde⟩ := in_view hq2
        simp only [] at ha hde
        simp only [HLP.out, HLE.out]
        obtain ⟨Nc, hNc⟩ : ∃ Nc, W12.heap.size = Nc := ⟨_, rfl⟩
        obtain ⟨W13, hW13⟩ : ∃ W13, W12.alloc (.cells #[.slice a1 lp a3, .slice d1 le d3, .string hd2] 40) = W13 := ⟨_, rfl⟩
        have hb1213 : Below W12.heap.size W12 W13 := by rw [← hW13]; exact (Below.refl _ _).alloc (Nat.le_refl _) _
        have hbx : Below W9.heap.size W9 W13 := hb12.trans (hb1213.mono hb12.size)
        have HB13 := Lib.hid (HB9.out.trans (hbx.mono (by have := HB9.out.size; have := HN.out; omega)))
        have HKB13 := Lib.hid (HKB9.out.below hbx HKB9.out.lt)
        have HKC13 := Lib.hid (show Blk W13 Nc 40 #[.slice a1 lp a3, .slice d1 le d3, .string hd2] by rw [← hW13, ← hNc]; exact Blk.new W12 _ _)
        have hpa := law10_path Ap a1 Ae d1 kp a3 ke d3 P2 E2 hd2 W13 (HIV9.out.more hbx) (ha.more hb1213) (HIE9.out.more hbx) (hde.more hb1213) (by rw [HLP.out]; have := HSH.out; omega) (by rw [HLE.out]; have := HLE1.out; have := H64.out; omega)
        rw [HLP.out, HLE.out] at hpa
        have HPA := Lib.hid hpa
        clear hq1 hq2 hb12 hR1 hb1213 hbx ha hde hpa x0 x1 x2 x3 x4 x5 y0 y1 y2
        have y0 : W13.cell? ⟨Nb, 0, none⟩ = some (.slice Ap lp kp) := HKB13.out.cell 0
        have y1 : W13.cell? ⟨Nb, 1, none⟩ = some (.slice Ae le ke) := HKB13.out.cell 1
        have y2 : W13.cell? ⟨Nb, 2, none⟩ = some (.string hd2) := HKB13.out.cell 2
        have y3 : W13.cell? ⟨Nc, 0, none⟩ = some (.slice a1 lp a3) := HKC13.out.cell 0
        have y4 : W13.cell? ⟨Nc, 1, none⟩ = some (.slice d1 le d3) := HKC13.out.cell 1
        have y5 : W13.cell? ⟨Nc, 2, none⟩ = some (.string hd2) := HKC13.out.cell 2
        go_wp2_with (go_at_call 10; refine (law10_num _ _).mono ?_; rintro e wq ⟨rfl, hw⟩; have hw2 := Eq.symm hw; subst hw2; clear hw)
        go_at_call 18
        refine HPA.out.mono ?_
        rintro e W14 ⟨rfl, hb14⟩
        have HB14 := Lib.hid (HB13.out.trans (hb14.mono (by have := HB13.out.size; have := HN.out; omega)))
        clear hb14 y0 y1 y2 y3 y4 y5
        go_wp2_with (go_at_call 11; refine (HKN.out _ HB14.out).mono ?_; rintro e W8 ⟨rfl, hb8⟩)
        go_ret
        exact ⟨rfl, by rw [HN.out]; exact HB14.out.trans (hb8.mono (by have := HB14.out.size; have := HN.out; omega))⟩
      · have z8 : decide ((le : Int) > 0) = true := decide_eq_true (by omega)
        have z8b : decide (0 < le) = true := decide_eq_true (by omega)
        have z8c : decide (le > 0) = true := decide_eq_true (by omega)
        have z8d : (0 : Int) < (le : Int) := by omega
        have z8e : 0 < le := by omega
        obtain ⟨E, hE⟩ : ∃ E, le = E + 1 := ⟨le - 1, by omega⟩
        have z9 : IntKind.i64.wrap ((le : Int) - 1) = (E : Int) := by have := HLE1.out; have := H64.out; rw [IntKind.wrap_i64]; omega
        have HE := Lib.hid hE
        clear hl0 hE
        go_wp2_with (go_at_call 10; refine (law10_num _ _).mono ?_; rintro e wq ⟨rfl, hw⟩; have hw2 := Eq.symm hw; subst hw2; clear hw)
        go_at_call 17
        refine (HREA.out W9 HB9.out (E : Int)).mono ?_
        rintro e W10 ⟨v1, v2, p1, ok1, e1, rfl, hq1, hq2, hb10, hR1⟩
        obtain ⟨rfl, rfl⟩ := HLESS.out E HE.out _ _ _ hR1
        obtain ⟨a1, a2, a3, rfl⟩ := in_slice hq1
        obtain ⟨d1, d2, d3, rfl⟩ := in_slice hq2
        obtain ⟨W11, hW11⟩ : ∃ W11, W10.alloc (.cells #[.slice a1 a2 a3, .slice d1 d2 d3, .string p1.header] 40) = W11 := ⟨_, rfl⟩
        have hb1011 : Below W10.heap.size W10 W11 := by rw [← hW11]; exact (Below.refl _ _).alloc (Nat.le_refl _) _
        have hb911 : Below W9.heap.size W9 W11 := hb10.trans (hb1011.mono hb10.size)
        have HB11 := Lib.hid (HB9.out.trans (hb911.mono (by have := HB9.out.size; have := HN.out; omega)))
        have HK111 := Lib.hid (HK19.out.below hb911 HK19.out.lt)
        have HK211 := Lib.hid (HK29.out.below hb911 HK29.out.lt)
        have HKB11 := Lib.hid (HKB9.out.below hb911 HKB9.out.lt)
        have HIV11 := Lib.hid (HIV9.out.more hb911)
        have HIE11 := Lib.hid (HIE9.out.more hb911)
        clear hq1 hq2 hb10 hR1 hb1011 hb911 x0 x1 x2 x3 x4 x5 y0 y1 y2
        have x0 : W11.cell? ⟨N, 0, none⟩ = some (.int .i64 b) := HK111.out.cell 0
        have x1 : W11.cell? ⟨N, 1, none⟩ = some (.slice A1 np c1) := HK111.out.cell 1
        have x2 : W11.cell? ⟨N, 2, none⟩ = some (.slice A2 nt c2) := HK111.out.cell 2
        have x3 : W11.cell? ⟨N, 3, none⟩ = some (.slice A3 ng c3) := HK111.out.cell 3
        have x4 : W11.cell? ⟨N + 1, 0, none⟩ = some (.int .i64 (s : Int)) := HK211.out.cell 0
        have x5 : W11.cell? ⟨N + 1, 1, none⟩ = some (.string h) := HK211.out.cell 1
        have y0 : W11.cell? ⟨Nb, 0, none⟩ = some (.slice Ap lp kp) := HKB11.out.cell 0
        have y1 : W11.cell? ⟨Nb, 1, none⟩ = some (.slice Ae le ke) := HKB11.out.cell 1
        have y2 : W11.cell? ⟨Nb, 2, none⟩ = some (.string hd) := HKB11.out.cell 2
        go_wp2_with (go_at_call 10; refine (law10_num _ _).mono ?_; rintro e wq ⟨rfl, hw⟩; have hw2 := Eq.symm hw; subst hw2; clear hw)
        go_at_call 17
        refine (HREA.out W11 HB11.out (le : Int)).mono ?_
        rintro e W12 ⟨v1, v2, ⟨P2, E2, hd2⟩, ok1, e1, rfl, hq1, hq2, hb12, hR1⟩
        obtain ⟨hpp, rfl, rfl⟩ := HSAME.out _ _ _ hR1
        injection hpp with hp1 hp2 hp3
        subst hp1
        subst hp2
        subst hp3
        obtain ⟨a1, a3, rfl, _, ha⟩ := in_view hq1
        obtain ⟨d1, d3, rfl, _, hde⟩ := in_view hq2
        simp only [] at ha hde
        simp only [HLP.out, HLE.out]
        obtain ⟨Nc, hNc⟩ : ∃ Nc, W12.heap.size = Nc := ⟨_, rfl⟩
        obtain ⟨W13, hW13⟩ : ∃ W13, W12.alloc (.cells #[.slice a1 lp a3, .slice d1 le d3, .string hd2] 40) = W13 := ⟨_, rfl⟩
        have hb1213 : Below W12.heap.size W12 W13 := by rw [← hW13]; exact (Below.refl _ _).alloc (Nat.le_refl _) _
        have hbx : Below W11.heap.size W11 W13 := hb12.trans (hb1213.mono hb12.size)
        have HB13 := Lib.hid (HB11.out.trans (hbx.mono (by have := HB11.out.size; have := HN.out; omega)))
        have HKB13 := Lib.hid (HKB11.out.below hbx HKB11.out.lt)
        have HKC13 := Lib.hid (show Blk W13 Nc 40 #[.slice a1 lp a3, .slice d1 le d3, .string hd2] by rw [← hW13, ← hNc]; exact Blk.new W12 _ _)
        have hpa := law10_path Ap a1 Ae d1 kp a3 ke d3 P2 E2 hd2 W13 (HIV11.out.more hbx) (ha.more hb1213) (HIE11.out.more hbx) (hde.more hb1213) (by rw [HLP.out]; have := HSH.out; omega) (by rw [HLE.out]; have := HLE1.out; have := H64.out; omega)
        rw [HLP.out, HLE.out] at hpa
        have HPA := Lib.hid hpa
        clear hq1 hq2 hb12 hR1 hb1213 hbx ha hde hpa x0 x1 x2 x3 x4 x5 y0 y1 y2
        have y0 : W13.cell? ⟨Nb, 0, none⟩ = some (.slice Ap lp kp) := HKB13.out.cell 0
        have y1 : W13.cell? ⟨Nb, 1, none⟩ = some (.slice Ae le ke) := HKB13.out.cell 1
        have y2 : W13.cell? ⟨Nb, 2, none⟩ = some (.string hd2) := HKB13.out.cell 2
        have y3 : W13.cell? ⟨Nc, 0, none⟩ = some (.slice a1 lp a3) := HKC13.out.cell 0
        have y4 : W13.cell? ⟨Nc, 1, none⟩ = some (.slice d1 le d3) := HKC13.out.cell 1
        have y5 : W13.cell? ⟨Nc, 2, none⟩ = some (.string hd2) := HKC13.out.cell 2
        go_wp2_with (go_at_call 10; refine (law10_num _ _).mono ?_; rintro e wq ⟨rfl, hw⟩; have hw2 := Eq.symm hw; subst hw2; clear hw)
        go_at_call 18
        refine HPA.out.mono ?_
        rintro e W14 ⟨rfl, hb14⟩
        have HB14 := Lib.hid (HB13.out.trans (hb14.mono (by have := HB13.out.size; have := HN.out; omega)))
        clear hb14 y0 y1 y2 y3 y4 y5
        go_wp2_with (go_at_call 11; refine (HKN.out _ HB14.out).mono ?_; rintro e W8 ⟨rfl, hb8⟩)
        go_ret
        exact ⟨rfl, by rw [HN.out]; exact HB14.out.trans (hb8.mono (by have := HB14.out.size; have := HN.out; omega))⟩
end Go.Proofs.YtpknablklencdaaGreatDoor
