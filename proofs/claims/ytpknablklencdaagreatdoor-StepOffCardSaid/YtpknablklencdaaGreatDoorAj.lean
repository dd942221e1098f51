/-
  THE WALK of reachlaw10.within; THE LAW StepOff (chapter 10).
-/
import Derived.Test.YtpknablklencdaaGreatDoorAi
import Derived.Test.YtpknablklencdaaGreatDoorAb
import Derived.Test.YtpknablklencdaaGreatDoorHb
import Derived.Test.YtpknablklencdaaGreatDoorUc
set_option linter.unusedVariables false
set_option linter.unusedSimpArgs false
set_option maxRecDepth 100000
set_option maxHeartbeats 8000000
namespace Go.Proofs.YtpknablklencdaaGreatDoor
open Go.RowKit
def Sp.withinV (k most : Int) : Int := if k < 0 then 0 else if most < k then most else k
theorem law10_within (k most : Int) (w : World) : Calls Tryz.prog 8 #[.int .i64 k, .int .i64 most] w fun e w' => e = .returned (.int .i64 (Sp.withinV k most)) ∧ w' = w := by
  by_cases h1 : k < 0
  · have t1 : decide (k < 0) = true := decide_eq_true h1
    have HV := Lib.hid (show Sp.withinV k most = 0 by unfold Sp.withinV; rw [if_pos h1])
    clear h1
    go_enter Tryz.func8, Tryz.ntmps8
    go_wp2
    go_ret
    exact ⟨by rw [HV.out]; rfl, rfl⟩
  · have t1 : decide (k < 0) = false := decide_eq_false h1
    by_cases h2 : most < k
    · have t2 : decide (k > most) = true := decide_eq_true h2
      have HV := Lib.hid (show Sp.withinV k most = most by unfold Sp.withinV; rw [if_neg h1, if_pos h2])
      clear h1 h2
      go_enter Tryz.func8, Tryz.ntmps8
      go_wp2
      go_ret
      exact ⟨by rw [HV.out]; rfl, rfl⟩
    · have t2 : decide (k > most) = false := decide_eq_false h2
      have HV := Lib.hid (show Sp.withinV k most = k by unfold Sp.withinV; rw [if_neg h1, if_neg h2])
      clear h1 h2
      go_enter Tryz.func8, Tryz.ntmps8
      go_wp2
      go_ret
      exact ⟨by rw [HV.out]; rfl, rfl⟩
theorem law_off (n : Sp.Net) (A1 A2 A3 : Option Addr) (c1 c2 c3 : Nat) (p : Int) (h : ByteArray) (hops at_ port : Int) (w : World) (hG : Gn w) (hnr : NetR w n [.int .i64 n.bits, .slice A1 n.ports.length c1, .slice A2 n.tables.length c2, .slice A3 n.guards.length c3]) (hsz : Sp.Szd n) (hh : h.size ≤ 9223372036854775807) :
    Calls Tryz.prog 4 #[.agg #[.int .i64 n.bits, .slice A1 n.ports.length c1, .slice A2 n.tables.length c2, .slice A3 n.guards.length c3], .agg #[.int .i64 p, .string h], .int .i64 hops, .int .i64 at_, .int .i64 port] w fun e w' => e = .returned (.bool true) ∧ Below w.heap.size w w' := by
  obtain ⟨N, hN⟩ : ∃ N, w.heap.size = N := ⟨_, rfl⟩
  obtain ⟨W2, hW2⟩ : ∃ W2, (w.alloc (.cells #[.int .i64 n.bits, .slice A1 n.ports.length c1, .slice A2 n.tables.length c2, .slice A3 n.guards.length c3] 26)).alloc (.cells #[.int .i64 p, .string h] 28) = W2 := ⟨_, rfl⟩
  have hb2 : Below N w W2 := by rw [← hW2, ← hN]; exact ((Below.refl _ _).alloc (Nat.le_refl _) _).alloc (by simp) _
  have hs2 : W2.heap.size = N + 2 := by rw [← hW2, ← hN]; simp
  have hk1 : Blk W2 N 26 #[.int .i64 n.bits, .slice A1 n.ports.length c1, .slice A2 n.tables.length c2, .slice A3 n.guards.length c3] := by rw [← hW2, ← hN]; exact (Blk.new w _ _).alloc _
  have hk2 : Blk W2 (N + 1) 28 #[.int .i64 p, .string h] := by rw [← hW2]; exact blk_at (by rw [World.size_alloc]; omega)
  -- what the two calls answer, in whatever world that has come of this one
  have HFOL := Lib.hid (fun (W : World) (hb : Below N w W) (Ap : Option Addr) (kp : Nat) (l : List Int) (hv : IV W Ap l) (hlk : l.length ≤ kp) (hl : l.length ≤ 1000000) =>
    step_Follow n A1 A2 A3 c1 c2 c3 p h Ap kp l W (hG.below (by rw [hN]; exact hb)) (hnr.more (by rw [hN]; exact hb)) hsz hh hv hlk (by omega))
  have HKN := Lib.hid (fun (W : World) (hb : Below N w W) => law10_known W (hG.below (by rw [hN]; exact hb)))
  have hso := law10_some n A1 A2 A3 c1 c2 c3 p h hops 1 W2 (hG.below (by rw [hN]; exact hb2)) (hnr.more (by rw [hN]; exact hb2)) hsz hh (by omega)
  rw [show ((1 : Nat) : Int) = 1 from rfl] at hso
  obtain ⟨np, hnp⟩ : ∃ np, n.ports.length = np := ⟨_, rfl⟩
  obtain ⟨nt, hnt⟩ : ∃ nt, n.tables.length = nt := ⟨_, rfl⟩
  obtain ⟨ng, hng⟩ : ∃ ng, n.guards.length = ng := ⟨_, rfl⟩
  obtain ⟨b, hbi⟩ : ∃ b, n.bits = b := ⟨_, rfl⟩
  rw [hbi, hnp, hnt, hng] at hk1 hso hW2 HFOL ⊢
  have x0 : W2.cell? ⟨N, 0, none⟩ = some (.int .i64 b) := hk1.cell 0
  have x1 : W2.cell? ⟨N, 1, none⟩ = some (.slice A1 np c1) := hk1.cell 1
  have x2 : W2.cell? ⟨N, 2, none⟩ = some (.slice A2 nt c2) := hk1.cell 2
  have x3 : W2.cell? ⟨N, 3, none⟩ = some (.slice A3 ng c3) := hk1.cell 3
  have x4 : W2.cell? ⟨N + 1, 0, none⟩ = some (.int .i64 p) := hk2.cell 0
  have x5 : W2.cell? ⟨N + 1, 1, none⟩ = some (.string h) := hk2.cell 1
  have HN := Lib.hid hN
  have HB2 := Lib.hid hb2
  have HS2 := Lib.hid hs2
  have HK1 := Lib.hid hk1
  have HK2 := Lib.hid hk2
  have HSO := Lib.hid hso
  clear hG hnr hsz hh hb2 hs2 hk1 hk2 hso hbi hnp hnt hng
  go_enter Tryz.func4, Tryz.ntmps4
  go_wp2_with fail
  clear x0 x1 x2 x3 x4 x5
  refine HSO.out.mono ?_
  rintro e W3 ⟨v, xs, rfl, hpts, hmap, hb3⟩
  have HB3 := Lib.hid (HB2.out.trans (hb3.mono (by have := HS2.out; omega)))
  have HS3 := Lib.hid (Nat.le_trans (show N + 2 ≤ W2.heap.size by have := HS2.out; omega) hb3.size)
  replace HK1 := Lib.hid (HK1.out.below hb3 HK1.out.lt)
  replace HK2 := Lib.hid (HK2.out.below hb3 HK2.out.lt)
  cases xs with
  | nil =>
    obtain ⟨Av, cv, rfl⟩ : ∃ A c, v = .slice A 0 c := by
      rcases hpts.row.2 with ⟨rfl, _⟩ | ⟨g, cap, cur, rfl, _⟩
      · exact ⟨_, _, rfl⟩
      · exact ⟨_, _, rfl⟩
    clear hpts hmap hb3 HSO HFOL
    go_wp2_with (go_at_call 11; refine (HKN.out _ HB3.out).mono ?_; rintro e W4 ⟨rfl, hb4⟩)
    go_ret
    exact ⟨rfl, by rw [HN.out]; exact HB3.out.trans (hb4.mono (by have := HB3.out.size; have := HN.out; omega))⟩
  | cons x r =>
    have hr0 : r = [] := by
      have := congrArg List.length hmap
      rw [List.length_map, List.length_take] at this
      simp only [List.length_cons] at this
      exact List.length_eq_zero_iff.1 (by omega)
    subst hr0
    have hq : x.path ∈ Sp.pathsV n p h hops := List.mem_of_mem_take (i := 1) (by rw [← hmap]; simp)
    obtain ⟨v1, v2, ⟨P, E, hd⟩⟩ := x
    simp only [] at hq
    have hpv : InR W3 W2.heap.size v1 P := (hpts.each ⟨v1, v2, ⟨P, E, hd⟩⟩ List.mem_cons_self).1
    rcases hpts.row.2 with ⟨_, h0⟩ | ⟨g, cv, cur, rfl, hg2, hg3, _, _, _, _⟩
    · simp at h0
    have hrow : W3.ownsRow W2.heap.size 40 3 (.slice (some ⟨g, 0, none⟩) 1 cv) 1 [v1, v2, .string hd] := hpts.row
    have hcell : W3.cell? ⟨g, 0, none⟩ = some v1 := by rw [hrow.cellAt 0 (by omega)]; rfl
    have hglt : g < W3.heap.size := (Array.getElem?_eq_some_iff.1 hg3).1
    obtain ⟨Ax, cx, rfl, hcx, hiv⟩ := in_view hpv
    obtain ⟨hc0, hh0, hh64⟩ := Sp.paths_check hq
    obtain ⟨s, rfl⟩ : ∃ s : Nat, p = s := ⟨p.toNat, by have := (Sp.checkE_zero hc0).2.port; omega⟩
    have hlen := (Sp.paths_whole hq).ports_len hh64
    simp only [] at hlen
    obtain ⟨m, hm⟩ : ∃ m, P.length = m + 1 := ⟨P.length - 1, by omega⟩
    rw [hm] at hcell hcx hlen
    have HCELL := Lib.hid hcell
    have HGLT := Lib.hid hglt
    have HIV := Lib.hid hiv
    have HQ := Lib.hid hq
    have HM := Lib.hid hm
    have HLEN := Lib.hid hlen
    have e0 : ((m : Int) + 1 == 0) = false := by rw [beq_eq_false_iff_ne]; omega
    have i0 : (0 : Int) < 1 := by decide
    clear hpts hmap hb3 HSO hpv hg2 hg3 hrow hglt hcx hiv hq hc0 hh0 hh64 hlen hm
    go_wp2_with fail
    go_loopw [12, 13] (fun v12 v13 wr => ∃ (v : Value) (i : Nat), v = v12 ∧ v13 = .int .i64 (i : Int) ∧ i ≤ m + 1 ∧ Below W3.heap.size W3 wr ∧ InR wr W3.heap.size v (P.take i)) (fun _ v13 _ => m + 1 - (intOf v13).toNat)
    case atStart => exact ⟨_, 0, rfl, rfl, Nat.zero_le _, Below.refl _ _, World.ownsRow_nil _ _ _ _⟩
    case round =>
      obtain ⟨v, i, rfl, rfl, hi, hb, hr⟩ := hrel
      have hc2 : wr.cell? ⟨g, 0, none⟩ = some (.slice Ax (m + 1) cx) := (hb.cell (p := ⟨g, 0, none⟩) HGLT.out).trans HCELL.out
      have HB := Lib.hid hb
      have HR := Lib.hid hr
      have j0 : (0 : Int) ≤ (i : Int) := by omega
      by_cases hlt : i < m + 1
      · have p1 : decide ((i : Int) < (m : Int) + 1) = true := decide_eq_true (by omega)
        have p2 : decide (i < m + 1) = true := decide_eq_true hlt
        have p3 : (i : Int) < (m : Int) + 1 := by omega
        have z1 : IntKind.i64.wrap ((i : Int) + 1) = (i : Int) + 1 := by have := HLEN.out; rw [IntKind.wrap_i64]; omega
        obtain ⟨y, hy⟩ : ∃ y, P[i]? = some y := ⟨_, List.getElem?_eq_getElem (by rw [HM.out]; exact hlt)⟩
        obtain ⟨ga, oa, rfl, hga, c0⟩ := (HIV.out.more hb).at hy
        have htk : P.take (i + 1) = P.take i ++ [y] := by rw [List.take_add_one, hy]; rfl
        have HTK := Lib.hid htk
        have HI := Lib.hid (show i + 1 ≤ m + 1 by omega)
        have HLE := Lib.hid (show (P.take i).length * 8 ≤ 140737488355320 by rw [List.length_take]; have := HLEN.out; omega)
        clear hi hlt hb hr hy hga htk
        go_wp2_with (at_builtin; refine wpList_int rfl _ _ rfl W3.heap.size v (P.take i) rfl wr y rfl HR.out HB.out.size HLE.out ?_; intro v' w' hr' hb')
        go_roundw
        case rel => exact ⟨_, i + 1, rfl, by rfl, HI.out, HB.out.trans hb', by rw [HTK.out]; exact hr'⟩
        case measure => have := HI.out; simp [intOf]; omega
      · have p1 : decide ((i : Int) < (m : Int) + 1) = false := decide_eq_false (by omega)
        have HP1 := Lib.hid p1
        have HC2 := Lib.hid hc2
        have p2 : decide (i < m + 1) = false := decide_eq_false hlt
        have hfin : InR wr W3.heap.size v P := by rw [List.take_of_length_le (by rw [HM.out]; omega)] at hr; exact hr
        rcases hfin.2 with ⟨_, h9⟩ | ⟨g2, c9, cur9, rfl, h92, h93, h94, _⟩
        · have := HM.out; omega
        rw [HM.out] at h94 hfin ⊢
        obtain ⟨j, hj⟩ : ∃ j : Nat, Sp.withinV at_ (m : Int) = j := ⟨(Sp.withinV at_ m).toNat, by unfold Sp.withinV; split <;> (try split) <;> omega⟩
        have hjm : j ≤ m := by unfold Sp.withinV at hj; split at hj <;> (try split at hj) <;> omega
        have z1 : IntKind.i64.wrap (m : Int) = (m : Int) := by have := HLEN.out; rw [IntKind.wrap_i64]; omega
        have j1 : (0 : Int) ≤ (j : Int) := by omega
        have j2 : (j : Int) < (m : Int) + 1 := by omega
        obtain ⟨y, hy⟩ : ∃ y, P[j]? = some y := ⟨_, List.getElem?_eq_getElem (by rw [HM.out]; omega)⟩
        have hrow2 : wr.ownsRow W3.heap.size 3 1 (.slice (some ⟨g2, 0, none⟩) (m + 1) c9) (m + 1) (P.map (Value.int .i64)) := by have h9 := hfin; unfold InR at h9; rw [HM.out] at h9; exact h9
        have wc : wr.cell? ⟨g2, j, none⟩ = some (.int .i64 y) := by rw [hrow2.cellAt j (by omega), List.getElem?_map, hy]; rfl
        have wf : wr.frozen? ⟨g2, j, none⟩ = false := hrow2.frozenAt j
        obtain ⟨W5, hW5⟩ : ∃ W5, wr.setCell ⟨g2, j, none⟩ (.int .i64 port) = W5 := ⟨_, rfl⟩
        have hst := hrow2.stored j (.int .i64 port)
        rw [hW5] at hst
        have hin5 : InR W5 W3.heap.size (.slice (some ⟨g2, 0, none⟩) (m + 1) c9) (P.set j port) := by
          unfold InR
          rw [List.length_set, HM.out, List.map_set]
          exact hst.1
        have hb5 : Below W3.heap.size W3 W5 := by rw [← hW5]; exact hb.setCell (p := ⟨g2, j, none⟩) h92 _
        have hkN := HK1.out.below hb5 (by have := HS3.out; omega)
        have hkS := HK2.out.below hb5 (by have := HS3.out; omega)
        have HB5 := Lib.hid (HB3.out.trans (hb5.mono (by have := HS3.out; omega)))
        have HIN5 := Lib.hid hin5
        have HKN5 := Lib.hid hkN
        have HKS5 := Lib.hid hkS
        have HJ := Lib.hid hj
        have HJM := Lib.hid hjm
        have HC9 := Lib.hid h94
        clear hi hlt hb hr hfin hy hrow2 hst hin5 hb5 hkN hkS hj hjm h92 h93 h94 HB HR hc2 p1 p2 e0
        have hc2 : wr.cell? ⟨g, 0, none⟩ = some (.slice Ax (m + 1) cx) := HC2.out
        have p1 : decide ((i : Int) < (m : Int) + 1) = false := HP1.out
        go_wp2_with (go_at_call 8; refine (law10_within at_ (m : Int) wr).mono ?_; rintro e w' ⟨rfl, rfl⟩; rw [HJ.out])
        clear hc2 p1 wc wf hW5
        have hsl : ((P.set j port).take (j + 1)).length = j + 1 := by rw [List.length_take, List.length_set, HM.out]; have := HJM.out; omega
        have hfl : (P.set j port).length = m + 1 := by rw [List.length_set, HM.out]
        obtain ⟨A9, k9, he9, hk9, hiv9⟩ := in_view HIN5.out
        obtain ⟨rfl, rfl⟩ : A9 = some ⟨g2, 0, none⟩ ∧ k9 = c9 := by injection he9 with q1 q2 q3; exact ⟨q1.symm, q3.symm⟩
        have hivt : IV W5.drew (some ⟨g2, 0, none⟩) ((P.set j port).take (j + 1)) := fun i z hz => hiv9 i z (by rw [List.getElem?_take] at hz; split at hz; exact hz; cases hz)
        have hf1 := HFOL.out W5.drew HB5.out.drew (some ⟨g2, 0, none⟩) k9 ((P.set j port).take (j + 1)) hivt (by rw [hsl]; have := HJM.out; rw [hfl] at hk9; omega) (by rw [hsl]; have := HJM.out; have := HLEN.out; omega)
        have hf2 := fun (W : World) (hb : Below W5.heap.size W5 W) => HFOL.out W (HB5.out.trans (hb.mono (by have := HB5.out.size; have := HN.out; omega))) (some ⟨g2, 0, none⟩) k9 (P.set j port) (hiv9.more hb) hk9 (by rw [hfl]; have := HLEN.out; omega)
        rw [hsl] at hf1
        simp only [hfl] at hf2
        obtain ⟨⟨Ft, fc, fe⟩, hF⟩ : ∃ t, Sp.followT n (s : Int) h ((P.set j port).take (j + 1)) = t := ⟨_, rfl⟩
        obtain ⟨⟨Gt, gk, ge⟩, hGG⟩ : ∃ t, Sp.followT n (s : Int) h (P.set j port) = t := ⟨_, rfl⟩
        have hlaw := Sp.off_law HQ.out j (by simp only []; rw [HM.out]; have := HJM.out; omega) port hF hGG
        unfold FollowEnd at hf1 hf2
        rw [hF] at hf1
        simp only [hGG] at hf2
        have HF1 := Lib.hid hf1
        have HF2 := Lib.hid hf2
        have HLAW := Lib.hid hlaw
        have hcc : j + 1 ≤ k9 := by have := HJM.out; rw [hfl] at hk9; omega
        have hcc2 : (j : Int) + 1 ≤ (k9 : Int) := by omega
        have hcc3 : (0 : Int) ≤ (j : Int) + 1 := by omega
        have z2 : IntKind.i64.wrap ((j : Int) + 1) = (j : Int) + 1 := by have := HLEN.out; have := HJM.out; rw [IntKind.wrap_i64]; omega
        have z3 : ((j : Int) + 1).toNat = j + 1 := by omega
        clear hsl hfl he9 hk9 hiv9 hivt hf1 hf2 hF hGG hlaw
        refine wp_region_K 13 (fun w' => w'.cell? ⟨N, 0, none⟩ = some (.int .i64 b) ∧ w'.cell? ⟨N, 1, none⟩ = some (.slice A1 np c1) ∧ w'.cell? ⟨N, 2, none⟩ = some (.slice A2 nt c2) ∧ w'.cell? ⟨N, 3, none⟩ = some (.slice A3 ng c3) ∧ w'.cell? ⟨N + 1, 0, none⟩ = some (.int .i64 (s : Int)) ∧ w'.cell? ⟨N + 1, 1, none⟩ = some (.string h)) (by kernel_rfl) (fun hcl => ?_)
        have hS : (fun w' : World => w'.cell? ⟨N, 0, none⟩ = some (.int .i64 b) ∧ w'.cell? ⟨N, 1, none⟩ = some (.slice A1 np c1) ∧ w'.cell? ⟨N, 2, none⟩ = some (.slice A2 nt c2) ∧ w'.cell? ⟨N, 3, none⟩ = some (.slice A3 ng c3) ∧ w'.cell? ⟨N + 1, 0, none⟩ = some (.int .i64 (s : Int)) ∧ w'.cell? ⟨N + 1, 1, none⟩ = some (.string h)) W5.drew := ⟨HKN5.out.cell 0, HKN5.out.cell 1, HKN5.out.cell 2, HKN5.out.cell 3, HKS5.out.cell 0, HKS5.out.cell 1⟩
        refine wpAnyK_take (i := 0) (v := ?_) hcl hS rfl (by kernel_rfl) (fun _ _ _ h => h) (by rfl) ?_ (fun hcl2 => ?_)
        rotate_left
        · (intro w hSw; (try dsimp only at hSw); first | (go_simp; done) | (go_simp; with_reducible rfl))
        (try simp only [List.getElem_toArray, List.getElem_cons_succ, List.getElem_cons_zero])
        (try simp only [Act.put, List.setIfInBounds_toArray, List.set_cons_zero, List.set_cons_succ])
        clear hcl; have hcl := hcl2; clear hcl2
        refine wpAnyK_take (i := 1) (v := ?_) hcl hS rfl (by kernel_rfl) (fun _ _ _ h => h) (by rfl) ?_ (fun hcl2 => ?_)
        rotate_left
        · (intro w hSw; (try dsimp only at hSw); first | (go_simp; done) | (go_simp; with_reducible rfl))
        (try simp only [List.getElem_toArray, List.getElem_cons_succ, List.getElem_cons_zero])
        (try simp only [Act.put, List.setIfInBounds_toArray, List.set_cons_zero, List.set_cons_succ])
        clear hcl; have hcl := hcl2; clear hcl2
        refine wpAnyK_take (i := 2) (v := ?_) hcl hS rfl (by kernel_rfl) (fun _ _ _ h => h) (by rfl) ?_ (fun hcl2 => ?_)
        rotate_left
        · (intro w hSw; (try dsimp only at hSw); first | (go_simp; done) | (go_simp; with_reducible rfl))
        (try simp only [List.getElem_toArray, List.getElem_cons_succ, List.getElem_cons_zero])
        (try simp only [Act.put, List.setIfInBounds_toArray, List.set_cons_zero, List.set_cons_succ])
        clear hcl; have hcl := hcl2; clear hcl2
        refine wpAnyK_take (i := 3) (v := ?_) hcl hS rfl (by kernel_rfl) (fun _ _ _ h => h) (by rfl) ?_ (fun hcl2 => ?_)
        rotate_left
        · (intro w hSw; (try dsimp only at hSw); first | (go_simp; done) | (go_simp; with_reducible rfl))
        (try simp only [List.getElem_toArray, List.getElem_cons_succ, List.getElem_cons_zero])
        (try simp only [Act.put, List.setIfInBounds_toArray, List.set_cons_zero, List.set_cons_succ])
        clear hcl; have hcl := hcl2; clear hcl2
        refine wpAnyK_take (i := 4) (v := ?_) hcl hS rfl (by kernel_rfl) (fun _ _ _ h => h) (by rfl) ?_ (fun hcl2 => ?_)
        rotate_left
        · (intro w hSw; (try dsimp only at hSw); first | (go_simp; done) | (go_simp; with_reducible rfl))
        (try simp only [List.getElem_toArray, List.getElem_cons_succ, List.getElem_cons_zero])
        (try simp only [Act.put, List.setIfInBounds_toArray, List.set_cons_zero, List.set_cons_succ])
        clear hcl; have hcl := hcl2; clear hcl2
        refine wpAnyK_take (i := 5) (v := ?_) hcl hS rfl (by kernel_rfl) (fun _ _ _ h => h) (by rfl) ?_ (fun hcl2 => ?_)
        rotate_left
        · (intro w hSw; (try dsimp only at hSw); first | (go_simp; done) | (go_simp; with_reducible rfl))
        (try simp only [List.getElem_toArray, List.getElem_cons_succ, List.getElem_cons_zero])
        (try simp only [Act.put, List.setIfInBounds_toArray, List.set_cons_zero, List.set_cons_succ])
        clear hcl; have hcl := hcl2; clear hcl2
        refine wpAnyK_one (i := 6) hcl (by kernel_rfl) rfl (by rfl) (fun K hK => ?_)
        go_simp
        refine HF1.out.mono ?_
        rintro r W6 ⟨rfl, hb6⟩
        have hb56 : Below W5.heap.size W5 W6 := ((Below.refl W5.heap.size W5).drew).trans hb6
        clear hS
        have hS : (fun w' : World => w'.cell? ⟨N, 0, none⟩ = some (.int .i64 b) ∧ w'.cell? ⟨N, 1, none⟩ = some (.slice A1 np c1) ∧ w'.cell? ⟨N, 2, none⟩ = some (.slice A2 nt c2) ∧ w'.cell? ⟨N, 3, none⟩ = some (.slice A3 ng c3) ∧ w'.cell? ⟨N + 1, 0, none⟩ = some (.int .i64 (s : Int)) ∧ w'.cell? ⟨N + 1, 1, none⟩ = some (.string h)) W6 := ⟨(HKN5.out.below hb56 HKN5.out.lt).cell 0, (HKN5.out.below hb56 HKN5.out.lt).cell 1, (HKN5.out.below hb56 HKN5.out.lt).cell 2, (HKN5.out.below hb56 HKN5.out.lt).cell 3, (HKS5.out.below hb56 HKS5.out.lt).cell 0, (HKS5.out.below hb56 HKS5.out.lt).cell 1⟩
        refine hK.out _ _ (Or.inr hS) (fun hcl2 => ?_)
        clear hK K hcl
        have hcl := hcl2
        clear hcl2
        refine wpAnyK_take (i := 7) (v := ?_) hcl hS rfl (by kernel_rfl) (fun _ _ _ h => h) (by rfl) ?_ (fun hcl2 => ?_)
        rotate_left
        · (intro w hSw; (try dsimp only at hSw); first | (go_simp; done) | (go_simp; with_reducible rfl))
        (try simp only [List.getElem_toArray, List.getElem_cons_succ, List.getElem_cons_zero])
        (try simp only [Act.put, List.setIfInBounds_toArray, List.set_cons_zero, List.set_cons_succ])
        clear hcl; have hcl := hcl2; clear hcl2
        refine wpAnyK_take (i := 8) (v := ?_) hcl hS rfl (by kernel_rfl) (fun _ _ _ h => h) (by rfl) ?_ (fun hcl2 => ?_)
        rotate_left
        · (intro w hSw; (try dsimp only at hSw); first | (go_simp; done) | (go_simp; with_reducible rfl))
        (try simp only [List.getElem_toArray, List.getElem_cons_succ, List.getElem_cons_zero])
        (try simp only [Act.put, List.setIfInBounds_toArray, List.set_cons_zero, List.set_cons_succ])
        clear hcl; have hcl := hcl2; clear hcl2
        refine wpAnyK_take (i := 9) (v := ?_) hcl hS rfl (by kernel_rfl) (fun _ _ _ h => h) (by rfl) ?_ (fun hcl2 => ?_)
        rotate_left
        · (intro w hSw; (try dsimp only at hSw); first | (go_simp; done) | (go_simp; with_reducible rfl))
        (try simp only [List.getElem_toArray, List.getElem_cons_succ, List.getElem_cons_zero])
        (try simp only [Act.put, List.setIfInBounds_toArray, List.set_cons_zero, List.set_cons_succ])
        clear hcl; have hcl := hcl2; clear hcl2
        refine wpAnyK_take (i := 10) (v := ?_) hcl hS rfl (by kernel_rfl) (fun _ _ _ h => h) (by rfl) ?_ (fun hcl2 => ?_)
        rotate_left
        · (intro w hSw; (try dsimp only at hSw); first | (go_simp; done) | (go_simp; with_reducible rfl))
        (try simp only [List.getElem_toArray, List.getElem_cons_succ, List.getElem_cons_zero])
        (try simp only [Act.put, List.setIfInBounds_toArray, List.set_cons_zero, List.set_cons_succ])
        clear hcl; have hcl := hcl2; clear hcl2
        refine wpAnyK_take (i := 11) (v := ?_) hcl hS rfl (by kernel_rfl) (fun _ _ _ h => h) (by rfl) ?_ (fun hcl2 => ?_)
        rotate_left
        · (intro w hSw; (try dsimp only at hSw); first | (go_simp; done) | (go_simp; with_reducible rfl))
        (try simp only [List.getElem_toArray, List.getElem_cons_succ, List.getElem_cons_zero])
        (try simp only [Act.put, List.setIfInBounds_toArray, List.set_cons_zero, List.set_cons_succ])
        clear hcl; have hcl := hcl2; clear hcl2
        refine wpAnyK_take (i := 12) (v := ?_) hcl hS rfl (by kernel_rfl) (fun _ _ _ h => h) (by rfl) ?_ (fun hcl2 => ?_)
        rotate_left
        · (intro w hSw; (try dsimp only at hSw); first | (go_simp; done) | (go_simp; with_reducible rfl))
        (try simp only [List.getElem_toArray, List.getElem_cons_succ, List.getElem_cons_zero])
        (try simp only [Act.put, List.setIfInBounds_toArray, List.set_cons_zero, List.set_cons_succ])
        clear hcl; have hcl := hcl2; clear hcl2
        have HS6 := Lib.hid hS
        have HB56 := Lib.hid hb56
        clear hS hb6 hb56
        refine wpAnyK_one (i := 13) hcl (by kernel_rfl) rfl (by rfl) (fun K hK => ?_)
        go_simp
        refine hK.out _ _ (Or.inl (by kernel_rfl)) (fun hcl2 => ?_)
        clear hK K hcl hcl2
        refine wpAnyK_done (by kernel_rfl) ?_ _
        (try simp only [Act.put, List.setIfInBounds_toArray, List.set_cons_zero, List.set_cons_succ])
        obtain ⟨q0, q1, q2, q3, q4, q5⟩ := HS6.out
        have hf2 := HF2.out W6 HB56.out
        rcases HLAW.out with ⟨rfl, (rfl | ⟨rfl, hkj⟩)⟩ | ⟨rfl, rfl, rfl, rfl⟩
        · go_wp2_with (first
            | (go_at_call 10; refine (law10_num _ _).mono ?_; rintro e _ ⟨rfl, rfl⟩)
            | (go_at_call 12; refine hf2.mono ?_; rintro e W7 ⟨rfl, hb7⟩; have HB7 := Lib.hid ((HB5.out.trans (HB56.out.mono (by have := HB5.out.size; have := HN.out; omega))).trans (hb7.mono (by have := HB5.out.size; have := HB56.out.size; have := HN.out; omega))); clear hb7)
            | (go_at_call 11; refine (HKN.out _ HB7.out).mono ?_; rintro e W8 ⟨rfl, hb8⟩))
          go_ret
          exact ⟨rfl, by rw [HN.out]; exact HB7.out.trans (hb8.mono (by have := HB7.out.size; have := HN.out; omega))⟩
        · have t1 : decide (gk > (j : Int)) = true := decide_eq_true hkj
          go_wp2_with (first
            | (go_at_call 10; refine (law10_num _ _).mono ?_; rintro e _ ⟨rfl, rfl⟩)
            | (go_at_call 12; refine hf2.mono ?_; rintro e W7 ⟨rfl, hb7⟩; have HB7 := Lib.hid ((HB5.out.trans (HB56.out.mono (by have := HB5.out.size; have := HN.out; omega))).trans (hb7.mono (by have := HB5.out.size; have := HB56.out.size; have := HN.out; omega))); clear hb7)
            | (go_at_call 11; refine (HKN.out _ HB7.out).mono ?_; rintro e W8 ⟨rfl, hb8⟩))
          go_ret
          exact ⟨rfl, by rw [HN.out]; exact HB7.out.trans (hb8.mono (by have := HB7.out.size; have := HN.out; omega))⟩
        · go_wp2_with (first
            | (go_at_call 10; refine (law10_num _ _).mono ?_; rintro e _ ⟨rfl, rfl⟩)
            | (go_at_call 12; refine hf2.mono ?_; rintro e W7 ⟨rfl, hb7⟩; have HB7 := Lib.hid ((HB5.out.trans (HB56.out.mono (by have := HB5.out.size; have := HN.out; omega))).trans (hb7.mono (by have := HB5.out.size; have := HB56.out.size; have := HN.out; omega))); clear hb7)
            | (go_at_call 11; refine (HKN.out _ HB7.out).mono ?_; rintro e W8 ⟨rfl, hb8⟩))
          go_ret
          exact ⟨rfl, by rw [HN.out]; exact HB7.out.trans (hb8.mono (by have := HB7.out.size; have := HN.out; omega))⟩
end Go.Proofs.YtpknablklencdaaGreatDoor
