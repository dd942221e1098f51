/-
  reachlaw10.ints on lists that differ; THE LAW StepWhole (chapter 10).
-/
import Derived.Test.YtpknablklencdaaGreatDoorAj
set_option linter.unusedVariables false
set_option linter.unusedSimpArgs false
set_option maxRecDepth 100000
set_option maxHeartbeats 8000000
namespace Go.Proofs.YtpknablklencdaaGreatDoor
open Go.RowKit
theorem law10_ints_ne (A1 A2 : Option Addr) (cap1 cap2 : Nat) (l1 l2 : List Int) (w : World) (k1 : IV w A1 l1) (k2 : IV w A2 l2) (hl : l1.length ≤ 1000000) (hne : l1 ≠ l2) :
    Calls Tryz.prog 13 #[.slice A1 l1.length cap1, .slice A2 l2.length cap2] w fun e w' => e = .returned (.bool false) ∧ Below w.heap.size w w' := by
  have K1 := Lib.hid k1
  have K2 := Lib.hid k2
  have HNE := Lib.hid hne
  by_cases hlen : l1.length = l2.length
  · obtain ⟨n, hn⟩ : ∃ n, l2.length = n := ⟨_, rfl⟩
    rw [hn] at hlen ⊢
    rw [hlen] at hl ⊢
    have HN1 := Lib.hid hlen
    have HN := Lib.hid hn
    have HL := Lib.hid hl
    have q0 : ((n : Int) != (n : Int)) = false := by rw [bne_eq_false_iff_eq]
    have n1 : (n : Int) ≤ 4611686018427387904 := by omega
    clear k1 k2 hn hlen hl hne
    go_enter Tryz.func13, Tryz.ntmps13
    go_wp2_with fail
    go_loopw [5] (fun v5 wr => Below w.heap.size w wr ∧ ∃ i : Nat, v5 = .int .i64 (i : Int) ∧ i ≤ n ∧ Hid (∀ j, j < i → l1[j]? = l2[j]?)) (fun v5 _ => n - (intOf v5).toNat)
    case atStart => exact ⟨Below.refl _ _, 0, rfl, by omega, Lib.hid (fun j hj => by omega)⟩
    case round =>
      obtain ⟨hb, i, rfl, hi, hsame⟩ := hrel
      have HB := Lib.hid hb
      by_cases hlt : i < n
      · have z1 : decide ((i : Int) < n) = true := decide_eq_true (by omega)
        have z1b : decide (i < n) = true := decide_eq_true hlt
        have z2 : (i : Int) < n := by omega
        have z3 : (0 : Int) ≤ (i : Int) := by omega
        obtain ⟨d1, hd1⟩ : ∃ d, l1[i]? = some d := ⟨_, List.getElem?_eq_getElem (by rw [HN1.out]; exact hlt)⟩
        obtain ⟨d2, hd2⟩ : ∃ d, l2[i]? = some d := ⟨_, List.getElem?_eq_getElem (by rw [HN.out]; exact hlt)⟩
        obtain ⟨g1, o1, rfl, hg1, a0⟩ := (K1.out.more hb).at hd1
        obtain ⟨g2, o2, rfl, hg2, b0⟩ := (K2.out.more hb).at hd2
        by_cases hd : d1 = d2
        · subst hd
          have HS2 : Hid (∀ j, j < i + 1 → l1[j]? = l2[j]?) := Lib.hid (fun j hj => by
            rcases Nat.lt_or_ge j i with h9 | h9
            · exact hsame.out j h9
            · obtain rfl : j = i := by omega
              rw [hd1, hd2])
          clear hb hd1 hd2 hg1 hg2 hsame
          go_wp2_with fail
          go_quiet (fail)
          go_wp2_with fail
          go_roundw
          case rel => exact ⟨below_drewN HB.out _, i + 1, by rfl, by omega, HS2⟩
          case measure => simp [intOf]; omega
        · have z4 : (d1 != d2) = true := bne_iff_ne.2 hd
          clear hb hd1 hd2 hg1 hg2 hsame hd
          go_wp2_with fail
          go_quiet (fail)
          go_wp2_with fail
          go_ret
          exact ⟨rfl, below_drewN HB.out _⟩
      · exfalso
        refine HNE.out (List.ext_getElem? fun j => ?_)
        rcases Nat.lt_or_ge j i with h9 | h9
        · exact hsame.out j h9
        · rw [List.getElem?_eq_none (by rw [HN1.out]; omega), List.getElem?_eq_none (by rw [HN.out]; omega)]
  · have q0 : ((l1.length : Int) != (l2.length : Int)) = true := bne_iff_ne.2 (by omega)
    clear k1 k2 hne hlen
    go_enter Tryz.func13, Tryz.ntmps13
    go_wp2_with fail
    go_ret
    exact ⟨rfl, Below.refl _ _⟩
theorem pts_flat : ∀ (xs : List PathV) (i : Nat) (x : PathV), xs[i]? = some x → ∀ j, j < 3 → (xs.flatMap ptC)[i * 3 + j]? = (ptC x)[j]?
  | [], i, x, h, j, hj => by simp at h
  | y :: r, 0, x, h, j, hj => by
    obtain rfl : y = x := by simpa using h
    rw [List.flatMap_cons, List.getElem?_append_left (by show 0 * 3 + j < 3; omega), Nat.zero_mul, Nat.zero_add]
  | y :: r, i + 1, x, h, j, hj => by
    rw [List.flatMap_cons, List.getElem?_append_right (by show 3 ≤ (i + 1) * 3 + j; omega)]
    rw [show (i + 1) * 3 + j - (ptC y).length = i * 3 + j by show (i + 1) * 3 + j - 3 = _; omega]
    exact pts_flat r i x (by simpa using h) j hj
/-- The paths, as they stand in memory now and later. -/
theorem pts_at {B : Nat} {v : Value} {xs : List PathV} {w : World} (h : PtsAt B v xs w) (hne : xs ≠ []) : ∃ g o c, v = .slice (some ⟨g, o, none⟩) xs.length c ∧ ∀ W, Below w.heap.size w W → ∀ (i : Nat) (x : PathV), xs[i]? = some x → ∃ A1 k1 A2 k2, W.cell? ⟨g, o + i * 3, none⟩ = some (.slice A1 x.path.ports.length k1) ∧ W.cell? ⟨g, o + i * 3 + 1, none⟩ = some (.slice A2 x.path.entries.length k2) ∧ W.cell? ⟨g, o + i * 3 + 2, none⟩ = some (.string x.path.header) ∧ IV W A1 x.path.ports ∧ x.path.ports.length ≤ k1 := by
  have hrow := h.row
  unfold PtR at hrow
  rcases hrow.2 with ⟨_, h0⟩ | ⟨g, cv, cur, rfl, hg2, hg3, _, _, _, _⟩
  · exact absurd (List.length_eq_zero_iff.1 h0) hne
  have hg := (Array.getElem?_eq_some_iff.1 hg3).1
  refine ⟨g, 0, cv, rfl, fun W hW i x hx => ?_⟩
  obtain ⟨hp, he⟩ := h.each x (List.mem_of_getElem? hx)
  obtain ⟨A1, k1, e1, hk1, hv1⟩ := in_view hp
  obtain ⟨A2, k2, e2, hk2, hv2⟩ := in_view he
  have hi : i < xs.length := (List.getElem?_eq_some_iff.1 hx).1
  have hc : ∀ j, j < 3 → w.cell? ⟨g, i * 3 + j, none⟩ = (ptC x)[j]? := fun j hj => by rw [hrow.cellAt (i * 3 + j) (by omega), pts_flat xs i x hx j hj]
  have h0 := hc 0 (by omega)
  have h1 := hc 1 (by omega)
  have h2 := hc 2 (by omega)
  refine ⟨A1, k1, A2, k2, ?_, ?_, ?_, hv1.more hW, hk1⟩
  · rw [hW.cell hg, Nat.zero_add]; rw [Nat.add_zero] at h0; rw [h0]; show some x.v1 = _; rw [e1]
  · rw [hW.cell hg, Nat.zero_add, h1]; show some x.v2 = _; rw [e2]
  · rw [hW.cell hg, Nat.zero_add, h2]; rfl
theorem str_slice {W : World} {B : Nat} {v : Value} {l : List (Int × ByteArray)} (h : StR W B v l) : ∃ A c, v = .slice A l.length c := by
  rcases h.2 with ⟨rfl, h0⟩ | ⟨g, cap, cur, rfl, _⟩
  · exact ⟨none, 0, by rw [h0]⟩
  · exact ⟨_, _, rfl⟩
theorem pts_slice {B : Nat} {v : Value} {xs : List PathV} {w : World} (h : PtsAt B v xs w) : ∃ A c, v = .slice A xs.length c := by
  rcases h.row.2 with ⟨rfl, h0⟩ | ⟨g, cap, cur, rfl, _⟩
  · exact ⟨none, 0, by rw [h0]⟩
  · exact ⟨_, _, rfl⟩
theorem Sp.last_at {P : List Int} {m : Nat} (hm : P.length = m + 1) (Es : List Int) (hd : ByteArray) : P[m]? = some (Sp.lastP ⟨P, Es, hd⟩) := by
  unfold Sp.lastP
  rw [List.getLastD_eq_getLast?, List.getLast?_eq_getElem?, hm, Nat.add_sub_cancel, List.getElem?_eq_getElem (by rw [hm]; omega)]
  rfl
theorem pv_in {w : World} {g o : Nat} {l : List Sp.Port} (h : PV w (some ⟨g, o, none⟩) l) {i : Nat} {x : Sp.Port} (hx : l[i]? = some x) : w.cell? ⟨g, o + i * 4 + 2, none⟩ = some (.bool x.inn) := by
  obtain ⟨g2, o2, e, _, _, _, h3, _⟩ := h.at hx
  injection e with e
  injection e with e1 e2
  subst e1; subst e2
  exact h3
theorem law_whole (n : Sp.Net) (A1 A2 A3 : Option Addr) (c1 c2 c3 : Nat) (p : Int) (h : ByteArray) (hops k cut : Int) (w : World) (hG : Gn w) (hnr : NetR w n [.int .i64 n.bits, .slice A1 n.ports.length c1, .slice A2 n.tables.length c2, .slice A3 n.guards.length c3]) (hsz : Sp.Szd n) (hh : h.size ≤ 9223372036854775807) :
    Calls Tryz.prog 3 #[.agg #[.int .i64 n.bits, .slice A1 n.ports.length c1, .slice A2 n.tables.length c2, .slice A3 n.guards.length c3], .agg #[.int .i64 p, .string h], .int .i64 hops, .int .i64 k, .int .i64 cut] w fun e w' => e = .returned (.bool true) ∧ Below w.heap.size w w' := by
  obtain ⟨N, hN⟩ : ∃ N, w.heap.size = N := ⟨_, rfl⟩
  obtain ⟨W2, hW2⟩ : ∃ W2, (w.alloc (.cells #[.int .i64 n.bits, .slice A1 n.ports.length c1, .slice A2 n.tables.length c2, .slice A3 n.guards.length c3] 26)).alloc (.cells #[.int .i64 p, .string h] 28) = W2 := ⟨_, rfl⟩
  have hb2 : Below N w W2 := by rw [← hW2, ← hN]; exact ((Below.refl _ _).alloc (Nat.le_refl _) _).alloc (by simp) _
  have hs2 : W2.heap.size = N + 2 := by rw [← hW2, ← hN]; simp
  have hk1 : Blk W2 N 26 #[.int .i64 n.bits, .slice A1 n.ports.length c1, .slice A2 n.tables.length c2, .slice A3 n.guards.length c3] := by rw [← hW2, ← hN]; exact (Blk.new w _ _).alloc _
  have hk2 : Blk W2 (N + 1) 28 #[.int .i64 p, .string h] := by rw [← hW2]; exact blk_at (by rw [World.size_alloc]; omega)
  have HFOL := Lib.hid (fun (W : World) (hb : Below N w W) (Ap : Option Addr) (kp : Nat) (l : List Int) (hv : IV W Ap l) (hlk : l.length ≤ kp) (hl : l.length ≤ 1000000) =>
    step_Follow n A1 A2 A3 c1 c2 c3 p h Ap kp l W (hG.below (by rw [hN]; exact hb)) (hnr.more (by rw [hN]; exact hb)) hsz hh hv hlk (by omega))
  have HNXT := Lib.hid (fun (W : World) (hb : Below N w W) (p' : Int) (h' : ByteArray) (hh' : h'.size ≤ 9223372036854775807) =>
    step_Next n A1 A2 A3 c1 c2 c3 p' h' W (hG.below (by rw [hN]; exact hb)) (hnr.more (by rw [hN]; exact hb)) hsz hh')
  have HKN := Lib.hid (fun (W : World) (hb : Below N w W) => law10_known W (hG.below (by rw [hN]; exact hb)))
  obtain ⟨kn, hkn⟩ : ∃ kn : Nat, Sp.withinV k 40 = kn := ⟨(Sp.withinV k 40).toNat, by unfold Sp.withinV; split <;> (try split) <;> omega⟩
  have hkn40 : kn ≤ 40 := by unfold Sp.withinV at hkn; split at hkn <;> (try split at hkn) <;> omega
  have hkn0 : kn = 0 → k ≤ 0 := by unfold Sp.withinV at hkn; split at hkn <;> (try split at hkn) <;> omega
  have HSO := Lib.hid (fun (W : World) (hb : Below N w W) => law10_some n A1 A2 A3 c1 c2 c3 p h hops kn W (hG.below (by rw [hN]; exact hb)) (hnr.more (by rw [hN]; exact hb)) hsz hh (by omega))
  obtain ⟨b1, d1, b2, d2, b3, d3, hcse, hpv, _⟩ := hnr
  obtain ⟨rfl, rfl⟩ : A1 = b1 ∧ c1 = d1 := by injection hcse with _ hc; injection hc with hc _; injection hc with q1 q2 q3; exact ⟨q1, q3⟩
  have HPV := Lib.hid hpv
  obtain ⟨np, hnp⟩ : ∃ np, n.ports.length = np := ⟨_, rfl⟩
  obtain ⟨nt, hnt⟩ : ∃ nt, n.tables.length = nt := ⟨_, rfl⟩
  obtain ⟨ng, hng⟩ : ∃ ng, n.guards.length = ng := ⟨_, rfl⟩
  obtain ⟨b, hbi⟩ : ∃ b, n.bits = b := ⟨_, rfl⟩
  rw [hbi, hnp, hnt, hng] at hk1 HSO hW2 HFOL HNXT ⊢
  have HN := Lib.hid hN
  have HB2 := Lib.hid hb2
  have HS2 := Lib.hid hs2
  have HK1 := Lib.hid hk1
  have HK2 := Lib.hid hk2
  have HKN40 := Lib.hid hkn40
  have HKN0 := Lib.hid hkn0
  have HKNE := Lib.hid hkn
  have HNPL := Lib.hid hnp
  have HH := Lib.hid hh
  have HPW := Lib.hid (show ∀ W, Below N w W → Below w.heap.size w W from fun W hb => by rw [hN]; exact hb)
  clear hG hsz hh hb2 hs2 hk1 hk2 hbi hnp hnt hng hkn40 hkn0 hkn hcse hpv
  go_enter Tryz.func3, Tryz.ntmps3
  go_wp2_with fail
  refine wp_region_K 6 (fun w' => w'.cell? ⟨N, 0, none⟩ = some (.int .i64 b) ∧ w'.cell? ⟨N, 1, none⟩ = some (.slice A1 np c1) ∧ w'.cell? ⟨N, 2, none⟩ = some (.slice A2 nt c2) ∧ w'.cell? ⟨N, 3, none⟩ = some (.slice A3 ng c3) ∧ w'.cell? ⟨N + 1, 0, none⟩ = some (.int .i64 p) ∧ w'.cell? ⟨N + 1, 1, none⟩ = some (.string h)) (by kernel_rfl) (fun hcl => ?_)
  have hS : (fun w' : World => w'.cell? ⟨N, 0, none⟩ = some (.int .i64 b) ∧ w'.cell? ⟨N, 1, none⟩ = some (.slice A1 np c1) ∧ w'.cell? ⟨N, 2, none⟩ = some (.slice A2 nt c2) ∧ w'.cell? ⟨N, 3, none⟩ = some (.slice A3 ng c3) ∧ w'.cell? ⟨N + 1, 0, none⟩ = some (.int .i64 p) ∧ w'.cell? ⟨N + 1, 1, none⟩ = some (.string h)) W2.drew := ⟨HK1.out.cell 0, HK1.out.cell 1, HK1.out.cell 2, HK1.out.cell 3, HK2.out.cell 0, HK2.out.cell 1⟩
  refine wpAnyK_take (i := 0) (v := ?_) hcl hS rfl (by kernel_rfl) (fun _ _ _ h => h) (by rfl) ?_ (fun hcl2 => ?_)
  rotate_left
  · (intro w hSw; (try dsimp only at hSw); first | (go_simp; done) | (go_simp; with_reducible rfl))
  (try simp only [List.getElem_toArray, List.getElem_cons_succ, List.getElem_cons_zero])
  (try simp only [Act.put, List.setIfInBounds_toArray, List.set_cons_zero, List.set_cons_succ])
  clear hcl; have hcl := hcl2; clear hcl2
  refine wpAnyK_take (i := 1) (v := ?_) hcl hS rfl (by kernel_rfl) (fun _ _ _ h => h) (by rfl) ?_ (fun hcl2 => ?_)
  rotate_left
  · (intro w hSw; (try dsimp only at hSw); first | (go_simp; done) | (go_simp; with_reducible rfl))
  (try simp only [List.getElem_toArray, List.getElem_cons_succ, List.getElem_cons_zero])
  (try simp only [Act.put, List.setIfInBounds_toArray, List.set_cons_zero, List.set_cons_succ])
  clear hcl; have hcl := hcl2; clear hcl2
  refine wpAnyK_take (i := 2) (v := ?_) hcl hS rfl (by kernel_rfl) (fun _ _ _ h => h) (by rfl) ?_ (fun hcl2 => ?_)
  rotate_left
  · (intro w hSw; (try dsimp only at hSw); first | (go_simp; done) | (go_simp; with_reducible rfl))
  (try simp only [List.getElem_toArray, List.getElem_cons_succ, List.getElem_cons_zero])
  (try simp only [Act.put, List.setIfInBounds_toArray, List.set_cons_zero, List.set_cons_succ])
  clear hcl; have hcl := hcl2; clear hcl2
  refine wpAnyK_take (i := 3) (v := ?_) hcl hS rfl (by kernel_rfl) (fun _ _ _ h => h) (by rfl) ?_ (fun hcl2 => ?_)
  rotate_left
  · (intro w hSw; (try dsimp only at hSw); first | (go_simp; done) | (go_simp; with_reducible rfl))
  (try simp only [List.getElem_toArray, List.getElem_cons_succ, List.getElem_cons_zero])
  (try simp only [Act.put, List.setIfInBounds_toArray, List.set_cons_zero, List.set_cons_succ])
  clear hcl; have hcl := hcl2; clear hcl2
  refine wpAnyK_one (i := 4) hcl (by kernel_rfl) rfl (by rfl) (fun K hK => ?_)
  go_simp
  refine (law10_within k 40 _).mono ?_
  rintro r w' ⟨rfl, rfl⟩
  rw [HKNE.out]
  refine hK.out _ _ (Or.inr hS) (fun hcl2 => ?_)
  clear hK K hcl
  have hcl := hcl2
  clear hcl2
  refine wpAnyK_one (i := 5) hcl (by kernel_rfl) rfl (by rfl) (fun K hK => ?_)
  go_simp
  refine (HSO.out W2.drew HB2.out.drew).mono ?_
  rintro r W3 ⟨v, xs, rfl, hpts, hmap, hb3⟩
  have hb23 : Below W2.heap.size W2 W3 := ((Below.refl W2.heap.size W2).drew).trans hb3
  have HPTS := Lib.hid hpts
  have HMAP := Lib.hid hmap
  have HB3 := Lib.hid (HB2.out.trans (hb23.mono (by have := HS2.out; omega)))
  have HS3 := Lib.hid (Nat.le_trans (show N + 2 ≤ W2.heap.size by have := HS2.out; omega) hb23.size)
  replace HK1 := Lib.hid (HK1.out.below hb23 HK1.out.lt)
  replace HK2 := Lib.hid (HK2.out.below hb23 HK2.out.lt)
  clear hS hpts hmap hb3 hb23
  refine hK.out _ _ (Or.inr ⟨HK1.out.cell 0, HK1.out.cell 1, HK1.out.cell 2, HK1.out.cell 3, HK2.out.cell 0, HK2.out.cell 1⟩) (fun hcl2 => ?_)
  clear hK K hcl
  have hcl := hcl2
  clear hcl2
  refine wpAnyK_one (i := 6) hcl (by kernel_rfl) rfl (by rfl) (fun K hK => ?_)
  go_simp
  refine hK.out _ _ (Or.inl (by kernel_rfl)) (fun hcl2 => ?_)
  clear hK K hcl hcl2
  refine wpAnyK_done (by kernel_rfl) ?_ _
  (try simp only [Act.put, List.setIfInBounds_toArray, List.set_cons_zero, List.set_cons_succ])
  obtain ⟨E, hE⟩ : ∃ E, Sp.checkE n p h = E := ⟨_, rfl⟩
  have hn3 := HNXT.out W3 HB3.out p h HH.out
  unfold NextEnd at hn3
  rw [hE] at hn3
  have HN3 := Lib.hid hn3
  clear hn3
  have x0 : W3.cell? ⟨N, 0, none⟩ = some (.int .i64 b) := HK1.out.cell 0
  have x1 : W3.cell? ⟨N, 1, none⟩ = some (.slice A1 np c1) := HK1.out.cell 1
  have x2 : W3.cell? ⟨N, 2, none⟩ = some (.slice A2 nt c2) := HK1.out.cell 2
  have x3 : W3.cell? ⟨N, 3, none⟩ = some (.slice A3 ng c3) := HK1.out.cell 3
  have x4 : W3.cell? ⟨N + 1, 0, none⟩ = some (.int .i64 p) := HK2.out.cell 0
  have x5 : W3.cell? ⟨N + 1, 1, none⟩ = some (.string h) := HK2.out.cell 1
  by_cases hc : Sp.checkE n p h = 0 ∧ 0 ≤ hops ∧ hops ≤ 64
  rotate_left
  · have hx0 : xs = [] := by
      have := HMAP.out
      unfold Sp.pathsV at this
      rw [if_neg hc, List.take_nil] at this
      exact List.map_eq_nil_iff.1 this
    obtain ⟨Av, cv, rfl⟩ := pts_slice HPTS.out
    subst hx0
    rw [List.length_nil]
    have hor : E ≠ 0 ∨ (E = 0 ∧ hops < 0) ∨ (E = 0 ∧ ¬ hops < 0 ∧ 64 < hops) := by
      rw [hE] at hc
      by_cases h1 : E = 0
      · by_cases h2 : hops < 0
        · exact .inr (.inl ⟨h1, h2⟩)
        · exact .inr (.inr ⟨h1, h2, by omega⟩)
      · exact .inl h1
    clear hc hE
    rcases hor with h1 | ⟨h1, h2⟩ | ⟨h1, h2, h3⟩
    · have t1 : (E != 0) = true := bne_iff_ne.2 h1
      clear h1
      go_wp2_with (first
          | (go_at_call 10; refine (law10_num _ _).mono ?_; rintro e _ ⟨rfl, rfl⟩)
          | (go_at_call 9; refine HN3.out.mono ?_; rintro e W4 ⟨vs, rfl, hvs, hb4⟩; have HB4 := Lib.hid (HB3.out.trans (hb4.mono (by have := HB3.out.size; have := HN.out; omega))); have HB34 := Lib.hid hb4; clear hvs hb4)
          | (go_at_call 11; refine (HKN.out _ HB4.out).mono ?_; rintro e W8 ⟨rfl, hb8⟩))
      go_ret
      exact ⟨rfl, by rw [HN.out]; exact HB4.out.trans (hb8.mono (by have := HB4.out.size; have := HN.out; omega))⟩
    · have t1 : (E != 0) = false := bne_eq_false_iff_eq.2 h1
      have t2 : decide (hops < 0) = true := decide_eq_true h2
      clear h1 h2
      go_wp2_with (first
          | (go_at_call 10; refine (law10_num _ _).mono ?_; rintro e _ ⟨rfl, rfl⟩)
          | (go_at_call 9; refine HN3.out.mono ?_; rintro e W4 ⟨vs, rfl, hvs, hb4⟩; have HB4 := Lib.hid (HB3.out.trans (hb4.mono (by have := HB3.out.size; have := HN.out; omega))); have HB34 := Lib.hid hb4; clear hvs hb4)
          | (go_at_call 11; refine (HKN.out _ HB4.out).mono ?_; rintro e W8 ⟨rfl, hb8⟩))
      go_ret
      exact ⟨rfl, by rw [HN.out]; exact HB4.out.trans (hb8.mono (by have := HB4.out.size; have := HN.out; omega))⟩
    · have t1 : (E != 0) = false := bne_eq_false_iff_eq.2 h1
      have t2 : decide (hops < 0) = false := decide_eq_false h2
      have t3 : decide (hops > 64) = true := decide_eq_true h3
      clear h1 h2 h3
      go_wp2_with (first
          | (go_at_call 10; refine (law10_num _ _).mono ?_; rintro e _ ⟨rfl, rfl⟩)
          | (go_at_call 9; refine HN3.out.mono ?_; rintro e W4 ⟨vs, rfl, hvs, hb4⟩; have HB4 := Lib.hid (HB3.out.trans (hb4.mono (by have := HB3.out.size; have := HN.out; omega))); have HB34 := Lib.hid hb4; clear hvs hb4)
          | (go_at_call 11; refine (HKN.out _ HB4.out).mono ?_; rintro e W8 ⟨rfl, hb8⟩))
      go_ret
      exact ⟨rfl, by rw [HN.out]; exact HB4.out.trans (hb8.mono (by have := HB4.out.size; have := HN.out; omega))⟩
  · have t1 : (E != 0) = false := bne_eq_false_iff_eq.2 (by rw [← hE]; exact hc.1)
    have t2 : decide (hops < 0) = false := decide_eq_false (by omega)
    have t3 : decide (hops > 64) = false := decide_eq_false (by omega)
    have h64 := hc.2.2
    have hne := Sp.paths_ne hc
    obtain ⟨hnok, hsok⟩ := Sp.checkE_zero hc.1
    have hsp := hsok.port
    clear hc hE hsok
    by_cases hx0 : xs = []
    · have hk0 : k ≤ 0 := HKN0.out (by
        have := HMAP.out
        rw [hx0, List.map_nil] at this
        rcases List.take_eq_nil_iff.1 this.symm with e | e
        · exact e
        · exact absurd e hne)
      have t4 : decide (k > 0) = false := decide_eq_false (by omega)
      obtain ⟨Av, cv, rfl⟩ := pts_slice HPTS.out
      subst hx0
      rw [List.length_nil]
      clear hne hk0 hnok hsp h64
      go_wp2_with (first
          | (go_at_call 10; refine (law10_num _ _).mono ?_; rintro e _ ⟨rfl, rfl⟩)
          | (go_at_call 9; refine HN3.out.mono ?_; rintro e W4 ⟨vs, rfl, hvs, hb4⟩; have HB4 := Lib.hid (HB3.out.trans (hb4.mono (by have := HB3.out.size; have := HN.out; omega))); have HB34 := Lib.hid hb4; clear hvs hb4)
          | (go_at_call 11; refine (HKN.out _ HB4.out).mono ?_; rintro e W8 ⟨rfl, hb8⟩))
      go_loopw [15] (fun v15 wr => v15 = .int .i64 0 ∧ Below N w wr) (fun _ _ => 0)
      case atStart => exact ⟨rfl, HB4.out⟩
      case round =>
        obtain ⟨rfl, hb⟩ := hrel
        have HB8 := Lib.hid hb
        clear hb
        go_wp2_with (go_at_call 11; refine (HKN.out _ HB8.out).mono ?_; rintro e W8 ⟨rfl, hb8⟩)
        go_ret
        exact ⟨rfl, by rw [HN.out]; exact HB8.out.trans (hb8.mono (by have := HB8.out.size; have := HN.out; omega))⟩
    · obtain ⟨g, o, cv, rfl, hat⟩ := pts_at HPTS.out hx0
      obtain ⟨s, rfl⟩ : ∃ s : Nat, p = s := ⟨p.toNat, by omega⟩
      obtain ⟨pt, hpt⟩ : ∃ pt, n.ports[s]? = some pt := ⟨_, List.getElem?_eq_getElem (by omega)⟩
      have hpv := HPV.out
      obtain ⟨gq, oq, rfl, _⟩ := hpv.at hpt
      have HPV2 := Lib.hid hpv
      have HAT := Lib.hid hat
      obtain ⟨L, hL⟩ : ∃ L, xs.length = L := ⟨_, rfl⟩
      have hL40 : L ≤ 40 := by
        have := congrArg List.length HMAP.out
        rw [List.length_map, List.length_take, hL] at this
        have := HKN40.out
        omega
      have hL0 : L ≠ 0 := fun e => hx0 (List.length_eq_zero_iff.1 (by rw [hL, e]))
      have t4 : ((L : Int) == 0) = false := by rw [beq_eq_false_iff_ne]; omega
      rw [hL]
      have HL := Lib.hid hL
      have HL40 := Lib.hid hL40
      have H64 := Lib.hid h64
      have HNOK := Lib.hid hnok
      have HAP := Lib.hid (Sp.paths_apart n (s : Int) h hops)
      have hPVB := Lib.hid (show ∀ W, Below N w W → Below w.heap.size w W from HPW.out)
      clear hpv hpt hsp hnok hne h64 hx0 hat hL hL0 hL40 HPTS HPV
      go_wp2_with (first
          | (go_at_call 10; refine (law10_num _ _).mono ?_; rintro e _ ⟨rfl, rfl⟩)
          | (go_at_call 9; refine HN3.out.mono ?_; rintro e W4 ⟨vs, rfl, hvs, hb4⟩; have HB4 := Lib.hid (HB3.out.trans (hb4.mono (by have := HB3.out.size; have := HN.out; omega))); have HB34 := Lib.hid hb4; clear hvs hb4)
          | (go_at_call 11; refine (HKN.out _ HB4.out).mono ?_; rintro e W8 ⟨rfl, hb8⟩))
      go_loopw [15, 16, 17, 18, 19, 20, 21, 22, 23, 24] (fun v15 v16 v17 v18 v19 v20 v21 v22 v23 v24 wr => ∃ i : Nat, v15 = .int .i64 (i : Int) ∧ i ≤ L ∧ Below W3.heap.size W3 wr) (fun v15 _ _ _ _ _ _ _ _ _ _ => L - (intOf v15).toNat)
      case atStart => exact ⟨0, rfl, Nat.zero_le _, HB34.out⟩
      case round =>
        obtain ⟨i, rfl, hi, hb⟩ := hrel
        have HB := Lib.hid hb
        have j0 : (0 : Int) ≤ (i : Int) := by omega
        by_cases hlt : i < L
        · have p1 : decide ((i : Int) < (L : Int)) = true := decide_eq_true (by omega)
          have p2 : decide (i < L) = true := decide_eq_true hlt
          have p3 : (i : Int) < (L : Int) := by omega
          have z0 : IntKind.i64.wrap ((i : Int) + 1) = (i : Int) + 1 := by have := HL40.out; rw [IntKind.wrap_i64]; omega
          obtain ⟨⟨v1, v2, ⟨P, Es, hd⟩⟩, hx⟩ : ∃ x, xs[i]? = some x := ⟨_, List.getElem?_eq_getElem (by rw [HL.out]; exact hlt)⟩
          have hpi : ((Sp.pathsV n (s : Int) h hops).take kn)[i]? = some ⟨P, Es, hd⟩ := by rw [← HMAP.out, List.getElem?_map, hx]; rfl
          have hq : (⟨P, Es, hd⟩ : Sp.Path) ∈ Sp.pathsV n (s : Int) h hops := List.mem_of_mem_take (List.mem_of_getElem? hpi)
          obtain ⟨B1, k1, B2, k2, a0, a1, a2, hiv, hk1c⟩ := HAT.out wr hb i _ hx
          simp only [] at a0 a1 a2 hiv hk1c
          have hlen := (Sp.paths_whole hq).ports_len H64.out
          have hents := (Sp.paths_whole hq).ok.ents
          simp only [] at hlen hents
          obtain ⟨m, hm⟩ : ∃ m, P.length = m + 1 := ⟨P.length - 1, by omega⟩
          obtain ⟨e, he⟩ : ∃ e, Es.length = e := ⟨_, rfl⟩
          have hfl := Sp.whole_followed hq
          obtain ⟨hce, hl0, hl1, hend⟩ := Sp.whole_end hq
          simp only [] at hfl hce hend
          have hPm := Sp.last_at hm Es hd
          obtain ⟨y, hy⟩ : ∃ y : Nat, Sp.lastP ⟨P, Es, hd⟩ = (y : Int) := ⟨(Sp.lastP ⟨P, Es, hd⟩).toNat, by omega⟩
          rw [hy] at hce hl0 hl1 hend hPm
          rw [Int.toNat_natCast] at hend
          rw [he] at hfl hend hents a1
          rw [hm] at a0 hlen hk1c
          obtain ⟨ga, oa, rfl, hga, c0⟩ := hiv.at hPm
          obtain ⟨pty, hpty⟩ : ∃ q, n.ports[y]? = some q := ⟨_, List.getElem?_eq_getElem (by omega)⟩
          have hhd : hd.size ≤ 9223372036854775807 := by have h1 := (Sp.checkE_zero hce).2.bits; have h2 := HNOK.out.bits; omega
          obtain ⟨Nb, hNb⟩ : ∃ Nb, wr.heap.size = Nb := ⟨_, rfl⟩
          obtain ⟨W5, hW5⟩ : ∃ W5, wr.alloc (.cells #[.slice (some ⟨ga, oa, none⟩) (m + 1) k1, .slice B2 e k2, .string hd] 40) = W5 := ⟨_, rfl⟩
          have hb0 : Below wr.heap.size wr W5 := by rw [← hW5]; exact (Below.refl wr.heap.size wr).alloc (Nat.le_refl _) _
          have hb5 : Below W3.heap.size W3 W5 := hb.trans (hb0.mono hb.size)
          have hkb : Blk W5 Nb 40 #[.slice (some ⟨ga, oa, none⟩) (m + 1) k1, .slice B2 e k2, .string hd] := by rw [← hW5, ← hNb]; exact Blk.new wr _ _
          have HBN5 := Lib.hid (HB3.out.trans (hb5.mono (by have := HB3.out.size; have := HN.out; omega)))
          have hcells : ∀ W, Below W5.heap.size W5 W → W.cell? ⟨N, 0, none⟩ = some (.int .i64 b) ∧ W.cell? ⟨N, 1, none⟩ = some (.slice (some ⟨gq, oq, none⟩) np c1) ∧ W.cell? ⟨N, 2, none⟩ = some (.slice A2 nt c2) ∧ W.cell? ⟨N, 3, none⟩ = some (.slice A3 ng c3) ∧ W.cell? ⟨N + 1, 0, none⟩ = some (.int .i64 (s : Int)) ∧ W.cell? ⟨N + 1, 1, none⟩ = some (.string h) ∧ W.cell? ⟨Nb, 0, none⟩ = some (.slice (some ⟨ga, oa, none⟩) (m + 1) k1) ∧ W.cell? ⟨Nb, 1, none⟩ = some (.slice B2 e k2) ∧ W.cell? ⟨Nb, 2, none⟩ = some (.string hd) := fun W hw => ⟨(HK1.out.below (hb5.trans (hw.mono hb5.size)) (by have := HS3.out; omega)).cell 0, (HK1.out.below (hb5.trans (hw.mono hb5.size)) (by have := HS3.out; omega)).cell 1, (HK1.out.below (hb5.trans (hw.mono hb5.size)) (by have := HS3.out; omega)).cell 2, (HK1.out.below (hb5.trans (hw.mono hb5.size)) (by have := HS3.out; omega)).cell 3, (HK2.out.below (hb5.trans (hw.mono hb5.size)) (by have := HS3.out; omega)).cell 0, (HK2.out.below (hb5.trans (hw.mono hb5.size)) (by have := HS3.out; omega)).cell 1, (hkb.below hw hkb.lt).cell 0, (hkb.below hw hkb.lt).cell 1, (hkb.below hw hkb.lt).cell 2⟩
          have HCS := Lib.hid hcells
          have hiv5 := hiv.more hb0
          have hf1 := HFOL.out W5 HBN5.out (some ⟨ga, oa, none⟩) k1 P hiv5 (by rw [hm]; exact hk1c) (by rw [hm]; omega)
          unfold FollowEnd at hf1
          rw [hfl, hm] at hf1
          have HF1 := Lib.hid hf1
          -- a beginning of it
          obtain ⟨j, hj⟩ : ∃ j : Nat, Sp.withinV cut (m : Int) = j := ⟨(Sp.withinV cut m).toNat, by unfold Sp.withinV; split <;> (try split) <;> omega⟩
          have hjm : j ≤ m := by unfold Sp.withinV at hj; split at hj <;> (try split at hj) <;> omega
          obtain ⟨H2, c2b, hf2, hc2⟩ := Sp.begin_followed hq j
          simp only [] at hf2 hc2
          rw [he] at hc2
          have hsl : (P.take (j + 1)).length = j + 1 := by rw [List.length_take, hm]; omega
          have hivt : ∀ W, Below W5.heap.size W5 W → IV W (some ⟨ga, oa, none⟩) (P.take (j + 1)) := fun W hW i z hz => (hiv5.more hW) i z (by rw [List.getElem?_take] at hz; split at hz; exact hz; cases hz)
          have hf2' := fun (W : World) (hW : Below W5.heap.size W5 W) => HFOL.out W (HBN5.out.trans (hW.mono (by have := HBN5.out.size; have := HN.out; omega))) (some ⟨ga, oa, none⟩) k1 (P.take (j + 1)) (hivt W hW) (by rw [hsl]; omega) (by rw [hsl]; omega)
          unfold FollowEnd at hf2'
          simp only [hsl, hf2] at hf2'
          have HF2 := Lib.hid hf2'
          have hnx := fun (W : World) (hW : Below W5.heap.size W5 W) => HNXT.out W (HBN5.out.trans (hW.mono (by have := HBN5.out.size; have := HN.out; omega))) (y : Int) hd hhd
          unfold NextEnd at hnx
          simp only [hce] at hnx
          have HNX := Lib.hid hnx
          obtain ⟨l9, hl9⟩ : ∃ l9, (Sp.nextS n (y : Int) hd).length = l9 := ⟨_, rfl⟩
          have HL9 := Lib.hid hl9
          have hmore : l9 = 0 ∨ (l9 ≠ 0 ∧ (e : Int) = hops ∧ pty.inn = true) := by
            rcases hend with h1 | ⟨h1, r, hr, hr2⟩
            · exact .inl (by rw [← hl9, h1]; rfl)
            · rw [hpty] at hr
              obtain rfl : pty = r := by simpa using hr
              by_cases h9 : l9 = 0
              · exact .inl h9
              · exact .inr ⟨h9, h1, hr2⟩
          have HMORE := Lib.hid hmore
          have HIN := Lib.hid (fun (W : World) (hW : Below W5.heap.size W5 W) => pv_in (HPV2.out.more ((hPVB.out W5 HBN5.out).trans (hW.mono (hPVB.out W5 HBN5.out).size))) hpty)
          have HC0 := Lib.hid (fun (W : World) (hW : Below W5.heap.size W5 W) => (hW.cell (p := ⟨ga, oa + m, none⟩) (Nat.lt_of_lt_of_le hga hb0.size)).trans ((hb0.cell (p := ⟨ga, oa + m, none⟩) hga).trans c0))
          have HIV5 := Lib.hid hiv5
          have HAPI := Lib.hid (show ∀ jj, jj < i → ∀ x2 : PathV, xs[jj]? = some x2 → x2.path.ports ≠ P from fun jj hjj x2 hx2 => by
            have h1 : ((Sp.pathsV n (s : Int) h hops).take kn)[jj]? = some x2.path := by rw [← HMAP.out, List.getElem?_map, hx2]; rfl
            have h2 := List.pairwise_iff_getElem.1 (List.Pairwise.sublist (List.take_sublist kn _) HAP.out)
            obtain ⟨l1, e1⟩ := List.getElem?_eq_some_iff.1 h1
            obtain ⟨l2, e2⟩ := List.getElem?_eq_some_iff.1 hpi
            have h3 := h2 jj i l1 l2 hjj
            rw [e1, e2] at h3
            exact h3)
          obtain ⟨q0, q1, q2, q3, q4, q5, r0, r1, r2⟩ := HCS.out W5 (Below.refl _ _)
          have HPM := Lib.hid hm
          have HLEN := Lib.hid hlen
          have m0 : ((m : Int) + 1 == 0) = false := by rw [beq_eq_false_iff_ne]; omega
          have m1 : decide ((e : Int) > hops) = false := decide_eq_false (by omega)
          have HB5 := Lib.hid hb5
          have HJ := Lib.hid hj
          have HJM := Lib.hid hjm
          have HCUT := Lib.hid hc2
          have HL1 := Lib.hid hl1
          have HKC := Lib.hid hk1c
          clear hi hb hlt hx hpi hq hiv hlen hents hm he hfl hce hl0 hl1 hend hPm hy hga c0 hpty hhd hb0 hb5 hkb hcells hiv5 hf1 hj hjm hf2 hc2 hsl hivt hf2' hnx hl9 hmore hk1c
          go_wp2_with (first
            | (go_at_call 10; refine (law10_num _ _).mono ?_; rintro e _ ⟨rfl, rfl⟩)
            | (go_at_call 12; refine HF1.out.mono ?_; rintro e W6 ⟨rfl, hb6⟩; obtain ⟨q0, q1, q2, q3, q4, q5, r0, r1, r2⟩ := HCS.out W6 hb6))
          have z1 : IntKind.i64.wrap (m : Int) = (m : Int) := by have := HLEN.out; rw [IntKind.wrap_i64]; omega
          have z2 : IntKind.i64.wrap ((j : Int) + 1) = (j : Int) + 1 := by have := HLEN.out; have := HJM.out; rw [IntKind.wrap_i64]; omega
          have z2b : IntKind.i64.wrap (1 + (j : Int)) = (j : Int) + 1 := by have := HLEN.out; have := HJM.out; rw [IntKind.wrap_i64]; omega
          have hcc : j + 1 ≤ k1 := by have := HJM.out; have := HKC.out; omega
          have hcc2 : (j : Int) + 1 ≤ (k1 : Int) := by omega
          have hcc3 : (0 : Int) ≤ (j : Int) + 1 := by omega
          have z3 : ((j : Int) + 1).toNat = j + 1 := by omega
          have HB6 := Lib.hid hb6
          refine wp_region_K 18 (fun W => W.cell? ⟨N, 0, none⟩ = some (.int .i64 b) ∧ W.cell? ⟨N, 1, none⟩ = some (.slice (some ⟨gq, oq, none⟩) np c1) ∧ W.cell? ⟨N, 2, none⟩ = some (.slice A2 nt c2) ∧ W.cell? ⟨N, 3, none⟩ = some (.slice A3 ng c3) ∧ W.cell? ⟨N + 1, 0, none⟩ = some (.int .i64 (s : Int)) ∧ W.cell? ⟨N + 1, 1, none⟩ = some (.string h) ∧ W.cell? ⟨Nb, 0, none⟩ = some (.slice (some ⟨ga, oa, none⟩) (m + 1) k1) ∧ W.cell? ⟨Nb, 1, none⟩ = some (.slice B2 e k2) ∧ W.cell? ⟨Nb, 2, none⟩ = some (.string hd)) (by kernel_rfl) (fun hcl => ?_)
          have hS : (fun W : World => W.cell? ⟨N, 0, none⟩ = some (.int .i64 b) ∧ W.cell? ⟨N, 1, none⟩ = some (.slice (some ⟨gq, oq, none⟩) np c1) ∧ W.cell? ⟨N, 2, none⟩ = some (.slice A2 nt c2) ∧ W.cell? ⟨N, 3, none⟩ = some (.slice A3 ng c3) ∧ W.cell? ⟨N + 1, 0, none⟩ = some (.int .i64 (s : Int)) ∧ W.cell? ⟨N + 1, 1, none⟩ = some (.string h) ∧ W.cell? ⟨Nb, 0, none⟩ = some (.slice (some ⟨ga, oa, none⟩) (m + 1) k1) ∧ W.cell? ⟨Nb, 1, none⟩ = some (.slice B2 e k2) ∧ W.cell? ⟨Nb, 2, none⟩ = some (.string hd)) _ := HCS.out _ hb6.drew
          clear q0 q1 q2 q3 q4 q5 r0 r1 r2 hb6
          refine wpAnyK_take (i := 0) (v := ?_) hcl hS rfl (by kernel_rfl) (fun _ _ _ h => h) (by rfl) ?_ (fun hcl2 => ?_)
          rotate_left
          · (intro w hSw; (try dsimp only at hSw); first | (go_simp; done) | (go_simp; with_reducible rfl))
          (try simp only [List.getElem_toArray, List.getElem_cons_succ, List.getElem_cons_zero])
          (try simp only [Act.put, List.setIfInBounds_toArray, List.set_cons_zero, List.set_cons_succ])
          clear hcl; have hcl := hcl2; clear hcl2
          refine wpAnyK_take (i := 1) (v := ?_) hcl hS rfl (by kernel_rfl) (fun _ _ _ h => h) (by rfl) ?_ (fun hcl2 => ?_)
          rotate_left
          · (intro w hSw; (try dsimp only at hSw); first | (go_simp; done) | (go_simp; with_reducible rfl))
          (try simp only [List.getElem_toArray, List.getElem_cons_succ, List.getElem_cons_zero])
          (try simp only [Act.put, List.setIfInBounds_toArray, List.set_cons_zero, List.set_cons_succ])
          clear hcl; have hcl := hcl2; clear hcl2
          refine wpAnyK_take (i := 2) (v := ?_) hcl hS rfl (by kernel_rfl) (fun _ _ _ h => h) (by rfl) ?_ (fun hcl2 => ?_)
          rotate_left
          · (intro w hSw; (try dsimp only at hSw); first | (go_simp; done) | (go_simp; with_reducible rfl))
          (try simp only [List.getElem_toArray, List.getElem_cons_succ, List.getElem_cons_zero])
          (try simp only [Act.put, List.setIfInBounds_toArray, List.set_cons_zero, List.set_cons_succ])
          clear hcl; have hcl := hcl2; clear hcl2
          refine wpAnyK_take (i := 3) (v := ?_) hcl hS rfl (by kernel_rfl) (fun _ _ _ h => h) (by rfl) ?_ (fun hcl2 => ?_)
          rotate_left
          · (intro w hSw; (try dsimp only at hSw); first | (go_simp; done) | (go_simp; with_reducible rfl))
          (try simp only [List.getElem_toArray, List.getElem_cons_succ, List.getElem_cons_zero])
          (try simp only [Act.put, List.setIfInBounds_toArray, List.set_cons_zero, List.set_cons_succ])
          clear hcl; have hcl := hcl2; clear hcl2
          refine wpAnyK_take (i := 4) (v := ?_) hcl hS rfl (by kernel_rfl) (fun _ _ _ h => h) (by rfl) ?_ (fun hcl2 => ?_)
          rotate_left
          · (intro w hSw; (try dsimp only at hSw); first | (go_simp; done) | (go_simp; with_reducible rfl))
          (try simp only [List.getElem_toArray, List.getElem_cons_succ, List.getElem_cons_zero])
          (try simp only [Act.put, List.setIfInBounds_toArray, List.set_cons_zero, List.set_cons_succ])
          clear hcl; have hcl := hcl2; clear hcl2
          refine wpAnyK_take (i := 5) (v := ?_) hcl hS rfl (by kernel_rfl) (fun _ _ _ h => h) (by rfl) ?_ (fun hcl2 => ?_)
          rotate_left
          · (intro w hSw; (try dsimp only at hSw); first | (go_simp; done) | (go_simp; with_reducible rfl))
          (try simp only [List.getElem_toArray, List.getElem_cons_succ, List.getElem_cons_zero])
          (try simp only [Act.put, List.setIfInBounds_toArray, List.set_cons_zero, List.set_cons_succ])
          clear hcl; have hcl := hcl2; clear hcl2
          refine wpAnyK_take (i := 6) (v := ?_) hcl hS rfl (by kernel_rfl) (fun _ _ _ h => h) (by rfl) ?_ (fun hcl2 => ?_)
          rotate_left
          · (intro w hSw; (try dsimp only at hSw); first | (go_simp; done) | (go_simp; with_reducible rfl))
          (try simp only [List.getElem_toArray, List.getElem_cons_succ, List.getElem_cons_zero])
          (try simp only [Act.put, List.setIfInBounds_toArray, List.set_cons_zero, List.set_cons_succ])
          clear hcl; have hcl := hcl2; clear hcl2
          refine wpAnyK_take (i := 7) (v := ?_) hcl hS rfl (by kernel_rfl) (fun _ _ _ h => h) (by rfl) ?_ (fun hcl2 => ?_)
          rotate_left
          · (intro w hSw; (try dsimp only at hSw); first | (go_simp; done) | (go_simp; with_reducible rfl))
          (try simp only [List.getElem_toArray, List.getElem_cons_succ, List.getElem_cons_zero])
          (try simp only [Act.put, List.setIfInBounds_toArray, List.set_cons_zero, List.set_cons_succ])
          clear hcl; have hcl := hcl2; clear hcl2
          refine wpAnyK_take (i := 8) (v := ?_) hcl hS rfl (by kernel_rfl) (fun _ _ _ h => h) (by rfl) ?_ (fun hcl2 => ?_)
          rotate_left
          · (intro w hSw; (try dsimp only at hSw); first | (go_simp; done) | (go_simp; with_reducible rfl))
          (try simp only [List.getElem_toArray, List.getElem_cons_succ, List.getElem_cons_zero])
          (try simp only [Act.put, List.setIfInBounds_toArray, List.set_cons_zero, List.set_cons_succ])
          clear hcl; have hcl := hcl2; clear hcl2
          refine wpAnyK_one (i := 9) hcl (by kernel_rfl) rfl (by rfl) (fun K hK => ?_)
          go_simp
          refine (law10_within cut (m : Int) _).mono ?_
          rintro r w' ⟨rfl, rfl⟩
          rw [HJ.out]
          refine hK.out _ _ (Or.inr hS) (fun hcl2 => ?_)
          clear hK K hcl
          have hcl := hcl2
          clear hcl2
          refine wpAnyK_take (i := 10) (v := ?_) hcl hS rfl (by kernel_rfl) (fun _ _ _ h => h) (by rfl) ?_ (fun hcl2 => ?_)
          rotate_left
          · (intro w hSw; (try dsimp only at hSw); first | (go_simp; done) | (go_simp; with_reducible rfl))
          (try simp only [List.getElem_toArray, List.getElem_cons_succ, List.getElem_cons_zero])
          (try simp only [Act.put, List.setIfInBounds_toArray, List.set_cons_zero, List.set_cons_succ])
          clear hcl; have hcl := hcl2; clear hcl2
          refine wpAnyK_take (i := 11) (v := ?_) hcl hS rfl (by kernel_rfl) (fun _ _ _ h => h) (by rfl) ?_ (fun hcl2 => ?_)
          rotate_left
          · (intro w hSw; (try dsimp only at hSw); first | (go_simp; done) | (go_simp; with_reducible rfl))
          (try simp only [List.getElem_toArray, List.getElem_cons_succ, List.getElem_cons_zero])
          (try simp only [Act.put, List.setIfInBounds_toArray, List.set_cons_zero, List.set_cons_succ])
          clear hcl; have hcl := hcl2; clear hcl2
          refine wpAnyK_one (i := 12) hcl (by kernel_rfl) rfl (by rfl) (fun K hK => ?_)
          go_simp
          refine (HF2.out _ HB6.out.drew).mono ?_
          rintro r W7 ⟨rfl, hb7⟩
          have hb57 : Below W5.heap.size W5 W7 := HB6.out.drew.trans (hb7.mono HB6.out.drew.size)
          clear hS
          have hS : (fun W : World => W.cell? ⟨N, 0, none⟩ = some (.int .i64 b) ∧ W.cell? ⟨N, 1, none⟩ = some (.slice (some ⟨gq, oq, none⟩) np c1) ∧ W.cell? ⟨N, 2, none⟩ = some (.slice A2 nt c2) ∧ W.cell? ⟨N, 3, none⟩ = some (.slice A3 ng c3) ∧ W.cell? ⟨N + 1, 0, none⟩ = some (.int .i64 (s : Int)) ∧ W.cell? ⟨N + 1, 1, none⟩ = some (.string h) ∧ W.cell? ⟨Nb, 0, none⟩ = some (.slice (some ⟨ga, oa, none⟩) (m + 1) k1) ∧ W.cell? ⟨Nb, 1, none⟩ = some (.slice B2 e k2) ∧ W.cell? ⟨Nb, 2, none⟩ = some (.string hd)) W7 := HCS.out _ hb57
          refine hK.out _ _ (Or.inr hS) (fun hcl2 => ?_)
          clear hK K hcl
          have hcl := hcl2
          clear hcl2
          refine wpAnyK_take (i := 13) (v := ?_) hcl hS rfl (by kernel_rfl) (fun _ _ _ h => h) (by rfl) ?_ (fun hcl2 => ?_)
          rotate_left
          · (intro w hSw; (try dsimp only at hSw); first | (go_simp; done) | (go_simp; with_reducible rfl))
          (try simp only [List.getElem_toArray, List.getElem_cons_succ, List.getElem_cons_zero])
          (try simp only [Act.put, List.setIfInBounds_toArray, List.set_cons_zero, List.set_cons_succ])
          clear hcl; have hcl := hcl2; clear hcl2
          refine wpAnyK_take (i := 14) (v := ?_) hcl hS rfl (by kernel_rfl) (fun _ _ _ h => h) (by rfl) ?_ (fun hcl2 => ?_)
          rotate_left
          · (intro w hSw; (try dsimp only at hSw); first | (go_simp; done) | (go_simp; with_reducible rfl))
          (try simp only [List.getElem_toArray, List.getElem_cons_succ, List.getElem_cons_zero])
          (try simp only [Act.put, List.setIfInBounds_toArray, List.set_cons_zero, List.set_cons_succ])
          clear hcl; have hcl := hcl2; clear hcl2
          refine wpAnyK_take (i := 15) (v := ?_) hcl hS rfl (by kernel_rfl) (fun _ _ _ h => h) (by rfl) ?_ (fun hcl2 => ?_)
          rotate_left
          · (intro w hSw; (try dsimp only at hSw); first | (go_simp; done) | (go_simp; with_reducible rfl))
          (try simp only [List.getElem_toArray, List.getElem_cons_succ, List.getElem_cons_zero])
          (try simp only [Act.put, List.setIfInBounds_toArray, List.set_cons_zero, List.set_cons_succ])
          clear hcl; have hcl := hcl2; clear hcl2
          refine wpAnyK_take (i := 16) (v := ?_) hcl hS rfl (by kernel_rfl) (fun _ _ _ h => h) (by rfl) ?_ (fun hcl2 => ?_)
          rotate_left
          · (intro w hSw; (try dsimp only at hSw); first | (go_simp; done) | (go_simp; with_reducible rfl))
          (try simp only [List.getElem_toArray, List.getElem_cons_succ, List.getElem_cons_zero])
          (try simp only [Act.put, List.setIfInBounds_toArray, List.set_cons_zero, List.set_cons_succ])
          clear hcl; have hcl := hcl2; clear hcl2
          refine wpAnyK_take (i := 17) (v := ?_) hcl hS rfl (by kernel_rfl) (fun _ _ _ h => h) (by rfl) ?_ (fun hcl2 => ?_)
          rotate_left
          · (intro w hSw; (try dsimp only at hSw); first | (go_simp; done) | (go_simp; with_reducible rfl))
          (try simp only [List.getElem_toArray, List.getElem_cons_succ, List.getElem_cons_zero])
          (try simp only [Act.put, List.setIfInBounds_toArray, List.set_cons_zero, List.set_cons_succ])
          clear hcl; have hcl := hcl2; clear hcl2
          have HB7 := Lib.hid hb57
          clear hS hb7 hb57
          refine wpAnyK_one (i := 18) hcl (by kernel_rfl) rfl (by rfl) (fun K hK => ?_)
          go_simp
          refine hK.out _ _ (Or.inl (by kernel_rfl)) (fun hcl2 => ?_)
          clear hK K hcl hcl2
          refine wpAnyK_done (by kernel_rfl) ?_ _
          (try simp only [Act.put, List.setIfInBounds_toArray, List.set_cons_zero, List.set_cons_succ])
          obtain ⟨q0, q1, q2, q3, q4, q5, r0, r1, r2⟩ := HCS.out W7 HB7.out
          have c0 := HC0.out W7 HB7.out
          have m2 : decide (c2b > (e : Int)) = false := decide_eq_false (by have := HCUT.out; omega)
          have m3 : (0 : Int) ≤ (m : Int) := by omega
          have m4 : (m : Int) < (m : Int) + 1 := by omega
          have m5 : decide ((y : Int) < 0) = false := decide_eq_false (by omega)
          have m6 : decide ((y : Int) ≥ (np : Int)) = false := decide_eq_false (by have := HL1.out; have := HNPL.out; omega)
          have m7 : (0 : Int) ≤ (y : Int) := by omega
          have m8 : (y : Int) < (np : Int) := by have := HL1.out; have := HNPL.out; omega
          have m9 : y < np := by omega
          have hnx := HNX.out W7 HB7.out
          rcases HMORE.out with h9 | ⟨h9, h10, h11⟩
          · have n1 : ((l9 : Int) != 0) = false := bne_eq_false_iff_eq.2 (by omega)
            clear h9
            go_wp2_with (first
              | (go_at_call 10; refine (law10_num _ _).mono ?_; rintro e _ ⟨rfl, rfl⟩)
              | (go_at_call 9; refine hnx.mono ?_; rintro e W8 ⟨vs, rfl, hvs, hb8⟩; have hb58 : Below W5.heap.size W5 W8 := HB7.out.trans (hb8.mono HB7.out.size); obtain ⟨q0, q1, q2, q3, q4, q5, r0, r1, r2⟩ := HCS.out W8 hb58; have u1 := HIN.out W8 hb58; (try rw [h11] at u1); obtain ⟨Av, cw, rfl⟩ := str_slice hvs; rw [HL9.out]))
            have HB8 := Lib.hid hb58
            clear hb58 hb8 hvs u1 q0 q1 q2 q3 q4 q5 r0 r1 r2 c0 hnx
            go_loopw [24] (fun v24 wr => ∃ jj : Nat, v24 = .int .i64 (jj : Int) ∧ jj ≤ i ∧ Below W5.heap.size W5 wr) (fun v24 _ => i - (intOf v24).toNat)
            case atStart => exact ⟨0, rfl, Nat.zero_le _, HB8.out⟩
            case round =>
              obtain ⟨jj, rfl, hjj, hb9⟩ := hrel
              have HB9 := Lib.hid hb9
              have j9 : (0 : Int) ≤ (jj : Int) := by omega
              by_cases hlt2 : jj < i
              · have o1 : decide ((jj : Int) < (i : Int)) = true := decide_eq_true (by omega)
                have o1b : decide (jj < i) = true := decide_eq_true hlt2
                have o2 : decide (jj < L) = true := decide_eq_true (by omega)
                have o3 : (jj : Int) < (L : Int) := by omega
                have o4 : IntKind.i64.wrap ((jj : Int) + 1) = (jj : Int) + 1 := by have := HL40.out; rw [IntKind.wrap_i64]; omega
                have HLT2 := Lib.hid hlt2
                obtain ⟨⟨w1, w2, ⟨Pj, Ej, hdj⟩⟩, hxj⟩ : ∃ x, xs[jj]? = some x := ⟨_, List.getElem?_eq_getElem (by rw [HL.out]; omega)⟩
                have hpj : ((Sp.pathsV n (s : Int) h hops).take kn)[jj]? = some ⟨Pj, Ej, hdj⟩ := by rw [← HMAP.out, List.getElem?_map, hxj]; rfl
                have hlj9 := (Sp.paths_whole (List.mem_of_mem_take (List.mem_of_getElem? hpj))).ports_len H64.out
                obtain ⟨C1, d1', C2, d2', f0, f1, f2, hivj, hkj⟩ := HAT.out wr (HB5.out.trans (hb9.mono HB5.out.size)) jj _ hxj
                simp only [] at f0 f1 f2 hivj hkj hlj9
                have hints := law10_ints_ne C1 (some ⟨ga, oa, none⟩) d1' k1 Pj P wr.drew (hivj.more (Below.refl _ _).drew) (HIV5.out.more hb9.drew) (by omega) (HAPI.out jj hlt2 _ hxj)
                obtain ⟨lj, hlj⟩ : ∃ lj, Pj.length = lj := ⟨_, rfl⟩
                rw [HPM.out, hlj] at hints
                rw [hlj] at f0
                have r0 := (HCS.out wr hb9).2.2.2.2.2.2.1
                have H3S := Lib.hid hints
                have HF0 := Lib.hid f0
                have HR0 := Lib.hid r0
                clear hints hb9 hjj hlt2 hxj hpj hlj9 hivj hkj hlj f0 f1 f2 r0
                go_wp2_with fail
                refine wp_region_K 7 (fun W => W.cell? ⟨g, o + jj * 3, none⟩ = some (.slice C1 lj d1') ∧ W.cell? ⟨Nb, 0, none⟩ = some (.slice (some ⟨ga, oa, none⟩) (m + 1) k1)) (by kernel_rfl) (fun hcl => ?_)
                have hS : (fun W : World => W.cell? ⟨g, o + jj * 3, none⟩ = some (.slice C1 lj d1') ∧ W.cell? ⟨Nb, 0, none⟩ = some (.slice (some ⟨ga, oa, none⟩) (m + 1) k1)) wr.drew := ⟨HF0.out, HR0.out⟩
                refine wpAnyK_take (i := 0) (v := ?_) hcl hS rfl (by kernel_rfl) (fun _ _ _ h => h) (by rfl) ?_ (fun hcl2 => ?_)
                rotate_left
                · (intro w hSw; (try dsimp only at hSw); first | (go_simp; done) | (go_simp; with_reducible rfl))
                (try simp only [List.getElem_toArray, List.getElem_cons_succ, List.getElem_cons_zero])
                (try simp only [Act.put, List.setIfInBounds_toArray, List.set_cons_zero, List.set_cons_succ])
                clear hcl; have hcl := hcl2; clear hcl2
                refine wpAnyK_take (i := 1) (v := ?_) hcl hS rfl (by kernel_rfl) (fun _ _ _ h => h) (by rfl) ?_ (fun hcl2 => ?_)
                rotate_left
                · (intro w hSw; (try dsimp only at hSw); first | (go_simp; done) | (go_simp; with_reducible rfl))
                (try simp only [List.getElem_toArray, List.getElem_cons_succ, List.getElem_cons_zero])
                (try simp only [Act.put, List.setIfInBounds_toArray, List.set_cons_zero, List.set_cons_succ])
                clear hcl; have hcl := hcl2; clear hcl2
                refine wpAnyK_take (i := 2) (v := ?_) hcl hS rfl (by kernel_rfl) (fun _ _ _ h => h) (by rfl) ?_ (fun hcl2 => ?_)
                rotate_left
                · (intro w hSw; (try dsimp only at hSw); first | (go_simp; done) | (go_simp; with_reducible rfl))
                (try simp only [List.getElem_toArray, List.getElem_cons_succ, List.getElem_cons_zero])
                (try simp only [Act.put, List.setIfInBounds_toArray, List.set_cons_zero, List.set_cons_succ])
                clear hcl; have hcl := hcl2; clear hcl2
                refine wpAnyK_take (i := 3) (v := ?_) hcl hS rfl (by kernel_rfl) (fun _ _ _ h => h) (by rfl) ?_ (fun hcl2 => ?_)
                rotate_left
                · (intro w hSw; (try dsimp only at hSw); first | (go_simp; done) | (go_simp; with_reducible rfl))
                (try simp only [List.getElem_toArray, List.getElem_cons_succ, List.getElem_cons_zero])
                (try simp only [Act.put, List.setIfInBounds_toArray, List.set_cons_zero, List.set_cons_succ])
                clear hcl; have hcl := hcl2; clear hcl2
                refine wpAnyK_take (i := 4) (v := ?_) hcl hS rfl (by kernel_rfl) (fun _ _ _ h => h) (by rfl) ?_ (fun hcl2 => ?_)
                rotate_left
                · (intro w hSw; (try dsimp only at hSw); first | (go_simp; done) | (go_simp; with_reducible rfl))
                (try simp only [List.getElem_toArray, List.getElem_cons_succ, List.getElem_cons_zero])
                (try simp only [Act.put, List.setIfInBounds_toArray, List.set_cons_zero, List.set_cons_succ])
                clear hcl; have hcl := hcl2; clear hcl2
                refine wpAnyK_take (i := 5) (v := ?_) hcl hS rfl (by kernel_rfl) (fun _ _ _ h => h) (by rfl) ?_ (fun hcl2 => ?_)
                rotate_left
                · (intro w hSw; (try dsimp only at hSw); first | (go_simp; done) | (go_simp; with_reducible rfl))
                (try simp only [List.getElem_toArray, List.getElem_cons_succ, List.getElem_cons_zero])
                (try simp only [Act.put, List.setIfInBounds_toArray, List.set_cons_zero, List.set_cons_succ])
                clear hcl; have hcl := hcl2; clear hcl2
                refine wpAnyK_take (i := 6) (v := ?_) hcl hS rfl (by kernel_rfl) (fun _ _ _ h => h) (by rfl) ?_ (fun hcl2 => ?_)
                rotate_left
                · (intro w hSw; (try dsimp only at hSw); first | (go_simp; done) | (go_simp; with_reducible rfl))
                (try simp only [List.getElem_toArray, List.getElem_cons_succ, List.getElem_cons_zero])
                (try simp only [Act.put, List.setIfInBounds_toArray, List.set_cons_zero, List.set_cons_succ])
                clear hcl; have hcl := hcl2; clear hcl2
                refine wpAnyK_one (i := 7) hcl (by kernel_rfl) rfl (by rfl) (fun K hK => ?_)
                go_simp
                refine H3S.out.mono ?_
                rintro r W10 ⟨rfl, hb10⟩
                have HB10 := Lib.hid (HB9.out.drew.trans (hb10.mono HB9.out.drew.size))
                clear hS hb10
                refine hK.out _ _ (Or.inl (by kernel_rfl)) (fun hcl2 => ?_)
                clear hK K hcl hcl2
                refine wpAnyK_done (by kernel_rfl) ?_ _
                (try simp only [Act.put, List.setIfInBounds_toArray, List.set_cons_zero, List.set_cons_succ])
                go_wp2_with fail
                go_roundw
                case rel => exact ⟨jj + 1, by rfl, HLT2.out, HB10.out⟩
                case measure => have := HLT2.out; simp [intOf]; omega
              · have o1 : decide ((jj : Int) < (i : Int)) = false := decide_eq_false (by omega)
                have o1b : decide (jj < i) = false := decide_eq_false hlt2
                have HBW := Lib.hid (HB5.out.trans (hb9.mono HB5.out.size))
                have HLT := Lib.hid p3
                clear hb9 hjj hlt2
                go_wp2_with fail
                go_roundw
                case rel => exact ⟨i + 1, by rfl, by have := HLT.out; omega, HBW.out⟩
                case measure => have := HLT.out; simp [intOf]; omega
          · have n1 : ((l9 : Int) != 0) = true := bne_iff_ne.2 (by omega)
            have n2 : ((e : Int) == hops) = true := beq_iff_eq.2 h10
            clear h10
            clear h9
            go_wp2_with (first
              | (go_at_call 10; refine (law10_num _ _).mono ?_; rintro e _ ⟨rfl, rfl⟩)
              | (go_at_call 9; refine hnx.mono ?_; rintro e W8 ⟨vs, rfl, hvs, hb8⟩; have hb58 : Below W5.heap.size W5 W8 := HB7.out.trans (hb8.mono HB7.out.size); obtain ⟨q0, q1, q2, q3, q4, q5, r0, r1, r2⟩ := HCS.out W8 hb58; have u1 := HIN.out W8 hb58; (try rw [h11] at u1); obtain ⟨Av, cw, rfl⟩ := str_slice hvs; rw [HL9.out]))
            have HB8 := Lib.hid hb58
            clear hb58 hb8 hvs u1 q0 q1 q2 q3 q4 q5 r0 r1 r2 c0 hnx
            go_loopw [24] (fun v24 wr => ∃ jj : Nat, v24 = .int .i64 (jj : Int) ∧ jj ≤ i ∧ Below W5.heap.size W5 wr) (fun v24 _ => i - (intOf v24).toNat)
            case atStart => exact ⟨0, rfl, Nat.zero_le _, HB8.out⟩
            case round =>
              obtain ⟨jj, rfl, hjj, hb9⟩ := hrel
              have HB9 := Lib.hid hb9
              have j9 : (0 : Int) ≤ (jj : Int) := by omega
              by_cases hlt2 : jj < i
              · have o1 : decide ((jj : Int) < (i : Int)) = true := decide_eq_true (by omega)
                have o1b : decide (jj < i) = true := decide_eq_true hlt2
                have o2 : decide (jj < L) = true := decide_eq_true (by omega)
                have o3 : (jj : Int) < (L : Int) := by omega
                have o4 : IntKind.i64.wrap ((jj : Int) + 1) = (jj : Int) + 1 := by have := HL40.out; rw [IntKind.wrap_i64]; omega
                have HLT2 := Lib.hid hlt2
                obtain ⟨⟨w1, w2, ⟨Pj, Ej, hdj⟩⟩, hxj⟩ : ∃ x, xs[jj]? = some x := ⟨_, List.getElem?_eq_getElem (by rw [HL.out]; omega)⟩
                have hpj : ((Sp.pathsV n (s : Int) h hops).take kn)[jj]? = some ⟨Pj, Ej, hdj⟩ := by rw [← HMAP.out, List.getElem?_map, hxj]; rfl
                have hlj9 := (Sp.paths_whole (List.mem_of_mem_take (List.mem_of_getElem? hpj))).ports_len H64.out
                obtain ⟨C1, d1', C2, d2', f0, f1, f2, hivj, hkj⟩ := HAT.out wr (HB5.out.trans (hb9.mono HB5.out.size)) jj _ hxj
                simp only [] at f0 f1 f2 hivj hkj hlj9
                have hints := law10_ints_ne C1 (some ⟨ga, oa, none⟩) d1' k1 Pj P wr.drew (hivj.more (Below.refl _ _).drew) (HIV5.out.more hb9.drew) (by omega) (HAPI.out jj hlt2 _ hxj)
                obtain ⟨lj, hlj⟩ : ∃ lj, Pj.length = lj := ⟨_, rfl⟩
                rw [HPM.out, hlj] at hints
                rw [hlj] at f0
                have r0 := (HCS.out wr hb9).2.2.2.2.2.2.1
                have H3S := Lib.hid hints
                have HF0 := Lib.hid f0
                have HR0 := Lib.hid r0
                clear hints hb9 hjj hlt2 hxj hpj hlj9 hivj hkj hlj f0 f1 f2 r0
                go_wp2_with fail
                refine wp_region_K 7 (fun W => W.cell? ⟨g, o + jj * 3, none⟩ = some (.slice C1 lj d1') ∧ W.cell? ⟨Nb, 0, none⟩ = some (.slice (some ⟨ga, oa, none⟩) (m + 1) k1)) (by kernel_rfl) (fun hcl => ?_)
                have hS : (fun W : World => W.cell? ⟨g, o + jj * 3, none⟩ = some (.slice C1 lj d1') ∧ W.cell? ⟨Nb, 0, none⟩ = some (.slice (some ⟨ga, oa, none⟩) (m + 1) k1)) wr.drew := ⟨HF0.out, HR0.out⟩
                refine wpAnyK_take (i := 0) (v := ?_) hcl hS rfl (by kernel_rfl) (fun _ _ _ h => h) (by rfl) ?_ (fun hcl2 => ?_)
                rotate_left
                · (intro w hSw; (try dsimp only at hSw); first | (go_simp; done) | (go_simp; with_reducible rfl))
                (try simp only [List.getElem_toArray, List.getElem_cons_succ, List.getElem_cons_zero])
                (try simp only [Act.put, List.setIfInBounds_toArray, List.set_cons_zero, List.set_cons_succ])
                clear hcl; have hcl := hcl2; clear hcl2
                refine wpAnyK_take (i := 1) (v := ?_) hcl hS rfl (by kernel_rfl) (fun _ _ _ h => h) (by rfl) ?_ (fun hcl2 => ?_)
                rotate_left
                · (intro w hSw; (try dsimp only at hSw); first | (go_simp; done) | (go_simp; with_reducible rfl))
                (try simp only [List.getElem_toArray, List.getElem_cons_succ, List.getElem_cons_zero])
                (try simp only [Act.put, List.setIfInBounds_toArray, List.set_cons_zero, List.set_cons_succ])
                clear hcl; have hcl := hcl2; clear hcl2
                refine wpAnyK_take (i := 2) (v := ?_) hcl hS rfl (by kernel_rfl) (fun _ _ _ h => h) (by rfl) ?_ (fun hcl2 => ?_)
                rotate_left
                · (intro w hSw; (try dsimp only at hSw); first | (go_simp; done) | (go_simp; with_reducible rfl))
                (try simp only [List.getElem_toArray, List.getElem_cons_succ, List.getElem_cons_zero])
                (try simp only [Act.put, List.setIfInBounds_toArray, List.set_cons_zero, List.set_cons_succ])
                clear hcl; have hcl := hcl2; clear hcl2
                refine wpAnyK_take (i := 3) (v := ?_) hcl hS rfl (by kernel_rfl) (fun _ _ _ h => h) (by rfl) ?_ (fun hcl2 => ?_)
                rotate_left
                · (intro w hSw; (try dsimp only at hSw); first | (go_simp; done) | (go_simp; with_reducible rfl))
                (try simp only [List.getElem_toArray, List.getElem_cons_succ, List.getElem_cons_zero])
                (try simp only [Act.put, List.setIfInBounds_toArray, List.set_cons_zero, List.set_cons_succ])
                clear hcl; have hcl := hcl2; clear hcl2
                refine wpAnyK_take (i := 4) (v := ?_) hcl hS rfl (by kernel_rfl) (fun _ _ _ h => h) (by rfl) ?_ (fun hcl2 => ?_)
                rotate_left
                · (intro w hSw; (try dsimp only at hSw); first | (go_simp; done) | (go_simp; with_reducible rfl))
                (try simp only [List.getElem_toArray, List.getElem_cons_succ, List.getElem_cons_zero])
                (try simp only [Act.put, List.setIfInBounds_toArray, List.set_cons_zero, List.set_cons_succ])
                clear hcl; have hcl := hcl2; clear hcl2
                refine wpAnyK_take (i := 5) (v := ?_) hcl hS rfl (by kernel_rfl) (fun _ _ _ h => h) (by rfl) ?_ (fun hcl2 => ?_)
                rotate_left
                · (intro w hSw; (try dsimp only at hSw); first | (go_simp; done) | (go_simp; with_reducible rfl))
                (try simp only [List.getElem_toArray, List.getElem_cons_succ, List.getElem_cons_zero])
                (try simp only [Act.put, List.setIfInBounds_toArray, List.set_cons_zero, List.set_cons_succ])
                clear hcl; have hcl := hcl2; clear hcl2
                refine wpAnyK_take (i := 6) (v := ?_) hcl hS rfl (by kernel_rfl) (fun _ _ _ h => h) (by rfl) ?_ (fun hcl2 => ?_)
                rotate_left
                · (intro w hSw; (try dsimp only at hSw); first | (go_simp; done) | (go_simp; with_reducible rfl))
                (try simp only [List.getElem_toArray, List.getElem_cons_succ, List.getElem_cons_zero])
                (try simp only [Act.put, List.setIfInBounds_toArray, List.set_cons_zero, List.set_cons_succ])
                clear hcl; have hcl := hcl2; clear hcl2
                refine wpAnyK_one (i := 7) hcl (by kernel_rfl) rfl (by rfl) (fun K hK => ?_)
                go_simp
                refine H3S.out.mono ?_
                rintro r W10 ⟨rfl, hb10⟩
                have HB10 := Lib.hid (HB9.out.drew.trans (hb10.mono HB9.out.drew.size))
                clear hS hb10
                refine hK.out _ _ (Or.inl (by kernel_rfl)) (fun hcl2 => ?_)
                clear hK K hcl hcl2
                refine wpAnyK_done (by kernel_rfl) ?_ _
                (try simp only [Act.put, List.setIfInBounds_toArray, List.set_cons_zero, List.set_cons_succ])
                go_wp2_with fail
                go_roundw
                case rel => exact ⟨jj + 1, by rfl, HLT2.out, HB10.out⟩
                case measure => have := HLT2.out; simp [intOf]; omega
              · have o1 : decide ((jj : Int) < (i : Int)) = false := decide_eq_false (by omega)
                have o1b : decide (jj < i) = false := decide_eq_false hlt2
                have HBW := Lib.hid (HB5.out.trans (hb9.mono HB5.out.size))
                have HLT := Lib.hid p3
                clear hb9 hjj hlt2
                go_wp2_with fail
                go_roundw
                case rel => exact ⟨i + 1, by rfl, by have := HLT.out; omega, HBW.out⟩
                case measure => have := HLT.out; simp [intOf]; omega
        · have p1 : decide ((i : Int) < (L : Int)) = false := decide_eq_false (by omega)
          have p2 : decide (i < L) = false := decide_eq_false hlt
          have HB8 := Lib.hid (HB3.out.trans (hb.mono (by have := HB3.out.size; have := HN.out; omega)))
          clear hb hi hlt
          go_wp2_with (go_at_call 11; refine (HKN.out _ HB8.out).mono ?_; rintro e W8 ⟨rfl, hb8⟩)
          go_ret
          exact ⟨rfl, by rw [HN.out]; exact HB8.out.trans (hb8.mono (by have := HB8.out.size; have := HN.out; omega))⟩
end Go.Proofs.YtpknablklencdaaGreatDoor
