/-
  THE WALK of the law ScanIsNew (chapter 3).
-/
import Derived.Test.YtgikgppblkpojaaDoorIf
import Derived.Deep.CutRange
import Derived.Deep.DeepCutAuto
set_option linter.unusedVariables false
set_option linter.unusedSimpArgs false
set_option maxRecDepth 100000
set_option maxHeartbeats 8000000
namespace Go.Proofs.YtgikgppblkpojaaDoor
open Go.RowKit

/-- The list that round j looks at. -/
def TT (ss : List ByteArray) (N j : Nat) : List ZTok := tks (ss.getD (j % N) ⟨#[]⟩)
theorem fam_start (w : World) (B : Nat) : Fam w B [.vals (.slice none 0 0) [], .vals (.slice none 0 0) [], .vals (.slice none 0 0) []] := by
  have h : ∀ (i : Nat) (x : It), [It.vals (.slice none 0 0) [], .vals (.slice none 0 0) [], .vals (.slice none 0 0) []][i]? = some x → x = .vals (.slice none 0 0) [] := by
    intro i x hx
    match i, hx with
    | 0, hx => injection hx with hx; exact hx.symm
    | 1, hx => injection hx with hx; exact hx.symm
    | 2, hx => injection hx with hx; exact hx.symm
    | n + 3, hx => cases hx
  refine ⟨fun i x hx => ?_, fun i j x y hx hy _ b hb => ?_⟩
  · rw [h i x hx]; exact World.ownsRow_nil _ _ _ _
  · rw [h i x hx] at hb; cases hb
theorem scan_a : Sp.scanV (⟨#[97]⟩ : ByteArray).data.toList = ([(2, [97], 1, 1), (1, [10], 1, 2)], 0, 0, 0) := by decide +kernel
theorem law_isNew (A : Option Addr) (n cap : Nat) (ss : List ByteArray) (w : World) (hG : Gs w) (hn : ss.length = n) (hnb : n ≤ 4611686018427387904) (hnc : n ≤ cap) (hv : SView w w.heap.size A ss) (hs : ∀ s ∈ ss, s.size ≤ 9223372036854775807) :
    Calls Tryd.prog 3 #[.slice A n cap] w fun e w' => e = .returned (.bool true) ∧ Below w.heap.size w w' := by
  have HHD := Lib.hid (scan_says ⟨#[97]⟩ (by decide) scan_a w hG)
  have HV := Lib.hid hv
  have HN := Lib.hid hn
  have HS := Lib.hid hs
  have HG := Lib.hid hG
  have n0 : (0 : Int) ≤ (n : Int) := by omega
  have nc : (n : Int) ≤ (cap : Int) := by omega
  have n63 : (n : Int) ≤ 4611686018427387904 := by omega
  clear hv hn hs hG
  go_enter Tryd.func3, Tryd.ntmps3
  go_upto_if 47 with (refine HHD.out.mono ?_; rintro e w1 ⟨A1, c1, rfl, hw1, hb1⟩; have HB1 := Lib.hid hb1; clear hw1 hb1)
  go_cut [0] from 45 to 49 (fun v0 wx => Below w.heap.size w wx ∧ ∃ N, v0 = .slice A N cap ∧ N ≤ 40 ∧ N ≤ n)
  case first =>
    have z1 : IntKind.i64.wrap (40 : Int) = 40 := rfl
    by_cases h40 : 40 < n
    · have q1 : decide ((n : Int) > 40) = true := decide_eq_true (by omega)
      have q2 : decide (40 < n) = true := decide_eq_true h40
      have q4 : (40 : Int) < (n : Int) := by omega
      have q3 : (40 : Int) ≤ (cap : Int) := by omega
      clear h40
      go_wp2_with fail
      go_meet
      case rel => exact ⟨HB1.out, 40, rfl, by omega, by omega⟩
    · have q1 : decide ((n : Int) > 40) = false := decide_eq_false (by omega)
      have q2 : decide (40 < n) = false := decide_eq_false h40
      have q4 : ¬ (40 : Int) < (n : Int) := by omega
      go_wp2_with fail
      go_meet
      case rel => exact ⟨HB1.out, n, rfl, by omega, by omega⟩
  case rest =>
    obtain ⟨hb2, N, rfl, hN40, hNn⟩ := hcut
    have HB2 := Lib.hid hb2
    clear hb2 nc n63 HHD HB1
    go_wp2_with fail
    have n40 : (N : Int) ≤ 40 := by omega
    have nn0 : (0 : Int) ≤ (N : Int) := by omega
    go_loopw [8, 9, 11] (fun v8 v9 v11 wr => ∃ (i : Nat) (L : List It) (l1 l2 : List Value), v11 = .int .i64 (i : Int) ∧ i ≤ 2 * N ∧ Below w.heap.size w wr ∧ Fam wr w.heap.size (.vals v8 l1 :: .vals v9 l2 :: .vals (.slice none 0 0) [] :: L) ∧ Hid (P1 (TT ss N) L l1 l2 i)) (fun _ _ v11 _ => 2 * N - (intOf v11).toNat)
    case atStart => exact ⟨0, [], [], [], rfl, Nat.zero_le _, HB2.out, fam_start _ _, Lib.hid (P1_nil _)⟩
    case round =>
      obtain ⟨i, L, l1, l2, rfl, hi, hb, hf, hp1⟩ := hrel
      have HB := Lib.hid hb
      have HF := Lib.hid hf
      have i0 : (0 : Int) ≤ (i : Int) := by omega
      by_cases hlt : i < 2 * N
      · have q1 : decide ((i : Int) < 2 * (N : Int)) = true := decide_eq_true (by omega)
        have hN0 : (0 : Int) < (N : Int) := by omega
        have hN1 : ((N : Int) == 0) = false := beq_eq_false_iff_ne.2 (by omega)
        have hrl : i % N < N := Nat.mod_lt _ (by omega)
        obtain ⟨s, hs⟩ : ∃ s, ss[i % N]? = some s := ⟨_, List.getElem?_eq_getElem (by rw [HN.out]; omega)⟩
        have hT : TT ss N i = tks s := by unfold TT; rw [List.getD_eq_getElem?_getD, hs]; rfl
        have HSC := Lib.hid (scan_new s wr (HG.out.below hb) (HS.out s (List.mem_of_getElem? hs)))
        obtain ⟨G, O, rfl, hG, c0⟩ := (HV.out.below hb (Nat.le_refl _)) _ s hs
        obtain ⟨r, hr⟩ : ∃ r, i % N = r := ⟨_, rfl⟩
        rw [hr] at hrl c0
        have y1 : (i : Int) % (N : Int) = (r : Int) := by rw [← hr]; omega
        have y2 : (i : Int).tmod (N : Int) = (r : Int) := by rw [Int.tmod_eq_emod_of_nonneg i0]; exact y1
        have r0 : (0 : Int) ≤ (r : Int) := by omega
        have r1 : (r : Int) < (N : Int) := by omega
        have HT := Lib.hid hT
        have htl := tks_len s
        clear hs hr hT hb hf
        go_wp2_with fail
        refine HSC.out.mono ?_
        rintro e w1 ⟨A2, c2, x1, x2, x3, rfl, ht1, hb1⟩
        rw [← HT.out] at ht1 htl ⊢
        obtain ⟨m, hm⟩ : ∃ m, (TT ss N i).length = m := ⟨_, rfl⟩
        rw [hm] at ht1 htl ⊢
        have m0 : (0 : Int) ≤ (m : Int) := by omega
        have m1 : (m : Int) ≤ 16385 := by omega
        have hf1 := HF.out.push hb1 (x := .one (.slice A2 m c2) (TT ss N i)) (trow_mono ht1 HB.out.size) (fun b e => (World.ownsRow.lt ht1 b e).1)
        have HF1 := Lib.hid hf1
        have HB1 := Lib.hid (HB.out.trans (hb1.mono HB.out.size))
        have HM := Lib.hid hm
        have HT1 := Lib.hid ht1
        have HL1 := Lib.hid hp1.out.2.1
        have hmk := run_mk_toks .i64 .i64 m (by omega)
        clear hf1 hm ht1 hb1 HSC HT
        go_wp2_with (at_builtin; go_loud (refine wpList_val rfl _ _ rfl w.heap.size w1 _ u8 1 l1 i HL1.out A2 m c2 rfl (HF1.out.1 0 _ rfl) rfl (by omega) HB1.out.size ?_); intro g2 c3 w2 hz2 hg2 ho2; have HZ2 := Lib.hid hz2; have HG2 := Lib.hid hg2; have HO2 := Lib.hid ho2; clear hz2 hg2 ho2)
        have hf2 : Fam w2 w.heap.size (.vals (.slice (some ⟨g2, 0, none⟩) (i + 1) c3) (l1 ++ [.slice A2 m c2]) :: .vals u9 l2 :: .vals (.slice none 0 0) [] :: (L ++ [.one (.slice A2 m c2) (TT ss N i)])) :=
          Fam.upd HF1.out (i := 0) rfl HG2.out.size (fun b hb hx => HG2.out.block b hb (fun e => hx e.symm)) HZ2.out (fun b e => by rcases HO2.out with h | h; exact Or.inl (h.trans e); exact Or.inr (by have e2 := Option.some.inj (show some g2 = some b from e); omega))
        have hb2 := HB1.out.grown HG2.out HB1.out.size (fun g e => ((HF1.out.1 0 _ rfl).lt e).1)
        have hf3 := hf2.push ((Below.refl _ _).alloc (Nat.le_refl _) (.cells (madeCells zeroCs (m * 4)) 29)) (x := .one (.slice (some ⟨w2.heap.size, 0, none⟩) m m) (List.replicate m z0)) (trow_mono (trow_made w2 m (by omega)) hb2.size) (fun b e => (World.ownsRow.lt (trow_made w2 m (by omega)) b e).1)
        have hb3 := hb2.alloc hb2.size (.cells (madeCells zeroCs (m * 4)) 29)
        have HF3 := Lib.hid hf3
        have HB3 := Lib.hid hb3
        obtain ⟨Hw, hHw⟩ : ∃ Hw, w2.heap.size = Hw := ⟨_, rfl⟩
        rw [hHw] at HF3
        clear hf2 hb2 hf3 hb3 hmk
        go_loopw [17] (fun v17 wr2 => ∃ (k : Nat) (ws : List ZTok), v17 = .int .i64 (k : Int) ∧ k ≤ m ∧ Below w.heap.size w wr2 ∧ Fam wr2 w.heap.size (.vals (.slice (some ⟨g2, 0, none⟩) (i + 1) c3) (l1 ++ [.slice A2 m c2]) :: .vals u9 l2 :: .vals (.slice none 0 0) [] :: (L ++ [.one (.slice A2 m c2) (TT ss N i)] ++ [.one (.slice (some ⟨Hw, 0, none⟩) m m) ws])) ∧ Hid (ws.length = m ∧ ∀ j, j < k → ws[j]? = (TT ss N i)[j]?)) (fun v17 _ => m - (intOf v17).toNat)
        case atStart => exact ⟨0, _, rfl, Nat.zero_le _, HB3.out, HF3.out, Lib.hid ⟨List.length_replicate, fun j hj => absurd hj (by omega)⟩⟩
        case round =>
          obtain ⟨k, ws, rfl, hk, hb4, hf4, hw4⟩ := hrel
          have HB4 := Lib.hid hb4
          have HF4 := Lib.hid hf4
          have k0 : (0 : Int) ≤ (k : Int) := by omega
          by_cases hkm : k < m
          · have p1 : decide ((k : Int) < (m : Int)) = true := decide_eq_true (by omega)
            have p2 : decide (k < m) = true := decide_eq_true hkm
            have p3 : (k : Int) < (m : Int) := by omega
            have ht1 := hf4.1 _ _ (at1 _ _ _ _ _ L)
            have ht2 := hf4.1 _ _ (at2 _ _ _ _ _ L)
            obtain ⟨ga, rfl⟩ := trow_open ht1 (by omega)
            obtain ⟨z, hz⟩ : ∃ z, (TT ss N i)[k]? = some z := ⟨_, List.getElem?_eq_getElem (by rw [HM.out]; exact hkm)⟩
            obtain ⟨y, hy⟩ : ∃ y, ws[k]? = some y := ⟨_, List.getElem?_eq_getElem (by rw [hw4.out.1]; exact hkm)⟩
            obtain ⟨a0, a1, a2, a3⟩ := trow_tok ht1 hz
            obtain ⟨b0, b1, b2, b3⟩ := trow_tok ht2 hy
            have f0 := trow_fz ht2 (k * 4)
            have f1 := trow_fz ht2 (k * 4 + 1)
            have f2 := trow_fz ht2 (k * 4 + 2)
            have f3 := trow_fz ht2 (k * 4 + 3)
            have HS4 := Lib.hid (trow_set ht2 (by omega) z (i := k))
            have HGL := Lib.hid (World.ownsRow.lt ht2 Hw rfl)
            have hnx : (ws.set k z).length = m ∧ ∀ j, j < k + 1 → (ws.set k z)[j]? = (TT ss N i)[j]? := by
              refine ⟨by rw [List.length_set]; exact hw4.out.1, fun j hj => ?_⟩
              by_cases hjk : j = k
              · subst hjk
                rw [List.getElem?_set_self (by rw [hw4.out.1]; exact hkm), hz]
              · rw [List.getElem?_set_ne (Ne.symm hjk)]
                exact hw4.out.2 j (by omega)
            have HNX := Lib.hid hnx
            obtain ⟨zk, zt, zl, zc⟩ := z
            simp only [] at a0 a1 a2 a3
            clear ht1 ht2 hz hy hnx hb4 hf4 hk
            go_wp2_with fail
            have hg4 := four_grown wr Hw (k * 4) (.int .i64 zk) (.string zt) (.int .i64 zl) (.int .i64 zc)
            have hf5 := Fam.upd HF4.out (i := L.length + 4) (at2 _ _ _ _ _ L) hg4.size (fun b hb hx => hg4.block b hb (fun e => hx (by injection e with e; rw [e]; rfl))) (y := .one (.slice (some ⟨Hw, 0, none⟩) m m) (ws.set k (zk, zt, zl, zc))) HS4.out (fun b e => Or.inl e)
            rw [set2] at hf5
            go_roundw
            case rel => exact ⟨k + 1, _, by go_num, by omega, HB4.out.grown hg4 HB4.out.size (fun g e => by injection e with e; rw [← e]; exact HGL.out.1), hf5, HNX⟩
            case measure => simp [intOf]; omega
          · have p1 : decide ((k : Int) < (m : Int)) = false := decide_eq_false (by omega)
            have p2 : decide (k < m) = false := decide_eq_false hkm
            obtain rfl : k = m := by omega
            obtain rfl : ws = TT ss N i := full_eq hw4.out.1 HM.out hw4.out.2
            have HL2 := Lib.hid hp1.out.2.2.1
            have hP2 := P1_step hp1.out A2 c2 Hw
            rw [HM.out] at hP2
            have HP2 := Lib.hid hP2
            clear hb4 hf4 hw4 hP2 hkm hk
            go_wp2_with (at_builtin; go_loud (refine wpList_val rfl _ _ rfl w.heap.size wr _ u9 1 l2 i HL2.out (some ⟨Hw, 0, none⟩) k k rfl (HF4.out.1 1 _ rfl) rfl (by omega) HB4.out.size ?_); intro g5 c5 w5 hz5 hg5 ho5; have HZ5 := Lib.hid hz5; have HG5 := Lib.hid hg5; have HO5 := Lib.hid ho5; clear hz5 hg5 ho5)
            have hf5 := Fam.upd HF4.out (i := 1) rfl HG5.out.size (fun b hb hx => HG5.out.block b hb (fun e => hx e.symm)) (y := .vals (.slice (some ⟨g5, 0, none⟩) (i + 1) c5) (l2 ++ [Value.slice (some ⟨Hw, 0, none⟩) k k])) HZ5.out (fun b e => by rcases HO5.out with h | h; exact Or.inl (h.trans e); exact Or.inr (by have e2 := Option.some.inj (show some g5 = some b from e); omega))
            have hb5 := HB4.out.grown HG5.out HB4.out.size (fun g e => ((HF4.out.1 1 _ rfl).lt e).1)
            go_roundw
            case rel => exact ⟨i + 1, _, _, _, by go_num, by omega, hb5, hf5, HP2⟩
            case measure => simp [intOf]; omega
      · have HP1 := hp1
        obtain ⟨M, hMi⟩ : ∃ M, M = i := ⟨_, rfl⟩
        subst hMi
        have hM : M = 2 * N := by omega
        have q1 : decide ((M : Int) < 2 * (N : Int)) = false := decide_eq_false (by omega)
        have HM2 := Lib.hid hM
        clear hb hf hi hlt hM
        go_wp2_with fail
        go_loopw [18] (fun v18 wr2 => ∃ i : Nat, v18 = .int .i64 (i : Int) ∧ i ≤ M ∧ Below w.heap.size w wr2 ∧ Fam wr2 w.heap.size (.vals u8 l1 :: .vals u9 l2 :: .vals (.slice none 0 0) [] :: L)) (fun v18 _ => M - (intOf v18).toNat)
        case atStart => exact ⟨0, rfl, Nat.zero_le _, HB.out, HF.out⟩
        case round =>
          obtain ⟨i, rfl, hi, hb, hf⟩ := hrel
          have HB6 := Lib.hid hb
          have HF6 := Lib.hid hf
          have i0 : (0 : Int) ≤ (i : Int) := by omega
          have hM := HM2.out
          by_cases hlt : i < M
          · have q2 : decide ((i : Int) < 2 * (N : Int)) = true := decide_eq_true (by omega)
            have q3 : (i : Int) < (M : Int) := by omega
            have hN0 : (0 : Int) < (N : Int) := by omega
            have hN1 : ((N : Int) == 0) = false := beq_eq_false_iff_ne.2 (by omega)
            have hN2 : ¬ ((N : Int) = 0) := by omega
            have hN3 : ¬ (N = 0) := by omega
            obtain ⟨r, hr⟩ : ∃ r, i % N = r := ⟨_, rfl⟩
            have hrl : r < N := by rw [← hr]; exact Nat.mod_lt _ (by omega)
            have y1 : (i : Int) % (N : Int) = (r : Int) := by rw [← hr]; omega
            have y2 : (i : Int).tmod (N : Int) = (r : Int) := by rw [Int.tmod_eq_emod_of_nonneg i0]; exact y1
            have r0 : (0 : Int) ≤ (r : Int) := by omega
            have r1 : (r : Int) < (M : Int) := by omega
            have hTT : TT ss N r = TT ss N i := by unfold TT; rw [← hr, Nat.mod_mod]
            obtain ⟨A3, c3, g3, a1, a2, a3, a4⟩ := HP1.out.2.2.2 i hlt
            obtain ⟨A4, c4, g4, b1, b2, b3, b4⟩ := HP1.out.2.2.2 r (by omega)
            rw [hTT] at b3 b4
            have htl : (TT ss N i).length ≤ 16385 := tks_len _
            obtain ⟨g8, c8, e8⟩ := vrow_form (show VRow wr w.heap.size u8 l1 from hf.1 0 _ rfl) (by rw [HP1.out.2.1]; omega)
            obtain ⟨g9, c9, e9⟩ := vrow_form (show VRow wr w.heap.size u9 l2 from hf.1 1 _ rfl) (by rw [HP1.out.2.2.1]; omega)
            rw [HP1.out.2.1] at e8
            rw [HP1.out.2.2.1] at e9
            subst e8 e9
            obtain ⟨Z, hZ⟩ : ∃ Z, TT ss N i = Z := ⟨_, rfl⟩
            rw [hZ] at a1 a2 a3 a4 b3 b4 htl
            obtain ⟨m, hm⟩ : ∃ m, Z.length = m := ⟨_, rfl⟩
            rw [hm] at a1 a2 a3 a4 b3 b4 htl
            have k1 : wr.cell? ⟨g8, i, none⟩ = some (.slice A3 m c3) := vrow_at (hf.1 0 _ rfl) a1
            have k2 : wr.cell? ⟨g9, i, none⟩ = some (.slice (some ⟨g3, 0, none⟩) m m) := vrow_at (hf.1 1 _ rfl) a3
            have k3 : wr.cell? ⟨g9, r, none⟩ = some (.slice (some ⟨g4, 0, none⟩) m m) := vrow_at (hf.1 1 _ rfl) b3
            have hl8 : g8 < wr.heap.size := ((hf.1 0 _ rfl).lt (b := g8) rfl).2
            have hl9 : g9 < wr.heap.size := ((hf.1 1 _ rfl).lt (b := g9) rfl).2
            have hS3 : wr.cell? ⟨g8, i, none⟩ = some (.slice A3 m c3) ∧ wr.cell? ⟨g9, i, none⟩ = some (.slice (some ⟨g3, 0, none⟩) m m) ∧ wr.cell? ⟨g9, r, none⟩ = some (.slice (some ⟨g4, 0, none⟩) m m) := ⟨k1, k2, k3⟩
            have hkeep : ∀ W, Below wr.drew.heap.size wr.drew W → W.cell? ⟨g8, i, none⟩ = some (.slice A3 m c3) ∧ W.cell? ⟨g9, i, none⟩ = some (.slice (some ⟨g3, 0, none⟩) m m) ∧ W.cell? ⟨g9, r, none⟩ = some (.slice (some ⟨g4, 0, none⟩) m m) := fun W hb =>
              ⟨(hb.cell (p := ⟨g8, i, none⟩) hl8).trans k1, (hb.cell (p := ⟨g9, i, none⟩) hl9).trans k2, (hb.cell (p := ⟨g9, r, none⟩) hl9).trans k3⟩
            have HK := Lib.hid hkeep
            have hdr : Below wr.heap.size wr wr.drew := (Below.refl _ _).drew
            have hfW : ∀ W, Below wr.drew.heap.size wr.drew W → Fam W w.heap.size _ := fun W hb => hf.below (w' := W) (hdr.trans (hb.mono (Nat.le_refl _)))
            have hsa1 : ∀ W, Below wr.drew.heap.size wr.drew W → Calls Tryd.prog 5 #[.slice A3 m c3, .slice (some ⟨g3, 0, none⟩) m m] W fun e w' => e = .returned (.bool true) ∧ Below W.heap.size W w' := fun W hb =>
              law3_sameAllZ A3 (some ⟨g3, 0, none⟩) c3 m m Z W hm (by omega) (trow_view ((hfW W hb).1 (2 * i + 3) _ a2)) (trow_view ((hfW W hb).1 (2 * i + 1 + 3) _ a4))
            have hsa2 : ∀ W, Below wr.drew.heap.size wr.drew W → Calls Tryd.prog 5 #[.slice (some ⟨g3, 0, none⟩) m m, .slice (some ⟨g4, 0, none⟩) m m] W fun e w' => e = .returned (.bool true) ∧ Below W.heap.size W w' := fun W hb =>
              law3_sameAllZ (some ⟨g3, 0, none⟩) (some ⟨g4, 0, none⟩) m m m Z W hm (by omega) (trow_view ((hfW W hb).1 (2 * i + 1 + 3) _ a4)) (trow_view ((hfW W hb).1 (2 * r + 1 + 3) _ b4))
            have HS1 := Lib.hid hsa1
            have HS2 := Lib.hid hsa2
            have hb0 : Below wr.drew.heap.size wr.drew wr.drew := Below.refl _ _
            have hbd := hb.drew
            have tok1 : True := trivial
            have HMI := Lib.hid (show i + 1 ≤ M by omega)
            have q4 : IntKind.i64.wrap ((i : Int) + 1) = (i : Int) + 1 := by rw [IntKind.wrap_i64]; omega
            have HMJ := Lib.hid (show M - (i + 1) < M - i by omega)
            clear a1 a2 a3 a4 b1 b2 b3 b4 k1 k2 k3 hfW hsa1 hsa2 hkeep hb hf hr hZ hm hTT htl hi hM
            go_wp2_with fail
            go_region_held3 (fun w' => w'.cell? ⟨g8, i, none⟩ = some (.slice A3 m c3) ∧ w'.cell? ⟨g9, i, none⟩ = some (.slice (some ⟨g3, 0, none⟩) m m) ∧ w'.cell? ⟨g9, r, none⟩ = some (.slice (some ⟨g4, 0, none⟩) m m))
              (first | go_keep | exact hS3 | exact ks)
              ((first
                | (have _t := tok1; go_at_call 5; refine (HS1.out _ hb0).mono ?_; clear tok1 _t; rintro e wb ⟨rfl, hbb⟩; have ks := HK.out wb hbb; have tok2 : True := trivial)
                | (have _t := tok2; go_at_call 5; refine (HS2.out _ hbb).mono ?_; clear tok2 _t; rintro e wc ⟨rfl, hbc⟩; have hbc' := hbb.trans (hbc.mono hbb.size); have ks := HK.out wc hbc')))
            go_wp2
            go_roundw
            case rel => exact ⟨i + 1, by rfl, HMI.out, hbd.trans (hbc'.mono hbd.size), HF6.out.below (hdr.trans (hbc'.mono (Nat.le_refl _)))⟩
            case measure => have := HMI.out; simp [intOf]; omega
          · have hiM : M = i := by omega
            subst hiM
            have q2 : decide ((M : Int) < 2 * (N : Int)) = false := decide_eq_false (by omega)
            clear hb hf hi hlt hM
            go_wp2_with fail
            go_loopw [19] (fun v19 wr3 => ∃ (i : Nat) (T1 : Nat → List ZTok) (L1 : List It), v19 = .int .i64 (i : Int) ∧ i ≤ M ∧ Below w.heap.size w wr3 ∧ Fam wr3 w.heap.size (.vals u8 l1 :: .vals u9 l2 :: .vals (.slice none 0 0) [] :: L1) ∧ Hid (P2 T1 (TT ss N) L1 l1 l2 M ∧ P3 T1 (TT ss N) i 0)) (fun v19 _ => M - (intOf v19).toNat)
            case atStart => exact ⟨0, _, _, rfl, Nat.zero_le _, HB6.out, HF6.out, Lib.hid ⟨P2_of HP1.out, P3_nil _⟩⟩
            case round =>
              obtain ⟨i, T1, L1, rfl, hi, hb, hf, hp3⟩ := hrel
              have HB7 := Lib.hid hb
              have HF7 := Lib.hid hf
              have i0 : (0 : Int) ≤ (i : Int) := by omega
              have hM := HM2.out
              by_cases hlt : i < M
              · have q2 : decide ((i : Int) < 2 * (N : Int)) = true := decide_eq_true (by omega)
                have q3 : (i : Int) < (M : Int) := by omega
                obtain ⟨A3, c3, g3, a1, a2, a3, a4⟩ := hp3.out.1.2.2.2 i hlt
                have htl : (TT ss N i).length ≤ 16385 := tks_len _
                obtain ⟨g8, c8, e8⟩ := vrow_form (show VRow wr w.heap.size u8 l1 from hf.1 0 _ rfl) (by rw [HP1.out.2.1]; omega)
                rw [HP1.out.2.1] at e8
                subst e8
                rw [hp3.out.2.1 i] at a1 a2
                obtain ⟨m, hm⟩ : ∃ m, (TT ss N i).length = m := ⟨_, rfl⟩
                rw [hm] at a1 a2 htl
                have HA1 := Lib.hid a1
                have HA2 := Lib.hid a2
                have HM3 := Lib.hid hm
                have HIM := Lib.hid (show i + 1 ≤ M by omega)
                have z1 : IntKind.i64.wrap (100000 * (i : Int)) = 100000 * (i : Int) := by rw [IntKind.wrap_i64]; omega
                have HI80 := Lib.hid (show (i : Int) ≤ 80 by omega)
                have HTL := Lib.hid htl
                clear hb hf hi hM a1 a2 a3 a4 hm htl
                go_wp2_with fail
                go_loopw [20] (fun v20 wr4 => ∃ (k : Nat) (T2 : Nat → List ZTok) (L2 : List It), v20 = .int .i64 (k : Int) ∧ k ≤ m ∧ Below w.heap.size w wr4 ∧ Fam wr4 w.heap.size (.vals (.slice (some ⟨g8, 0, none⟩) M c8) l1 :: .vals u9 l2 :: .vals (.slice none 0 0) [] :: L2) ∧ Hid (P2 T2 (TT ss N) L2 l1 l2 M ∧ P3 T2 (TT ss N) i k)) (fun v20 _ => m - (intOf v20).toNat)
                case atStart => exact ⟨0, _, _, rfl, Nat.zero_le _, HB7.out, HF7.out, hp3⟩
                case round =>
                  obtain ⟨k, T2, L2, rfl, hk, hb, hf, hp4⟩ := hrel
                  have HB8 := Lib.hid hb
                  have HF8 := Lib.hid hf
                  have k0 : (0 : Int) ≤ (k : Int) := by omega
                  have htl := HTL.out
                  have hi80 := HI80.out
                  obtain ⟨A4, c4, g4, b1, b2, b3, b4⟩ := hp4.out.1.2.2.2 i hlt
                  rw [hp4.out.2.1 i, HM3.out] at b1 b2
                  have k1 : wr.cell? ⟨g8, i, none⟩ = some (.slice A4 m c4) := vrow_at (hf.1 0 _ rfl) b1
                  by_cases hkm : k < m
                  · have p1 : decide ((k : Int) < (m : Int)) = true := decide_eq_true (by omega)
                    have p2 : decide (k < m) = true := decide_eq_true hkm
                    have p3 : (k : Int) < (m : Int) := by omega
                    have ht := hf.1 (2 * i + 3) _ b2
                    obtain ⟨ga, rfl⟩ := trow_open ht (by omega)
                    obtain ⟨y, hy⟩ : ∃ y, (T2 i)[k]? = some y := ⟨_, List.getElem?_eq_getElem (by rw [hp4.out.2.1 i, HM3.out]; exact hkm)⟩
                    have z1 : IntKind.i64.wrap (100000 * (i : Int)) = 100000 * (i : Int) := by rw [IntKind.wrap_i64]; omega
                    have z2 : IntKind.i64.wrap (100000 * (i : Int) + (k : Int)) = 100000 * (i : Int) + (k : Int) := by rw [IntKind.wrap_i64]; omega
                    have z3 : IntKind.i64.wrap ((k : Int) + 1) = (k : Int) + 1 := by rw [IntKind.wrap_i64]; omega
                    have hl8 : g8 < wr.heap.size := ((hf.1 0 _ rfl).lt (b := g8) rfl).2
                    have hS9 : wr.cell? ⟨g8, i, none⟩ = some (.slice (some ⟨ga, 0, none⟩) m c4) ∧ wr.cell? ⟨ga, k * 4, none⟩ = some (.int .i64 y.1) ∧ wr.cell? ⟨ga, k * 4 + 1, none⟩ = some (.string y.2.1) ∧ wr.cell? ⟨ga, k * 4 + 2, none⟩ = some (.int .i64 y.2.2.1) ∧ wr.cell? ⟨ga, k * 4 + 3, none⟩ = some (.int .i64 y.2.2.2) ∧ wr.frozen? ⟨ga, k * 4, none⟩ = false ∧ wr.frozen? ⟨ga, k * 4 + 1, none⟩ = false ∧ wr.frozen? ⟨ga, k * 4 + 2, none⟩ = false ∧ wr.frozen? ⟨ga, k * 4 + 3, none⟩ = false := ⟨k1, trow_cells ht hy⟩
                    have hdr : Below wr.heap.size wr wr.drew := (Below.refl _ _).drew
                    have hkeep : ∀ W, Below wr.drew.heap.size wr.drew W → W.cell? ⟨g8, i, none⟩ = some (.slice (some ⟨ga, 0, none⟩) m c4) ∧ W.cell? ⟨ga, k * 4, none⟩ = some (.int .i64 y.1) ∧ W.cell? ⟨ga, k * 4 + 1, none⟩ = some (.string y.2.1) ∧ W.cell? ⟨ga, k * 4 + 2, none⟩ = some (.int .i64 y.2.2.1) ∧ W.cell? ⟨ga, k * 4 + 3, none⟩ = some (.int .i64 y.2.2.2) ∧ W.frozen? ⟨ga, k * 4, none⟩ = false ∧ W.frozen? ⟨ga, k * 4 + 1, none⟩ = false ∧ W.frozen? ⟨ga, k * 4 + 2, none⟩ = false ∧ W.frozen? ⟨ga, k * 4 + 3, none⟩ = false := fun W hb =>
                      ⟨(hb.cell (p := ⟨g8, i, none⟩) hl8).trans k1, trow_cells ((hf.below (w' := W) (hdr.trans (hb.mono (Nat.le_refl _)))).1 (2 * i + 3) _ b2) hy⟩
                    have HK := Lib.hid hkeep
                    have hmk : ∀ W, Calls Tryd.prog 6 #[.int .i64 (100000 * (i : Int) + (k : Int))] W _ := fun W => law3_markA (100000 * (i : Int) + (k : Int)) W (by omega) (by omega)
                    have HMK := Lib.hid hmk
                    have hp6 : P2 (updT T2 i ((T2 i).set k (markT (100000 * (i : Int) + (k : Int))))) (TT ss N) (L2.set (2 * i) (.one (.slice (some ⟨ga, 0, none⟩) m c4) ((T2 i).set k (markT (100000 * (i : Int) + (k : Int)))))) l1 l2 M ∧ P3 (updT T2 i ((T2 i).set k (markT (100000 * (i : Int) + (k : Int))))) (TT ss N) i (k + 1) :=
                      ⟨P2_set hp4.out.1 hlt (by rw [List.length_set]) b2, P3_in hp4.out.2 (by rw [HM3.out]; exact hkm)⟩
                    have HP6 := Lib.hid hp6
                    have HB2' := Lib.hid b2
                    have HKM := Lib.hid hkm
                    have hbd := hb.drew
                    clear hb hf hk htl hi80 b1 b2 b3 b4 ht hy k1 hkeep hmk hp6 p1 p2 hkm
                    go_wp2_with fail
                    refine wp_region_K 11 (fun w' => w'.cell? ⟨g8, i, none⟩ = some (.slice (some ⟨ga, 0, none⟩) m c4) ∧ w'.cell? ⟨ga, k * 4, none⟩ = some (.int .i64 y.1) ∧ w'.cell? ⟨ga, k * 4 + 1, none⟩ = some (.string y.2.1) ∧ w'.cell? ⟨ga, k * 4 + 2, none⟩ = some (.int .i64 y.2.2.1) ∧ w'.cell? ⟨ga, k * 4 + 3, none⟩ = some (.int .i64 y.2.2.2) ∧ w'.frozen? ⟨ga, k * 4, none⟩ = false ∧ w'.frozen? ⟨ga, k * 4 + 1, none⟩ = false ∧ w'.frozen? ⟨ga, k * 4 + 2, none⟩ = false ∧ w'.frozen? ⟨ga, k * 4 + 3, none⟩ = false) (by kernel_rfl) (fun hcl => ?_)
                    have hS : (fun w' : World => w'.cell? ⟨g8, i, none⟩ = some (.slice (some ⟨ga, 0, none⟩) m c4) ∧ w'.cell? ⟨ga, k * 4, none⟩ = some (.int .i64 y.1) ∧ w'.cell? ⟨ga, k * 4 + 1, none⟩ = some (.string y.2.1) ∧ w'.cell? ⟨ga, k * 4 + 2, none⟩ = some (.int .i64 y.2.2.1) ∧ w'.cell? ⟨ga, k * 4 + 3, none⟩ = some (.int .i64 y.2.2.2) ∧ w'.frozen? ⟨ga, k * 4, none⟩ = false ∧ w'.frozen? ⟨ga, k * 4 + 1, none⟩ = false ∧ w'.frozen? ⟨ga, k * 4 + 2, none⟩ = false ∧ w'.frozen? ⟨ga, k * 4 + 3, none⟩ = false) wr.drew := hS9
                    refine wpAnyK_take (i := 0) (v := ?_) hcl hS rfl (by kernel_rfl) (fun _ _ _ h => h) (by rfl) ?_ (fun hcl2 => ?_)
                    rotate_left
                    · (intro w hSw; (try dsimp only at hSw); first | (go_simp; done) | (go_simp; with_reducible rfl))
                    (try simp only [Act.put, List.setIfInBounds_toArray, List.set_cons_zero, List.set_cons_succ])
                    clear hcl; have hcl := hcl2; clear hcl2
                    refine wpAnyK_take (i := 1) (v := ?_) hcl hS rfl (by kernel_rfl) (fun _ _ _ h => h) (by rfl) ?_ (fun hcl2 => ?_)
                    rotate_left
                    · (intro w hSw; (try dsimp only at hSw); first | (go_simp; done) | (go_simp; with_reducible rfl))
                    (try simp only [Act.put, List.setIfInBounds_toArray, List.set_cons_zero, List.set_cons_succ])
                    clear hcl; have hcl := hcl2; clear hcl2
                    refine wpAnyK_take (i := 2) (v := ?_) hcl hS rfl (by kernel_rfl) (fun _ _ _ h => h) (by rfl) ?_ (fun hcl2 => ?_)
                    rotate_left
                    · (intro w hSw; (try dsimp only at hSw); first | (go_simp; done) | (go_simp; with_reducible rfl))
                    (try simp only [Act.put, List.setIfInBounds_toArray, List.set_cons_zero, List.set_cons_succ])
                    clear hcl; have hcl := hcl2; clear hcl2
                    refine wpAnyK_take (i := 3) (v := ?_) hcl hS rfl (by kernel_rfl) (fun _ _ _ h => h) (by rfl) ?_ (fun hcl2 => ?_)
                    rotate_left
                    · (intro w hSw; (try dsimp only at hSw); first | (go_simp; done) | (go_simp; with_reducible rfl))
                    (try simp only [Act.put, List.setIfInBounds_toArray, List.set_cons_zero, List.set_cons_succ])
                    clear hcl; have hcl := hcl2; clear hcl2
                    refine wpAnyK_take (i := 4) (v := ?_) hcl hS rfl (by kernel_rfl) (fun _ _ _ h => h) (by rfl) ?_ (fun hcl2 => ?_)
                    rotate_left
                    · (intro w hSw; (try dsimp only at hSw); first | (go_simp; done) | (go_simp; with_reducible rfl))
                    (try simp only [Act.put, List.setIfInBounds_toArray, List.set_cons_zero, List.set_cons_succ])
                    clear hcl; have hcl := hcl2; clear hcl2
                    refine wpAnyK_take (i := 5) (v := ?_) hcl hS rfl (by kernel_rfl) (fun _ _ _ h => h) (by rfl) ?_ (fun hcl2 => ?_)
                    rotate_left
                    · (intro w hSw; (try dsimp only at hSw); first | (go_simp; done) | (go_simp; with_reducible rfl))
                    (try simp only [Act.put, List.setIfInBounds_toArray, List.set_cons_zero, List.set_cons_succ])
                    clear hcl; have hcl := hcl2; clear hcl2
                    refine wpAnyK_take (i := 6) (v := ?_) hcl hS rfl (by kernel_rfl) (fun _ _ _ h => h) (by rfl) ?_ (fun hcl2 => ?_)
                    rotate_left
                    · (intro w hSw; (try dsimp only at hSw); first | (go_simp; done) | (go_simp; with_reducible rfl))
                    (try simp only [Act.put, List.setIfInBounds_toArray, List.set_cons_zero, List.set_cons_succ])
                    clear hcl; have hcl := hcl2; clear hcl2
                    refine wpAnyK_take (i := 7) (v := ?_) hcl hS rfl (by kernel_rfl) (fun _ _ _ h => h) (by rfl) ?_ (fun hcl2 => ?_)
                    rotate_left
                    · (intro w hSw; (try dsimp only at hSw); first | (go_simp; done) | (go_simp; with_reducible rfl))
                    (try simp only [Act.put, List.setIfInBounds_toArray, List.set_cons_zero, List.set_cons_succ])
                    clear hcl; have hcl := hcl2; clear hcl2
                    refine wpAnyK_take (i := 8) (v := ?_) hcl hS rfl (by kernel_rfl) (fun _ _ _ h => h) (by rfl) ?_ (fun hcl2 => ?_)
                    rotate_left
                    · (intro w hSw; (try dsimp only at hSw); first | (go_simp; done) | (go_simp; with_reducible rfl))
                    (try simp only [Act.put, List.setIfInBounds_toArray, List.set_cons_zero, List.set_cons_succ])
                    clear hcl; have hcl := hcl2; clear hcl2
                    clear hS
                    refine wpAnyK_one (i := 9) hcl (by kernel_rfl) rfl (by rfl) (fun K hK => ?_)
                    go_simp
                    go_at_call 6
                    refine (HMK.out _).mono ?_
                    rintro e wb ⟨rfl, hbb⟩
                    refine hK.out _ _ (Or.inr (HK.out wb hbb)) (fun hcl2 => ?_)
                    clear hK K hcl
                    have hcl := hcl2
                    clear hcl2
                    have hS : (fun w' : World => w'.cell? ⟨g8, i, none⟩ = some (.slice (some ⟨ga, 0, none⟩) m c4) ∧ w'.cell? ⟨ga, k * 4, none⟩ = some (.int .i64 y.1) ∧ w'.cell? ⟨ga, k * 4 + 1, none⟩ = some (.string y.2.1) ∧ w'.cell? ⟨ga, k * 4 + 2, none⟩ = some (.int .i64 y.2.2.1) ∧ w'.cell? ⟨ga, k * 4 + 3, none⟩ = some (.int .i64 y.2.2.2) ∧ w'.frozen? ⟨ga, k * 4, none⟩ = false ∧ w'.frozen? ⟨ga, k * 4 + 1, none⟩ = false ∧ w'.frozen? ⟨ga, k * 4 + 2, none⟩ = false ∧ w'.frozen? ⟨ga, k * 4 + 3, none⟩ = false) wb := HK.out wb hbb
                    (try simp only [Act.put, List.setIfInBounds_toArray, List.set_cons_zero, List.set_cons_succ])
                    refine wpAnyK_take (i := 10) (v := ?_) hcl hS rfl (by kernel_rfl) (fun _ _ _ h => h) (by rfl) ?_ (fun hcl2 => ?_)
                    rotate_left
                    · (intro w hSw; (try dsimp only at hSw); first | (go_simp; done) | (go_simp; with_reducible rfl))
                    (try simp only [Act.put, List.setIfInBounds_toArray, List.set_cons_zero, List.set_cons_succ])
                    clear hcl; have hcl := hcl2; clear hcl2
                    obtain ⟨s0, s1, s2, s3, s4, s5, s6, s7, s8⟩ := hS
                    have hS' : True := trivial
                    have hS : True := trivial
                    refine wpAnyK_one (i := 11) hcl (by kernel_rfl) rfl (by rfl) (fun K hK => ?_)
                    go_simp
                    refine hK.out _ _ (Or.inl (by kernel_rfl)) (fun hcl2 => ?_)
                    clear hK K hcl hcl2 hS hS'
                    refine wpAnyK_done (by kernel_rfl) ?_ _
                    have hbW : Below wr.heap.size wr wb := hdr.trans (hbb.mono (Nat.le_refl _))
                    have hfb := HF8.out.below hbW
                    have htb := hfb.1 (2 * i + 3) _ HB2'.out
                    have hg4 := four_grown wb ga (k * 4) (.int .i64 (100 + (100000 * (i : Int) + (k : Int)))) (.string ⟨#[109, 97, 114, 107]⟩) (.int .i64 (100000 * (i : Int) + (k : Int))) (.int .i64 (-(100000 * (i : Int) + (k : Int))))
                    have hf9 := Fam.upd hfb (i := 2 * i + 3) HB2'.out hg4.size (fun b hb hx => hg4.block b hb (fun e => hx (by injection e with e; rw [e]; rfl))) (y := .one (.slice (some ⟨ga, 0, none⟩) m c4) ((T2 i).set k (markT (100000 * (i : Int) + (k : Int))))) (trow_set htb (by have := HKM.out; omega) (markT (100000 * (i : Int) + (k : Int)))) (fun b e => Or.inl e)
                    rw [set3] at hf9
                    have hbz := HB8.out.trans (hbW.mono HB8.out.size)
                    have hb9 := hbz.grown hg4 hbz.size (fun g e => by injection e with e; rw [← e]; exact (World.ownsRow.lt htb ga rfl).1)
                    go_wp2
                    go_roundw
                    case rel => exact ⟨k + 1, _, _, by rfl, HKM.out, hb9, hf9, HP6⟩
                    case measure => have := HKM.out; simp [intOf]; omega
                  · have p1 : decide ((k : Int) < (m : Int)) = false := decide_eq_false (by omega)
                    have p2 : decide (k < m) = false := decide_eq_false hkm
                    have hkm2 : k = m := by omega
                    have hp5 := hp4.out
                    rw [hkm2, ← HM3.out] at hp5
                    have HP5 := Lib.hid (show P2 T2 (TT ss N) L2 l1 l2 M ∧ P3 T2 (TT ss N) (i + 1) 0 from ⟨hp5.1, P3_next hp5.2⟩)
                    have z2 : IntKind.i64.wrap ((i : Int) + 1) = (i : Int) + 1 := by rw [IntKind.wrap_i64]; omega
                    clear hp5 hb hf hk htl hi80 b1 b2 b3 b4 hkm2
                    go_wp2_with fail
                    go_roundw
                    case rel => exact ⟨i + 1, _, _, by rfl, HIM.out, HB8.out, HF8.out, HP5⟩
                    case measure => have := HIM.out; simp [intOf]; omega
              · have hiM : M = i := by omega
                subst hiM
                have q2 : decide ((M : Int) < 2 * (N : Int)) = false := decide_eq_false (by omega)
                clear hb hf hi hlt hM
                have HP4 := Lib.hid (P4_of hp3.out.1)
                have HM1 := Lib.hid hp3.out.2.2.1
                have HL1 := Lib.hid hp3.out.2.1
                clear hp3
                go_wp2_with fail
                go_loopw [10, 21] (fun v10 v21 wr4 => ∃ (i : Nat) (L2 : List It) (l3 : List Value), v21 = .int .i64 (i : Int) ∧ i ≤ M ∧ Below w.heap.size w wr4 ∧ Fam wr4 w.heap.size (.vals u8 l1 :: .vals u9 l2 :: .vals v10 l3 :: L2) ∧ Hid (P4 T1 (TT ss N) L2 l1 l2 l3 M i)) (fun _ v21 _ => M - (intOf v21).toNat)
                case atStart => exact ⟨0, _, _, rfl, Nat.zero_le _, HB7.out, HF7.out, HP4⟩
                case round =>
                  obtain ⟨i, L2, l3, rfl, hi, hb, hf, hp4⟩ := hrel
                  have HB8 := Lib.hid hb
                  have HF8 := Lib.hid hf
                  have i0 : (0 : Int) ≤ (i : Int) := by omega
                  have hM := HM2.out
                  by_cases hlt : i < M
                  · have q2 : decide ((i : Int) < 2 * (N : Int)) = true := decide_eq_true (by omega)
                    have q3 : (i : Int) < (M : Int) := by omega
                    have hi80 : (i : Int) ≤ 80 := by omega
                    obtain ⟨A3, c3, a1, a2⟩ := hp4.out.2.2.2.2.2.1 i hlt (Nat.le_refl _)
                    have htl : (T1 i).length ≤ 16385 := by rw [HL1.out i]; exact tks_len _
                    obtain ⟨g8, c8, e8⟩ := vrow_form (show VRow wr w.heap.size u8 l1 from hf.1 0 _ rfl) (by rw [hp4.out.2.1]; omega)
                    rw [hp4.out.2.1] at e8
                    subst e8
                    obtain ⟨m, hm⟩ : ∃ m, (T1 i).length = m := ⟨_, rfl⟩
                    rw [hm] at a1 a2 htl
                    have k1 : wr.cell? ⟨g8, i, none⟩ = some (.slice A3 m c3) := vrow_at (hf.1 0 _ rfl) a1
                    have hf5 := fam_open hf (i := 2 * i + 3) a2
                    rw [set3] at hf5
                    have HF5 := Lib.hid hf5
                    have HOF := Lib.hid (one_off hf (i := 2 * i + 3) a2)
                    have HA1 := Lib.hid a1
                    have HM3 := Lib.hid hm
                    have HTL := Lib.hid htl
                    have HI80 := Lib.hid hi80
                    have HLL := Lib.hid (show 2 * i < L2.length by rw [hp4.out.1]; omega)
                    have HIM := Lib.hid (show i + 1 ≤ M by omega)
                    clear hb hf hi hM a1 a2 hm htl hf5 hi80
                    go_wp2_with fail
                    clear k1
                    go_loopw [22, 23] (fun v22 v23 wr5 => ∃ (k n5 : Nat) (A5 : Option Addr) (c5 : Nat), v23 = .int .i64 (k : Int) ∧ k ≤ 96 ∧ v22 = .slice A5 n5 c5 ∧ Below w.heap.size w wr5 ∧ Hid (n5 = m + k) ∧ Fam wr5 w.heap.size (.vals (.slice (some ⟨g8, 0, none⟩) M c8) l1 :: .vals u9 l2 :: .vals u10 l3 :: L2.set (2 * i) (.two A3 (T1 i) (.slice A5 n5 c5) (T1 i ++ grw i k)))) (fun _ v23 _ => 96 - (intOf v23).toNat)
                    case atStart => exact ⟨0, m, A3, c3, rfl, by omega, rfl, HB8.out, Lib.hid rfl, by rw [grw_zero, List.append_nil]; exact HF5.out⟩
                    case round =>
                      obtain ⟨k, n5, A5, c5, rfl, hk, rfl, hb, hn5, hf⟩ := hrel
                      have HB9 := Lib.hid hb
                      have HF9 := Lib.hid hf
                      have k0 : (0 : Int) ≤ (k : Int) := by omega
                      have htl := HTL.out
                      have hi80 := HI80.out
                      by_cases hk96 : k < 96
                      · have p1 : decide ((k : Int) < 96) = true := decide_eq_true (by omega)
                        have p3 : (k : Int) < 96 := by omega
                        have z1 : IntKind.i64.wrap (-100000 * (i : Int)) = -100000 * (i : Int) := by rw [IntKind.wrap_i64]; omega
                        have z2 : IntKind.i64.wrap (-100000 * (i : Int) - (k : Int)) = -100000 * (i : Int) - (k : Int) := by rw [IntKind.wrap_i64]; omega
                        have z3 : IntKind.i64.wrap (-100000 * (i : Int) - (k : Int) - 1) = -100000 * (i : Int) - (k : Int) - 1 := by rw [IntKind.wrap_i64]; omega
                        have z4 : IntKind.i64.wrap ((k : Int) + 1) = (k : Int) + 1 := by rw [IntKind.wrap_i64]; omega
                        have HMK := Lib.hid (law3_markA (-100000 * (i : Int) - (k : Int) - 1) wr (by omega) (by omega))
                        have HN5 := Lib.hid (show n5 ≤ 1000000 by have := hn5.out; omega)
                        have HK96 := Lib.hid hk96
                        clear hb hf hk htl hi80 hk96
                        go_wp2_with fail
                        refine HMK.out.mono ?_
                        rintro e wb ⟨rfl, hbb⟩
                        have hfb := HF9.out.below hbb
                        have hget : (.vals (.slice (some ⟨g8, 0, none⟩) M c8) l1 :: .vals u9 l2 :: .vals u10 l3 :: L2.set (2 * i) (.two A3 (T1 i) (.slice A5 n5 c5) (T1 i ++ grw i k)))[2 * i + 3]? = some (It.two A3 (T1 i) (.slice A5 n5 c5) (T1 i ++ grw i k)) := List.getElem?_set_self HLL.out
                        have HGET := Lib.hid hget
                        have HFB := Lib.hid hfb
                        have HRB := Lib.hid (hfb.1 _ _ hget).2
                        have HBB := Lib.hid (HB9.out.trans (hbb.mono HB9.out.size))
                        have HLN := Lib.hid (show (T1 i ++ grw i k).length = n5 by rw [List.length_append, HM3.out, grw_len]; exact hn5.out.symm)
                        clear hfb hget hbb
                        go_wp2_with (at_builtin; go_loud (refine wpList_tok rfl _ _ rfl w.heap.size wb _ (.slice A5 n5 c5) 1 (T1 i ++ grw i k) n5 HLN.out (markT (-100000 * (i : Int) - (k : Int) - 1)) _ rfl rfl HRB.out wb.heap.size rfl rfl HN5.out HBB.out.size ?_); intro g7 c7 w7 hz7 hg7; have HZ7 := Lib.hid hz7; have HG7 := Lib.hid hg7; clear hz7 hg7)
                        have hf7 := fam_two HFB.out HGET.out HOF.out (List.prefix_append _ _) rfl HZ7.out HG7.out
                        rw [set3, List.set_set, List.append_assoc, ← grw_succ] at hf7
                        have hb7 := below_two HBB.out HBB.out.size (HFB.out.1 _ _ HGET.out) HG7.out
                        go_roundw
                        case rel => exact ⟨k + 1, n5 + 1, _, c7, by rfl, HK96.out, rfl, hb7, Lib.hid (by have := hn5.out; omega), hf7⟩
                        case measure => have := HK96.out; simp [intOf]; omega
                      · have p1 : decide ((k : Int) < 96) = false := decide_eq_false (by omega)
                        have p2 : ¬ (k : Int) < 96 := by omega
                        obtain rfl : k = 96 := by omega
                        have hget : (.vals (.slice (some ⟨g8, 0, none⟩) M c8) l1 :: .vals u9 l2 :: .vals u10 l3 :: L2.set (2 * i) (.two A3 (T1 i) (.slice A5 n5 c5) (T1 i ++ grw i 96)))[2 * i + 3]? = some (It.two A3 (T1 i) (.slice A5 n5 c5) (T1 i ++ grw i 96)) := List.getElem?_set_self HLL.out
                        obtain ⟨ga, rfl⟩ := trow_open (hf.1 _ _ hget).2 (by have := hn5.out; omega)
                        have HF10 := Lib.hid hf
                        have HL3 := Lib.hid hp4.out.2.2.2.1
                        have HN5 := Lib.hid (show n5 = m + 96 from hn5.out)
                        have hP5 := P4_step hp4.out hlt HM3.out HA1.out ga c5
                        rw [← HN5.out] at hP5
                        have HP5 := Lib.hid hP5
                        have HI41 := Lib.hid (show i ≤ 1000000 by have := HI80.out; omega)
                        have z4 : IntKind.i64.wrap ((i : Int) + 1) = (i : Int) + 1 := by have := HI80.out; rw [IntKind.wrap_i64]; omega
                        clear hb hf hk htl hi80 hget hP5 p2
                        go_wp2_with (at_builtin; go_loud (refine wpList_val rfl _ _ rfl w.heap.size wr _ u10 1 l3 i HL3.out (some ⟨ga, 0, none⟩) n5 c5 rfl (HF10.out.1 2 _ rfl) rfl HI41.out HB9.out.size ?_); intro g7 c7 w7 hz7 hg7 ho7; have HZ7 := Lib.hid hz7; have HG7 := Lib.hid hg7; have HO7 := Lib.hid ho7; clear hz7 hg7 ho7)
                        have hf7 := Fam.upd HF10.out (i := 2) rfl HG7.out.size (fun b hb hx => HG7.out.block b hb (fun e => hx e.symm)) (y := .vals (.slice (some ⟨g7, 0, none⟩) (i + 1) c7) (l3 ++ [Value.slice (some ⟨ga, 0, none⟩) n5 c5])) HZ7.out (fun b e => by rcases HO7.out with h | h; exact Or.inl (h.trans e); exact Or.inr (by have e2 := Option.some.inj (show some g7 = some b from e); omega))
                        have hb7 := HB9.out.grown HG7.out HB9.out.size (fun g e => ((HF10.out.1 2 _ rfl).lt e).1)
                        go_roundw
                        case rel => exact ⟨i + 1, _, _, by rfl, HIM.out, hb7, hf7, HP5⟩
                        case measure => have := HIM.out; simp [intOf]; omega
                  · have hiM : M = i := by omega
                    subst hiM
                    have q2 : decide ((M : Int) < 2 * (N : Int)) = false := decide_eq_false (by omega)
                    clear hb hf hi hlt hM
                    go_wp2_with fail
                    go_loopw [24] (fun v24 wr4 => ∃ i : Nat, v24 = .int .i64 (i : Int) ∧ i ≤ M ∧ Below w.heap.size w wr4 ∧ Fam wr4 w.heap.size (.vals u8 l1 :: .vals u9 l2 :: .vals u10 l3 :: L2)) (fun v24 _ => M - (intOf v24).toNat)
                    case atStart => exact ⟨0, rfl, Nat.zero_le _, HB8.out, HF8.out⟩
                    case round =>
                      obtain ⟨i, rfl, hi, hb, hf⟩ := hrel
                      have HB10 := Lib.hid hb
                      have HF10 := Lib.hid hf
                      have i0 : (0 : Int) ≤ (i : Int) := by omega
                      have hM := HM2.out
                      by_cases hlt : i < M
                      · have q2 : decide ((i : Int) < 2 * (N : Int)) = true := decide_eq_true (by omega)
                        have q3 : (i : Int) < (M : Int) := by omega
                        have hi80 : (i : Int) ≤ 80 := by omega
                        obtain ⟨A3, c3, ga, c4, a1, a2, a3⟩ := hp4.out.2.2.2.2.2.2 i hlt
                        have htl : (T1 i).length ≤ 16385 := by rw [HL1.out i]; exact tks_len _
                        obtain ⟨g8, c8, e8⟩ := vrow_form (show VRow wr w.heap.size u8 l1 from hf.1 0 _ rfl) (by rw [hp4.out.2.1]; omega)
                        rw [hp4.out.2.1] at e8
                        subst e8
                        obtain ⟨g10, c10, e10⟩ := vrow_form (show VRow wr w.heap.size u10 l3 from hf.1 2 _ rfl) (by rw [hp4.out.2.2.2.1]; omega)
                        rw [hp4.out.2.2.2.1] at e10
                        subst e10
                        obtain ⟨m, hm⟩ : ∃ m, (T1 i).length = m := ⟨_, rfl⟩
                        have hm2 : (TT ss N i).length = m := by rw [← HL1.out i]; exact hm
                        rw [hm] at a1 a2 a3 htl
                        obtain ⟨n5, hn5⟩ : ∃ n5, n5 = m + 96 := ⟨_, rfl⟩
                        rw [← hn5] at a2 a3
                        have HN5 := Lib.hid hn5
                        have HM3 := Lib.hid hm2
                        have HTL := Lib.hid htl
                        have HI80 := Lib.hid hi80
                        have HA1 := Lib.hid a1
                        have HA2 := Lib.hid a2
                        have HA3 := Lib.hid a3
                        have HIM := Lib.hid (show i + 1 ≤ M by omega)
                        have HLT := Lib.hid hlt
                        clear hb hf hi hM a1 a2 a3 hm hm2 htl hn5 hi80
                        go_wp2_with fail
                        go_loopw [25] (fun v25 wr5 => ∃ k : Nat, v25 = .int .i64 (k : Int) ∧ k ≤ n5 ∧ Below w.heap.size w wr5 ∧ Fam wr5 w.heap.size (.vals (.slice (some ⟨g8, 0, none⟩) M c8) l1 :: .vals u9 l2 :: .vals (.slice (some ⟨g10, 0, none⟩) M c10) l3 :: L2)) (fun v25 _ => n5 - (intOf v25).toNat)
                        case atStart => exact ⟨0, rfl, Nat.zero_le _, HB10.out, HF10.out⟩
                        case round =>
                          obtain ⟨k, rfl, hk, hb, hf⟩ := hrel
                          have HB11 := Lib.hid hb
                          have HF11 := Lib.hid hf
                          have k0 : (0 : Int) ≤ (k : Int) := by omega
                          have htl := HTL.out
                          have hi80 := HI80.out
                          have hn5 := HN5.out
                          have k1 : wr.cell? ⟨g8, i, none⟩ = some (.slice A3 m c3) := vrow_at (hf.1 0 _ rfl) HA1.out
                          have k2 : wr.cell? ⟨g10, i, none⟩ = some (.slice (some ⟨ga, 0, none⟩) n5 c4) := vrow_at (hf.1 2 _ rfl) HA2.out
                          by_cases hkn : k < n5
                          · have p1 : decide ((k : Int) < (n5 : Int)) = true := decide_eq_true (by omega)
                            have p2 : decide (k < n5) = true := decide_eq_true hkn
                            have p3 : (k : Int) < (n5 : Int) := by omega
                            have ht := hf.1 (2 * i + 3) _ HA3.out
                            have hl8 : g8 < wr.heap.size := ((hf.1 0 _ rfl).lt (b := g8) rfl).2
                            have hl10 : g10 < wr.heap.size := ((hf.1 2 _ rfl).lt (b := g10) rfl).2
                            have hgr := grown_at HM1.out HLT.out HM3.out (k := k) (by omega)
                            have hlga := (World.ownsRow.lt ht.2 ga rfl).2
                            have z1 : IntKind.i64.wrap (100000 * (i : Int)) = 100000 * (i : Int) := by rw [IntKind.wrap_i64]; omega
                            have z2 : IntKind.i64.wrap (100000 * (i : Int) + (k : Int)) = 100000 * (i : Int) + (k : Int) := by rw [IntKind.wrap_i64]; omega
                            have z3 : IntKind.i64.wrap ((k : Int) + 1) = (k : Int) + 1 := by rw [IntKind.wrap_i64]; omega
                            have HMK := Lib.hid (law3_markA (100000 * (i : Int) + (k : Int)) wr (by omega) (by omega))
                            by_cases hkm : k < m
                            · rw [if_pos hkm] at hgr
                              have r1 : decide ((k : Int) ≥ (m : Int)) = false := decide_eq_false (by omega)
                              have r2 : decide ((k : Int) < (m : Int)) = true := decide_eq_true (by omega)
                              have r3 : decide (k < m) = true := decide_eq_true hkm
                              have r4 : decide (m ≤ k) = false := decide_eq_false (by omega)
                              have r5 : (k : Int) < (m : Int) := by omega
                              clear hb hf hk htl hi80 hn5
                              go_wp2_with fail
                              refine HMK.out.mono ?_
                              rintro e wb ⟨rfl, hbb⟩
                              have hfb := HF11.out.below hbb
                              have k3 : wb.cell? ⟨g8, i, none⟩ = some (.slice A3 m c3) := vrow_at (hfb.1 0 _ rfl) HA1.out
                              have l3 : g8 < wb.heap.size := by have := hbb.size; omega
                              have l4 : g10 < wb.heap.size := by have := hbb.size; omega
                              have l5 : ga < wb.heap.size := by have := hbb.size; omega
                              have k4 : wb.cell? ⟨g10, i, none⟩ = some (.slice (some ⟨ga, 0, none⟩) n5 c4) := vrow_at (hfb.1 2 _ rfl) HA2.out
                              have HBB := Lib.hid hbb
                              obtain ⟨n7, hn7⟩ : ∃ n7, 100000 * (i : Int) + (k : Int) = n7 := ⟨_, rfl⟩
                              have ht2 := trow_tok (hfb.1 (2 * i + 3) _ HA3.out).2 hgr
                              have hT1k : (T1 i)[k]? = some (markT (100000 * (i : Int) + (k : Int))) := by rw [HM1.out i HLT.out, mks_at (by rw [HM3.out]; exact hkm)]
                              obtain ⟨g3, o3, rfl, l3', ht3⟩ := (hfb.1 (2 * i + 3) _ HA3.out).1.1 k _ hT1k
                              rw [hn7] at ht2 ht3
                              obtain ⟨y1, y2, y3, y4⟩ := ht2
                              obtain ⟨y10, y11, y12, y13⟩ := ht3
                              clear hfb hbb k1 k2 ht hgr hT1k
                              go_wp2_with fail
                              have hnb := World.news_of_block (cs := #[.int .i64 (100 + n7), .string ⟨#[109, 97, 114, 107]⟩, .int .i64 n7, .int .i64 (-n7)]) (t := 29) (fr := (0, 0)) (heap_alloc_new wb _)
                              have hbx : Below wb.heap.size wb (wb.alloc (.cells #[.int .i64 (100 + n7), .string ⟨#[109, 97, 114, 107]⟩, .int .i64 n7, .int .i64 (-n7)] 29)) := (Below.refl _ _).alloc (Nat.le_refl _) _
                              have hsz : (wb.alloc (.cells #[.int .i64 (100 + n7), .string ⟨#[109, 97, 114, 107]⟩, .int .i64 n7, .int .i64 (-n7)] 29)).heap.size = wb.heap.size + 1 := by simp
                              obtain ⟨wx, hwx⟩ : ∃ wx, wb.alloc (.cells #[.int .i64 (100 + n7), .string ⟨#[109, 97, 114, 107]⟩, .int .i64 n7, .int .i64 (-n7)] 29) = wx := ⟨_, rfl⟩
                              rw [hwx] at hnb hbx hsz ⊢
                              obtain ⟨W0, hW0⟩ : ∃ W0, wb.heap.size = W0 := ⟨_, rfl⟩
                              rw [hW0] at hnb hbx hsz l3 l4 l5 l3' ⊢
                              have y5 : wx.cell? ⟨W0, 0, none⟩ = some (.int .i64 (100 + n7)) := hnb 0 _ rfl
                              have y6 : wx.cell? ⟨W0, 1, none⟩ = some (.string ⟨#[109, 97, 114, 107]⟩) := hnb 1 _ rfl
                              have y7 : wx.cell? ⟨W0, 2, none⟩ = some (.int .i64 n7) := hnb 2 _ rfl
                              have y8 : wx.cell? ⟨W0, 3, none⟩ = some (.int .i64 (-n7)) := hnb 3 _ rfl
                              replace y1 := (hbx.cell (p := ⟨ga, k * 4, none⟩) l5).trans y1
                              replace y2 := (hbx.cell (p := ⟨ga, k * 4 + 1, none⟩) l5).trans y2
                              replace y3 := (hbx.cell (p := ⟨ga, k * 4 + 2, none⟩) l5).trans y3
                              replace y4 := (hbx.cell (p := ⟨ga, k * 4 + 3, none⟩) l5).trans y4
                              have y0 := (hbx.cell (p := ⟨g10, i, none⟩) l4).trans k4
                              have y9 := (hbx.cell (p := ⟨g8, i, none⟩) l3).trans k3
                              replace y10 := (hbx.cell (p := ⟨g3, o3 + k * 4, none⟩) l3').trans y10
                              replace y11 := (hbx.cell (p := ⟨g3, o3 + k * 4 + 1, none⟩) l3').trans y11
                              replace y12 := (hbx.cell (p := ⟨g3, o3 + k * 4 + 2, none⟩) l3').trans y12
                              replace y13 := (hbx.cell (p := ⟨g3, o3 + k * 4 + 3, none⟩) l3').trans y13
                              have lx0 : W0 < wx.drew.heap.size := by show W0 < wx.heap.size; omega
                              have lx8 : g8 < wx.drew.heap.size := by show g8 < wx.heap.size; omega
                              have lx10 : g10 < wx.drew.heap.size := by show g10 < wx.heap.size; omega
                              have lxa : ga < wx.drew.heap.size := by show ga < wx.heap.size; omega
                              have lx3 : g3 < wx.drew.heap.size := by show g3 < wx.heap.size; omega
                              have hS14 : wx.cell? ⟨g10, i, none⟩ = some (.slice (some ⟨ga, 0, none⟩) n5 c4) ∧ wx.cell? ⟨ga, k * 4, none⟩ = some (.int .i64 (100 + n7)) ∧ wx.cell? ⟨ga, k * 4 + 1, none⟩ = some (.string ⟨#[109, 97, 114, 107]⟩) ∧ wx.cell? ⟨ga, k * 4 + 2, none⟩ = some (.int .i64 n7) ∧ wx.cell? ⟨ga, k * 4 + 3, none⟩ = some (.int .i64 (-n7)) ∧ wx.cell? ⟨W0, 0, none⟩ = some (.int .i64 (100 + n7)) ∧ wx.cell? ⟨W0, 1, none⟩ = some (.string ⟨#[109, 97, 114, 107]⟩) ∧ wx.cell? ⟨W0, 2, none⟩ = some (.int .i64 n7) ∧ wx.cell? ⟨W0, 3, none⟩ = some (.int .i64 (-n7)) ∧ wx.cell? ⟨g8, i, none⟩ = some (.slice (some ⟨g3, o3, none⟩) m c3) ∧ wx.cell? ⟨g3, o3 + k * 4, none⟩ = some (.int .i64 (100 + n7)) ∧ wx.cell? ⟨g3, o3 + k * 4 + 1, none⟩ = some (.string ⟨#[109, 97, 114, 107]⟩) ∧ wx.cell? ⟨g3, o3 + k * 4 + 2, none⟩ = some (.int .i64 n7) ∧ wx.cell? ⟨g3, o3 + k * 4 + 3, none⟩ = some (.int .i64 (-n7)) := ⟨y0, y1, y2, y3, y4, y5, y6, y7, y8, y9, y10, y11, y12, y13⟩
                              have hkeep : ∀ W, Below wx.drew.heap.size wx.drew W → W.cell? ⟨g10, i, none⟩ = some (.slice (some ⟨ga, 0, none⟩) n5 c4) ∧ W.cell? ⟨ga, k * 4, none⟩ = some (.int .i64 (100 + n7)) ∧ W.cell? ⟨ga, k * 4 + 1, none⟩ = some (.string ⟨#[109, 97, 114, 107]⟩) ∧ W.cell? ⟨ga, k * 4 + 2, none⟩ = some (.int .i64 n7) ∧ W.cell? ⟨ga, k * 4 + 3, none⟩ = some (.int .i64 (-n7)) ∧ W.cell? ⟨W0, 0, none⟩ = some (.int .i64 (100 + n7)) ∧ W.cell? ⟨W0, 1, none⟩ = some (.string ⟨#[109, 97, 114, 107]⟩) ∧ W.cell? ⟨W0, 2, none⟩ = some (.int .i64 n7) ∧ W.cell? ⟨W0, 3, none⟩ = some (.int .i64 (-n7)) ∧ W.cell? ⟨g8, i, none⟩ = some (.slice (some ⟨g3, o3, none⟩) m c3) ∧ W.cell? ⟨g3, o3 + k * 4, none⟩ = some (.int .i64 (100 + n7)) ∧ W.cell? ⟨g3, o3 + k * 4 + 1, none⟩ = some (.string ⟨#[109, 97, 114, 107]⟩) ∧ W.cell? ⟨g3, o3 + k * 4 + 2, none⟩ = some (.int .i64 n7) ∧ W.cell? ⟨g3, o3 + k * 4 + 3, none⟩ = some (.int .i64 (-n7)) := fun W hb =>
                                ⟨(hb.cell (p := ⟨g10, i, none⟩) lx10).trans y0,
                                  (hb.cell (p := ⟨ga, k * 4, none⟩) lxa).trans y1,
                                  (hb.cell (p := ⟨ga, k * 4 + 1, none⟩) lxa).trans y2,
                                  (hb.cell (p := ⟨ga, k * 4 + 2, none⟩) lxa).trans y3,
                                  (hb.cell (p := ⟨ga, k * 4 + 3, none⟩) lxa).trans y4,
                                  (hb.cell (p := ⟨W0, 0, none⟩) lx0).trans y5,
                                  (hb.cell (p := ⟨W0, 1, none⟩) lx0).trans y6,
                                  (hb.cell (p := ⟨W0, 2, none⟩) lx0).trans y7,
                                  (hb.cell (p := ⟨W0, 3, none⟩) lx0).trans y8,
                                  (hb.cell (p := ⟨g8, i, none⟩) lx8).trans y9,
                                  (hb.cell (p := ⟨g3, o3 + k * 4, none⟩) lx3).trans y10,
                                  (hb.cell (p := ⟨g3, o3 + k * 4 + 1, none⟩) lx3).trans y11,
                                  (hb.cell (p := ⟨g3, o3 + k * 4 + 2, none⟩) lx3).trans y12,
                                  (hb.cell (p := ⟨g3, o3 + k * 4 + 3, none⟩) lx3).trans y13⟩
                              have HK := Lib.hid hkeep
                              have hbw : Below wr.heap.size wr wx := HBB.out.trans (hbx.mono (by rw [← hW0]; exact HBB.out.size))
                              have HBW := Lib.hid hbw
                              have hb0 : Below wx.drew.heap.size wx.drew wx.drew := Below.refl _ _
                              have tok1 : True := trivial
                              have HKN := Lib.hid (show k + 1 ≤ n5 by omega)
                              clear hnb hbx hsz hwx hW0 hkeep hbw l3 l4 l5 l3' y0 y1 y2 y3 y4 y5 y6 y7 y8 y9 y10 y11 y12 y13 k3 k4 hn7 z1 z2 lx0 lx8 lx10 lxa lx3 hl8 hl10 hlga
                              go_region_held3 (fun w' => w'.cell? ⟨g10, i, none⟩ = some (.slice (some ⟨ga, 0, none⟩) n5 c4) ∧ w'.cell? ⟨ga, k * 4, none⟩ = some (.int .i64 (100 + n7)) ∧ w'.cell? ⟨ga, k * 4 + 1, none⟩ = some (.string ⟨#[109, 97, 114, 107]⟩) ∧ w'.cell? ⟨ga, k * 4 + 2, none⟩ = some (.int .i64 n7) ∧ w'.cell? ⟨ga, k * 4 + 3, none⟩ = some (.int .i64 (-n7)) ∧ w'.cell? ⟨W0, 0, none⟩ = some (.int .i64 (100 + n7)) ∧ w'.cell? ⟨W0, 1, none⟩ = some (.string ⟨#[109, 97, 114, 107]⟩) ∧ w'.cell? ⟨W0, 2, none⟩ = some (.int .i64 n7) ∧ w'.cell? ⟨W0, 3, none⟩ = some (.int .i64 (-n7)) ∧ w'.cell? ⟨g8, i, none⟩ = some (.slice (some ⟨g3, o3, none⟩) m c3) ∧ w'.cell? ⟨g3, o3 + k * 4, none⟩ = some (.int .i64 (100 + n7)) ∧ w'.cell? ⟨g3, o3 + k * 4 + 1, none⟩ = some (.string ⟨#[109, 97, 114, 107]⟩) ∧ w'.cell? ⟨g3, o3 + k * 4 + 2, none⟩ = some (.int .i64 n7) ∧ w'.cell? ⟨g3, o3 + k * 4 + 3, none⟩ = some (.int .i64 (-n7)))
                                (first | go_keep | exact hS14 | exact ks)
                                ((first
                                  | (have _t := tok1; go_at_call 7; refine (same_refl _ _ _ _ _).mono ?_; clear tok1 _t; rintro e wc ⟨rfl, hbc⟩; have ks := HK.out wc hbc; have tok2 : True := trivial)
                                  | (have _t := tok2; go_at_call 7; refine (same_refl _ _ _ _ _).mono ?_; clear tok2 _t; rintro e wd ⟨rfl, hbd⟩; have hbd' := hbc.trans (hbd.mono hbc.size); have ks := HK.out wd hbd')))
                              go_wp2
                              have hbz : Below wr.heap.size wr wd := HBW.out.drew.trans (hbd'.mono HBW.out.drew.size)
                              go_roundw
                              case rel => exact ⟨k + 1, by rfl, HKN.out, HB11.out.trans (hbz.mono HB11.out.size), HF11.out.below hbz⟩
                              case measure => have := HKN.out; simp [intOf]; omega
                            · rw [if_neg hkm] at hgr
                              have r1 : decide ((k : Int) ≥ (m : Int)) = true := decide_eq_true (by omega)
                              have r2 : decide ((k : Int) < (m : Int)) = false := decide_eq_false (by omega)
                              have r3 : decide (k < m) = false := decide_eq_false hkm
                              have r4 : decide (m ≤ k) = true := decide_eq_true (by omega)
                              have r5 : (m : Int) ≤ (k : Int) := by omega
                              have r6 : ¬ ((k : Int) < (m : Int)) := by omega
                              have z4 : IntKind.i64.wrap (-100000 * (i : Int)) = -100000 * (i : Int) := by rw [IntKind.wrap_i64]; omega
                              have z5 : IntKind.i64.wrap ((k : Int) - (m : Int)) = (k : Int) - (m : Int) := by rw [IntKind.wrap_i64]; omega
                              have z6 : IntKind.i64.wrap (-100000 * (i : Int) - ((k : Int) - (m : Int))) = -100000 * (i : Int) - ((k : Int) - (m : Int)) := by rw [IntKind.wrap_i64]; omega
                              have z7 : IntKind.i64.wrap (-100000 * (i : Int) - ((k : Int) - (m : Int)) - 1) = -100000 * (i : Int) - ((k : Int) - (m : Int)) - 1 := by rw [IntKind.wrap_i64]; omega
                              have b1 : -1000000000 ≤ -100000 * (i : Int) - ((k : Int) - (m : Int)) - 1 := by omega
                              have b2 : -100000 * (i : Int) - ((k : Int) - (m : Int)) - 1 ≤ 1000000000 := by omega
                              have HMK2 := Lib.hid (fun W => law3_markA (-100000 * (i : Int) - ((k : Int) - (m : Int)) - 1) W (by omega) (by omega))
                              clear hb hf hk htl hi80 hn5
                              go_wp2_with fail
                              refine HMK.out.mono ?_
                              rintro e wb ⟨rfl, hbb⟩
                              have hfb := HF11.out.below hbb
                              have k3 : wb.cell? ⟨g8, i, none⟩ = some (.slice A3 m c3) := vrow_at (hfb.1 0 _ rfl) HA1.out
                              have l3 : g8 < wb.heap.size := by have := hbb.size; omega
                              have l4 : g10 < wb.heap.size := by have := hbb.size; omega
                              have l5 : ga < wb.heap.size := by have := hbb.size; omega
                              have k4 : wb.cell? ⟨g10, i, none⟩ = some (.slice (some ⟨ga, 0, none⟩) n5 c4) := vrow_at (hfb.1 2 _ rfl) HA2.out
                              have HBB := Lib.hid hbb
                              obtain ⟨n7, hn7⟩ : ∃ n7, 100000 * (i : Int) + (k : Int) = n7 := ⟨_, rfl⟩
                              obtain ⟨n8, hn8⟩ : ∃ n8, -100000 * (i : Int) - ((k : Int) - (m : Int)) - 1 = n8 := ⟨_, rfl⟩
                              have ht2 := trow_tok (hfb.1 (2 * i + 3) _ HA3.out).2 hgr
                              rw [hn8] at ht2 b1 b2
                              have HMK3 : ∀ W, Calls Tryd.prog 6 #[.int .i64 n8] W fun e w' => e = .returned (.agg #[.int .i64 (100 + n8), .string ⟨#[109, 97, 114, 107]⟩, .int .i64 n8, .int .i64 (-n8)]) ∧ Below W.heap.size W w' := by rw [← hn8]; exact HMK2.out
                              replace HMK3 := Lib.hid HMK3
                              obtain ⟨y1, y2, y3, y4⟩ := ht2
                              clear hfb hbb k1 k2 ht hgr HMK2
                              go_wp2_with fail
                              have hnb := World.news_of_block (cs := #[.int .i64 (100 + n7), .string ⟨#[109, 97, 114, 107]⟩, .int .i64 n7, .int .i64 (-n7)]) (t := 29) (fr := (0, 0)) (heap_alloc_new wb _)
                              have hbx : Below wb.heap.size wb (wb.alloc (.cells #[.int .i64 (100 + n7), .string ⟨#[109, 97, 114, 107]⟩, .int .i64 n7, .int .i64 (-n7)] 29)) := (Below.refl _ _).alloc (Nat.le_refl _) _
                              have hfr : ∀ j, (wb.alloc (.cells #[.int .i64 (100 + n7), .string ⟨#[109, 97, 114, 107]⟩, .int .i64 n7, .int .i64 (-n7)] 29)).frozen? ⟨wb.heap.size, j, none⟩ = false := fun j => World.frozen?_alloc_new _ _ _ j
                              have hsz : (wb.alloc (.cells #[.int .i64 (100 + n7), .string ⟨#[109, 97, 114, 107]⟩, .int .i64 n7, .int .i64 (-n7)] 29)).heap.size = wb.heap.size + 1 := by simp
                              obtain ⟨wx, hwx⟩ : ∃ wx, wb.alloc (.cells #[.int .i64 (100 + n7), .string ⟨#[109, 97, 114, 107]⟩, .int .i64 n7, .int .i64 (-n7)] 29) = wx := ⟨_, rfl⟩
                              rw [hwx] at hnb hbx hfr hsz ⊢
                              obtain ⟨W0, hW0⟩ : ∃ W0, wb.heap.size = W0 := ⟨_, rfl⟩
                              rw [hW0] at hnb hbx hfr hsz l3 l4 l5 ⊢
                              have y5 : wx.cell? ⟨W0, 0, none⟩ = some (.int .i64 (100 + n7)) := hnb 0 _ rfl
                              have y6 : wx.cell? ⟨W0, 1, none⟩ = some (.string ⟨#[109, 97, 114, 107]⟩) := hnb 1 _ rfl
                              have y7 : wx.cell? ⟨W0, 2, none⟩ = some (.int .i64 n7) := hnb 2 _ rfl
                              have y8 : wx.cell? ⟨W0, 3, none⟩ = some (.int .i64 (-n7)) := hnb 3 _ rfl
                              have HBW := Lib.hid (HBB.out.trans (hbx.mono (by rw [← hW0]; exact HBB.out.size)))
                              refine (HMK3.out wx).mono ?_
                              rintro e wc ⟨rfl, hbc⟩
                              have x0 : W0 < wx.heap.size := by omega
                              have x8 : g8 < wx.heap.size := by omega
                              have x10 : g10 < wx.heap.size := by omega
                              have xa : ga < wx.heap.size := by omega
                              replace y1 := (hbc.cell (p := ⟨ga, k * 4, none⟩) xa).trans ((hbx.cell (p := ⟨ga, k * 4, none⟩) l5).trans y1)
                              replace y2 := (hbc.cell (p := ⟨ga, k * 4 + 1, none⟩) xa).trans ((hbx.cell (p := ⟨ga, k * 4 + 1, none⟩) l5).trans y2)
                              replace y3 := (hbc.cell (p := ⟨ga, k * 4 + 2, none⟩) xa).trans ((hbx.cell (p := ⟨ga, k * 4 + 2, none⟩) l5).trans y3)
                              replace y4 := (hbc.cell (p := ⟨ga, k * 4 + 3, none⟩) xa).trans ((hbx.cell (p := ⟨ga, k * 4 + 3, none⟩) l5).trans y4)
                              have y0 := (hbc.cell (p := ⟨g10, i, none⟩) x10).trans ((hbx.cell (p := ⟨g10, i, none⟩) l4).trans k4)
                              have y9 := (hbc.cell (p := ⟨g8, i, none⟩) x8).trans ((hbx.cell (p := ⟨g8, i, none⟩) l3).trans k3)
                              replace y5 := (hbc.cell (p := ⟨W0, 0, none⟩) x0).trans y5
                              replace y6 := (hbc.cell (p := ⟨W0, 1, none⟩) x0).trans y6
                              replace y7 := (hbc.cell (p := ⟨W0, 2, none⟩) x0).trans y7
                              replace y8 := (hbc.cell (p := ⟨W0, 3, none⟩) x0).trans y8
                              have f5 := (hbc.frozen (p := ⟨W0, 0, none⟩) x0).trans (hfr 0)
                              have f6 := (hbc.frozen (p := ⟨W0, 1, none⟩) x0).trans (hfr 1)
                              have f7 := (hbc.frozen (p := ⟨W0, 2, none⟩) x0).trans (hfr 2)
                              have f8 := (hbc.frozen (p := ⟨W0, 3, none⟩) x0).trans (hfr 3)
                              have ne1 : g8 ≠ W0 := by omega
                              have ne2 : g10 ≠ W0 := by omega
                              have ne3 : ga ≠ W0 := by omega
                              have hg4 := four_grown wc W0 0 (.int .i64 (100 + n8)) (.string ⟨#[109, 97, 114, 107]⟩) (.int .i64 n8) (.int .i64 (-n8))
                              have hbs := hbc.size
                              have q0 := grown_cell hg4 (b := g10) (by omega) ne2 y0
                              have qa1 := grown_cell hg4 (b := ga) (by omega) ne3 y1
                              have qa2 := grown_cell hg4 (b := ga) (by omega) ne3 y2
                              have qa3 := grown_cell hg4 (b := ga) (by omega) ne3 y3
                              have qa4 := grown_cell hg4 (b := ga) (by omega) ne3 y4
                              have qa9 := grown_cell hg4 (b := g8) (by omega) ne1 y9
                              have hset := box_set4 (.int .i64 (100 + n8)) (.string ⟨#[109, 97, 114, 107]⟩) (.int .i64 n8) (.int .i64 (-n8)) y5 y6 y7 y8
                              have hgs := hg4.size
                              have HWR : wr.heap.size ≤ W0 := by rw [← hW0]; exact HBB.out.size
                              have hbwy : Below wr.heap.size wr ((((wc.setCell ⟨W0, 0, none⟩ (.int .i64 (100 + n8))).setCell ⟨W0, 1, none⟩ (.string ⟨#[109, 97, 114, 107]⟩)).setCell ⟨W0, 2, none⟩ (.int .i64 n8)).setCell ⟨W0, 3, none⟩ (.int .i64 (-n8))) :=
                                (HBW.out.trans (hbc.mono (by omega))).grown hg4 (by omega) (fun g e => by injection e with e; omega)
                              have HKN := Lib.hid (show k + 1 ≤ n5 by omega)
                              have tok1 : True := trivial
                              have HQ := Lib.hid (And.intro q0 (And.intro qa1 (And.intro qa2 (And.intro qa3 (And.intro qa4 (And.intro hset (And.intro qa9 (And.intro hbwy (And.intro hgs (And.intro hbs (And.intro x0 (And.intro x8 (And.intro x10 xa)))))))))))))
                              clear hnb hbx hfr hsz hwx hW0 l3 l4 l5 k3 k4 hn7 hn8 z1 z2 hbc x0 x8 x10 xa hl8 hl10 hlga hg4 q0 qa1 qa2 qa3 qa4 qa9 hset hgs HWR hbwy hbs
                              go_wp2_with fail
                              obtain ⟨q0, qa1, qa2, qa3, qa4, ⟨q5, q6, q7, q8⟩, qa9, hbwy, hgs, hbs, x0, x8, x10, xa⟩ := HQ.out
                              obtain ⟨wy, hwy⟩ : ∃ wy, ((((wc.setCell ⟨W0, 0, none⟩ (.int .i64 (100 + n8))).setCell ⟨W0, 1, none⟩ (.string ⟨#[109, 97, 114, 107]⟩)).setCell ⟨W0, 2, none⟩ (.int .i64 n8)).setCell ⟨W0, 3, none⟩ (.int .i64 (-n8))) = wy := ⟨_, rfl⟩
                              have hgs' : wc.heap.size ≤ wy.heap.size := by rw [← hwy]; exact hgs
                              rw [hwy] at q5 q6 q7 q8 hbwy ⊢
                              replace q0 : wy.cell? ⟨g10, i, none⟩ = some (.slice (some ⟨ga, 0, none⟩) n5 c4) := by rw [← hwy]; exact q0
                              replace qa1 : wy.cell? ⟨ga, k * 4, none⟩ = some (.int .i64 (100 + n8)) := by rw [← hwy]; exact qa1
                              replace qa2 : wy.cell? ⟨ga, k * 4 + 1, none⟩ = some (.string ⟨#[109, 97, 114, 107]⟩) := by rw [← hwy]; exact qa2
                              replace qa3 : wy.cell? ⟨ga, k * 4 + 2, none⟩ = some (.int .i64 n8) := by rw [← hwy]; exact qa3
                              replace qa4 : wy.cell? ⟨ga, k * 4 + 3, none⟩ = some (.int .i64 (-n8)) := by rw [← hwy]; exact qa4
                              replace qa9 : wy.cell? ⟨g8, i, none⟩ = some (.slice A3 m c3) := by rw [← hwy]; exact qa9
                              have lx0 : W0 < wy.drew.heap.size := by show W0 < wy.heap.size; omega
                              have lx8 : g8 < wy.drew.heap.size := by show g8 < wy.heap.size; omega
                              have lx10 : g10 < wy.drew.heap.size := by show g10 < wy.heap.size; omega
                              have lxa : ga < wy.drew.heap.size := by show ga < wy.heap.size; omega
                              have hS10 : wy.cell? ⟨g10, i, none⟩ = some (.slice (some ⟨ga, 0, none⟩) n5 c4) ∧ wy.cell? ⟨ga, k * 4, none⟩ = some (.int .i64 (100 + n8)) ∧ wy.cell? ⟨ga, k * 4 + 1, none⟩ = some (.string ⟨#[109, 97, 114, 107]⟩) ∧ wy.cell? ⟨ga, k * 4 + 2, none⟩ = some (.int .i64 n8) ∧ wy.cell? ⟨ga, k * 4 + 3, none⟩ = some (.int .i64 (-n8)) ∧ wy.cell? ⟨W0, 0, none⟩ = some (.int .i64 (100 + n8)) ∧ wy.cell? ⟨W0, 1, none⟩ = some (.string ⟨#[109, 97, 114, 107]⟩) ∧ wy.cell? ⟨W0, 2, none⟩ = some (.int .i64 n8) ∧ wy.cell? ⟨W0, 3, none⟩ = some (.int .i64 (-n8)) ∧ wy.cell? ⟨g8, i, none⟩ = some (.slice A3 m c3) := ⟨q0, qa1, qa2, qa3, qa4, q5, q6, q7, q8, qa9⟩
                              have hkeep : ∀ W, Below wy.drew.heap.size wy.drew W → W.cell? ⟨g10, i, none⟩ = some (.slice (some ⟨ga, 0, none⟩) n5 c4) ∧ W.cell? ⟨ga, k * 4, none⟩ = some (.int .i64 (100 + n8)) ∧ W.cell? ⟨ga, k * 4 + 1, none⟩ = some (.string ⟨#[109, 97, 114, 107]⟩) ∧ W.cell? ⟨ga, k * 4 + 2, none⟩ = some (.int .i64 n8) ∧ W.cell? ⟨ga, k * 4 + 3, none⟩ = some (.int .i64 (-n8)) ∧ W.cell? ⟨W0, 0, none⟩ = some (.int .i64 (100 + n8)) ∧ W.cell? ⟨W0, 1, none⟩ = some (.string ⟨#[109, 97, 114, 107]⟩) ∧ W.cell? ⟨W0, 2, none⟩ = some (.int .i64 n8) ∧ W.cell? ⟨W0, 3, none⟩ = some (.int .i64 (-n8)) ∧ W.cell? ⟨g8, i, none⟩ = some (.slice A3 m c3) := fun W hb =>
                                ⟨(hb.cell (p := ⟨g10, i, none⟩) lx10).trans q0,
                                  (hb.cell (p := ⟨ga, k * 4, none⟩) lxa).trans qa1,
                                  (hb.cell (p := ⟨ga, k * 4 + 1, none⟩) lxa).trans qa2,
                                  (hb.cell (p := ⟨ga, k * 4 + 2, none⟩) lxa).trans qa3,
                                  (hb.cell (p := ⟨ga, k * 4 + 3, none⟩) lxa).trans qa4,
                                  (hb.cell (p := ⟨W0, 0, none⟩) lx0).trans q5,
                                  (hb.cell (p := ⟨W0, 1, none⟩) lx0).trans q6,
                                  (hb.cell (p := ⟨W0, 2, none⟩) lx0).trans q7,
                                  (hb.cell (p := ⟨W0, 3, none⟩) lx0).trans q8,
                                  (hb.cell (p := ⟨g8, i, none⟩) lx8).trans qa9⟩
                              have HK := Lib.hid hkeep
                              have HBWY := Lib.hid hbwy
                              have hb0 : Below wy.drew.heap.size wy.drew wy.drew := Below.refl _ _
                              clear hwy hgs hgs' hbwy hbs hkeep q0 qa1 qa2 qa3 qa4 q5 q6 q7 q8 qa9 x0 x8 x10 xa lx0 lx8 lx10 lxa HQ y0 y1 y2 y3 y4 y5 y6 y7 y8 y9 f5 f6 f7 f8 ne1 ne2 ne3
                              refine wp_region_K 30 (fun w' => w'.cell? ⟨g10, i, none⟩ = some (.slice (some ⟨ga, 0, none⟩) n5 c4) ∧ w'.cell? ⟨ga, k * 4, none⟩ = some (.int .i64 (100 + n8)) ∧ w'.cell? ⟨ga, k * 4 + 1, none⟩ = some (.string ⟨#[109, 97, 114, 107]⟩) ∧ w'.cell? ⟨ga, k * 4 + 2, none⟩ = some (.int .i64 n8) ∧ w'.cell? ⟨ga, k * 4 + 3, none⟩ = some (.int .i64 (-n8)) ∧ w'.cell? ⟨W0, 0, none⟩ = some (.int .i64 (100 + n8)) ∧ w'.cell? ⟨W0, 1, none⟩ = some (.string ⟨#[109, 97, 114, 107]⟩) ∧ w'.cell? ⟨W0, 2, none⟩ = some (.int .i64 n8) ∧ w'.cell? ⟨W0, 3, none⟩ = some (.int .i64 (-n8)) ∧ w'.cell? ⟨g8, i, none⟩ = some (.slice A3 m c3)) (by kernel_rfl) (fun hcl => ?_)
                              have hS : (fun w' : World => w'.cell? ⟨g10, i, none⟩ = some (.slice (some ⟨ga, 0, none⟩) n5 c4) ∧ w'.cell? ⟨ga, k * 4, none⟩ = some (.int .i64 (100 + n8)) ∧ w'.cell? ⟨ga, k * 4 + 1, none⟩ = some (.string ⟨#[109, 97, 114, 107]⟩) ∧ w'.cell? ⟨ga, k * 4 + 2, none⟩ = some (.int .i64 n8) ∧ w'.cell? ⟨ga, k * 4 + 3, none⟩ = some (.int .i64 (-n8)) ∧ w'.cell? ⟨W0, 0, none⟩ = some (.int .i64 (100 + n8)) ∧ w'.cell? ⟨W0, 1, none⟩ = some (.string ⟨#[109, 97, 114, 107]⟩) ∧ w'.cell? ⟨W0, 2, none⟩ = some (.int .i64 n8) ∧ w'.cell? ⟨W0, 3, none⟩ = some (.int .i64 (-n8)) ∧ w'.cell? ⟨g8, i, none⟩ = some (.slice A3 m c3)) wy.drew := hS10
                              refine wpAnyK_take (i := 0) (v := ?_) hcl hS rfl (by kernel_rfl) (fun _ _ _ h => h) (by rfl) ?_ (fun hcl2 => ?_)
                              rotate_left
                              · (intro w hSw; (try dsimp only at hSw); first | (go_simp; done) | (go_simp; with_reducible rfl))
                              (try simp only [List.getElem_toArray, List.getElem_cons_succ, List.getElem_cons_zero])
                              (try simp only [Act.put, List.setIfInBounds_toArray, List.set_cons_zero, List.set_cons_succ])
                              clear hcl; have hcl := hcl2; clear hcl2
                              refine wpAnyK_take (i := 1) (v := ?_) hcl hS rfl (by kernel_rfl) (fun _ _ _ h => h) (by rfl) ?_ (fun hcl2 => ?_)
                              rotate_left
                              · (intro w hSw; (try dsimp only at hSw); first | (go_simp; done) | (go_simp; with_reducible rfl))
                              (try simp only [List.getElem_toArray, List.getElem_cons_succ, List.getElem_cons_zero])
                              (try simp only [Act.put, List.setIfInBounds_toArray, List.set_cons_zero, List.set_cons_succ])
                              clear hcl; have hcl := hcl2; clear hcl2
                              refine wpAnyK_take (i := 2) (v := ?_) hcl hS rfl (by kernel_rfl) (fun _ _ _ h => h) (by rfl) ?_ (fun hcl2 => ?_)
                              rotate_left
                              · (intro w hSw; (try dsimp only at hSw); first | (go_simp; done) | (go_simp; with_reducible rfl))
                              (try simp only [List.getElem_toArray, List.getElem_cons_succ, List.getElem_cons_zero])
                              (try simp only [Act.put, List.setIfInBounds_toArray, List.set_cons_zero, List.set_cons_succ])
                              clear hcl; have hcl := hcl2; clear hcl2
                              refine wpAnyK_take (i := 3) (v := ?_) hcl hS rfl (by kernel_rfl) (fun _ _ _ h => h) (by rfl) ?_ (fun hcl2 => ?_)
                              rotate_left
                              · (intro w hSw; (try dsimp only at hSw); first | (go_simp; done) | (go_simp; with_reducible rfl))
                              (try simp only [List.getElem_toArray, List.getElem_cons_succ, List.getElem_cons_zero])
                              (try simp only [Act.put, List.setIfInBounds_toArray, List.set_cons_zero, List.set_cons_succ])
                              clear hcl; have hcl := hcl2; clear hcl2
                              refine wpAnyK_take (i := 4) (v := ?_) hcl hS rfl (by kernel_rfl) (fun _ _ _ h => h) (by rfl) ?_ (fun hcl2 => ?_)
                              rotate_left
                              · (intro w hSw; (try dsimp only at hSw); first | (go_simp; done) | (go_simp; with_reducible rfl))
                              (try simp only [List.getElem_toArray, List.getElem_cons_succ, List.getElem_cons_zero])
                              (try simp only [Act.put, List.setIfInBounds_toArray, List.set_cons_zero, List.set_cons_succ])
                              clear hcl; have hcl := hcl2; clear hcl2
                              refine wpAnyK_take (i := 5) (v := ?_) hcl hS rfl (by kernel_rfl) (fun _ _ _ h => h) (by rfl) ?_ (fun hcl2 => ?_)
                              rotate_left
                              · (intro w hSw; (try dsimp only at hSw); first | (go_simp; done) | (go_simp; with_reducible rfl))
                              (try simp only [List.getElem_toArray, List.getElem_cons_succ, List.getElem_cons_zero])
                              (try simp only [Act.put, List.setIfInBounds_toArray, List.set_cons_zero, List.set_cons_succ])
                              clear hcl; have hcl := hcl2; clear hcl2
                              refine wpAnyK_take (i := 6) (v := ?_) hcl hS rfl (by kernel_rfl) (fun _ _ _ h => h) (by rfl) ?_ (fun hcl2 => ?_)
                              rotate_left
                              · (intro w hSw; (try dsimp only at hSw); first | (go_simp; done) | (go_simp; with_reducible rfl))
                              (try simp only [List.getElem_toArray, List.getElem_cons_succ, List.getElem_cons_zero])
                              (try simp only [Act.put, List.setIfInBounds_toArray, List.set_cons_zero, List.set_cons_succ])
                              clear hcl; have hcl := hcl2; clear hcl2
                              refine wpAnyK_take (i := 7) (v := ?_) hcl hS rfl (by kernel_rfl) (fun _ _ _ h => h) (by rfl) ?_ (fun hcl2 => ?_)
                              rotate_left
                              · (intro w hSw; (try dsimp only at hSw); first | (go_simp; done) | (go_simp; with_reducible rfl))
                              (try simp only [List.getElem_toArray, List.getElem_cons_succ, List.getElem_cons_zero])
                              (try simp only [Act.put, List.setIfInBounds_toArray, List.set_cons_zero, List.set_cons_succ])
                              clear hcl; have hcl := hcl2; clear hcl2
                              clear hS tok1 hS10
                              refine wpAnyK_one (i := 8) hcl (by kernel_rfl) rfl (by rfl) (fun K hK => ?_)
                              go_simp
                              go_at_call 7
                              refine (same_refl _ _ _ _ _).mono ?_
                              rintro e wd ⟨rfl, hbd'⟩
                              refine hK.out _ _ (Or.inr (HK.out wd hbd')) (fun hcl2 => ?_)
                              clear hK K hcl
                              have hcl := hcl2
                              clear hcl2
                              have hS : (fun w' : World => w'.cell? ⟨g10, i, none⟩ = some (.slice (some ⟨ga, 0, none⟩) n5 c4) ∧ w'.cell? ⟨ga, k * 4, none⟩ = some (.int .i64 (100 + n8)) ∧ w'.cell? ⟨ga, k * 4 + 1, none⟩ = some (.string ⟨#[109, 97, 114, 107]⟩) ∧ w'.cell? ⟨ga, k * 4 + 2, none⟩ = some (.int .i64 n8) ∧ w'.cell? ⟨ga, k * 4 + 3, none⟩ = some (.int .i64 (-n8)) ∧ w'.cell? ⟨W0, 0, none⟩ = some (.int .i64 (100 + n8)) ∧ w'.cell? ⟨W0, 1, none⟩ = some (.string ⟨#[109, 97, 114, 107]⟩) ∧ w'.cell? ⟨W0, 2, none⟩ = some (.int .i64 n8) ∧ w'.cell? ⟨W0, 3, none⟩ = some (.int .i64 (-n8)) ∧ w'.cell? ⟨g8, i, none⟩ = some (.slice A3 m c3)) wd := HK.out wd hbd'
                              (try simp only [Act.put, List.setIfInBounds_toArray, List.set_cons_zero, List.set_cons_succ])
                              (try simp only [List.getElem_toArray, List.getElem_cons_succ, List.getElem_cons_zero])
                              (try simp only [Act.put, List.setIfInBounds_toArray, List.set_cons_zero, List.set_cons_succ])
                              refine wpAnyK_take (i := 9) (v := ?_) hcl hS rfl (by kernel_rfl) (fun _ _ _ h => h) (by rfl) ?_ (fun hcl2 => ?_)
                              rotate_left
                              · (intro w hSw; (try dsimp only at hSw); first | (go_simp; done) | (go_simp; with_reducible rfl))
                              (try simp only [List.getElem_toArray, List.getElem_cons_succ, List.getElem_cons_zero])
                              (try simp only [Act.put, List.setIfInBounds_toArray, List.set_cons_zero, List.set_cons_succ])
                              clear hcl; have hcl := hcl2; clear hcl2
                              refine wpAnyK_take (i := 10) (v := ?_) hcl hS rfl (by kernel_rfl) (fun _ _ _ h => h) (by rfl) ?_ (fun hcl2 => ?_)
                              rotate_left
                              · (intro w hSw; (try dsimp only at hSw); first | (go_simp; done) | (go_simp; with_reducible rfl))
                              (try simp only [List.getElem_toArray, List.getElem_cons_succ, List.getElem_cons_zero])
                              (try simp only [Act.put, List.setIfInBounds_toArray, List.set_cons_zero, List.set_cons_succ])
                              clear hcl; have hcl := hcl2; clear hcl2
                              refine wpAnyK_take (i := 11) (v := ?_) hcl hS rfl (by kernel_rfl) (fun _ _ _ h => h) (by rfl) ?_ (fun hcl2 => ?_)
                              rotate_left
                              · (intro w hSw; (try dsimp only at hSw); first | (go_simp; done) | (go_simp; with_reducible rfl))
                              (try simp only [List.getElem_toArray, List.getElem_cons_succ, List.getElem_cons_zero])
                              (try simp only [Act.put, List.setIfInBounds_toArray, List.set_cons_zero, List.set_cons_succ])
                              clear hcl; have hcl := hcl2; clear hcl2
                              refine wpAnyK_take (i := 12) (v := ?_) hcl hS rfl (by kernel_rfl) (fun _ _ _ h => h) (by rfl) ?_ (fun hcl2 => ?_)
                              rotate_left
                              · (intro w hSw; (try dsimp only at hSw); first | (go_simp; done) | (go_simp; with_reducible rfl))
                              (try simp only [List.getElem_toArray, List.getElem_cons_succ, List.getElem_cons_zero])
                              (try simp only [Act.put, List.setIfInBounds_toArray, List.set_cons_zero, List.set_cons_succ])
                              clear hcl; have hcl := hcl2; clear hcl2
                              refine wpAnyK_take (i := 13) (v := ?_) hcl hS rfl (by kernel_rfl) (fun _ _ _ h => h) (by rfl) ?_ (fun hcl2 => ?_)
                              rotate_left
                              · (intro w hSw; (try dsimp only at hSw); first | (go_simp; done) | (go_simp; with_reducible rfl))
                              (try simp only [List.getElem_toArray, List.getElem_cons_succ, List.getElem_cons_zero])
                              (try simp only [Act.put, List.setIfInBounds_toArray, List.set_cons_zero, List.set_cons_succ])
                              clear hcl; have hcl := hcl2; clear hcl2
                              refine wpAnyK_take (i := 14) (v := ?_) hcl hS rfl (by kernel_rfl) (fun _ _ _ h => h) (by rfl) ?_ (fun hcl2 => ?_)
                              rotate_left
                              · (intro w hSw; (try dsimp only at hSw); first | (go_simp; done) | (go_simp; with_reducible rfl))
                              (try simp only [List.getElem_toArray, List.getElem_cons_succ, List.getElem_cons_zero])
                              (try simp only [Act.put, List.setIfInBounds_toArray, List.set_cons_zero, List.set_cons_succ])
                              clear hcl; have hcl := hcl2; clear hcl2
                              refine wpAnyK_take (i := 15) (v := ?_) hcl hS rfl (by kernel_rfl) (fun _ _ _ h => h) (by rfl) ?_ (fun hcl2 => ?_)
                              rotate_left
                              · (intro w hSw; (try dsimp only at hSw); first | (go_simp; done) | (go_simp; with_reducible rfl))
                              (try simp only [List.getElem_toArray, List.getElem_cons_succ, List.getElem_cons_zero])
                              (try simp only [Act.put, List.setIfInBounds_toArray, List.set_cons_zero, List.set_cons_succ])
                              clear hcl; have hcl := hcl2; clear hcl2
                              refine wpAnyK_take (i := 16) (v := ?_) hcl hS rfl (by kernel_rfl) (fun _ _ _ h => h) (by rfl) ?_ (fun hcl2 => ?_)
                              rotate_left
                              · (intro w hSw; (try dsimp only at hSw); first | (go_simp; done) | (go_simp; with_reducible rfl))
                              (try simp only [List.getElem_toArray, List.getElem_cons_succ, List.getElem_cons_zero])
                              (try simp only [Act.put, List.setIfInBounds_toArray, List.set_cons_zero, List.set_cons_succ])
                              clear hcl; have hcl := hcl2; clear hcl2
                              refine wpAnyK_take (i := 17) (v := ?_) hcl hS rfl (by kernel_rfl) (fun _ _ _ h => h) (by rfl) ?_ (fun hcl2 => ?_)
                              rotate_left
                              · (intro w hSw; (try dsimp only at hSw); first | (go_simp; done) | (go_simp; with_reducible rfl))
                              (try simp only [List.getElem_toArray, List.getElem_cons_succ, List.getElem_cons_zero])
                              (try simp only [Act.put, List.setIfInBounds_toArray, List.set_cons_zero, List.set_cons_succ])
                              clear hcl; have hcl := hcl2; clear hcl2
                              refine wpAnyK_take (i := 18) (v := ?_) hcl hS rfl (by kernel_rfl) (fun _ _ _ h => h) (by rfl) ?_ (fun hcl2 => ?_)
                              rotate_left
                              · (intro w hSw; (try dsimp only at hSw); first | (go_simp; done) | (go_simp; with_reducible rfl))
                              (try simp only [List.getElem_toArray, List.getElem_cons_succ, List.getElem_cons_zero])
                              (try simp only [Act.put, List.setIfInBounds_toArray, List.set_cons_zero, List.set_cons_succ])
                              clear hcl; have hcl := hcl2; clear hcl2
                              refine wpAnyK_pass (i := 19) hcl hS rfl (by kernel_rfl) (fun _ _ _ h => h) (by rfl) (fun hcl2 => ?_)
                              (try simp only [List.getElem_toArray, List.getElem_cons_succ, List.getElem_cons_zero])
                              (try simp only [Act.put, List.setIfInBounds_toArray, List.set_cons_zero, List.set_cons_succ])
                              clear hcl; have hcl := hcl2; clear hcl2
                              refine wpAnyK_pass (i := 20) hcl hS rfl (by kernel_rfl) (fun _ _ _ h => h) (by rfl) (fun hcl2 => ?_)
                              (try simp only [List.getElem_toArray, List.getElem_cons_succ, List.getElem_cons_zero])
                              (try simp only [Act.put, List.setIfInBounds_toArray, List.set_cons_zero, List.set_cons_succ])
                              clear hcl; have hcl := hcl2; clear hcl2
                              refine wpAnyK_pass (i := 21) hcl hS rfl (by kernel_rfl) (fun _ _ _ h => h) (by rfl) (fun hcl2 => ?_)
                              (try simp only [List.getElem_toArray, List.getElem_cons_succ, List.getElem_cons_zero])
                              (try simp only [Act.put, List.setIfInBounds_toArray, List.set_cons_zero, List.set_cons_succ])
                              clear hcl; have hcl := hcl2; clear hcl2
                              refine wpAnyK_pass (i := 22) hcl hS rfl (by kernel_rfl) (fun _ _ _ h => h) (by rfl) (fun hcl2 => ?_)
                              (try simp only [List.getElem_toArray, List.getElem_cons_succ, List.getElem_cons_zero])
                              (try simp only [Act.put, List.setIfInBounds_toArray, List.set_cons_zero, List.set_cons_succ])
                              clear hcl; have hcl := hcl2; clear hcl2
                              refine wpAnyK_pass (i := 23) hcl hS rfl (by kernel_rfl) (fun _ _ _ h => h) (by rfl) (fun hcl2 => ?_)
                              (try simp only [List.getElem_toArray, List.getElem_cons_succ, List.getElem_cons_zero])
                              (try simp only [Act.put, List.setIfInBounds_toArray, List.set_cons_zero, List.set_cons_succ])
                              clear hcl; have hcl := hcl2; clear hcl2
                              refine wpAnyK_pass (i := 24) hcl hS rfl (by kernel_rfl) (fun _ _ _ h => h) (by rfl) (fun hcl2 => ?_)
                              (try simp only [List.getElem_toArray, List.getElem_cons_succ, List.getElem_cons_zero])
                              (try simp only [Act.put, List.setIfInBounds_toArray, List.set_cons_zero, List.set_cons_succ])
                              clear hcl; have hcl := hcl2; clear hcl2
                              refine wpAnyK_pass (i := 25) hcl hS rfl (by kernel_rfl) (fun _ _ _ h => h) (by rfl) (fun hcl2 => ?_)
                              (try simp only [List.getElem_toArray, List.getElem_cons_succ, List.getElem_cons_zero])
                              (try simp only [Act.put, List.setIfInBounds_toArray, List.set_cons_zero, List.set_cons_succ])
                              clear hcl; have hcl := hcl2; clear hcl2
                              refine wpAnyK_pass (i := 26) hcl hS rfl (by kernel_rfl) (fun _ _ _ h => h) (by rfl) (fun hcl2 => ?_)
                              (try simp only [List.getElem_toArray, List.getElem_cons_succ, List.getElem_cons_zero])
                              (try simp only [Act.put, List.setIfInBounds_toArray, List.set_cons_zero, List.set_cons_succ])
                              clear hcl; have hcl := hcl2; clear hcl2
                              refine wpAnyK_pass (i := 27) hcl hS rfl (by kernel_rfl) (fun _ _ _ h => h) (by rfl) (fun hcl2 => ?_)
                              (try simp only [List.getElem_toArray, List.getElem_cons_succ, List.getElem_cons_zero])
                              (try simp only [Act.put, List.setIfInBounds_toArray, List.set_cons_zero, List.set_cons_succ])
                              clear hcl; have hcl := hcl2; clear hcl2
                              refine wpAnyK_pass (i := 28) hcl hS rfl (by kernel_rfl) (fun _ _ _ h => h) (by rfl) (fun hcl2 => ?_)
                              (try simp only [List.getElem_toArray, List.getElem_cons_succ, List.getElem_cons_zero])
                              (try simp only [Act.put, List.setIfInBounds_toArray, List.set_cons_zero, List.set_cons_succ])
                              clear hcl; have hcl := hcl2; clear hcl2
                              refine wpAnyK_take (i := 29) (v := ?_) hcl hS rfl (by kernel_rfl) (fun _ _ _ h => h) (by rfl) ?_ (fun hcl2 => ?_)
                              rotate_left
                              · (intro w hSw; (try dsimp only at hSw); first | (go_simp; done) | (go_simp; with_reducible rfl))
                              (try simp only [List.getElem_toArray, List.getElem_cons_succ, List.getElem_cons_zero])
                              (try simp only [Act.put, List.setIfInBounds_toArray, List.set_cons_zero, List.set_cons_succ])
                              clear hcl; have hcl := hcl2; clear hcl2
                              refine wpAnyK_one (i := 30) hcl (by kernel_rfl) rfl (by rfl) (fun K hK => ?_)
                              go_simp
                              refine hK.out _ _ (Or.inl (by kernel_rfl)) (fun hcl2 => ?_)
                              clear hK K hcl hcl2 hS
                              refine wpAnyK_done (by kernel_rfl) ?_ _
                              go_wp2
                              have hbz : Below wr.heap.size wr wd := HBWY.out.drew.trans (hbd'.mono HBWY.out.drew.size)
                              go_roundw
                              case rel => exact ⟨k + 1, by rfl, HKN.out, HB11.out.trans (hbz.mono HB11.out.size), HF11.out.below hbz⟩
                              case measure => have := HKN.out; simp [intOf]; omega
                          · have p1 : decide ((k : Int) < (n5 : Int)) = false := decide_eq_false (by omega)
                            have p2 : decide (k < n5) = false := decide_eq_false hkn
                            have z4 : IntKind.i64.wrap ((i : Int) + 1) = (i : Int) + 1 := by rw [IntKind.wrap_i64]; omega
                            clear hb hf hk htl hi80 hn5
                            go_wp2_with fail
                            go_roundw
                            case rel => exact ⟨i + 1, by rfl, HIM.out, HB11.out, HF11.out⟩
                            case measure => have := HIM.out; simp [intOf]; omega
                      · have hiM : M = i := by omega
                        subst hiM
                        have q2 : decide ((M : Int) < 2 * (N : Int)) = false := decide_eq_false (by omega)
                        clear hb hf hi hlt hM
                        go_wp2_with fail
                        go_loopw [27] (fun v27 wr6 => ∃ i : Nat, v27 = .int .i64 (i : Int) ∧ i ≤ N ∧ Below w.heap.size w wr6 ∧ Fam wr6 w.heap.size (.vals u8 l1 :: .vals u9 l2 :: .vals u10 l3 :: L2)) (fun v27 _ => N - (intOf v27).toNat)
                        case atStart => exact ⟨0, rfl, Nat.zero_le _, HB10.out, HF10.out⟩
                        case round =>
                          obtain ⟨i, rfl, hi, hb, hf⟩ := hrel
                          have HB12 := Lib.hid hb
                          have HF12 := Lib.hid hf
                          have i0 : (0 : Int) ≤ (i : Int) := by omega
                          have hM := HM2.out
                          by_cases hlt : i < N
                          · have q2 : decide ((i : Int) < (N : Int)) = true := decide_eq_true (by omega)
                            have q3 : decide (i < N) = true := decide_eq_true hlt
                            have q4 : (i : Int) < (N : Int) := by omega
                            obtain ⟨h9, a3, a4⟩ := hp4.out.2.2.2.2.1 i (by omega)
                            obtain ⟨g9, c9, e9⟩ := vrow_form (show VRow wr w.heap.size u9 l2 from hf.1 1 _ rfl) (by rw [hp4.out.2.2.1]; omega)
                            rw [hp4.out.2.2.1] at e9
                            subst e9
                            obtain ⟨s, hs⟩ : ∃ s, ss[i]? = some s := ⟨_, List.getElem?_eq_getElem (by rw [HN.out]; omega)⟩
                            have hT : TT ss N i = tks s := by unfold TT; rw [Nat.mod_eq_of_lt hlt, List.getD_eq_getElem?_getD, hs]; rfl
                            have HSC := Lib.hid (scan_new s wr (HG.out.below hb) (HS.out s (List.mem_of_getElem? hs)))
                            obtain ⟨G, O, rfl, hG, c0⟩ := (HV.out.below hb (Nat.le_refl _)) _ s hs
                            have htl := tks_len s
                            obtain ⟨m, hm⟩ : ∃ m, (tks s).length = m := ⟨_, rfl⟩
                            rw [hT, hm] at a3 a4
                            rw [hm] at htl
                            have HA3 := Lib.hid a3
                            have HA4 := Lib.hid a4
                            have HM3 := Lib.hid hm
                            have HTL := Lib.hid htl
                            have z1 : IntKind.i64.wrap ((i : Int) + 1) = (i : Int) + 1 := by rw [IntKind.wrap_i64]; omega
                            have HIN := Lib.hid (show i + 1 ≤ N by omega)
                            have HP9 := Lib.hid (show (i : Nat) < M by omega)
                            clear hb hf hi hM a3 a4 hs hT htl hm
                            go_wp2_with fail
                            refine HSC.out.mono ?_
                            rintro e w1 ⟨A2, c2, x1, x2, x3, rfl, ht1, hb1⟩
                            rw [HM3.out] at ht1 ⊢
                            have hf1 := HF12.out.below hb1
                            have k2 : w1.cell? ⟨g9, i, none⟩ = some (.slice (some ⟨h9, 0, none⟩) m m) := vrow_at (hf1.1 1 _ rfl) HA3.out
                            have HSA := Lib.hid (law3_sameAllZ A2 (some ⟨h9, 0, none⟩) c2 m m (tks s) w1 HM3.out (by have := HTL.out; omega) (trow_view ht1) (trow_view (hf1.1 (2 * i + 1 + 3) _ HA4.out)))
                            have HB1' := Lib.hid hb1
                            clear hf1 ht1 hb1 HSC
                            go_wp2_with fail
                            refine HSA.out.mono ?_
                            rintro e w2 ⟨rfl, hb2⟩
                            have hbz := HB1'.out.trans (hb2.mono HB1'.out.size)
                            have HBZ := Lib.hid hbz
                            clear hb2 hbz
                            go_wp2_with fail
                            go_roundw
                            case rel => exact ⟨i + 1, by rfl, HIN.out, HB12.out.trans (HBZ.out.mono HB12.out.size), HF12.out.below HBZ.out⟩
                            case measure => have := HIN.out; simp [intOf]; omega
                          · have q2 : decide ((i : Int) < (N : Int)) = false := decide_eq_false (by omega)
                            have q3 : decide (i < N) = false := decide_eq_false hlt
                            clear hb hf hi hM hlt
                            go_wp2_with fail
                            go_ret
                            exact ⟨rfl, HB12.out⟩
end Go.Proofs.YtgikgppblkpojaaDoor
