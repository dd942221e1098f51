/-
  THE WALK of reachlaw3.placed (chapter 3).
-/
import Derived.Test.YtjedoipbllcfdaaGreatDoorLd
set_option linter.unusedVariables false
set_option linter.unusedSimpArgs false
set_option maxRecDepth 100000
set_option maxHeartbeats 4000000
namespace Go.Proofs.YtjedoipbllcfdaaGreatDoor
open Go.RowKit

theorem ext_mid (s : ByteArray) (a b : Nat) : (s.extract a b).data.toList = (s.data.toList.take b).drop a := by
  rw [Lib.extract_data, List.drop_take]

theorem ba_ext {a b : ByteArray} (h : a.data.toList = b.data.toList) : a = b := by
  cases a
  cases b
  congr 1
  exact Array.toList_inj.1 h

theorem Below_drewN {B : Nat} {a w : World} (h : Below B a w) (n : Nat) : Below B a (w.drewN n) := ⟨h.os, h.tape, h.output, h.size, h.block⟩

theorem law3_placed (s : ByteArray) (A : Option Addr) (cap n : Nat) (ts : List Sp.Tok) (w : World) (hs : s.size ≤ 1073741823) (hn : ts.length = n) (hnb : n ≤ 1073741824) (hv : View w w.heap.size A ts) (hp : Sp.Pl s.data.toList none 0 0 1 1 ts) :
    Calls Tryz.prog 15 #[.string s, .slice A n cap] w fun e w' => e = .returned (.bool true) ∧ Below w.heap.size w w' := by
  have HSL := Lib.hid (Lib.size_eq s)
  have HN := Lib.hid hn
  have HV := Lib.hid hv
  have HP := Lib.hid hp
  clear hn hv hp
  go_enter Tryz.func15, Tryz.ntmps15
  go_wp2
  go_loopw [5, 7, 8] (fun v5 v7 _ wr => ∃ (i fr at_ sl sc : Nat) (pl : Option Nat), v5 = .int .i64 (fr : Int) ∧ v7 = .int .i64 (i : Int) ∧ i ≤ n ∧ fr ≤ s.size ∧ at_ ≤ s.size ∧ sl ≤ at_ + 1 ∧ sc ≤ at_ + 1 ∧ Blk wr w.heap.size 55 #[.int .i64 (at_ : Nat), .int .i64 (sl : Nat), .int .i64 (sc : Nat)] ∧ Below w.heap.size w wr ∧ Hid (Sp.Pl s.data.toList pl fr at_ sl sc (ts.drop i) ∧ pl = if i = 0 then none else (ts[i - 1]?).map (fun t => t.2.2.1))) (fun _ v7 _ _ => n - (intOf v7).toNat)
  case atStart => exact ⟨0, 0, 0, 1, 1, none, rfl, rfl, by omega, by omega, by omega, by omega, by omega, Blk.new w _ _, (Below.refl _ _).alloc (Nat.le_refl _) _, by rw [List.drop_zero]; exact HP.out, by rw [if_pos rfl]⟩
  case round =>
    obtain ⟨i, fr, at_, sl, sc, pl, rfl, rfl, hi, hfr, hat, hsl, hsc, hblk, hbw, HL⟩ := hrel
    by_cases hlt : i < n
    · have q0 : decide ((i : Int) < n) = true := decide_eq_true (by omega)
      have p0 : (i : Int) < n := by omega
      have p1 : (0 : Int) ≤ (i : Int) := by omega
      have hilt : i < ts.length := by rw [HN.out]; exact hlt
      obtain ⟨hpl, hpv⟩ := HL.out
      rw [List.drop_eq_getElem_cons hilt] at hpl
      obtain ⟨t, ht⟩ : ∃ t, ts[i]'hilt = t := ⟨_, rfl⟩
      have htg : ts[i]? = some t := by rw [List.getElem?_eq_getElem hilt, ht]
      rw [ht] at hpl
      obtain ⟨k, x, ln, cl⟩ := t
      obtain ⟨d, fr', h1, h2, h2', h3, h4, h5, h6, h7, hr⟩ := hpl.inv
      rw [← HSL.out] at h2' h5 h6 h7
      obtain ⟨g, rfl, hg, a0, a1, a2, a3⟩ := HV.out i _ htg
      simp only [] at a0 a1 a2 a3
      obtain ⟨X, hX⟩ : ∃ X : ByteArray, (⟨x.toArray⟩ : ByteArray) = X := ⟨_, rfl⟩
      have hX' := hX
      have hXl : X.data.toList = x := by rw [← hX]
      rw [hX] at a1
      have hbd := h1.bnd
      have hseek := fun W => law3_seek s at_ sl sc d ln cl W (by omega) hat (by omega) (by omega) h1
      have t0 : wr.cell? ⟨g, i * 4, none⟩ = some (.int .i64 (k : Nat)) := (hbw.cell (p := ⟨g, i * 4, none⟩) hg).trans a0
      have t1 : wr.cell? ⟨g, i * 4 + 1, none⟩ = some (.string X) := (hbw.cell (p := ⟨g, i * 4 + 1, none⟩) hg).trans a1
      have t2 : wr.cell? ⟨g, i * 4 + 2, none⟩ = some (.int .i64 (ln : Nat)) := (hbw.cell (p := ⟨g, i * 4 + 2, none⟩) hg).trans a2
      have t3 : wr.cell? ⟨g, i * 4 + 3, none⟩ = some (.int .i64 (cl : Nat)) := (hbw.cell (p := ⟨g, i * 4 + 3, none⟩) hg).trans a3
      have hgS : g ≠ w.heap.size := by omega
      have hS0 : wr.cell? ⟨w.heap.size, 0, none⟩ = some (.int .i64 (at_ : Nat)) ∧ wr.cell? ⟨w.heap.size, 1, none⟩ = some (.int .i64 (sl : Nat)) ∧ wr.cell? ⟨w.heap.size, 2, none⟩ = some (.int .i64 (sc : Nat)) ∧ wr.cell? ⟨g, i * 4 + 2, none⟩ = some (.int .i64 (ln : Nat)) ∧ wr.cell? ⟨g, i * 4 + 3, none⟩ = some (.int .i64 (cl : Nat)) := ⟨hblk.cell 0, hblk.cell 1, hblk.cell 2, t2, t3⟩
      have HA4 : Hid (w.cell? ⟨g, i * 4, none⟩ = some (.int .i64 (k : Nat)) ∧ w.cell? ⟨g, i * 4 + 1, none⟩ = some (.string X) ∧ w.cell? ⟨g, i * 4 + 2, none⟩ = some (.int .i64 (ln : Nat)) ∧ w.cell? ⟨g, i * 4 + 3, none⟩ = some (.int .i64 (cl : Nat))) := ⟨a0, a1, a2, a3⟩
      have HSK := Lib.hid hseek
      have HBLK := Lib.hid hblk
      have HBW := Lib.hid hbw
      clear hseek hblk hbw HL hpl ht a0 a1 a2 a3 hX
      go_wp2_with fail
      refine wp_region_K 13 (fun w' => w'.cell? ⟨w.heap.size, 0, none⟩ = some (.int .i64 (at_ : Nat)) ∧ w'.cell? ⟨w.heap.size, 1, none⟩ = some (.int .i64 (sl : Nat)) ∧ w'.cell? ⟨w.heap.size, 2, none⟩ = some (.int .i64 (sc : Nat)) ∧ w'.cell? ⟨g, i * 4 + 2, none⟩ = some (.int .i64 (ln : Nat)) ∧ w'.cell? ⟨g, i * 4 + 3, none⟩ = some (.int .i64 (cl : Nat))) (by kernel_rfl) (fun hcl => ?_)
      have hS : (fun w' : World => w'.cell? ⟨w.heap.size, 0, none⟩ = some (.int .i64 (at_ : Nat)) ∧ w'.cell? ⟨w.heap.size, 1, none⟩ = some (.int .i64 (sl : Nat)) ∧ w'.cell? ⟨w.heap.size, 2, none⟩ = some (.int .i64 (sc : Nat)) ∧ w'.cell? ⟨g, i * 4 + 2, none⟩ = some (.int .i64 (ln : Nat)) ∧ w'.cell? ⟨g, i * 4 + 3, none⟩ = some (.int .i64 (cl : Nat))) wr.drew := hS0
      refine wpAnyK_take (i := 0) (v := ?_) hcl hS rfl (by kernel_rfl) (fun _ _ _ h => h) (by rfl) ?_ (fun hcl2 => ?_)
      rotate_left
      · (intro w hSw; (try dsimp only at hSw); first | (go_simp; done) | (go_simp; with_reducible rfl))
      (try simp only [Act.put, List.setIfInBounds_toArray, List.set_cons_zero, List.set_cons_succ])
      clear hcl; have hcl := hcl2; clear hcl2
      refine wpAnyK_take (i := 1) (v := ?_) hcl hS rfl (by kernel_rfl) (fun _ _ _ h => h) (by rfl) ?_ (fun hcl2 => ?_)
      rotate_left
      · (intro w hSw; (try dsimp only at hSw); first | (go_simp; done) | (go_simp; with_reducible rfl))
      (try simp only [Act.put, List.setIfInBounds_toArray, List.set_cons_zero, List.set_cons_succ])
      clear hcl; have hcl := hcl2; clear hcl2
      refine wpAnyK_take (i := 2) (v := ?_) hcl hS rfl (by kernel_rfl) (fun _ _ _ h => h) (by rfl) ?_ (fun hcl2 => ?_)
      rotate_left
      · (intro w hSw; (try dsimp only at hSw); first | (go_simp; done) | (go_simp; with_reducible rfl))
      (try simp only [Act.put, List.setIfInBounds_toArray, List.set_cons_zero, List.set_cons_succ])
      clear hcl; have hcl := hcl2; clear hcl2
      refine wpAnyK_take (i := 3) (v := ?_) hcl hS rfl (by kernel_rfl) (fun _ _ _ h => h) (by rfl) ?_ (fun hcl2 => ?_)
      rotate_left
      · (intro w hSw; (try dsimp only at hSw); first | (go_simp; done) | (go_simp; with_reducible rfl))
      (try simp only [Act.put, List.setIfInBounds_toArray, List.set_cons_zero, List.set_cons_succ])
      clear hcl; have hcl := hcl2; clear hcl2
      refine wpAnyK_take (i := 4) (v := ?_) hcl hS rfl (by kernel_rfl) (fun _ _ _ h => h) (by rfl) ?_ (fun hcl2 => ?_)
      rotate_left
      · (intro w hSw; (try dsimp only at hSw); first | (go_simp; done) | (go_simp; with_reducible rfl))
      (try simp only [Act.put, List.setIfInBounds_toArray, List.set_cons_zero, List.set_cons_succ])
      clear hcl; have hcl := hcl2; clear hcl2
      refine wpAnyK_take (i := 5) (v := ?_) hcl hS rfl (by kernel_rfl) (fun _ _ _ h => h) (by rfl) ?_ (fun hcl2 => ?_)
      rotate_left
      · (intro w hSw; (try dsimp only at hSw); first | (go_simp; done) | (go_simp; with_reducible rfl))
      (try simp only [Act.put, List.setIfInBounds_toArray, List.set_cons_zero, List.set_cons_succ])
      clear hcl; have hcl := hcl2; clear hcl2
      refine wpAnyK_take (i := 6) (v := ?_) hcl hS rfl (by kernel_rfl) (fun _ _ _ h => h) (by rfl) ?_ (fun hcl2 => ?_)
      rotate_left
      · (intro w hSw; (try dsimp only at hSw); first | (go_simp; done) | (go_simp; with_reducible rfl))
      (try simp only [Act.put, List.setIfInBounds_toArray, List.set_cons_zero, List.set_cons_succ])
      clear hcl; have hcl := hcl2; clear hcl2
      refine wpAnyK_take (i := 7) (v := ?_) hcl hS rfl (by kernel_rfl) (fun _ _ _ h => h) (by rfl) ?_ (fun hcl2 => ?_)
      rotate_left
      · (intro w hSw; (try dsimp only at hSw); first | (go_simp; done) | (go_simp; with_reducible rfl))
      (try simp only [Act.put, List.setIfInBounds_toArray, List.set_cons_zero, List.set_cons_succ])
      clear hcl; have hcl := hcl2; clear hcl2
      refine wpAnyK_take (i := 8) (v := ?_) hcl hS rfl (by kernel_rfl) (fun _ _ _ h => h) (by rfl) ?_ (fun hcl2 => ?_)
      rotate_left
      · (intro w hSw; (try dsimp only at hSw); first | (go_simp; done) | (go_simp; with_reducible rfl))
      (try simp only [Act.put, List.setIfInBounds_toArray, List.set_cons_zero, List.set_cons_succ])
      clear hcl; have hcl := hcl2; clear hcl2
      refine wpAnyK_take (i := 9) (v := ?_) hcl hS rfl (by kernel_rfl) (fun _ _ _ h => h) (by rfl) ?_ (fun hcl2 => ?_)
      rotate_left
      · (intro w hSw; (try dsimp only at hSw); first | (go_simp; done) | (go_simp; with_reducible rfl))
      (try simp only [Act.put, List.setIfInBounds_toArray, List.set_cons_zero, List.set_cons_succ])
      clear hcl; have hcl := hcl2; clear hcl2
      refine wpAnyK_take (i := 10) (v := ?_) hcl hS rfl (by kernel_rfl) (fun _ _ _ h => h) (by rfl) ?_ (fun hcl2 => ?_)
      rotate_left
      · (intro w hSw; (try dsimp only at hSw); first | (go_simp; done) | (go_simp; with_reducible rfl))
      (try simp only [Act.put, List.setIfInBounds_toArray, List.set_cons_zero, List.set_cons_succ])
      clear hcl; have hcl := hcl2; clear hcl2
      refine wpAnyK_take (i := 11) (v := ?_) hcl hS rfl (by kernel_rfl) (fun _ _ _ h => h) (by rfl) ?_ (fun hcl2 => ?_)
      rotate_left
      · (intro w hSw; (try dsimp only at hSw); first | (go_simp; done) | (go_simp; with_reducible rfl))
      (try simp only [Act.put, List.setIfInBounds_toArray, List.set_cons_zero, List.set_cons_succ])
      clear hcl; have hcl := hcl2; clear hcl2
      refine wpAnyK_one (i := 12) hcl (by kernel_rfl) rfl (by rfl) (fun K hK => ?_)
      go_simp
      (go_at_call 25; refine (HSK.out _).mono ?_; rintro e w5 ⟨rfl, hb5⟩)
      have hSlt := HBLK.out.lt
      have hgS' : g < wr.heap.size := by omega
      have hb5' : Below wr.heap.size wr w5 := ((Below.refl wr.heap.size wr).drew).trans hb5
      have hb5c := HBLK.out.below (w' := w5) (B := wr.heap.size) hb5' hSlt
      have hS1 : w5.cell? ⟨w.heap.size, 0, none⟩ = some (.int .i64 (at_ : Nat)) ∧ w5.cell? ⟨w.heap.size, 1, none⟩ = some (.int .i64 (sl : Nat)) ∧ w5.cell? ⟨w.heap.size, 2, none⟩ = some (.int .i64 (sc : Nat)) ∧ w5.cell? ⟨g, i * 4 + 2, none⟩ = some (.int .i64 (ln : Nat)) ∧ w5.cell? ⟨g, i * 4 + 3, none⟩ = some (.int .i64 (cl : Nat)) := ⟨hb5c.cell 0, hb5c.cell 1, hb5c.cell 2, (hb5'.cell (p := ⟨g, i * 4 + 2, none⟩) hgS').trans t2, (hb5'.cell (p := ⟨g, i * 4 + 3, none⟩) hgS').trans t3⟩
      have f0 := hb5c.frozen 0
      have f1 := hb5c.frozen 1
      have f2 := hb5c.frozen 2
      (try go_simp)
      refine hK.out _ _ (Or.inr hS1) (fun hcl2 => ?_)
      clear hK K hcl hS hS0
      have hcl := hcl2
      clear hcl2
      have hS : (fun w' : World => w'.cell? ⟨w.heap.size, 0, none⟩ = some (.int .i64 (at_ : Nat)) ∧ w'.cell? ⟨w.heap.size, 1, none⟩ = some (.int .i64 (sl : Nat)) ∧ w'.cell? ⟨w.heap.size, 2, none⟩ = some (.int .i64 (sc : Nat)) ∧ w'.cell? ⟨g, i * 4 + 2, none⟩ = some (.int .i64 (ln : Nat)) ∧ w'.cell? ⟨g, i * 4 + 3, none⟩ = some (.int .i64 (cl : Nat))) w5 := hS1
      (try simp only [Act.put, List.setIfInBounds_toArray, List.set_cons_zero, List.set_cons_succ])
      obtain ⟨c0, c1, c2, _, _⟩ := hS1
      refine wpAnyK_one (i := 13) hcl (by kernel_rfl) rfl (by rfl) (fun K hK => ?_)
      go_simp
      (try simp only [spotV, List.size_toArray, List.length_cons, List.length_nil, if_true, if_pos])
      (try go_simp)
      obtain ⟨p, hp⟩ : ∃ p, p = at_ + d := ⟨_, rfl⟩
      rw [show (at_ : Int) + (d : Int) = (p : Int) by omega]
      refine hK.out _ _ (Or.inl (by kernel_rfl)) (fun hcl2 => ?_)
      clear hK K hcl hcl2 hS
      refine wpAnyK_done (by kernel_rfl) ?_ _
      have hblk6 : Blk _ w.heap.size 55 #[.int .i64 (p : Nat), .int .i64 (ln : Nat), .int .i64 (cl : Nat)] := ((hb5c.set_ 0 (.int .i64 (p : Nat))).set_ 1 (.int .i64 (ln : Nat))).set_ 2 (.int .i64 (cl : Nat))
      have hbw6 : Below w.heap.size w _ := (((HBW.out.trans (hb5'.mono (Nat.le_of_lt hSlt))).setCell (p := ⟨w.heap.size, 0, none⟩) (Nat.le_refl _) (.int .i64 (p : Nat))).setCell (p := ⟨w.heap.size, 1, none⟩) (Nat.le_refl _) (.int .i64 (ln : Nat))).setCell (p := ⟨w.heap.size, 2, none⟩) (Nat.le_refl _) (.int .i64 (cl : Nat))
      obtain ⟨w6, hw6⟩ : ∃ w6, ((w5.setCell ⟨w.heap.size, 0, none⟩ (.int .i64 (p : Nat))).setCell ⟨w.heap.size, 1, none⟩ (.int .i64 (ln : Nat))).setCell ⟨w.heap.size, 2, none⟩ (.int .i64 (cl : Nat)) = w6 := ⟨_, rfl⟩
      rw [hw6] at hblk6 hbw6 ⊢
      clear hw6 hb5c hb5 hb5' f0 f1 f2 c0 c1 c2 t0 t1 t2 t3
      have c0 : w6.cell? ⟨w.heap.size, 0, none⟩ = some (.int .i64 (p : Nat)) := hblk6.cell 0
      have HBLK6 := Lib.hid hblk6
      have HBW6 := Lib.hid hbw6
      clear hblk6 hbw6 HSK
      have t0 : w6.cell? ⟨g, i * 4, none⟩ = some (.int .i64 (k : Nat)) := (HBW6.out.cell (p := ⟨g, i * 4, none⟩) hg).trans HA4.out.1
      have t1 : w6.cell? ⟨g, i * 4 + 1, none⟩ = some (.string X) := (HBW6.out.cell (p := ⟨g, i * 4 + 1, none⟩) hg).trans HA4.out.2.1
      have t2 : w6.cell? ⟨g, i * 4 + 2, none⟩ = some (.int .i64 (ln : Nat)) := (HBW6.out.cell (p := ⟨g, i * 4 + 2, none⟩) hg).trans HA4.out.2.2.1
      subst hp
      have hpd : at_ + d ≤ s.size := h2'
      have hidl : Sp.idleV (s.extract fr (at_ + d)).data.toList (k != 1) = true := by rw [ext_mid]; exact h3
      have hxs : X.size = x.length := by rw [Lib.size_eq, hXl]
      rw [← hxs] at h5
      have hext : at_ + d < s.size → s.extract (at_ + d) fr' = X := by
        intro h
        refine ba_ext ?_
        rw [ext_mid, hXl]
        exact h7 h
      have hbl : at_ + d + 1 ≥ ln ∧ at_ + d + 1 ≥ cl := by
        have := hbd
        omega
      have hprev : k = 1 → ∃ j t', i = j + 1 ∧ ts[j]? = some t' ∧ t'.2.2.1 = ln := by
        intro hk
        have h8 := (h4 hk).1
        rw [hpv] at h8
        by_cases hi0 : i = 0
        · rw [if_pos hi0] at h8; cases h8
        · rw [if_neg hi0] at h8
          obtain ⟨j, rfl⟩ : ∃ j, i = j + 1 := ⟨i - 1, by omega⟩
          rw [Nat.add_sub_cancel] at h8
          cases hj : ts[j]? with
          | none => rw [hj] at h8; cases h8
          | some t' => rw [hj] at h8; exact ⟨j, t', rfl, hj, by injection h8⟩
      have hx1 : k = 1 → X = ⟨#[10]⟩ := by
        intro hk
        rw [← hX', (h4 hk).2]
      obtain ⟨p, hp⟩ : ∃ p, at_ + d = p := ⟨_, rfl⟩
      rw [hp] at h2 h5 hpd hidl hext hbl hr ⊢
      rw [hp] at c0 HBLK6
      have HR := Lib.hid hr
      clear h1 hbd h3 h7 h2' hpv h4 hr hat hsl hsc HBLK HBW hgS hgS' hSlt
      have b1 : (0 : Int) ≤ (fr : Int) := by omega
      have b2 : (fr : Int) ≤ (p : Int) := by omega
      have b3 : (p : Int) ≤ (s.size : Int) := by omega
      have b4 : (0 : Int) ≤ (p : Int) := by omega
      have r1 : decide ((p : Int) < (fr : Int)) = false := decide_eq_false (by omega)
      have r2 : decide (p < fr) = false := decide_eq_false (by omega)
      have hes : (s.extract fr p).size ≤ 1073741824 := by rw [ByteArray.size_extract]; omega
      by_cases hk : k = 1
      · have k1 : ((k : Int) != 1) = false := by rw [bne_eq_false_iff_eq]; omega
        have k2 : ((k : Int) == 1) = true := beq_iff_eq.2 (by omega)
        have k3 : (k != 1) = false := by rw [bne_eq_false_iff_eq]; exact hk
        rw [k3] at hidl
        have hidle := fun W => law3_idle (s.extract fr p) false W hes hidl
        have HI := Lib.hid hidle
        have hX10 := hx1 hk
        have hXs : X.size = 1 := by rw [hX10]; rfl
        rw [hXs] at h5
        obtain ⟨j, t', hij, hjt, htl⟩ := hprev hk
        obtain ⟨g', hg1, hg2, ht'⟩ := HV.out j _ hjt
        cases hg1
        obtain ⟨_, _, u2, _⟩ := ht'
        rw [htl] at u2
        have v2 : w6.cell? ⟨g, j * 4 + 2, none⟩ = some (.int .i64 (ln : Nat)) := (HBW6.out.cell (p := ⟨g, j * 4 + 2, none⟩) hg).trans u2
        have z1 : ((i : Int) == 0) = false := beq_eq_false_iff_ne.2 (by omega)
        have z1' : (i == 0) = false := beq_eq_false_iff_ne.2 (by omega)
        have z2 : (0 : Int) ≤ (i : Int) - 1 := by omega
        have z3 : (i : Int) - 1 < (n : Int) := by omega
        have z4 : IntKind.i64.wrap ((i : Int) - 1) = (i : Int) - 1 := by rw [IntKind.wrap_i64]; omega
        have z5 : ((i : Int) - 1).toNat = j := by omega
        have HIJ : Hid (i ≠ 0 ∧ i < n ∧ fr' ≤ s.size ∧ p ≤ s.size ∧ ln ≤ p + 1 ∧ cl ≤ p + 1 ∧ X.size = 1 ∧ (fr' = if k = 1 ∧ p = s.size then p else p + 1)) := ⟨by omega, by omega, by omega, by omega, by omega, by omega, hXs, h5⟩
        have x10 : (X.toList == [10]) = true := by rw [hX10]; kernel_rfl
        have x11 : X.toList.isEmpty = false := by rw [hX10]; kernel_rfl
        have hext1 : p < s.size → s.extract p (p + 1) = X := by
          intro h
          have := hext h
          rw [h5, if_neg (by omega)] at this
          exact this
        have HX1 := Lib.hid hext1
        clear hidle hidl hprev hx1 hxs k3 hij htl u2 hext hext1 hX10 h5 hX' 
        go_wp2_with fail
        go_quiet ((go_at_call 26; exact Calls.quiet_of_same (HI.out _)))
        go_wp2_with fail
        go_quiet (fail)
        by_cases hps : p = s.size
        · have y1 : ((p : Int) == (s.size : Int)) = true := beq_iff_eq.2 (by omega)
          have y2 : (p == s.size) = true := beq_iff_eq.2 hps
          have y3 : decide ((s.size : Int) < (p : Int)) = false := decide_eq_false (by omega)
          have y4 : decide (s.size < p) = false := decide_eq_false (by omega)
          have y5 : decide ((p : Int) < (s.size : Int)) = false := decide_eq_false (by omega)
          have y6 : decide (p < s.size) = false := decide_eq_false (by omega)
          have y7 : (p : Int) ≤ (p : Int) := by omega
          have HPS := Lib.hid hps
          clear hps
          go_wp2_with fail
          go_quiet (fail)
          go_wp2_with fail
          obtain ⟨e1, e2, e3, e4, e5, e6, e7, e8⟩ := HIJ.out
          have e9 : fr' = p := by rw [e8, if_pos ⟨hk, HPS.out⟩]
          go_roundw
          case rel => exact ⟨i + 1, p, p, ln, cl, some ln, rfl, by rfl, by omega, by omega, by omega, by omega, by omega, HBLK6.out, Below_drewN HBW6.out _, by have := HR.out; rw [e9] at this; exact this, by rw [if_neg (by omega), Nat.add_sub_cancel, htg]; rfl⟩
          case measure => simp [intOf]; omega
        · have y1 : ((p : Int) == (s.size : Int)) = false := beq_eq_false_iff_ne.2 (by omega)
          have y2 : (p == s.size) = false := beq_eq_false_iff_ne.2 hps
          have y3 : decide ((s.size : Int) < (p : Int) + 1) = false := decide_eq_false (by omega)
          have y4 : decide (s.size < p + 1) = false := decide_eq_false (by omega)
          have y5 : decide ((p : Int) < (s.size : Int)) = true := decide_eq_true (by omega)
          have y6 : decide (p < s.size) = true := decide_eq_true (by omega)
          have y7 : (p : Int) ≤ (p : Int) + 1 := by omega
          have y8 : (p : Int) + 1 ≤ (s.size : Int) := by omega
          have y9 : ((p : Int) + 1).toNat = p + 1 := by omega
          have hX2 := HX1.out (by omega)
          have HPS := Lib.hid hps
          clear hps
          go_wp2_with fail
          go_quiet (fail)
          go_wp2_with fail
          obtain ⟨e1, e2, e3, e4, e5, e6, e7, e8⟩ := HIJ.out
          have e9 : fr' = p + 1 := by rw [e8, if_neg (fun h => HPS.out h.2)]
          go_roundw
          case rel => exact ⟨i + 1, p + 1, p, ln, cl, some ln, by first | rfl | simp, by rfl, by omega, by omega, by omega, by omega, by omega, HBLK6.out, Below_drewN HBW6.out _, by rw [← e9]; exact HR.out, by rw [if_neg (by omega), Nat.add_sub_cancel, htg]; rfl⟩
          case measure => simp [intOf]; omega
      · have k1 : ((k : Int) != 1) = true := by rw [bne_iff_ne]; omega
        have k2 : ((k : Int) == 1) = false := beq_eq_false_iff_ne.2 (by omega)
        have k3 : (k != 1) = true := by rw [bne_iff_ne]; exact hk
        rw [k3] at hidl
        have hidle := fun W => law3_idle (s.extract fr p) true W hes hidl
        have HI := Lib.hid hidle
        rw [if_neg (by rintro ⟨h, _⟩; exact hk h)] at h5
        clear hidle hidl hprev hx1 hxs k3
        go_wp2_with fail
        go_quiet ((go_at_call 26; exact Calls.quiet_of_same (HI.out _)))
        go_wp2_with fail
        have hX2 : s.extract p fr' = X := by
          by_cases hlt' : p < s.size
          · exact hext hlt'
          · have h0 : X.size = 0 := by omega
            refine ba_ext ?_
            rw [List.length_eq_zero_iff.1 (show (s.extract p fr').data.toList.length = 0 by rw [← Lib.size_eq, ByteArray.size_extract]; omega), List.length_eq_zero_iff.1 (show X.data.toList.length = 0 by rw [← Lib.size_eq]; exact h0)]
        rw [show (p : Int) + (X.size : Int) = (fr' : Int) by omega]
        have g1 : decide ((s.size : Int) < (fr' : Int)) = false := decide_eq_false (by omega)
        have g2 : decide (s.size < fr') = false := decide_eq_false (by omega)
        have g6 : decide ((fr' : Int) > (s.size : Int)) = false := decide_eq_false (by omega)
        have g7 : decide (fr' > s.size) = false := decide_eq_false (by omega)
        have g3 : (p : Int) ≤ (fr' : Int) := by omega
        have g4 : (fr' : Int) ≤ (s.size : Int) := by omega
        have g5 : (0 : Int) ≤ (fr' : Int) := by omega
        clear hext h5
        go_quiet (fail)
        go_wp2_with fail
        go_roundw
        case rel => exact ⟨i + 1, fr', p, ln, cl, some ln, rfl, by rfl, by omega, by omega, by omega, by omega, by omega, HBLK6.out, Below_drewN HBW6.out _, HR.out, by rw [if_neg (by omega), Nat.add_sub_cancel, htg]; rfl⟩
        case measure => simp [intOf]; omega
    · have q0 : decide ((i : Int) < n) = false := decide_eq_false (by omega)
      have hin : i = n := by omega
      have hpl := HL.out.1
      rw [List.drop_eq_nil_of_le (by rw [HN.out]; omega)] at hpl
      have hf := hpl.fin
      have hidl : Sp.idleV (s.extract fr s.size).data.toList false = true := by rw [ext_drop]; exact hf.2
      have hes : (s.extract fr s.size).size ≤ 1073741824 := by rw [ByteArray.size_extract]; omega
      have hidle := fun W => law3_idle (s.extract fr s.size) false W hes hidl
      have b1 : (0 : Int) ≤ (fr : Int) := by omega
      have b2 : (fr : Int) ≤ (s.size : Int) := by omega
      have HI := Lib.hid hidle
      clear hidle hidl hf hpl
      go_wp2_with fail
      refine ((HI.out _)).mono ?_
      rintro e w7 ⟨rfl, rfl⟩
      go_simp
      go_wp2_with fail
      go_ret
      exact ⟨rfl, hbw⟩
end Go.Proofs.YtjedoipbllcfdaaGreatDoor
