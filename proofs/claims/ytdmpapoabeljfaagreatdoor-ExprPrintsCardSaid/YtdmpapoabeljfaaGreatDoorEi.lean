/-
  THE WALKS of the reader's method number and of signOf (chapter 5).
-/
import Derived.Test.YtdmpapoabeljfaaGreatDoorEh
set_option linter.unusedVariables false
set_option linter.unusedSimpArgs false
set_option maxRecDepth 100000
set_option maxHeartbeats 4000000
namespace Go.Proofs.YtdmpapoabeljfaaGreatDoor
open Go.RowKit

theorem nds_below {w w' : World} {B : Nat} {tv : Value} {ns : List Sp.Nd} (h : Nds w B tv ns) (hb : Below w.heap.size w w') : Nds w' B tv ns :=
  World.ownsRow.kept h (only_of_below hb none) (by
    rcases hv : tv.ownBlock with _ | g
    · exact Or.inl rfl
    · exact Or.inr (by simp))

/-- The reader beside a test that is being read into block M. -/
def TSt (W0 : World) (N : Nat) (A : Option Addr) (n cap : Nat) (p m op : Nat) (ns : List Sp.Nd) (M : Nat) (tc : Array Value) (w : World) : Prop :=
  ∃ tv, Rdr w N A n cap p tv m op 0 ∧ Nds w (N + 1) tv ns ∧ Below N W0 w ∧ Blk w M 54 tc ∧ N < M ∧ tv.ownBlock ≠ some M
section
variable {W0 w w' : World} {N n cap p m op M : Nat} {A : Option Addr} {ns : List Sp.Nd} {tc : Array Value}
theorem TSt.toR (h : TSt W0 N A n cap p m op ns M tc w) : RSt W0 N A n cap p m op ns w := by
  obtain ⟨tv, h1, h2, h3, _⟩ := h
  exact ⟨tv, h1, h2, h3⟩
theorem TSt.below (h : TSt W0 N A n cap p m op ns M tc w) (hb : Below w.heap.size w w') : TSt W0 N A n cap p m op ns M tc w' := by
  obtain ⟨tv, h1, h2, h3, h4, h5, h6⟩ := h
  have hN := h1.lt
  exact ⟨tv, h1.below hb hN, nds_below h2 hb, h3.trans (hb.mono (by omega)), h4.below hb h4.lt, h5, h6⟩
theorem RSt.below (h : RSt W0 N A n cap p m op ns w) (hb : Below w.heap.size w w') : RSt W0 N A n cap p m op ns w' := by
  obtain ⟨tv, h1, h2, h3⟩ := h
  have hN := h1.lt
  exact ⟨tv, h1.below hb hN, nds_below h2 hb, h3.trans (hb.mono (by omega))⟩
theorem TSt.drewN (h : TSt W0 N A n cap p m op ns M tc w) (k : Nat) : TSt W0 N A n cap p m op ns M tc (w.drewN k) := by
  obtain ⟨tv, h1, h2, h3, h4⟩ := h
  exact ⟨tv, h1, h2, below_drewN' h3 k, h4⟩
theorem TSt.set_ (h : TSt W0 N A n cap p m op ns M tc w) (j : Nat) (u : Value) : TSt W0 N A n cap p m op ns M (tc.setIfInBounds j u) (w.setCell ⟨M, j, none⟩ u) := by
  obtain ⟨tv, h1, h2, h3, h4, h5, h6⟩ := h
  exact ⟨tv, h1.far (by show N ≠ M; omega) _, World.ownsRow.kept h2 (only_setCell (World.grownBy.refl w (some M)) (Or.inl rfl) u (p := ⟨M, j, none⟩)) (Or.inr h6), h3.setCell (p := ⟨M, j, none⟩) (Nat.le_of_lt h5) u, h4.set_ j u, h5, h6⟩
theorem TSt.at_ (h : TSt W0 N A n cap p m op ns M tc w) : TSt W0 N A n cap (p + 1) m op ns M tc (w.setCell ⟨N, 1, none⟩ (.int .i64 ((p : Int) + 1))) := by
  obtain ⟨tv, h1, h2, h3, h4, h5, h6⟩ := h
  exact ⟨tv, h1.set_ 1 _, nds_grown h2 (only_setCell (World.grownBy.refl w (some N)) (Or.inl rfl) _ (p := ⟨N, 1, none⟩)), h3.setCell (p := ⟨N, 1, none⟩) (Nat.le_refl _) _, h4.far (by show M ≠ N; omega) _, h5, h6⟩
theorem TSt.sign (h : TSt W0 N A n cap p m op ns M tc w) {zs : List ZTok} (X : ByteArray) (hn : zs.length = n) (hv : ViewZ W0 N A zs) {b : Bool} (hb : Sp.sgAt (zs.map ptZ) p X.data.toList = b) :
    Calls Tryz.prog 30 #[.pointer (some ⟨N, 0, none⟩), .string X] w fun e w' => e = .returned (.bool b) ∧ TSt W0 N A n cap p m op ns M tc w' := by
  have h' := h
  obtain ⟨tv, h1, h2, h3, _⟩ := h
  refine (expr_sign w N A n cap p tv m op 0 zs X N h1 hn (hv.below h3 (Nat.le_refl _))).mono ?_
  rintro e w' ⟨rfl, k, rfl⟩
  exact ⟨by rw [hb], h'.drewN k⟩
end
theorem kd_some {zs : List ZTok} {p : Nat} {z : ZTok} (hz : zs[p]? = some z) : Sp.kdAt (zs.map ptZ) p = z.1 ∧ Sp.txAt (zs.map ptZ) p = z.2.1.data.toList := by
  unfold Sp.kdAt Sp.txAt
  rw [List.getElem?_map, hz]
  exact ⟨rfl, rfl⟩
theorem kd_none {T : List Sp.Pt} {p n : Nat} (hT : T.length = n) (h : ¬ p < n) : Sp.kdAt T p = 0 := by
  unfold Sp.kdAt
  rw [List.getElem?_eq_none (by omega)]

/-- What number comes to. -/
def NumEnd (W0 : World) (N : Nat) (A : Option Addr) (n cap p m op : Nat) (ns : List Sp.Nd) (M j : Nat) (tc : Array Value) (r : Option Nat) (e : Ending) (w' : World) : Prop :=
  match r with
  | some v => e = .returned (.bool true) ∧ TSt W0 N A n cap (p + 1) m op ns M (tc.setIfInBounds j (.int .i64 (v : Nat))) w'
  | none => e = .returned (.bool false) ∧ RBad W0 N A n cap p 50 w'

theorem expr_number (W0 : World) (N : Nat) (A : Option Addr) (n cap p m op : Nat) (ns : List Sp.Nd) (M j : Nat) (tc : Array Value) (zs : List ZTok) (w : World) (hst : TSt W0 N A n cap p m op ns M tc w) (hG : ∀ w, Below N W0 w → Gs w) (hn : zs.length = n) (hnb : n ≤ 4611686018427387904) (hv : ViewZ W0 N A zs) (hts : ∀ z ∈ zs, z.2.1.size ≤ 9223372036854775807) (hj : j < tc.size) :
    Calls Tryz.prog 86 #[.pointer (some ⟨N, 0, none⟩), .pointer (some ⟨M, j, none⟩)] w (NumEnd W0 N A n cap p m op ns M j tc (Sp.numAt (zs.map ptZ) p)) := by
  have hTl : (zs.map ptZ).length = n := by rw [List.length_map]; exact hn
  obtain ⟨R, hR⟩ : ∃ R, Sp.numAt (zs.map ptZ) p = R := ⟨_, rfl⟩
  rw [hR]
  have hst' := hst
  obtain ⟨tv, hr, hnd, hb, ht, hNM, hne⟩ := hst
  have c0 : w.cell? ⟨N, 0, none⟩ = some (.slice A n cap) := hr.cell 0
  have c1 : w.cell? ⟨N, 1, none⟩ = some (.int .i64 p) := hr.cell 1
  have HST := Lib.hid hst'
  have hfl := fun k => st_fail (hst'.drewN k).toR 50
  have HFL := Lib.hid hfl
  by_cases hlt : p < n
  · have q1 : decide ((p : Int) ≥ n) = false := decide_eq_false (by omega)
    have q1b : decide (n ≤ p) = false := decide_eq_false (by omega)
    have p1 : (p : Int) < n := by omega
    have p2 : (0 : Int) ≤ (p : Int) := by omega
    obtain ⟨z, hz⟩ : ∃ z, zs[p]? = some z := ⟨_, List.getElem?_eq_getElem (by rw [hn]; exact hlt)⟩
    obtain ⟨hk1, hk2⟩ := kd_some hz
    have hzs := hts z (List.mem_of_getElem? hz)
    have hvw := hv.below hb (Nat.le_refl _)
    obtain ⟨g, o, rfl, hg, a0, a1, _, _⟩ := hvw p z hz
    obtain ⟨k, t, l, cc⟩ := z
    simp only [] at a0 a1 hk1 hk2 hzs
    by_cases hk : k = 4
    · have q2 : ((k : Int) != 4) = false := by rw [bne_eq_false_iff_eq]; exact hk
      have hval := fun W (hW : Gl W) => scan_value t W hW hzs
      unfold ValEnd at hval
      have hNlt := hr.lt
      have hglt : g < w.heap.size := by omega
      have hS0 : w.cell? ⟨N, 0, none⟩ = some (.slice (some ⟨g, o, none⟩) n cap) ∧ w.cell? ⟨N, 1, none⟩ = some (.int .i64 p) ∧ w.cell? ⟨g, o + p * 4 + 1, none⟩ = some (.string t) := ⟨c0, c1, a1⟩
      have hkeep : ∀ a w5, Below (w.drewN a).drew.heap.size (w.drewN a).drew w5 → w5.cell? ⟨N, 0, none⟩ = some (.slice (some ⟨g, o, none⟩) n cap) ∧ w5.cell? ⟨N, 1, none⟩ = some (.int .i64 p) ∧ w5.cell? ⟨g, o + p * 4 + 1, none⟩ = some (.string t) := fun a w5 hb5 =>
        ⟨(hb5.cell (p := ⟨N, 0, none⟩) hNlt).trans c0, (hb5.cell (p := ⟨N, 1, none⟩) hNlt).trans c1, (hb5.cell (p := ⟨g, o + p * 4 + 1, none⟩) hglt).trans a1⟩
      have HK := Lib.hid hkeep
      have hgl : ∀ a, Gl (w.drewN a).drew := fun a => (hG _ ((below_drewN' hb a).drew)).toGl
      have HGL := Lib.hid hgl
      have hafter : ∀ a w5, Below (w.drewN a).drew.heap.size (w.drewN a).drew w5 → TSt W0 N (some ⟨g, o, none⟩) n cap p m op ns M tc w5 := fun a w5 hb5 => ((hst'.drewN a).drewN 1).below hb5
      have HAF := Lib.hid hafter
      by_cases hv0 : (Sp.valueV t.data.toList).2 = 0
      · obtain ⟨v, hvv⟩ : ∃ v, (Sp.valueV t.data.toList).1 = v := ⟨_, rfl⟩
        have hr2 : R = some v := by
          rw [← hR]
          unfold Sp.numAt
          rw [hk1, hk2, if_pos ⟨hk, hv0⟩, hvv]
        rw [hvv, hv0] at hval
        obtain ⟨vi, hvi⟩ : ∃ vi : Int, (v : Int) = vi := ⟨_, rfl⟩
        have HVI := Lib.hid hvi
        have hval2 : ∀ W, Gl W → Calls Tryz.prog 104 #[.string t] W fun e w' => e = .returned (.tuple #[.int .i64 vi, .int .i64 0]) ∧ Below W.heap.size W w' := by
          intro W hW
          have := hval W hW
          rw [hvi] at this
          exact this
        have HVAL := Lib.hid hval2
        have HR2 := Lib.hid hr2
        have hbn : (p : Int) ≤ 4611686018427387904 := by omega
        clear hval hval2 hvi hvv hv0 hr2 hR hk1 hk2 hk hzs hz hvw hv hts hn hTl hG hgl hkeep hafter hst' hfl hr hnd ht hb
        go_enter Tryz.func86, Tryz.ntmps86
        go_wp2_with fail
        go_quiet (fail)
        go_wp2_with fail
        go_region_held3 (fun w' => w'.cell? ⟨N, 0, none⟩ = some (.slice (some ⟨g, o, none⟩) n cap) ∧ w'.cell? ⟨N, 1, none⟩ = some (.int .i64 p) ∧ w'.cell? ⟨g, o + p * 4 + 1, none⟩ = some (.string t))
          (first | go_keep | exact hS0 | exact ks)
          ((go_at_call 104; refine (HVAL.out _ (HGL.out _)).mono ?_; rintro e w5 ⟨rfl, hb5⟩; have ks := HK.out _ w5 hb5))
        have hT5 := HAF.out _ w5 hb5
        clear hS0 c0 c1 a0 a1 ks hb5
        have HT5 := Lib.hid hT5
        obtain ⟨tv5, hr5, hnd5, hb5, ht5, _, _⟩ := hT5
        have cM : ∃ u, w5.cell? ⟨M, j, none⟩ = some u := ⟨_, (ht5.cell j).trans (Array.getElem?_eq_getElem hj)⟩
        obtain ⟨u, cM⟩ := cM
        have fM := ht5.frozen j
        clear hr5 hnd5 hb5 ht5
        go_upto_region 7 with (fail)
        obtain ⟨W6, hW6⟩ : ∃ W6, w5.setCell ⟨M, j, none⟩ (.int .i64 vi) = W6 := ⟨_, rfl⟩
        have hT6 : TSt W0 N (some ⟨g, o, none⟩) n cap p m op ns M (tc.setIfInBounds j (.int .i64 vi)) W6 := by rw [← hW6]; exact HT5.out.set_ j _
        rw [hW6]
        clear hW6 cM fM
        have HT6 := Lib.hid hT6
        obtain ⟨c1, f1, _, _⟩ := hT6.toR.cells
        clear hT6
        go_wp2_with fail
        go_ret
        rw [HR2.out]
        refine ⟨rfl, ?_⟩
        rw [HVI.out]
        exact HT6.out.at_
      · have hr2 : R = none := by
          rw [← hR]
          unfold Sp.numAt
          rw [hk1, hk2, if_neg (fun h => hv0 h.2)]
        obtain ⟨x1, hx1⟩ : ∃ x1 : Int, ((Sp.valueV t.data.toList).1 : Int) = x1 := ⟨_, rfl⟩
        obtain ⟨x2, hx2⟩ : ∃ x2 : Int, ((Sp.valueV t.data.toList).2 : Int) = x2 := ⟨_, rfl⟩
        simp only [hx1, hx2] at hval
        have q3 : (x2 != 0) = true := by rw [bne_iff_ne]; omega
        have HVAL := Lib.hid hval
        have HR2 := Lib.hid hr2
        clear hval hx1 hx2 hv0 hr2 hR hk1 hk2 hk hzs hz hvw hv hts hn hTl hG hgl hkeep hafter hst' hfl hr hnd ht hb
        go_enter Tryz.func86, Tryz.ntmps86
        go_wp2_with fail
        go_quiet (fail)
        go_wp2_with fail
        go_region_held3 (fun w' => w'.cell? ⟨N, 0, none⟩ = some (.slice (some ⟨g, o, none⟩) n cap) ∧ w'.cell? ⟨N, 1, none⟩ = some (.int .i64 p) ∧ w'.cell? ⟨g, o + p * 4 + 1, none⟩ = some (.string t))
          (first | go_keep | exact hS0 | exact ks)
          ((go_at_call 104; refine (HVAL.out _ (HGL.out _)).mono ?_; rintro e w5 ⟨rfl, hb5⟩; have ks := HK.out _ w5 hb5))
        have hT5 := HAF.out _ w5 hb5
        have HF5 := Lib.hid (st_fail hT5.toR 50)
        clear hS0 c0 c1 a0 a1 ks hb5 hT5
        go_wp2_with (go_at_call 54; refine HF5.out.mono ?_; rintro e w6 ⟨rfl, h6⟩)
        go_ret
        rw [HR2.out]
        exact ⟨rfl, h6⟩
    · have q2 : ((k : Int) != 4) = true := by rw [bne_iff_ne]; exact hk
      have hr2 : R = none := by
        rw [← hR]
        unfold Sp.numAt
        rw [hk1, if_neg (fun h => hk h.1)]
      have HR2 := Lib.hid hr2
      clear hr2 hR hk1 hk2 hk hzs hz hvw hv hts hn hTl hG hst' hfl hr hnd ht hb
      go_enter Tryz.func86, Tryz.ntmps86
      go_wp2_with fail
      go_quiet (fail)
      go_wp2_with (go_at_call 54; refine (HFL.out _).mono ?_; rintro e w6 ⟨rfl, h6⟩)
      go_ret
      rw [HR2.out]
      exact ⟨rfl, h6⟩
  · have q1 : decide ((p : Int) ≥ n) = true := decide_eq_true (by omega)
    have q1b : decide (n ≤ p) = true := decide_eq_true (by omega)
    have hr2 : R = none := by
      rw [← hR]
      unfold Sp.numAt
      rw [kd_none hTl hlt, if_neg (fun h => absurd h.1 (by decide))]
    have HR2 := Lib.hid hr2
    clear hr2 hR hv hts hn hTl hG hst' hfl hr hnd ht hb hlt
    go_enter Tryz.func86, Tryz.ntmps86
    go_wp2_with fail
    go_quiet (fail)
    go_wp2_with (go_at_call 54; refine (HFL.out _).mono ?_; rintro e w6 ⟨rfl, h6⟩)
    go_ret
    rw [HR2.out]
    exact ⟨rfl, h6⟩

theorem expr_signOf (w : World) : (Calls Tryz.prog 85 #[.int .i64 1] w fun e w' => e = .returned (.string ⟨#[61]⟩) ∧ w = w') ∧ (Calls Tryz.prog 85 #[.int .i64 2] w fun e w' => e = .returned (.string ⟨#[33, 61]⟩) ∧ w = w') ∧
    (Calls Tryz.prog 85 #[.int .i64 3] w fun e w' => e = .returned (.string ⟨#[60]⟩) ∧ w = w') ∧ (Calls Tryz.prog 85 #[.int .i64 4] w fun e w' => e = .returned (.string ⟨#[60, 61]⟩) ∧ w = w') ∧
    (Calls Tryz.prog 85 #[.int .i64 5] w fun e w' => e = .returned (.string ⟨#[62]⟩) ∧ w = w') ∧ (Calls Tryz.prog 85 #[.int .i64 6] w fun e w' => e = .returned (.string ⟨#[62, 61]⟩) ∧ w = w') := by
  refine ⟨?_, ?_, ?_, ?_, ?_, ?_⟩
  all_goals
    go_enter Tryz.func85, Tryz.ntmps85
    go_wp2
    go_ret
    exact ⟨rfl, rfl⟩
end Go.Proofs.YtdmpapoabeljfaaGreatDoor
