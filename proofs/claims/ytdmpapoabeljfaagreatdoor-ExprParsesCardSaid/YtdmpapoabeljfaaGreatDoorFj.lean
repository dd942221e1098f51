/-
  THE WALK of the reference's reader's method operand (chapter 5).
-/
import Derived.Test.YtdmpapoabeljfaaGreatDoorFi
import Derived.Test.YtdmpapoabeljfaaGreatDoorFh
import Derived.Test.YtdmpapoabeljfaaGreatDoorFm
set_option linter.unusedVariables false
set_option linter.unusedSimpArgs false
set_option maxRecDepth 100000
set_option maxHeartbeats 8000000
namespace Go.Proofs.YtdmpapoabeljfaaGreatDoor
open Go.RowKit

theorem sg_kind {zs : List ZTok} {p : Nat} {X : List UInt8} (h : Sp.sgAt (zs.map ptZ) p X = true) : ∃ t l c, zs[p]? = some (7, t, l, c) := by
  unfold Sp.sgAt at h
  rw [List.getElem?_map] at h
  cases hz : zs[p]? with
  | none => rw [hz] at h; cases h
  | some z =>
    rw [hz] at h
    obtain ⟨k, t, l, c⟩ := z
    simp only [Option.map_some, Sp.sgn, Bool.and_eq_true, beq_iff_eq] at h
    have : k = 7 := h.1
    subst this
    exact ⟨t, l, c, rfl⟩
section
variable {W0 w w' : World} {N n cap p m c : Nat} {A : Option Addr} {st st' : List UInt8} {ns ns' : List Sp.Nd}
theorem opd_bang (h : FSt W0 N A n cap p st ns m 0 w) {zs : List ZTok} (hn : zs.length = n) (hv : ViewZ W0 N A zs) (hpn : n ≤ 4611686018427387904) (hm : m ≤ 1000000) (hl : st.length ≤ 1000000) (hs : Sp.sgAt (zs.map ptZ) p [33] = true) {c1 c2 q : Nat} (hc1 : c1 = if 32 ≤ Sp.cnt st then 53 else 0) (hc2 : c2 = if c1 = 0 ∧ 64 ≤ m then 51 else c1) (hq : q = if c2 = 0 then p + 1 else p) :
    Calls Tryz.prog 19 #[.pointer (some ⟨N, 0, none⟩)] w fun e w' => e = .returned (.bool false) ∧ FSt W0 N A n cap q (33 :: st) ns (m + 1) c2 w' := by
  have hTl : (zs.map ptZ).length = n := by rw [List.length_map]; exact hn
  have hlt := Sp.sg_lt hs
  rw [hTl] at hlt
  obtain ⟨t, l, cc, hz⟩ := sg_kind hs
  obtain ⟨g, o, rfl, hg, a0, a1, _, _⟩ := hv.below h.bel (Nat.le_refl _) p _ hz
  simp only [] at a0 a1
  obtain ⟨c0, c1', f1, _, _, _, _⟩ := h.cells
  have p1 : (p : Int) < n := by omega
  have p2 : (0 : Int) ≤ (p : Int) := by omega
  have p3 : (p : Int) ≤ 4611686018427387904 := by omega
  have q1 : decide ((p : Int) < n) = true := decide_eq_true p1
  have q1b : decide (p < n) = true := decide_eq_true hlt
  have HF := Lib.hid h
  have HSG := Lib.hid (fun W (h : FSt W0 N (some ⟨g, o, none⟩) n cap p st ns m 0 W) => h.sign p ⟨#[33]⟩ hn hv (b := true) hs)
  have HD := Lib.hid (fun W (h : FSt W0 N (some ⟨g, o, none⟩) n cap p st ns m 0 W) => f_deep h hl hc1)
  have HMK := Lib.hid (fun W (h : FSt W0 N (some ⟨g, o, none⟩) n cap p st ns m c1 W) => f_make h (by omega) hc2)
  have HQ := Lib.hid hq
  clear h hs hn hv hz hTl hlt hc1 hq f1 hc2
  go_enter Tryz.func19, Tryz.ntmps19
  go_wp2_with fail
  go_quiet (fail)
  go_wp2_with fail
  refine (HSG.out _ (HF.out.drewN _)).mono ?_
  rintro e w2 ⟨rfl, rfl⟩
  go_wp2_with fail
  refine (HD.out _ (HF.out.drewN _)).mono ?_
  rintro e w3 ⟨rfl, h3⟩
  clear c0 c1' a0 a1
  have HM3 := Lib.hid (HMK.out _ h3)
  clear h3
  go_wp2_with fail
  refine HM3.out.mono ?_
  rintro e w4 ⟨rfl, h4⟩
  obtain ⟨ov, tv, r1, r2, r3, r4, d2, d2', g2', hnew, hNW, hne⟩ := FSt.apd h4 33
  obtain ⟨WA, hWA⟩ : ∃ WA, w4.alloc (.cells #[.int .u8 33] 5) = WA := ⟨_, rfl⟩
  rw [hWA] at r1 r2 r3 r4 d2' g2' hnew hNW
  have R1 := Lib.hid r1
  have R2 := Lib.hid r2
  have R3 := Lib.hid r3
  have R4 := Lib.hid r4
  have D2 := Lib.hid d2'
  have G2 := Lib.hid g2'
  have HNEW := Lib.hid hnew
  have HNE := Lib.hid hne
  have HWA := Lib.hid hWA
  have hNA : N + 1 ≤ WA.heap.size := hNW
  clear r1 r2 r3 r4 d2' g2' hnew hne hWA h4
  go_upto_region 21 with (at_builtin; rw [HWA.out]; go_loud (refine wpList_op rfl _ _ rfl (N + 1) ov st rfl R2.out ⟨w4.heap.size, 0, none⟩ 1 33 rfl HNEW.out rfl (by omega) hNA _ rfl ?_; intro gg cap6 w6 hT6 hgrow hat hlt6; have e2 := (hgrow.cell_far ⟨N, 2, none⟩ hNW (Ne.symm HNE.out)).trans D2.out; have e2f := (hgrow.frozen_far ⟨N, 2, none⟩ hNW (Ne.symm HNE.out)).trans G2.out; have HFIN := Lib.hid (FSt.push R1.out R2.out R3.out R4.out hT6 hgrow); clear hT6 hgrow hat hlt6))
  obtain ⟨WB, hWB⟩ : ∃ X, w6.setCell ⟨N, 2, none⟩ (.slice (some ⟨gg, 0, none⟩) (st.length + 1) cap6) = X := ⟨_, rfl⟩
  have hb := HFIN.out
  rw [hWB] at hb ⊢
  have HB := Lib.hid hb
  clear hWB hb e2 e2f d2 hNW hNA
  obtain ⟨_, d1, e1, _, _, d5, _⟩ := HB.out.cells
  by_cases h0 : c2 = 0
  · have s1 : ((c2 : Int) == 0) = true := beq_iff_eq.2 (by omega)
    have HQ2 : Hid (q = p + 1) := by show _ = _; rw [HQ.out, if_pos h0]
    clear h0 hg hm hl
    go_wp2_with fail
    go_ret
    exact ⟨rfl, HB.out.setAt q _ (by rw [HQ2.out]; omega)⟩
  · have s1 : ((c2 : Int) == 0) = false := beq_eq_false_iff_ne.2 (by omega)
    have HQ2 : Hid (q = p) := by show _ = _; rw [HQ.out, if_neg h0]
    clear h0 hg hm hl
    go_wp2_with fail
    go_ret
    exact ⟨rfl, by rw [HQ2.out]; exact HB.out⟩

theorem opd_brk (h : FSt W0 N A n cap p st ns m 0 w) {zs : List ZTok} (hn : zs.length = n) (hv : ViewZ W0 N A zs) (hpn : n ≤ 4611686018427387904) (hm : m ≤ 1000000) (hl : st.length ≤ 1000000) (hs33 : Sp.sgAt (zs.map ptZ) p [33] = false) (hs : Sp.sgAt (zs.map ptZ) p [40] = true) {c1 c2 q : Nat} (hc1 : c1 = if 32 ≤ Sp.cnt st then 53 else 0) (hq : q = if c1 = 0 then p + 1 else p) :
    Calls Tryz.prog 19 #[.pointer (some ⟨N, 0, none⟩)] w fun e w' => e = .returned (.bool false) ∧ FSt W0 N A n cap q (40 :: st) ns m c1 w' := by
  have hTl : (zs.map ptZ).length = n := by rw [List.length_map]; exact hn
  have hlt := Sp.sg_lt hs
  rw [hTl] at hlt
  obtain ⟨t, l, cc, hz⟩ := sg_kind hs
  obtain ⟨g, o, rfl, hg, a0, a1, _, _⟩ := hv.below h.bel (Nat.le_refl _) p _ hz
  simp only [] at a0 a1
  obtain ⟨c0, c1', f1, _, _, _, _⟩ := h.cells
  have p1 : (p : Int) < n := by omega
  have p2 : (0 : Int) ≤ (p : Int) := by omega
  have p3 : (p : Int) ≤ 4611686018427387904 := by omega
  have q1 : decide ((p : Int) < n) = true := decide_eq_true p1
  have q1b : decide (p < n) = true := decide_eq_true hlt
  have HF := Lib.hid h
  have HSG0 := Lib.hid (fun W (h : FSt W0 N (some ⟨g, o, none⟩) n cap p st ns m 0 W) => h.sign p ⟨#[33]⟩ hn hv (b := false) hs33)
  have HSG := Lib.hid (fun W (h : FSt W0 N (some ⟨g, o, none⟩) n cap p st ns m 0 W) => h.sign p ⟨#[40]⟩ hn hv (b := true) hs)
  have HD := Lib.hid (fun W (h : FSt W0 N (some ⟨g, o, none⟩) n cap p st ns m 0 W) => f_deep h hl hc1)
  have HQ := Lib.hid hq
  clear h hs hn hv hz hTl hlt hc1 hq f1 hs33
  go_enter Tryz.func19, Tryz.ntmps19
  go_wp2_with fail
  go_quiet (fail)
  go_wp2_with fail
  refine (HSG0.out _ (HF.out.drewN _)).mono ?_
  rintro e w2 ⟨rfl, rfl⟩
  go_wp2_with fail
  refine (HSG.out _ (HF.out.drewN _)).mono ?_
  rintro e w2 ⟨rfl, rfl⟩
  go_wp2_with fail
  refine (HD.out _ (HF.out.drewN _)).mono ?_
  rintro e w3 ⟨rfl, h3⟩
  clear c0 c1' a0 a1
  obtain ⟨ov, tv, r1, r2, r3, r4, d2, d2', g2', hnew, hNW, hne⟩ := FSt.apd h3 40
  obtain ⟨WA, hWA⟩ : ∃ WA, w3.alloc (.cells #[.int .u8 40] 5) = WA := ⟨_, rfl⟩
  rw [hWA] at r1 r2 r3 r4 d2' g2' hnew hNW
  have R1 := Lib.hid r1
  have R2 := Lib.hid r2
  have R3 := Lib.hid r3
  have R4 := Lib.hid r4
  have D2 := Lib.hid d2'
  have G2 := Lib.hid g2'
  have HNEW := Lib.hid hnew
  have HNE := Lib.hid hne
  have HWA := Lib.hid hWA
  have hNA : N + 1 ≤ WA.heap.size := hNW
  clear r1 r2 r3 r4 d2' g2' hnew hne hWA h3
  go_upto_region 21 with (at_builtin; rw [HWA.out]; go_loud (refine wpList_op rfl _ _ rfl (N + 1) ov st rfl R2.out ⟨w3.heap.size, 0, none⟩ 1 40 rfl HNEW.out rfl (by omega) hNA _ rfl ?_; intro gg cap6 w6 hT6 hgrow hat hlt6; have e2 := (hgrow.cell_far ⟨N, 2, none⟩ hNW (Ne.symm HNE.out)).trans D2.out; have e2f := (hgrow.frozen_far ⟨N, 2, none⟩ hNW (Ne.symm HNE.out)).trans G2.out; have HFIN := Lib.hid (FSt.push R1.out R2.out R3.out R4.out hT6 hgrow); clear hT6 hgrow hat hlt6))
  obtain ⟨WB, hWB⟩ : ∃ X, w6.setCell ⟨N, 2, none⟩ (.slice (some ⟨gg, 0, none⟩) (st.length + 1) cap6) = X := ⟨_, rfl⟩
  have hb := HFIN.out
  rw [hWB] at hb ⊢
  have HB := Lib.hid hb
  clear hWB hb e2 e2f d2 hNW hNA
  obtain ⟨_, d1, e1, _, _, d5, _⟩ := HB.out.cells
  by_cases h0 : c1 = 0
  · have s1 : ((c1 : Int) == 0) = true := beq_iff_eq.2 (by omega)
    have HQ2 : Hid (q = p + 1) := by show _ = _; rw [HQ.out, if_pos h0]
    clear h0 hg hm hl
    go_wp2_with fail
    go_ret
    exact ⟨rfl, HB.out.setAt q _ (by rw [HQ2.out]; omega)⟩
  · have s1 : ((c1 : Int) == 0) = false := beq_eq_false_iff_ne.2 (by omega)
    have HQ2 : Hid (q = p) := by show _ = _; rw [HQ.out, if_neg h0]
    clear h0 hg hm hl
    go_wp2_with fail
    go_ret
    exact ⟨rfl, by rw [HQ2.out]; exact HB.out⟩

/-- What operand comes to at what is no sign. -/
def OpdEnd (W0 : World) (N : Nat) (A : Option Addr) (n cap : Nat) (st : List UInt8) (r : Sp.Rd) (e : Ending) (w' : World) : Prop :=
  match r with
  | .bad c q => (∃ b, e = .returned (.bool b)) ∧ ∃ ns' m', FSt W0 N A n cap q st ns' m' c w'
  | .ok q ns m => e = .returned (.bool true) ∧ FSt W0 N A n cap q st ns m 0 w'
theorem OpdEnd_bad {W0 w' : World} {N n cap c q m' : Nat} {st : List UInt8} {ns' : List Sp.Nd} {A : Option Addr} {r : Sp.Rd} (hr : r = .bad c q) {b : Bool} {e : Ending} (he : e = .returned (.bool b)) (h : FSt W0 N A n cap q st ns' m' c w') : OpdEnd W0 N A n cap st r e w' := by
  subst hr
  exact ⟨⟨b, he⟩, ns', m', h⟩
theorem OpdEnd_ok {W0 w' : World} {N n cap q m : Nat} {st : List UInt8} {ns : List Sp.Nd} {A : Option Addr} {r : Sp.Rd} (hr : r = .ok q ns m) {e : Ending} (he : e = .returned (.bool true)) (h : FSt W0 N A n cap q st ns m 0 w') : OpdEnd W0 N A n cap st r e w' := by
  subst hr
  exact ⟨he, h⟩

theorem opd_leaf (h : FSt W0 N A n cap p st ns m 0 w) {zs : List ZTok} (hn : zs.length = n) (hv : ViewZ W0 N A zs) (hts : ∀ z ∈ zs, z.2.1.size ≤ 9223372036854775807) (hpn : n ≤ 4611686018427387904) (hm : m ≤ 1000000) (hl : ns.length ≤ 1000000) (h33 : Sp.sgAt (zs.map ptZ) p [33] = false) (h40 : Sp.sgAt (zs.map ptZ) p [40] = false) {R : Sp.Rd} (hR : Sp.leafV (zs.map ptZ) p ns m = R) :
    Calls Tryz.prog 19 #[.pointer (some ⟨N, 0, none⟩)] w (OpdEnd W0 N A n cap st R) := by
  have hTl : (zs.map ptZ).length = n := by rw [List.length_map]; exact hn
  obtain ⟨c0, c1, f1, _, _, _, _⟩ := h.cells
  have HF := Lib.hid h
  have HS1 := Lib.hid (fun W (h : FSt W0 N A n cap p st ns m 0 W) => h.sign p ⟨#[33]⟩ hn hv (b := false) h33)
  have HS2 := Lib.hid (fun W (h : FSt W0 N A n cap p st ns m 0 W) => h.sign p ⟨#[40]⟩ hn hv (b := false) h40)
  have HFL := Lib.hid (fun W (h : FSt W0 N A n cap p st ns m 0 W) => f_fail h 50 p)
  have hbel := h.bel
  clear h f1
  by_cases hlt : p < n
  rotate_left
  · have q1 : decide ((p : Int) < n) = false := decide_eq_false (by omega)
    have q1b : decide (p < n) = false := decide_eq_false hlt
    have HRR : Hid (R = .bad 50 p) := by
      show _ = _
      rw [← hR]
      unfold Sp.leafV
      rw [kd_none hTl hlt, if_neg (fun h => absurd h.1 (by decide))]
    clear hR hn hv hts hTl h33 h40 hlt hbel hm hl
    go_enter Tryz.func19, Tryz.ntmps19
    go_wp2_with fail
    go_quiet (fail)
    go_wp2_with fail
    refine (HS1.out _ (HF.out.drewN _)).mono ?_
    rintro e w2 ⟨rfl, rfl⟩
    go_wp2_with fail
    refine (HS2.out _ (HF.out.drewN _)).mono ?_
    rintro e w2 ⟨rfl, rfl⟩
    go_wp2_with fail
    go_quiet (fail)
    go_wp2_with fail
    go_quiet (fail)
    go_wp2_with fail
    refine (HFL.out _ (HF.out.drewN _)).mono ?_
    rintro e w6 ⟨rfl, h6, _⟩
    obtain ⟨_, d1, e1, _, _, d5, _⟩ := h6.cells
    have H6 := Lib.hid h6
    clear h6
    go_wp2_with fail
    go_ret
    exact OpdEnd_bad HRR.out rfl H6.out
  have q1 : decide ((p : Int) < n) = true := decide_eq_true (by omega)
  have q1b : decide (p < n) = true := decide_eq_true hlt
  have p1 : (p : Int) < n := by omega
  have p2 : (0 : Int) ≤ (p : Int) := by omega
  have p3 : (p : Int) ≤ 4611686018427387904 := by omega
  obtain ⟨z, hz⟩ : ∃ z, zs[p]? = some z := ⟨_, List.getElem?_eq_getElem (by rw [hn]; exact hlt)⟩
  obtain ⟨hk1, hk2⟩ := kd_some hz
  have hzs := hts z (List.mem_of_getElem? hz)
  obtain ⟨g, o, rfl, hg, a0, a1, _, _⟩ := hv.below hbel (Nat.le_refl _) p _ hz
  obtain ⟨k, t, l, cc⟩ := z
  simp only [] at a0 a1 hk1 hk2 hzs
  by_cases hk : k = 2
  rotate_left
  · have q2 : ((k : Int) == 2) = false := beq_eq_false_iff_ne.2 hk
    have HRR : Hid (R = .bad 50 p) := by
      show _ = _
      rw [← hR]
      unfold Sp.leafV
      rw [hk1, if_neg (fun h => hk h.1)]
    clear hR hn hv hts hTl h33 h40 hlt hbel hm hl hz hk1 hk2 hk hzs
    go_enter Tryz.func19, Tryz.ntmps19
    go_wp2_with fail
    go_quiet (fail)
    go_wp2_with fail
    refine (HS1.out _ (HF.out.drewN _)).mono ?_
    rintro e w2 ⟨rfl, rfl⟩
    go_wp2_with fail
    refine (HS2.out _ (HF.out.drewN _)).mono ?_
    rintro e w2 ⟨rfl, rfl⟩
    go_wp2_with fail
    go_quiet (fail)
    go_wp2_with fail
    go_quiet (fail)
    go_wp2_with fail
    refine (HFL.out _ (HF.out.drewN _)).mono ?_
    rintro e w6 ⟨rfl, h6, _⟩
    obtain ⟨_, d1, e1, _, _, d5, _⟩ := h6.cells
    have H6 := Lib.hid h6
    clear h6
    go_wp2_with fail
    go_ret
    exact OpdEnd_bad HRR.out rfl H6.out
  have q2 : ((k : Int) == 2) = true := beq_iff_eq.2 hk
  have hnm := fun W => ref5_Name t W hzs
  obtain ⟨nb, hnb⟩ : ∃ nb, Sp.nameB t.data.toList = nb := ⟨_, rfl⟩
  rw [hnb] at hnm
  have HNM := Lib.hid hnm
  have hleaf : R = if nb = true then (if 64 ≤ m then .bad 51 p
      else if t.data.toList = Sp.anyW then .ok (p + 1) (ns ++ [Sp.nd 1]) (m + 1)
      else if t.data.toList = Sp.noneW then .ok (p + 1) (ns ++ [Sp.nd 2]) (m + 1)
      else match Sp.testV (zs.map ptZ) t.data.toList (p + 1) with
        | .bad q => .bad 50 q
        | .ok q n => .ok q (ns ++ [n]) (m + 1)) else .bad 50 p := by
    rw [← hR]
    unfold Sp.leafV
    rw [hk1, hk2, hnb]
    cases nb with
    | true => rw [if_pos ⟨hk, rfl⟩, if_pos rfl]; rfl
    | false => rw [if_neg (fun h => absurd h.2 (by decide)), if_neg (by decide)]
  have HLF := Lib.hid hleaf
  have hS0 : w.cell? ⟨N, 0, none⟩ = some (.slice (some ⟨g, o, none⟩) n cap) ∧ w.cell? ⟨N, 1, none⟩ = some (.int .i64 (p : Nat)) ∧ w.cell? ⟨g, o + p * 4, none⟩ = some (.int .i64 k) ∧ w.cell? ⟨g, o + p * 4 + 1, none⟩ = some (.string t) := ⟨c0, c1, a0, a1⟩
  have HTST := Lib.hid (fun W (h : FSt W0 N (some ⟨g, o, none⟩) n cap p st ns (m + 1) 0 W) => f_test h hn hpn hv hts hz hl (R := Sp.testV (zs.map ptZ) t.data.toList (p + 1)) rfl)
  clear hR hn hv hts hTl h33 h40 hlt hbel hz hk1 hk2 hk hzs hnm hnb hleaf
  cases nb with
  | false =>
    have HRR : Hid (R = .bad 50 p) := by show _ = _; rw [HLF.out, if_neg (by decide)]
    clear hm hl
    go_enter Tryz.func19, Tryz.ntmps19
    go_wp2_with fail
    go_region_held3 (fun w' => w'.cell? ⟨N, 0, none⟩ = some (.slice (some ⟨g, o, none⟩) n cap) ∧ w'.cell? ⟨N, 1, none⟩ = some (.int .i64 (p : Nat)) ∧ w'.cell? ⟨g, o + p * 4, none⟩ = some (.int .i64 k) ∧ w'.cell? ⟨g, o + p * 4 + 1, none⟩ = some (.string t))
      (first | go_keep | exact hS0 | exact ks)
      ((go_at_call 33; refine (HNM.out _).mono ?_; rintro e w4 ⟨rfl, rfl⟩; have ks := hS0))
    obtain ⟨WX, hWX⟩ : ∃ X, w.drew = X := ⟨_, rfl⟩
    have HFX : Hid (FSt W0 N (some ⟨g, o, none⟩) n cap p st ns m 0 WX) := by rw [← hWX]; exact HF.out.drewN 1
    have hSX : WX.cell? ⟨N, 0, none⟩ = some (.slice (some ⟨g, o, none⟩) n cap) ∧ WX.cell? ⟨N, 1, none⟩ = some (.int .i64 (p : Nat)) ∧ WX.cell? ⟨g, o + p * 4, none⟩ = some (.int .i64 k) ∧ WX.cell? ⟨g, o + p * 4 + 1, none⟩ = some (.string t) := by rw [← hWX]; exact hS0
    rw [hWX]
    clear hWX c0 c1 a0 a1 hS0
    obtain ⟨c0, c1, a0, a1⟩ := hSX
    go_wp2_with fail
    refine (HS1.out _ HFX.out).mono ?_
    rintro e w2 ⟨rfl, rfl⟩
    go_wp2_with fail
    refine (HS2.out _ HFX.out).mono ?_
    rintro e w2 ⟨rfl, rfl⟩
    go_wp2_with fail
    go_quiet (fail)
    go_wp2_with fail
    go_quiet (fail)
    go_wp2_with fail
    refine (HFL.out _ (HFX.out.drewN _)).mono ?_
    rintro e w6 ⟨rfl, h6, _⟩
    obtain ⟨_, d1, e1, _, _, d5, _⟩ := h6.cells
    have H6 := Lib.hid h6
    clear h6
    go_wp2_with fail
    go_ret
    exact OpdEnd_bad HRR.out rfl H6.out
  | true =>
    have hl2 := HLF.out
    rw [if_pos rfl] at hl2
    by_cases hany : t.data.toList = Sp.anyW
    · have s1 : (t.toList == [97, 110, 121]) = true := by rw [Lib.toList_data, hany]; rfl
      by_cases h64 : 64 ≤ m
      · have HRR : Hid (R = .bad 51 p) := by show _ = _; rw [hl2, if_pos h64]
        have HPL := Lib.hid (fun W (h : FSt W0 N (some ⟨g, o, none⟩) n cap p st ns m 0 W) => f_plain_no h h64 hm 1)
        clear hl2 h64 hany hm hl
        go_enter Tryz.func19, Tryz.ntmps19
        go_wp2_with fail
        go_region_held3 (fun w' => w'.cell? ⟨N, 0, none⟩ = some (.slice (some ⟨g, o, none⟩) n cap) ∧ w'.cell? ⟨N, 1, none⟩ = some (.int .i64 (p : Nat)) ∧ w'.cell? ⟨g, o + p * 4, none⟩ = some (.int .i64 k) ∧ w'.cell? ⟨g, o + p * 4 + 1, none⟩ = some (.string t))
          (first | go_keep | exact hS0 | exact ks)
          ((go_at_call 33; refine (HNM.out _).mono ?_; rintro e w4 ⟨rfl, rfl⟩; have ks := hS0))
        obtain ⟨WX, hWX⟩ : ∃ X, w.drew = X := ⟨_, rfl⟩
        have HFX : Hid (FSt W0 N (some ⟨g, o, none⟩) n cap p st ns m 0 WX) := by rw [← hWX]; exact HF.out.drewN 1
        have hSX : WX.cell? ⟨N, 0, none⟩ = some (.slice (some ⟨g, o, none⟩) n cap) ∧ WX.cell? ⟨N, 1, none⟩ = some (.int .i64 (p : Nat)) ∧ WX.cell? ⟨g, o + p * 4, none⟩ = some (.int .i64 k) ∧ WX.cell? ⟨g, o + p * 4 + 1, none⟩ = some (.string t) := by rw [← hWX]; exact hS0
        rw [hWX]
        clear hWX c0 c1 a0 a1 hS0
        obtain ⟨c0, c1, a0, a1⟩ := hSX
        go_wp2_with fail
        refine (HS1.out _ HFX.out).mono ?_
        rintro e w2 ⟨rfl, rfl⟩
        go_wp2_with fail
        refine (HS2.out _ HFX.out).mono ?_
        rintro e w2 ⟨rfl, rfl⟩
        go_wp2_with fail
        go_quiet (fail)
        go_wp2_with fail
        refine (HPL.out _ (HFX.out.drewN _)).mono ?_
        rintro e w6 ⟨rfl, h6⟩
        go_wp2_with fail
        go_ret
        exact OpdEnd_bad HRR.out rfl h6
      · have HRR : Hid (R = .ok (p + 1) (ns ++ [Sp.nd 1]) (m + 1)) := by show _ = _; rw [hl2, if_neg h64, if_pos hany]
        have HPL := Lib.hid (fun W (h : FSt W0 N (some ⟨g, o, none⟩) n cap p st ns m 0 W) => f_plain_ok h (by omega) h64 hl 1)
        clear hl2 h64 hany hm hl
        go_enter Tryz.func19, Tryz.ntmps19
        go_wp2_with fail
        go_region_held3 (fun w' => w'.cell? ⟨N, 0, none⟩ = some (.slice (some ⟨g, o, none⟩) n cap) ∧ w'.cell? ⟨N, 1, none⟩ = some (.int .i64 (p : Nat)) ∧ w'.cell? ⟨g, o + p * 4, none⟩ = some (.int .i64 k) ∧ w'.cell? ⟨g, o + p * 4 + 1, none⟩ = some (.string t))
          (first | go_keep | exact hS0 | exact ks)
          ((go_at_call 33; refine (HNM.out _).mono ?_; rintro e w4 ⟨rfl, rfl⟩; have ks := hS0))
        obtain ⟨WX, hWX⟩ : ∃ X, w.drew = X := ⟨_, rfl⟩
        have HFX : Hid (FSt W0 N (some ⟨g, o, none⟩) n cap p st ns m 0 WX) := by rw [← hWX]; exact HF.out.drewN 1
        have hSX : WX.cell? ⟨N, 0, none⟩ = some (.slice (some ⟨g, o, none⟩) n cap) ∧ WX.cell? ⟨N, 1, none⟩ = some (.int .i64 (p : Nat)) ∧ WX.cell? ⟨g, o + p * 4, none⟩ = some (.int .i64 k) ∧ WX.cell? ⟨g, o + p * 4 + 1, none⟩ = some (.string t) := by rw [← hWX]; exact hS0
        rw [hWX]
        clear hWX c0 c1 a0 a1 hS0
        obtain ⟨c0, c1, a0, a1⟩ := hSX
        go_wp2_with fail
        refine (HS1.out _ HFX.out).mono ?_
        rintro e w2 ⟨rfl, rfl⟩
        go_wp2_with fail
        refine (HS2.out _ HFX.out).mono ?_
        rintro e w2 ⟨rfl, rfl⟩
        go_wp2_with fail
        go_quiet (fail)
        go_wp2_with fail
        refine (HPL.out _ (HFX.out.drewN _)).mono ?_
        rintro e w6 ⟨rfl, h6⟩
        go_wp2_with fail
        go_ret
        exact OpdEnd_ok HRR.out rfl h6
    by_cases hnone : t.data.toList = Sp.noneW
    · have s1 : (t.toList == [97, 110, 121]) = false := by rw [Lib.toList_data]; exact beq_eq_false_iff_ne.2 hany
      have s2 : (t.toList == [110, 111, 110, 101]) = true := by rw [Lib.toList_data, hnone]; rfl
      by_cases h64 : 64 ≤ m
      · have HRR : Hid (R = .bad 51 p) := by show _ = _; rw [hl2, if_pos h64]
        have HPL := Lib.hid (fun W (h : FSt W0 N (some ⟨g, o, none⟩) n cap p st ns m 0 W) => f_plain_no h h64 hm 2)
        clear hl2 h64 hany hnone hm hl
        go_enter Tryz.func19, Tryz.ntmps19
        go_wp2_with fail
        go_region_held3 (fun w' => w'.cell? ⟨N, 0, none⟩ = some (.slice (some ⟨g, o, none⟩) n cap) ∧ w'.cell? ⟨N, 1, none⟩ = some (.int .i64 (p : Nat)) ∧ w'.cell? ⟨g, o + p * 4, none⟩ = some (.int .i64 k) ∧ w'.cell? ⟨g, o + p * 4 + 1, none⟩ = some (.string t))
          (first | go_keep | exact hS0 | exact ks)
          ((go_at_call 33; refine (HNM.out _).mono ?_; rintro e w4 ⟨rfl, rfl⟩; have ks := hS0))
        obtain ⟨WX, hWX⟩ : ∃ X, w.drew = X := ⟨_, rfl⟩
        have HFX : Hid (FSt W0 N (some ⟨g, o, none⟩) n cap p st ns m 0 WX) := by rw [← hWX]; exact HF.out.drewN 1
        have hSX : WX.cell? ⟨N, 0, none⟩ = some (.slice (some ⟨g, o, none⟩) n cap) ∧ WX.cell? ⟨N, 1, none⟩ = some (.int .i64 (p : Nat)) ∧ WX.cell? ⟨g, o + p * 4, none⟩ = some (.int .i64 k) ∧ WX.cell? ⟨g, o + p * 4 + 1, none⟩ = some (.string t) := by rw [← hWX]; exact hS0
        rw [hWX]
        clear hWX c0 c1 a0 a1 hS0
        obtain ⟨c0, c1, a0, a1⟩ := hSX
        go_wp2_with fail
        refine (HS1.out _ HFX.out).mono ?_
        rintro e w2 ⟨rfl, rfl⟩
        go_wp2_with fail
        refine (HS2.out _ HFX.out).mono ?_
        rintro e w2 ⟨rfl, rfl⟩
        go_wp2_with fail
        go_quiet (fail)
        go_wp2_with fail
        go_quiet (fail)
        go_wp2_with fail
        refine (HPL.out _ (HFX.out.drewN _)).mono ?_
        rintro e w6 ⟨rfl, h6⟩
        go_wp2_with fail
        go_ret
        exact OpdEnd_bad HRR.out rfl h6
      · have HRR : Hid (R = .ok (p + 1) (ns ++ [Sp.nd 2]) (m + 1)) := by show _ = _; rw [hl2, if_neg h64, if_neg hany, if_pos hnone]
        have HPL := Lib.hid (fun W (h : FSt W0 N (some ⟨g, o, none⟩) n cap p st ns m 0 W) => f_plain_ok h (by omega) h64 hl 2)
        clear hl2 h64 hany hnone hm hl
        go_enter Tryz.func19, Tryz.ntmps19
        go_wp2_with fail
        go_region_held3 (fun w' => w'.cell? ⟨N, 0, none⟩ = some (.slice (some ⟨g, o, none⟩) n cap) ∧ w'.cell? ⟨N, 1, none⟩ = some (.int .i64 (p : Nat)) ∧ w'.cell? ⟨g, o + p * 4, none⟩ = some (.int .i64 k) ∧ w'.cell? ⟨g, o + p * 4 + 1, none⟩ = some (.string t))
          (first | go_keep | exact hS0 | exact ks)
          ((go_at_call 33; refine (HNM.out _).mono ?_; rintro e w4 ⟨rfl, rfl⟩; have ks := hS0))
        obtain ⟨WX, hWX⟩ : ∃ X, w.drew = X := ⟨_, rfl⟩
        have HFX : Hid (FSt W0 N (some ⟨g, o, none⟩) n cap p st ns m 0 WX) := by rw [← hWX]; exact HF.out.drewN 1
        have hSX : WX.cell? ⟨N, 0, none⟩ = some (.slice (some ⟨g, o, none⟩) n cap) ∧ WX.cell? ⟨N, 1, none⟩ = some (.int .i64 (p : Nat)) ∧ WX.cell? ⟨g, o + p * 4, none⟩ = some (.int .i64 k) ∧ WX.cell? ⟨g, o + p * 4 + 1, none⟩ = some (.string t) := by rw [← hWX]; exact hS0
        rw [hWX]
        clear hWX c0 c1 a0 a1 hS0
        obtain ⟨c0, c1, a0, a1⟩ := hSX
        go_wp2_with fail
        refine (HS1.out _ HFX.out).mono ?_
        rintro e w2 ⟨rfl, rfl⟩
        go_wp2_with fail
        refine (HS2.out _ HFX.out).mono ?_
        rintro e w2 ⟨rfl, rfl⟩
        go_wp2_with fail
        go_quiet (fail)
        go_wp2_with fail
        go_quiet (fail)
        go_wp2_with fail
        refine (HPL.out _ (HFX.out.drewN _)).mono ?_
        rintro e w6 ⟨rfl, h6⟩
        go_wp2_with fail
        go_ret
        exact OpdEnd_ok HRR.out rfl h6
    have s1 : (t.toList == [97, 110, 121]) = false := by rw [Lib.toList_data]; exact beq_eq_false_iff_ne.2 hany
    have s2 : (t.toList == [110, 111, 110, 101]) = false := by rw [Lib.toList_data]; exact beq_eq_false_iff_ne.2 hnone
    by_cases h64 : 64 ≤ m
    · have HRR : Hid (R = .bad 51 p) := by show _ = _; rw [hl2, if_pos h64]
      have HMK := Lib.hid (fun W (h : FSt W0 N (some ⟨g, o, none⟩) n cap p st ns m 0 W) => f_make h (by omega) (c' := 51) (by rw [if_pos ⟨rfl, h64⟩]))
      clear hl2 h64 hany hnone hm hl
      go_enter Tryz.func19, Tryz.ntmps19
      go_wp2_with fail
      go_region_held3 (fun w' => w'.cell? ⟨N, 0, none⟩ = some (.slice (some ⟨g, o, none⟩) n cap) ∧ w'.cell? ⟨N, 1, none⟩ = some (.int .i64 (p : Nat)) ∧ w'.cell? ⟨g, o + p * 4, none⟩ = some (.int .i64 k) ∧ w'.cell? ⟨g, o + p * 4 + 1, none⟩ = some (.string t))
        (first | go_keep | exact hS0 | exact ks)
        ((go_at_call 33; refine (HNM.out _).mono ?_; rintro e w4 ⟨rfl, rfl⟩; have ks := hS0))
      obtain ⟨WX, hWX⟩ : ∃ X, w.drew = X := ⟨_, rfl⟩
      have HFX : Hid (FSt W0 N (some ⟨g, o, none⟩) n cap p st ns m 0 WX) := by rw [← hWX]; exact HF.out.drewN 1
      have hSX : WX.cell? ⟨N, 0, none⟩ = some (.slice (some ⟨g, o, none⟩) n cap) ∧ WX.cell? ⟨N, 1, none⟩ = some (.int .i64 (p : Nat)) ∧ WX.cell? ⟨g, o + p * 4, none⟩ = some (.int .i64 k) ∧ WX.cell? ⟨g, o + p * 4 + 1, none⟩ = some (.string t) := by rw [← hWX]; exact hS0
      rw [hWX]
      clear hWX c0 c1 a0 a1 hS0
      obtain ⟨c0, c1, a0, a1⟩ := hSX
      go_wp2_with fail
      refine (HS1.out _ HFX.out).mono ?_
      rintro e w2 ⟨rfl, rfl⟩
      go_wp2_with fail
      refine (HS2.out _ HFX.out).mono ?_
      rintro e w2 ⟨rfl, rfl⟩
      go_wp2_with fail
      go_quiet (fail)
      go_wp2_with fail
      go_quiet (fail)
      go_wp2_with fail
      refine (HMK.out _ (HFX.out.drewN _)).mono ?_
      rintro e w6 ⟨rfl, h6⟩
      clear c0 c1 a0 a1
      obtain ⟨_, d1, e1, _, _, d5, _⟩ := h6.cells
      have H6 := Lib.hid h6
      clear h6
      go_wp2_with fail
      go_ret
      exact OpdEnd_bad HRR.out rfl H6.out
    rw [if_neg h64, if_neg hany, if_neg hnone] at hl2
    have HMK := Lib.hid (fun W (h : FSt W0 N (some ⟨g, o, none⟩) n cap p st ns m 0 W) => f_make h (by omega) (c' := 0) (by rw [if_neg (fun h => h64 h.2)]))
    clear h64 hany hnone hm hl
    cases ht : Sp.testV (zs.map ptZ) t.data.toList (p + 1) with
    | bad q =>
      rw [ht] at hl2
      have HRR := Lib.hid hl2
      have HTT : Hid (∀ W, FSt W0 N (some ⟨g, o, none⟩) n cap p st ns (m + 1) 0 W → Calls Tryz.prog 38 #[.pointer (some ⟨N, 0, none⟩)] W fun e w' => e = .returned (.tuple #[]) ∧ ∃ ns', FSt W0 N (some ⟨g, o, none⟩) n cap q st ns' (m + 1) 50 w') := by
        intro W h
        have := HTST.out W h
        rw [ht] at this
        exact this
      clear ht hl2
      go_enter Tryz.func19, Tryz.ntmps19
      go_wp2_with fail
      go_region_held3 (fun w' => w'.cell? ⟨N, 0, none⟩ = some (.slice (some ⟨g, o, none⟩) n cap) ∧ w'.cell? ⟨N, 1, none⟩ = some (.int .i64 (p : Nat)) ∧ w'.cell? ⟨g, o + p * 4, none⟩ = some (.int .i64 k) ∧ w'.cell? ⟨g, o + p * 4 + 1, none⟩ = some (.string t))
        (first | go_keep | exact hS0 | exact ks)
        ((go_at_call 33; refine (HNM.out _).mono ?_; rintro e w4 ⟨rfl, rfl⟩; have ks := hS0))
      obtain ⟨WX, hWX⟩ : ∃ X, w.drew = X := ⟨_, rfl⟩
      have HFX : Hid (FSt W0 N (some ⟨g, o, none⟩) n cap p st ns m 0 WX) := by rw [← hWX]; exact HF.out.drewN 1
      have hSX : WX.cell? ⟨N, 0, none⟩ = some (.slice (some ⟨g, o, none⟩) n cap) ∧ WX.cell? ⟨N, 1, none⟩ = some (.int .i64 (p : Nat)) ∧ WX.cell? ⟨g, o + p * 4, none⟩ = some (.int .i64 k) ∧ WX.cell? ⟨g, o + p * 4 + 1, none⟩ = some (.string t) := by rw [← hWX]; exact hS0
      rw [hWX]
      clear hWX c0 c1 a0 a1 hS0
      obtain ⟨c0, c1, a0, a1⟩ := hSX
      go_wp2_with fail
      refine (HS1.out _ HFX.out).mono ?_
      rintro e w2 ⟨rfl, rfl⟩
      go_wp2_with fail
      refine (HS2.out _ HFX.out).mono ?_
      rintro e w2 ⟨rfl, rfl⟩
      go_wp2_with fail
      go_quiet (fail)
      go_wp2_with fail
      go_quiet (fail)
      go_wp2_with fail
      refine (HMK.out _ (HFX.out.drewN _)).mono ?_
      rintro e w6 ⟨rfl, h6⟩
      clear c0 c1 a0 a1
      obtain ⟨_, d1, e1, _, _, d5, _⟩ := h6.cells
      have HT6 := Lib.hid (HTT.out _ h6)
      clear h6
      go_wp2_with fail
      refine HT6.out.mono ?_
      rintro e w7 ⟨rfl, ns', h7⟩
      go_wp2_with fail
      go_ret
      exact OpdEnd_bad HRR.out rfl h7
    | ok q x =>
      rw [ht] at hl2
      have HRR := Lib.hid hl2
      have HTT : Hid (∀ W, FSt W0 N (some ⟨g, o, none⟩) n cap p st ns (m + 1) 0 W → Calls Tryz.prog 38 #[.pointer (some ⟨N, 0, none⟩)] W fun e w' => e = .returned (.tuple #[]) ∧ FSt W0 N (some ⟨g, o, none⟩) n cap q st (ns ++ [x]) (m + 1) 0 w') := by
        intro W h
        have := HTST.out W h
        rw [ht] at this
        exact this
      clear ht hl2
      go_enter Tryz.func19, Tryz.ntmps19
      go_wp2_with fail
      go_region_held3 (fun w' => w'.cell? ⟨N, 0, none⟩ = some (.slice (some ⟨g, o, none⟩) n cap) ∧ w'.cell? ⟨N, 1, none⟩ = some (.int .i64 (p : Nat)) ∧ w'.cell? ⟨g, o + p * 4, none⟩ = some (.int .i64 k) ∧ w'.cell? ⟨g, o + p * 4 + 1, none⟩ = some (.string t))
        (first | go_keep | exact hS0 | exact ks)
        ((go_at_call 33; refine (HNM.out _).mono ?_; rintro e w4 ⟨rfl, rfl⟩; have ks := hS0))
      obtain ⟨WX, hWX⟩ : ∃ X, w.drew = X := ⟨_, rfl⟩
      have HFX : Hid (FSt W0 N (some ⟨g, o, none⟩) n cap p st ns m 0 WX) := by rw [← hWX]; exact HF.out.drewN 1
      have hSX : WX.cell? ⟨N, 0, none⟩ = some (.slice (some ⟨g, o, none⟩) n cap) ∧ WX.cell? ⟨N, 1, none⟩ = some (.int .i64 (p : Nat)) ∧ WX.cell? ⟨g, o + p * 4, none⟩ = some (.int .i64 k) ∧ WX.cell? ⟨g, o + p * 4 + 1, none⟩ = some (.string t) := by rw [← hWX]; exact hS0
      rw [hWX]
      clear hWX c0 c1 a0 a1 hS0
      obtain ⟨c0, c1, a0, a1⟩ := hSX
      go_wp2_with fail
      refine (HS1.out _ HFX.out).mono ?_
      rintro e w2 ⟨rfl, rfl⟩
      go_wp2_with fail
      refine (HS2.out _ HFX.out).mono ?_
      rintro e w2 ⟨rfl, rfl⟩
      go_wp2_with fail
      go_quiet (fail)
      go_wp2_with fail
      go_quiet (fail)
      go_wp2_with fail
      refine (HMK.out _ (HFX.out.drewN _)).mono ?_
      rintro e w6 ⟨rfl, h6⟩
      clear c0 c1 a0 a1
      obtain ⟨_, d1, e1, _, _, d5, _⟩ := h6.cells
      have HT6 := Lib.hid (HTT.out _ h6)
      clear h6
      go_wp2_with fail
      refine HT6.out.mono ?_
      rintro e w7 ⟨rfl, h7⟩
      go_wp2_with fail
      go_ret
      exact OpdEnd_ok HRR.out rfl h7
end
end Go.Proofs.YtdmpapoabeljfaaGreatDoor
