/-
  THE WALK of reachref3.valid (chapter 3).
-/
import Derived.Test.YtjedoipbllcfdaaGreatDoorSg
set_option linter.unusedVariables false
set_option linter.unusedSimpArgs false
set_option maxRecDepth 100000
set_option maxHeartbeats 8000000
namespace Go.Proofs.YtjedoipbllcfdaaGreatDoor
open Go.RowKit

def prevP (pts : List Sp.Pt) (i : Nat) : Sp.Pt := if i = 0 then Sp.p0 else (pts[i - 1]?).getD Sp.p0

theorem ref3_valid (A : Option Addr) (cap n : Nat) (zs : List ZTok) (w : World) (hG : Gr w) (hn : zs.length = n) (hnb : n ≤ 4611686018427387904) (hv : ViewZ w w.heap.size A zs) (hts : ∀ z ∈ zs, z.2.1.size ≤ 1073741824) :
    Calls Tryz.prog 22 #[.slice A n cap] w fun e w' => e = .returned (.bool (Sp.validV Sp.p0 (zs.map ptZ))) ∧ Below w.heap.size w w' := by
  obtain ⟨pts, hpts⟩ : ∃ pts, zs.map ptZ = pts := ⟨_, rfl⟩
  rw [hpts]
  obtain ⟨R, hR⟩ : ∃ R, Sp.validV Sp.p0 pts = R := ⟨_, rfl⟩
  rw [hR]
  have hpl : pts.length = n := by rw [← hpts, List.length_map, hn]
  have hpz : ∀ (i : Nat) (z : ZTok), zs[i]? = some z → pts[i]? = some (ptZ z) := by
    intro i z hz
    rw [← hpts, List.getElem?_map, hz]
    rfl
  have hpd : ∀ (i : Nat) (z : ZTok), zs[i]? = some z → pts.drop i = ptZ z :: pts.drop (i + 1) := by
    intro i z hz
    have := hpz i z hz
    have hlt : i < pts.length := (List.getElem?_eq_some_iff.1 this).1
    rw [List.drop_eq_getElem_cons hlt, (List.getElem?_eq_some_iff.1 this).2]
  have hpp : ∀ (i : Nat) (z : ZTok), zs[i]? = some z → prevP pts (i + 1) = ptZ z := by
    intro i z hz
    unfold prevP
    rw [if_neg (by omega), Nat.add_sub_cancel, hpz i z hz]
    rfl
  have HPD := Lib.hid hpd
  have HPP := Lib.hid hpp
  have HN := Lib.hid hn
  have HPL := Lib.hid hpl
  have HV := Lib.hid hv
  have HG := Lib.hid hG
  have HTS := Lib.hid hts
  have HR := Lib.hid hR
  clear hpz hpd hpp hn hpl hv hG hts hpts hR
  go_enter Tryz.func22, Tryz.ntmps22
  go_wp2_with fail
  go_loopw [3, 4] (fun v3 _ wr => ∃ i : Nat, v3 = .int .i64 (i : Int) ∧ i ≤ n ∧ Below w.heap.size w wr ∧ Hid (R = Sp.validV (prevP pts i) (pts.drop i))) (fun v3 _ _ => n - (intOf v3).toNat)
  case atStart => exact ⟨0, rfl, by omega, Below.refl _ _, by rw [List.drop_zero]; exact HR.out.symm⟩
  case round =>
    obtain ⟨i, rfl, hi, hb, HF⟩ := hrel
    have HB := Lib.hid hb
    have hBw := hb.size
    by_cases hlt : i < n
    · have q2 : decide ((i : Int) < n) = true := decide_eq_true (by omega)
      have p1 : (i : Int) < n := by omega
      have p2 : (0 : Int) ≤ (i : Int) := by omega
      obtain ⟨z, hz⟩ : ∃ z, zs[i]? = some z := ⟨_, List.getElem?_eq_getElem (by rw [HN.out]; exact hlt)⟩
      obtain ⟨g, o, hA, hg, hza⟩ := HV.out i z hz
      obtain ⟨a0, a1, _, _⟩ := hza.below hb hg
      have hzs := HTS.out z (List.mem_of_getElem? hz)
      have hd := HPD.out i z hz
      have hnx := HPP.out i z hz
      have hgr := HG.out.below (hb.drew)
      obtain ⟨k, t, l, c⟩ := z
      simp only [] at a0 a1 hzs
      have hpt : ptZ (k, t, l, c) = (k, t.data.toList) := rfl
      have hf := HF.out
      rw [hd, hpt, Sp.validV] at hf
      rw [hpt] at hnx
      have hwh := ref3_whole k t wr.drew hgr hzs
      obtain ⟨ok, hok⟩ : ∃ ok, Sp.okT (k, t.data.toList) = ok := ⟨_, rfl⟩
      rw [hok] at hf hwh
      simp only at hf
      have HWH := Lib.hid hwh
      have HNX := Lib.hid hnx
      have HD := Lib.hid hd
      have hlg : g < wr.heap.size := by omega
      have hS2 : wr.cell? ⟨g, o + i * 4, none⟩ = some (.int .i64 k) ∧ wr.cell? ⟨g, o + i * 4 + 1, none⟩ = some (.string t) := ⟨a0, a1⟩
      have hkeep : ∀ w5, Below wr.drew.heap.size wr.drew w5 → w5.cell? ⟨g, o + i * 4, none⟩ = some (.int .i64 k) ∧ w5.cell? ⟨g, o + i * 4 + 1, none⟩ = some (.string t) := fun w5 hb5 => ⟨(hb5.cell (p := ⟨g, o + i * 4, none⟩) hlg).trans a0, (hb5.cell (p := ⟨g, o + i * 4 + 1, none⟩) hlg).trans a1⟩
      have HK := Lib.hid hkeep
      have hbd := hb.drew
      have HBD := Lib.hid hbd
      have HZ := Lib.hid hz
      have HA := Lib.hid hA
      have HF1 := Lib.hid hf
      clear hz hza hd hnx hgr hpt hwh hok hkeep hbd hb HF hf
      rw [hA]
      clear hA
      cases ok with
      | false =>
        have HRR : Hid (false = R) := by show _ = _; rw [HF1.out]; simp
        clear HF1
        go_wp2_with fail
        go_region_held3 (fun w' => w'.cell? ⟨g, o + i * 4, none⟩ = some (.int .i64 k) ∧ w'.cell? ⟨g, o + i * 4 + 1, none⟩ = some (.string t))
          (first | go_keep | exact hS2 | exact ks)
          ((go_at_call 31; refine HWH.out.mono ?_; rintro e w5 ⟨rfl, hb5⟩; have ks := HK.out w5 hb5))
        obtain ⟨a0, a1⟩ := ks
        go_wp2_with fail
        go_ret
        exact ⟨ret_bool HRR.out, HBD.out.trans (hb5.mono (by show _ ≤ wr.heap.size; omega))⟩
      | true =>
        by_cases hk1 : k = 1
        · have q3 : ((k : Int) == 1) = true := beq_iff_eq.2 hk1
          by_cases hi0 : i = 0
          · have q4 : ((i : Int) == 0) = true := beq_iff_eq.2 (by omega)
            have HRR : Hid (false = R) := by show _ = _; rw [HF1.out, hk1]; unfold prevP; rw [if_pos hi0]; rfl
            clear HF1 hk1 hi0
            go_wp2_with fail
            go_region_held3 (fun w' => w'.cell? ⟨g, o + i * 4, none⟩ = some (.int .i64 k) ∧ w'.cell? ⟨g, o + i * 4 + 1, none⟩ = some (.string t))
              (first | go_keep | exact hS2 | exact ks)
              ((go_at_call 31; refine HWH.out.mono ?_; rintro e w5 ⟨rfl, hb5⟩; have ks := HK.out w5 hb5))
            obtain ⟨a0, a1⟩ := ks
            go_wp2_with fail
            go_ret
            exact ⟨ret_bool HRR.out, HBD.out.trans (hb5.mono (by show _ ≤ wr.heap.size; omega))⟩
          · obtain ⟨j, hij⟩ : ∃ j, i = j + 1 := ⟨i - 1, by omega⟩
            have q4 : ((i : Int) == 0) = false := beq_eq_false_iff_ne.2 (by omega)
            have z2 : (0 : Int) ≤ (i : Int) - 1 := by omega
            have z3 : (i : Int) - 1 < (n : Int) := by omega
            have z4 : IntKind.i64.wrap ((i : Int) - 1) = (i : Int) - 1 := by rw [IntKind.wrap_i64]; omega
            have z5 : ((i : Int) - 1).toNat = j := by omega
            have z6 : (1 : Int) ≤ (i : Int) := by omega
            have z7 : 1 ≤ i := by omega
            have z8 : (i : Int) ≤ (n : Int) := by omega
            have z9 : 0 < i := by omega
            obtain ⟨zp, hzp⟩ : ∃ zp, zs[j]? = some zp := ⟨_, List.getElem?_eq_getElem (by rw [HN.out]; omega)⟩
            obtain ⟨g2, o2, hA2, hg2, hzp2⟩ := HV.out j zp hzp
            rw [HA.out] at hA2
            injection hA2 with hA2
            injection hA2 with e1 e2
            subst e1
            subst e2
            have b0 := (hzp2.below HB.out hg).1
            have hpv : prevP pts i = ptZ zp := by rw [hij]; exact HPP.out j zp hzp
            obtain ⟨pk, pt, pl, pc⟩ := zp
            simp only [] at b0
            have hf := HF1.out
            rw [hpv] at hf
            have hf2 : R = (true && !(k == 1 && pk == 1) && Sp.validV (k, t.data.toList) (pts.drop (i + 1))) := hf
            have HB0 := Lib.hid b0
            have HIJ := Lib.hid hij
            by_cases hpk : pk = 1
            · have q5 : ((pk : Int) == 1) = true := beq_iff_eq.2 hpk
              have HRR : Hid (false = R) := by show _ = _; rw [hf2, hk1, hpk]; simp
              clear HF1 hk1 hzp hzp2 hpv hf hf2 hpk b0 hij
              go_wp2_with fail
              go_region_held3 (fun w' => w'.cell? ⟨g, o + i * 4, none⟩ = some (.int .i64 k) ∧ w'.cell? ⟨g, o + i * 4 + 1, none⟩ = some (.string t))
                (first | go_keep | exact hS2 | exact ks)
                ((go_at_call 31; refine HWH.out.mono ?_; rintro e w5 ⟨rfl, hb5⟩; have ks := HK.out w5 hb5))
              obtain ⟨a0, a1⟩ := ks
              have b0 : w5.cell? ⟨g, o + j * 4, none⟩ = some (.int .i64 pk) := (hb5.cell (p := ⟨g, o + j * 4, none⟩) hlg).trans HB0.out
              go_wp2_with fail
              go_ret
              exact ⟨ret_bool HRR.out, HBD.out.trans (hb5.mono (by show _ ≤ wr.heap.size; omega))⟩
            · have q5 : ((pk : Int) == 1) = false := beq_eq_false_iff_ne.2 hpk
              have HF2 : Hid (R = Sp.validV (prevP pts (i + 1)) (pts.drop (i + 1))) := by
                show _ = _
                rw [hf2, HNX.out, beq_eq_false_iff_ne.2 hpk, Bool.and_false]
                rfl
              clear HF1 hk1 hzp hzp2 hpv hf hf2 hpk b0 hij
              go_wp2_with fail
              go_region_held3 (fun w' => w'.cell? ⟨g, o + i * 4, none⟩ = some (.int .i64 k) ∧ w'.cell? ⟨g, o + i * 4 + 1, none⟩ = some (.string t))
                (first | go_keep | exact hS2 | exact ks)
                ((go_at_call 31; refine HWH.out.mono ?_; rintro e w5 ⟨rfl, hb5⟩; have ks := HK.out w5 hb5))
              obtain ⟨a0, a1⟩ := ks
              have b0 : w5.cell? ⟨g, o + j * 4, none⟩ = some (.int .i64 pk) := (hb5.cell (p := ⟨g, o + j * 4, none⟩) hlg).trans HB0.out
              go_wp2_with fail
              go_roundw
              case rel => exact ⟨i + 1, by rfl, by omega, HBD.out.trans (hb5.mono (by show _ ≤ wr.heap.size; omega)), HF2⟩
              case measure => simp [intOf]; omega
        · have q3 : ((k : Int) == 1) = false := beq_eq_false_iff_ne.2 hk1
          have HF2 : Hid (R = Sp.validV (prevP pts (i + 1)) (pts.drop (i + 1))) := by
            show _ = _
            rw [HF1.out, HNX.out, q3]
            rfl
          clear HF1 hk1
          go_wp2_with fail
          go_region_held3 (fun w' => w'.cell? ⟨g, o + i * 4, none⟩ = some (.int .i64 k) ∧ w'.cell? ⟨g, o + i * 4 + 1, none⟩ = some (.string t))
            (first | go_keep | exact hS2 | exact ks)
            ((go_at_call 31; refine HWH.out.mono ?_; rintro e w5 ⟨rfl, hb5⟩; have ks := HK.out w5 hb5))
          obtain ⟨a0, a1⟩ := ks
          go_wp2_with fail
          go_roundw
          case rel => exact ⟨i + 1, by rfl, by omega, HBD.out.trans (hb5.mono (by show _ ≤ wr.heap.size; omega)), HF2⟩
          case measure => simp [intOf]; omega
    · have q2 : decide ((i : Int) < n) = false := decide_eq_false (by omega)
      have hin : i = n := by omega
      have hf := HF.out
      rw [List.drop_eq_nil_of_le (by rw [HPL.out]; omega), Sp.validV] at hf
      by_cases h0 : n = 0
      · have q4 : ((n : Int) == 0) = true := beq_iff_eq.2 (by omega)
        have HRR : Hid (true = R) := by show _ = _; rw [hf]; unfold prevP; rw [if_pos (by omega)]; rfl
        clear hf HF hb hin
        go_wp2_with fail
        go_ret
        exact ⟨ret_bool HRR.out, HB.out⟩
      · obtain ⟨j, hij⟩ : ∃ j, n = j + 1 := ⟨n - 1, by omega⟩
        have q4 : ((n : Int) == 0) = false := beq_eq_false_iff_ne.2 (by omega)
        have z2 : (0 : Int) ≤ (n : Int) - 1 := by omega
        have z3 : (n : Int) - 1 < (n : Int) := by omega
        have z4 : IntKind.i64.wrap ((n : Int) - 1) = (n : Int) - 1 := by rw [IntKind.wrap_i64]; omega
        have z5 : ((n : Int) - 1).toNat = j := by omega
        have z6 : (1 : Int) ≤ (n : Int) := by omega
        have z7 : 1 ≤ n := by omega
        have z9 : 0 < n := by omega
        obtain ⟨zp, hzp⟩ : ∃ zp, zs[j]? = some zp := ⟨_, List.getElem?_eq_getElem (by rw [HN.out]; omega)⟩
        obtain ⟨g, o, hA, hg, hzp2⟩ := HV.out j zp hzp
        have b0 := (hzp2.below HB.out hg).1
        have hpv : prevP pts i = ptZ zp := by rw [hin, hij]; exact HPP.out j zp hzp
        obtain ⟨pk, pt, pl, pc⟩ := zp
        simp only [] at b0
        rw [hpv] at hf
        have HRR : Hid ((pk == 1) = R) := hf.symm
        clear hf HF hb hin hij hpv hzp hzp2
        rw [hA]
        clear hA
        go_wp2_with fail
        go_ret
        exact ⟨ret_bool HRR.out, HB.out⟩
end Go.Proofs.YtjedoipbllcfdaaGreatDoor
