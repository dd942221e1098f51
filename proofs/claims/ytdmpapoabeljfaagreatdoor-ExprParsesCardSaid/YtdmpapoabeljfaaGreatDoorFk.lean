/-
  THE WALKS of the reference's reader's methods closing, chain (chapter 5).
-/
import Derived.Test.YtdmpapoabeljfaaGreatDoorFe
import Derived.Test.YtdmpapoabeljfaaGreatDoorFh
import Derived.Test.YtdmpapoabeljfaaGreatDoorFm
set_option linter.unusedVariables false
set_option linter.unusedSimpArgs false
set_option maxRecDepth 100000
set_option maxHeartbeats 8000000
namespace Go.Proofs.YtdmpapoabeljfaaGreatDoor
open Go.RowKit

section
variable {W0 w w' : World} {N n cap p m c : Nat} {A : Option Addr} {st st' : List UInt8} {ns ns' : List Sp.Nd}
/-- Is a bracket open? The first loop of closing. -/
theorem cls_no (h : FSt W0 N A n cap p st ns m 0 w) {zs : List ZTok} (hn : zs.length = n) (hv : ViewZ W0 N A zs) (hpn : p ≤ 4611686018427387904) (hl : st.length + ns.length ≤ 1000000) (hany : (st.any fun c => c == 40) = false) :
    Calls Tryz.prog 42 #[.pointer (some ⟨N, 0, none⟩)] w fun e w' => e = .returned (.bool false) ∧ FSt W0 N A n cap p st ns m 0 w' := by
  have HANY := Lib.hid hany
  clear hany
  have H := Lib.hid h
  obtain ⟨_, c1, _⟩ := h.cells
  have C1 := Lib.hid c1
  obtain ⟨ov, tv, r1, r2, r3, r4⟩ := h
  obtain ⟨A', cap', rfl⟩ := opn_form r2
  have c2 : w.cell? ⟨N, 2, none⟩ = some (.slice A' st.length cap') := r1.cell 2
  have hat := fun i b (hi : st.reverse[i]? = some b) => opn_at r2 hi
  obtain ⟨k, hk⟩ : ∃ k, st.length = k := ⟨_, rfl⟩
  rw [hk] at c2 hat
  have HA := Lib.hid hat
  have HK := Lib.hid hk
  have HL := Lib.hid hl
  have k1 : (k : Int) ≤ 1000000 := by omega
  clear r1 r2 r3 r4 hk hat c1 hl hn hv
  go_enter Tryz.func42, Tryz.ntmps42
  go_wp2_with fail
  go_loopw [3, 4] (fun v3 v4 wr => wr = w ∧ ∃ (i : Nat), v3 = .bool ((st.reverse.take i).any fun c => c == 40) ∧ v4 = .int .i64 (i : Int) ∧ i ≤ k) (fun _ v4 _ => k - (intOf v4).toNat)
  case atStart => exact ⟨rfl, 0, rfl, rfl, by omega⟩
  case round =>
    obtain ⟨rfl, i, rfl, rfl, hi⟩ := hrel
    by_cases hlt : i < k
    · have z1 : decide ((i : Int) < k) = true := decide_eq_true (by omega)
      have z1b : decide (i < k) = true := decide_eq_true hlt
      have z2 : (i : Int) < k := by omega
      have z3 : (0 : Int) ≤ (i : Int) := by omega
      obtain ⟨b, hb⟩ : ∃ b, st.reverse[i]? = some b := ⟨_, List.getElem?_eq_getElem (by rw [List.length_reverse, HK.out]; exact hlt)⟩
      obtain ⟨g, cap2, hs, a0, _, _⟩ := HA.out i b hb
      injection hs with hs1 hs2 hs3
      subst hs1 hs3
      have hct := Sp.any_take hb
      obtain ⟨u, hu⟩ : ∃ u, ((st.reverse.take i).any fun c => c == 40) = u := ⟨_, rfl⟩
      rw [hu] at hct ⊢
      have HCT := Lib.hid hct
      clear hb hs2 hu hct
      cases u with
      | true =>
        go_wp2_with fail
        go_roundw
        case rel => exact ⟨by trivial, i + 1, by rw [HCT.out]; rfl, by rfl, by omega⟩
        case measure => simp [intOf]; omega
      | false =>
        by_cases hb2 : b = 40
        · have a1 : ((b.toNat : Int) == 40) = true := by rw [hb2]; rfl
          have HCT2 : Hid (((st.reverse.take (i + 1)).any fun c => c == 40) = true) := by show _ = _; rw [HCT.out, hb2]; rfl
          clear hb2 HCT
          go_wp2_with fail
          go_roundw
          case rel => exact ⟨by trivial, i + 1, by rw [HCT2.out], by rfl, by omega⟩
          case measure => simp [intOf]; omega
        · have a1 : ((b.toNat : Int) == 40) = false := beq_eq_false_iff_ne.2 (fun e => hb2 (UInt8.toNat_inj.1 (show b.toNat = 40 by omega)))
          have HCT2 : Hid (((st.reverse.take (i + 1)).any fun c => c == 40) = false) := by show _ = _; rw [HCT.out, beq_eq_false_iff_ne.2 hb2]; rfl
          clear hb2 HCT
          go_wp2_with fail
          go_roundw
          case rel => exact ⟨by trivial, i + 1, by rw [HCT2.out], by rfl, by omega⟩
          case measure => simp [intOf]; omega
    have z1 : decide ((i : Int) < k) = false := decide_eq_false (by omega)
    have z1b : decide (i < k) = false := decide_eq_false hlt
    have hx : ((st.reverse.take i).any fun c => c == 40) = false := by rw [List.take_of_length_le (by rw [List.length_reverse, HK.out]; omega), List.any_reverse]; exact HANY.out
    rw [hx]
    have c1 := C1.out
    clear hx hlt hi
    go_wp2_with fail
    go_ret
    exact ⟨rfl, H.out⟩
  
theorem cls_bad (h : FSt W0 N A n cap p st ns m 0 w) {zs : List ZTok} (hn : zs.length = n) (hv : ViewZ W0 N A zs) (hpn : p ≤ 4611686018427387904) (hl : st.length + ns.length ≤ 1000000) (hany : (st.any fun c => c == 40) = true) (hs : Sp.sgAt (zs.map ptZ) p [41] = false) :
    Calls Tryz.prog 42 #[.pointer (some ⟨N, 0, none⟩)] w fun e w' => e = .returned (.bool true) ∧ FSt W0 N A n cap p st ns m 50 w' := by
  have HANY := Lib.hid hany
  have HSG := Lib.hid (h.sign p ⟨#[41]⟩ hn hv (b := false) hs)
  have HFL := Lib.hid (f_fail h 50 p)
  clear hany hs
  have H := Lib.hid h
  obtain ⟨_, c1, _⟩ := h.cells
  have C1 := Lib.hid c1
  obtain ⟨ov, tv, r1, r2, r3, r4⟩ := h
  obtain ⟨A', cap', rfl⟩ := opn_form r2
  have c2 : w.cell? ⟨N, 2, none⟩ = some (.slice A' st.length cap') := r1.cell 2
  have hat := fun i b (hi : st.reverse[i]? = some b) => opn_at r2 hi
  obtain ⟨k, hk⟩ : ∃ k, st.length = k := ⟨_, rfl⟩
  rw [hk] at c2 hat
  have HA := Lib.hid hat
  have HK := Lib.hid hk
  have HL := Lib.hid hl
  have k1 : (k : Int) ≤ 1000000 := by omega
  clear r1 r2 r3 r4 hk hat c1 hl hn hv
  go_enter Tryz.func42, Tryz.ntmps42
  go_wp2_with fail
  go_loopw [3, 4] (fun v3 v4 wr => wr = w ∧ ∃ (i : Nat), v3 = .bool ((st.reverse.take i).any fun c => c == 40) ∧ v4 = .int .i64 (i : Int) ∧ i ≤ k) (fun _ v4 _ => k - (intOf v4).toNat)
  case atStart => exact ⟨rfl, 0, rfl, rfl, by omega⟩
  case round =>
    obtain ⟨rfl, i, rfl, rfl, hi⟩ := hrel
    by_cases hlt : i < k
    · have z1 : decide ((i : Int) < k) = true := decide_eq_true (by omega)
      have z1b : decide (i < k) = true := decide_eq_true hlt
      have z2 : (i : Int) < k := by omega
      have z3 : (0 : Int) ≤ (i : Int) := by omega
      obtain ⟨b, hb⟩ : ∃ b, st.reverse[i]? = some b := ⟨_, List.getElem?_eq_getElem (by rw [List.length_reverse, HK.out]; exact hlt)⟩
      obtain ⟨g, cap2, hs, a0, _, _⟩ := HA.out i b hb
      injection hs with hs1 hs2 hs3
      subst hs1 hs3
      have hct := Sp.any_take hb
      obtain ⟨u, hu⟩ : ∃ u, ((st.reverse.take i).any fun c => c == 40) = u := ⟨_, rfl⟩
      rw [hu] at hct ⊢
      have HCT := Lib.hid hct
      clear hb hs2 hu hct
      cases u with
      | true =>
        go_wp2_with fail
        go_roundw
        case rel => exact ⟨by trivial, i + 1, by rw [HCT.out]; rfl, by rfl, by omega⟩
        case measure => simp [intOf]; omega
      | false =>
        by_cases hb2 : b = 40
        · have a1 : ((b.toNat : Int) == 40) = true := by rw [hb2]; rfl
          have HCT2 : Hid (((st.reverse.take (i + 1)).any fun c => c == 40) = true) := by show _ = _; rw [HCT.out, hb2]; rfl
          clear hb2 HCT
          go_wp2_with fail
          go_roundw
          case rel => exact ⟨by trivial, i + 1, by rw [HCT2.out], by rfl, by omega⟩
          case measure => simp [intOf]; omega
        · have a1 : ((b.toNat : Int) == 40) = false := beq_eq_false_iff_ne.2 (fun e => hb2 (UInt8.toNat_inj.1 (show b.toNat = 40 by omega)))
          have HCT2 : Hid (((st.reverse.take (i + 1)).any fun c => c == 40) = false) := by show _ = _; rw [HCT.out, beq_eq_false_iff_ne.2 hb2]; rfl
          clear hb2 HCT
          go_wp2_with fail
          go_roundw
          case rel => exact ⟨by trivial, i + 1, by rw [HCT2.out], by rfl, by omega⟩
          case measure => simp [intOf]; omega
    have z1 : decide ((i : Int) < k) = false := decide_eq_false (by omega)
    have z1b : decide (i < k) = false := decide_eq_false hlt
    have hx : ((st.reverse.take i).any fun c => c == 40) = true := by rw [List.take_of_length_le (by rw [List.length_reverse, HK.out]; omega), List.any_reverse]; exact HANY.out
    rw [hx]
    have c1 := C1.out
    clear hx hlt hi
    go_wp2_with fail
    refine HSG.out.mono ?_
    rintro e w2 ⟨rfl, rfl⟩
    go_wp2_with fail
    refine HFL.out.mono ?_
    rintro e w3 ⟨rfl, h3, _⟩
    go_wp2_with fail
    go_ret
    exact ⟨rfl, h3⟩
  
theorem cls_ok (h : FSt W0 N A n cap p st ns m 0 w) {zs : List ZTok} (hn : zs.length = n) (hv : ViewZ W0 N A zs) (hpn : p ≤ 4611686018427387904) (hl : st.length + ns.length ≤ 1000000) (hany : (st.any fun c => c == 40) = true) (hs : Sp.sgAt (zs.map ptZ) p [41] = true) :
    Calls Tryz.prog 42 #[.pointer (some ⟨N, 0, none⟩)] w fun e w' => e = .returned (.bool true) ∧ FSt W0 N A n cap (p + 1) (Sp.popW Sp.isB ((Sp.popW Sp.noP st ns).1.drop 1) (Sp.popW Sp.noP st ns).2).1 (Sp.popW Sp.isB ((Sp.popW Sp.noP st ns).1.drop 1) (Sp.popW Sp.noP st ns).2).2 m 0 w' := by
  obtain ⟨r, hr⟩ := Sp.popW_brk st ns hany
  obtain ⟨ns2, hns2⟩ : ∃ ns2, (Sp.popW Sp.noP st ns).2 = ns2 := ⟨_, rfl⟩
  have hplen := Sp.popW_len Sp.noP st ns
  rw [hr, hns2, List.length_cons] at hplen
  have hpop : Sp.popW Sp.noP st ns = (40 :: r, ns2) := by rw [← hr, ← hns2]
  rw [hr, hns2, List.drop_succ_cons, List.drop_zero]
  have HPOP := Lib.hid hpop
  have HPL := Lib.hid hplen
  have HANY := Lib.hid hany
  have HSG := Lib.hid (h.sign p ⟨#[41]⟩ hn hv (b := true) hs)
  clear hany hs hr hns2 hplen hpop
  have H := Lib.hid h
  obtain ⟨_, c1, _⟩ := h.cells
  have C1 := Lib.hid c1
  obtain ⟨ov, tv, r1, r2, r3, r4⟩ := h
  obtain ⟨A', cap', rfl⟩ := opn_form r2
  have c2 : w.cell? ⟨N, 2, none⟩ = some (.slice A' st.length cap') := r1.cell 2
  have hat := fun i b (hi : st.reverse[i]? = some b) => opn_at r2 hi
  obtain ⟨k, hk⟩ : ∃ k, st.length = k := ⟨_, rfl⟩
  rw [hk] at c2 hat
  have HA := Lib.hid hat
  have HK := Lib.hid hk
  have HL := Lib.hid hl
  have k1 : (k : Int) ≤ 1000000 := by omega
  clear r1 r2 r3 r4 hk hat c1 hl hn hv
  go_enter Tryz.func42, Tryz.ntmps42
  go_wp2_with fail
  go_loopw [3, 4] (fun v3 v4 wr => wr = w ∧ ∃ (i : Nat), v3 = .bool ((st.reverse.take i).any fun c => c == 40) ∧ v4 = .int .i64 (i : Int) ∧ i ≤ k) (fun _ v4 _ => k - (intOf v4).toNat)
  case atStart => exact ⟨rfl, 0, rfl, rfl, by omega⟩
  case round =>
    obtain ⟨rfl, i, rfl, rfl, hi⟩ := hrel
    by_cases hlt : i < k
    · have z1 : decide ((i : Int) < k) = true := decide_eq_true (by omega)
      have z1b : decide (i < k) = true := decide_eq_true hlt
      have z2 : (i : Int) < k := by omega
      have z3 : (0 : Int) ≤ (i : Int) := by omega
      obtain ⟨b, hb⟩ : ∃ b, st.reverse[i]? = some b := ⟨_, List.getElem?_eq_getElem (by rw [List.length_reverse, HK.out]; exact hlt)⟩
      obtain ⟨g, cap2, hs, a0, _, _⟩ := HA.out i b hb
      injection hs with hs1 hs2 hs3
      subst hs1 hs3
      have hct := Sp.any_take hb
      obtain ⟨u, hu⟩ : ∃ u, ((st.reverse.take i).any fun c => c == 40) = u := ⟨_, rfl⟩
      rw [hu] at hct ⊢
      have HCT := Lib.hid hct
      clear hb hs2 hu hct
      cases u with
      | true =>
        go_wp2_with fail
        go_roundw
        case rel => exact ⟨by trivial, i + 1, by rw [HCT.out]; rfl, by rfl, by omega⟩
        case measure => simp [intOf]; omega
      | false =>
        by_cases hb2 : b = 40
        · have a1 : ((b.toNat : Int) == 40) = true := by rw [hb2]; rfl
          have HCT2 : Hid (((st.reverse.take (i + 1)).any fun c => c == 40) = true) := by show _ = _; rw [HCT.out, hb2]; rfl
          clear hb2 HCT
          go_wp2_with fail
          go_roundw
          case rel => exact ⟨by trivial, i + 1, by rw [HCT2.out], by rfl, by omega⟩
          case measure => simp [intOf]; omega
        · have a1 : ((b.toNat : Int) == 40) = false := beq_eq_false_iff_ne.2 (fun e => hb2 (UInt8.toNat_inj.1 (show b.toNat = 40 by omega)))
          have HCT2 : Hid (((st.reverse.take (i + 1)).any fun c => c == 40) = false) := by show _ = _; rw [HCT.out, beq_eq_false_iff_ne.2 hb2]; rfl
          clear hb2 HCT
          go_wp2_with fail
          go_roundw
          case rel => exact ⟨by trivial, i + 1, by rw [HCT2.out], by rfl, by omega⟩
          case measure => simp [intOf]; omega
    have z1 : decide ((i : Int) < k) = false := decide_eq_false (by omega)
    have z1b : decide (i < k) = false := decide_eq_false hlt
    have hx : ((st.reverse.take i).any fun c => c == 40) = true := by rw [List.take_of_length_le (by rw [List.length_reverse, HK.out]; omega), List.any_reverse]; exact HANY.out
    rw [hx]
    have c1 := C1.out
    clear hx hlt hi
    go_wp2_with fail
    refine HSG.out.mono ?_
    rintro e w2 ⟨rfl, rfl⟩
    go_wp2_with fail
    have H0 := H
    go_loopw [42] (fun _ wr2 => ∃ st' ns', FSt W0 N A n cap p st' ns' m 0 wr2 ∧ st'.length + ns'.length ≤ 1000000 ∧ Hid (Sp.popW Sp.noP st' ns' = (40 :: r, ns2))) (fun _ wr2 => openLen wr2 N)
    case atStart => exact ⟨st, ns, H0.out, HL.out, HPOP.out⟩
    case round =>
      obtain ⟨st', ns', h, hl', HF⟩ := hrel
      have HO := Lib.hid (openLen_eq h)
      have HT := Lib.hid (f_top h (by omega))
      obtain ⟨b, hb⟩ : ∃ b, topB st' = b := ⟨_, rfl⟩
      rw [hb] at HT
      by_cases h40 : b = 40
      rotate_left
      · have q1 : ((b.toNat : Int) != 40) = true := by rw [bne_iff_ne]; exact fun e => h40 (UInt8.toNat_inj.1 (show b.toNat = 40 by omega))
        have hne : st' ≠ [] := by
          intro e
          have := HF.out
          rw [e] at this
          injection this with this _
          cases this
        obtain ⟨x, s2, rfl⟩ : ∃ x s2, st' = x :: s2 := by cases st' with | nil => exact absurd rfl hne | cons x s2 => exact ⟨x, s2, rfl⟩
        have hxb : x = b := hb
        subst hxb
        have hl3 : s2.length + ns'.length ≤ 1000000 := by rw [List.length_cons] at hl'; omega
        have hf := HF.out
        rw [Sp.popW_yes (by unfold Sp.noP; exact bne_iff_ne.2 h40)] at hf
        have HF2 := Lib.hid hf
        have hnd := Sp.ndOf_len x ns'
        have HPP := Lib.hid (fun W (h : FSt W0 N A n cap p (x :: s2) ns' m 0 W) => f_pop h hl3)
        clear hf h hb h40 hne
        go_wp2_with fail
        refine HT.out.mono ?_
        rintro e w3 ⟨rfl, h3⟩
        have HP3 := Lib.hid (HPP.out _ h3)
        clear h3
        go_wp2_with fail
        refine HP3.out.mono ?_
        rintro e w4 ⟨rfl, h4⟩
        go_wp2_with fail
        go_roundw
        case rel => exact ⟨s2, _, h4, by rw [List.length_cons] at hl'; omega, HF2.out⟩
        case measure =>
          rw [openLen_eq h4, HO.out, List.length_cons]
          omega
      have q1 : ((b.toNat : Int) != 40) = false := by rw [h40]; rfl
      obtain ⟨s2, rfl⟩ := top_eq hb (by rw [h40]; decide)
      subst h40
      have hf := HF.out
      rw [Sp.popW_no (by rfl)] at hf
      injection hf with hf1 hf2
      injection hf1 with _ hf1
      subst hf1 hf2
      clear h hb HF HPOP
      go_wp2_with fail
      refine HT.out.mono ?_
      rintro e w3 ⟨rfl, h3⟩
      obtain ⟨g, cap', c2, f2, b1, b2, hfin⟩ := FSt.popped h3
      have HFIN := Lib.hid hfin
      obtain ⟨k, hk⟩ : ∃ k, s2.length = k := ⟨_, rfl⟩
      unfold maxLen at b2
      have hrl : s2.length ≤ 1000000 := by have h9 := hl'; rw [List.length_cons] at h9; omega
      rw [hk] at c2 HFIN b1 hrl
      have k1 : ((k + 1 : Nat) : Int) - 1 = k := by omega
      have k2 : (k : Int) ≤ (cap' : Int) := by omega
      have k3 : (0 : Int) ≤ (k : Int) := by omega
      have k4 : (k : Int) ≤ 1000000 := by omega
      have k5 : ((k + 1 : Nat) : Int) ≤ 1000001 := by omega
      have k6 : (k : Int).toNat = k := by omega
      have k7 : IntKind.i64.wrap (k : Int) = (k : Int) := by rw [IntKind.wrap_i64]; omega
      clear hfin hrl b1 b2 h3
      go_wp2_with fail
      refine wp_region_K 14 (fun w' => w'.cell? ⟨N, 2, none⟩ = some (.slice (some ⟨g, 0, none⟩) (k + 1) cap')) (by kernel_rfl) (fun hcl => ?_)
      have hS : (fun w' : World => w'.cell? ⟨N, 2, none⟩ = some (.slice (some ⟨g, 0, none⟩) (k + 1) cap')) w3.drew := c2
      refine wpAnyK_take (i := 0) (v := ?_) hcl hS rfl (by kernel_rfl) (fun _ _ _ h => h) (by rfl) ?_ (fun hcl2 => ?_)
      rotate_left
      · (intro w hSw; (try dsimp only at hSw); first | (go_simp; done) | (go_simp; with_reducible rfl))
      (try simp only [Act.put, List.setIfInBounds_toArray, List.set_cons_zero, List.set_cons_succ])
      clear hcl; have hcl := hcl2; clear hcl2
      refine wpAnyK_take (i := 1) (v := ?_) hcl hS rfl (by kernel_rfl) (fun _ _ _ h => h) (by rfl) ?_ (fun hcl2 => ?_)
      rotate_left
      · (intro w hSw; (try dsimp only at hSw); first | (go_simp; done) | (go_simp; with_reducible rfl))
      (try simp only [Act.put, List.setIfInBounds_toArray, List.set_cons_zero, List.set_cons_succ])
      clear hcl; have hcl := hcl2; clear hcl2
      refine wpAnyK_take (i := 2) (v := ?_) hcl hS rfl (by kernel_rfl) (fun _ _ _ h => h) (by rfl) ?_ (fun hcl2 => ?_)
      rotate_left
      · (intro w hSw; (try dsimp only at hSw); first | (go_simp; done) | (go_simp; with_reducible rfl))
      (try simp only [Act.put, List.setIfInBounds_toArray, List.set_cons_zero, List.set_cons_succ])
      clear hcl; have hcl := hcl2; clear hcl2
      refine wpAnyK_take (i := 3) (v := ?_) hcl hS rfl (by kernel_rfl) (fun _ _ _ h => h) (by rfl) ?_ (fun hcl2 => ?_)
      rotate_left
      · (intro w hSw; (try dsimp only at hSw); first | (go_simp; done) | (go_simp; with_reducible rfl))
      (try simp only [Act.put, List.setIfInBounds_toArray, List.set_cons_zero, List.set_cons_succ])
      clear hcl; have hcl := hcl2; clear hcl2
      refine wpAnyK_take (i := 4) (v := ?_) hcl hS rfl (by kernel_rfl) (fun _ _ _ h => h) (by rfl) ?_ (fun hcl2 => ?_)
      rotate_left
      · (intro w hSw; (try dsimp only at hSw); first | (go_simp; done) | (go_simp; with_reducible rfl))
      (try simp only [Act.put, List.setIfInBounds_toArray, List.set_cons_zero, List.set_cons_succ])
      clear hcl; have hcl := hcl2; clear hcl2
      refine wpAnyK_take (i := 5) (v := ?_) hcl hS rfl (by kernel_rfl) (fun _ _ _ h => h) (by rfl) ?_ (fun hcl2 => ?_)
      rotate_left
      · (intro w hSw; (try dsimp only at hSw); first | (go_simp; done) | (go_simp; with_reducible rfl))
      (try simp only [Act.put, List.setIfInBounds_toArray, List.set_cons_zero, List.set_cons_succ])
      clear hcl; have hcl := hcl2; clear hcl2
      refine wpAnyK_take (i := 6) (v := ?_) hcl hS rfl (by kernel_rfl) (fun _ _ _ h => h) (by rfl) ?_ (fun hcl2 => ?_)
      rotate_left
      · (intro w hSw; (try dsimp only at hSw); first | (go_simp; done) | (go_simp; with_reducible rfl))
      (try simp only [Act.put, List.setIfInBounds_toArray, List.set_cons_zero, List.set_cons_succ])
      clear hcl; have hcl := hcl2; clear hcl2
      refine wpAnyK_take (i := 7) (v := ?_) hcl hS rfl (by kernel_rfl) (fun _ _ _ h => h) (by rfl) ?_ (fun hcl2 => ?_)
      rotate_left
      · (intro w hSw; (try dsimp only at hSw); first | (go_simp; done) | (go_simp; with_reducible rfl))
      (try simp only [Act.put, List.setIfInBounds_toArray, List.set_cons_zero, List.set_cons_succ])
      clear hcl; have hcl := hcl2; clear hcl2
      refine wpAnyK_take (i := 8) (v := ?_) hcl hS rfl (by kernel_rfl) (fun _ _ _ h => h) (by rfl) ?_ (fun hcl2 => ?_)
      rotate_left
      · (intro w hSw; (try dsimp only at hSw); first | (go_simp; done) | (go_simp; with_reducible rfl))
      (try simp only [Act.put, List.setIfInBounds_toArray, List.set_cons_zero, List.set_cons_succ])
      clear hcl; have hcl := hcl2; clear hcl2
      refine wpAnyK_take (i := 9) (v := ?_) hcl hS rfl (by kernel_rfl) (fun _ _ _ h => h) (by rfl) ?_ (fun hcl2 => ?_)
      rotate_left
      · (intro w hSw; (try dsimp only at hSw); first | (go_simp; done) | (go_simp; with_reducible rfl))
      (try simp only [Act.put, List.setIfInBounds_toArray, List.set_cons_zero, List.set_cons_succ])
      clear hcl; have hcl := hcl2; clear hcl2
      refine wpAnyK_take (i := 10) (v := ?_) hcl hS rfl (by kernel_rfl) (fun _ _ _ h => h) (by rfl) ?_ (fun hcl2 => ?_)
      rotate_left
      · (intro w hSw; (try dsimp only at hSw); first | (go_simp; done) | (go_simp; with_reducible rfl))
      (try simp only [Act.put, List.setIfInBounds_toArray, List.set_cons_zero, List.set_cons_succ])
      clear hcl; have hcl := hcl2; clear hcl2
      refine wpAnyK_take (i := 11) (v := ?_) hcl hS rfl (by kernel_rfl) (fun _ _ _ h => h) (by rfl) ?_ (fun hcl2 => ?_)
      rotate_left
      · (intro w hSw; (try dsimp only at hSw); first | (go_simp; done) | (go_simp; with_reducible rfl))
      (try simp only [Act.put, List.setIfInBounds_toArray, List.set_cons_zero, List.set_cons_succ])
      clear hcl; have hcl := hcl2; clear hcl2
      refine wpAnyK_take (i := 12) (v := ?_) hcl hS rfl (by kernel_rfl) (fun _ _ _ h => h) (by rfl) ?_ (fun hcl2 => ?_)
      rotate_left
      · (intro w hSw; (try dsimp only at hSw); first | (go_simp; done) | (go_simp; with_reducible rfl))
      (try simp only [Act.put, List.setIfInBounds_toArray, List.set_cons_zero, List.set_cons_succ])
      clear hcl; have hcl := hcl2; clear hcl2
      refine wpAnyK_take (i := 13) (v := ?_) hcl hS rfl (by kernel_rfl) (fun _ _ _ h => h) (by rfl) ?_ (fun hcl2 => ?_)
      rotate_left
      · (intro w hSw; (try dsimp only at hSw); first | (go_simp; done) | (go_simp; with_reducible rfl))
      (try simp only [Act.put, List.setIfInBounds_toArray, List.set_cons_zero, List.set_cons_succ])
      clear hcl; have hcl := hcl2; clear hcl2
      refine wpAnyK_one (i := 14) hcl (by kernel_rfl) rfl (by rfl) (fun K hK => ?_)
      go_simp
      refine hK.out _ _ (Or.inl (by kernel_rfl)) (fun hcl2 => ?_)
      clear hK K hcl hcl2 hS
      refine wpAnyK_done (by kernel_rfl) ?_ _
      have hfin := HFIN.out
      obtain ⟨WP, hWP⟩ : ∃ WP, w3.drew.setCell ⟨N, 2, none⟩ (.slice (some ⟨g, 0, none⟩) k cap') = WP := ⟨_, rfl⟩
      rw [hWP] at hfin
      first | rw [hWP] | (have hWP' : (w3.setCell ⟨N, 2, none⟩ (.slice (some ⟨g, 0, none⟩) k cap')).drew = WP := hWP; rw [hWP'])
      have HP := Lib.hid hfin
      clear hWP hfin HFIN c2 f2
      obtain ⟨_, d1, e1, _⟩ := HP.out.cells
      go_upto_region 15 with (fail)
      obtain ⟨WQ, hWQ⟩ : ∃ WQ, WP.setCell ⟨N, 1, none⟩ (.int .i64 ((p : Int) + 1)) = WQ := ⟨_, rfl⟩
      have hq : FSt W0 N A n cap (p + 1) s2 ns' m 0 WQ := by rw [← hWQ]; exact HP.out.setAt (p + 1) _ (by omega)
      rw [hWQ]
      have HDN := Lib.hid (f_done hq (by rw [List.length_cons] at hl'; omega))
      clear hWQ hq d1 e1
      go_wp2_with fail
      refine HDN.out.mono ?_
      rintro e w6 ⟨rfl, h6⟩
      go_wp2_with fail
      go_ret
      exact ⟨rfl, h6⟩
      
theorem chn_amp (h : FSt W0 N A n cap p st ns m 0 w) {zs : List ZTok} (hn : zs.length = n) (hv : ViewZ W0 N A zs) (hpn : p ≤ 4611686018427387904) (hl : st.length + ns.length ≤ 1000000) (hm : m ≤ 1000000) (hs : Sp.sgAt (zs.map ptZ) p [38] = true) {c1 q : Nat} (hc1 : c1 = if 64 ≤ m then 51 else 0) (hq : q = if c1 = 0 then p + 1 else p) :
    Calls Tryz.prog 21 #[.pointer (some ⟨N, 0, none⟩)] w fun e w' => e = .returned (.int .i64 1) ∧ FSt W0 N A n cap q (38 :: (Sp.popW Sp.isA st ns).1) (Sp.popW Sp.isA st ns).2 (m + 1) c1 w' := by
  obtain ⟨s9, n9, hpop⟩ : ∃ s9 n9, Sp.popW Sp.isA st ns = (s9, n9) := ⟨_, _, rfl⟩
  have hplen := Sp.popW_len Sp.isA st ns
  rw [hpop] at hplen ⊢
  simp only [] at hplen ⊢
  have H := Lib.hid h
  have HPOP := Lib.hid hpop
  have HQ := Lib.hid hq
  obtain ⟨_, d1, _⟩ := h.cells
  have HSG := Lib.hid (h.sign p ⟨#[38]⟩ hn hv (b := true) hs)
  have HMK := Lib.hid (f_make h (by omega) (c' := c1) (by rw [hc1]; simp))
  have hs9 : s9.length ≤ 1000000 := by omega
  clear h hn hv hs hpop hq hc1
  go_enter Tryz.func21, Tryz.ntmps21
  go_wp2_with fail
  refine HSG.out.mono ?_
  rintro e w2 ⟨rfl, rfl⟩
  go_wp2_with fail
  refine HMK.out.mono ?_
  rintro e w3 ⟨rfl, h3⟩
  have H3 := Lib.hid h3
  clear h3 d1
  go_wp2_with fail
  go_loopw [24] (fun _ wr => ∃ st' ns', FSt W0 N A n cap p st' ns' (m + 1) c1 wr ∧ st'.length + ns'.length ≤ 1000000 ∧ Hid (Sp.popW Sp.isA st' ns' = (s9, n9))) (fun _ wr => openLen wr N)
  case atStart => exact ⟨st, ns, H3.out, hl, HPOP.out⟩
  case round =>
    obtain ⟨st', ns', h, hl', HF⟩ := hrel
    have HO := Lib.hid (openLen_eq h)
    obtain ⟨b, hb⟩ : ∃ b, topB st' = b := ⟨_, rfl⟩
    have HT : Hid (∀ W, FSt W0 N A n cap p st' ns' (m + 1) c1 W → Calls Tryz.prog 40 #[.pointer (some ⟨N, 0, none⟩)] W fun r w' => r = .returned (.int .u8 b.toNat) ∧ FSt W0 N A n cap p st' ns' (m + 1) c1 w') := by
      intro W h
      rw [← hb]
      exact f_top h (by omega)
    have HH := Lib.hid h
    by_cases hbq : Sp.isA b = true
    · have hb3 : b = 38 := by
        have h2 := hbq
        unfold Sp.isA at h2
        simpa using h2
      obtain ⟨r, rfl⟩ := top_eq hb (by rcases hb3 with rfl <;> decide)
      have hl3 : r.length + ns'.length ≤ 1000000 := by rw [List.length_cons] at hl'; omega
      have hf := HF.out
      rw [Sp.popW_yes hbq] at hf
      have HF2 := Lib.hid hf
      have hnd := Sp.ndOf_len b ns'
      have HPP := Lib.hid (fun W (h : FSt W0 N A n cap p (b :: r) ns' (m + 1) c1 W) => f_pop h hl3)
      clear hf h hb hbq HF
      subst hb3
      go_wp2_with fail
      refine (HT.out _ HH.out).mono ?_
      rintro e w4 ⟨rfl, h4⟩
      have HP4 := Lib.hid (HPP.out _ h4)
      clear h4
      go_wp2_with fail
      refine HP4.out.mono ?_
      rintro e w5 ⟨rfl, h5⟩
      go_wp2_with fail
      go_roundw
      case rel => exact ⟨r, _, h5, by rw [List.length_cons] at hl'; omega, HF2.out⟩
      case measure =>
        rw [openLen_eq h5, HO.out, List.length_cons]
        omega
    rw [Bool.not_eq_true] at hbq
    have hf := HF.out
    rw [popW_top (by rw [hb]; exact hbq)] at hf
    injection hf with hf1 hf2
    subst hf1 hf2
    have q38 : ((b.toNat : Int) == 38) = false := beq_eq_false_iff_ne.2 (fun e => by have hb4 : b = 38 := UInt8.toNat_inj.1 (show b.toNat = 38 by omega); rw [hb4] at hbq; exact absurd hbq (by decide))
    clear hb hbq HF h
    go_wp2_with fail
    refine (HT.out _ HH.out).mono ?_
    rintro e w4 ⟨rfl, h4⟩
    obtain ⟨ov, tv, r1, r2, r3, r4, d2, d2', g2', hnew, hNW, hne⟩ := FSt.apd h4 38
    obtain ⟨WA, hWA⟩ : ∃ WA, w4.alloc (.cells #[.int .u8 38] 5) = WA := ⟨_, rfl⟩
    rw [hWA] at r1 r2 r3 r4 d2' g2' hnew hNW
    have R1 := Lib.hid r1
    have R2 := Lib.hid r2
    have R3 := Lib.hid r3
    have R4 := Lib.hid r4
    have D2 := Lib.hid d2'
    have G2 := Lib.hid g2'
    have HNEW := Lib.hid hnew
    have HNE := Lib.hid hne
    have HWA := Lib.hid hWA
    have hNA : N + 1 ≤ WA.heap.size := hNW
    clear r1 r2 r3 r4 d2' g2' hnew hne hWA h4
    go_upto_region 16 with (at_builtin; rw [HWA.out]; go_loud (refine wpList_op rfl _ _ rfl (N + 1) ov st' rfl R2.out ⟨w4.heap.size, 0, none⟩ 1 38 rfl HNEW.out rfl (by omega) hNA _ rfl ?_; intro gg cap6 w6 hT6 hgrow hat hlt6; have e2 := (hgrow.cell_far ⟨N, 2, none⟩ hNW (Ne.symm HNE.out)).trans D2.out; have e2f := (hgrow.frozen_far ⟨N, 2, none⟩ hNW (Ne.symm HNE.out)).trans G2.out; have HFIN := Lib.hid (FSt.push R1.out R2.out R3.out R4.out hT6 hgrow); clear hT6 hgrow hat hlt6))
    obtain ⟨WB, hWB⟩ : ∃ X, w6.setCell ⟨N, 2, none⟩ (.slice (some ⟨gg, 0, none⟩) (st'.length + 1) cap6) = X := ⟨_, rfl⟩
    have hb := HFIN.out
    rw [hWB] at hb ⊢
    have HB := Lib.hid hb
    clear hWB hb e2 e2f d2 hNW hNA
    obtain ⟨_, d1, e1, _, _, d5, _⟩ := HB.out.cells
    by_cases h0 : c1 = 0
    · have s1 : ((c1 : Int) == 0) = true := beq_iff_eq.2 (by omega)
      have HQ2 : Hid (q = p + 1) := by show _ = _; rw [HQ.out, if_pos h0]
      have x1 : (p : Int) ≤ 4611686018427387904 := by omega
      have x2 : (0 : Int) ≤ (p : Int) := by omega
      clear h0 hpn hl hm hl' hs9 hplen
      go_wp2_with fail
      go_ret
      exact ⟨rfl, HB.out.setAt q _ (by rw [HQ2.out]; omega)⟩
    · have s1 : ((c1 : Int) == 0) = false := beq_eq_false_iff_ne.2 (by omega)
      have HQ2 : Hid (q = p) := by show _ = _; rw [HQ.out, if_neg h0]
      clear h0 hpn hl hm hl' hs9 hplen
      go_wp2_with fail
      go_ret
      exact ⟨rfl, by rw [HQ2.out]; exact HB.out⟩
  
theorem chn_bar (h : FSt W0 N A n cap p st ns m 0 w) {zs : List ZTok} (hn : zs.length = n) (hv : ViewZ W0 N A zs) (hpn : p ≤ 4611686018427387904) (hl : st.length + ns.length ≤ 1000000) (hm : m ≤ 1000000) (hs38 : Sp.sgAt (zs.map ptZ) p [38] = false) (hs : Sp.sgAt (zs.map ptZ) p [124] = true) {c1 q : Nat} (hc1 : c1 = if 64 ≤ m then 51 else 0) (hq : q = if c1 = 0 then p + 1 else p) :
    Calls Tryz.prog 21 #[.pointer (some ⟨N, 0, none⟩)] w fun e w' => e = .returned (.int .i64 1) ∧ FSt W0 N A n cap q (124 :: (Sp.popW Sp.isAO st ns).1) (Sp.popW Sp.isAO st ns).2 (m + 1) c1 w' := by
  obtain ⟨s9, n9, hpop⟩ : ∃ s9 n9, Sp.popW Sp.isAO st ns = (s9, n9) := ⟨_, _, rfl⟩
  have hplen := Sp.popW_len Sp.isAO st ns
  rw [hpop] at hplen ⊢
  simp only [] at hplen ⊢
  have H := Lib.hid h
  have HPOP := Lib.hid hpop
  have HQ := Lib.hid hq
  obtain ⟨_, d1, _⟩ := h.cells
  have HSG0 := Lib.hid (h.sign p ⟨#[38]⟩ hn hv (b := false) hs38)
  have HSG := Lib.hid (h.sign p ⟨#[124]⟩ hn hv (b := true) hs)
  have HMK := Lib.hid (f_make h (by omega) (c' := c1) (by rw [hc1]; simp))
  have hs9 : s9.length ≤ 1000000 := by omega
  clear h hn hv hs hpop hq hc1 hs38
  go_enter Tryz.func21, Tryz.ntmps21
  go_wp2_with fail
  refine HSG0.out.mono ?_
  rintro e w2 ⟨rfl, rfl⟩
  go_wp2_with fail
  refine HSG.out.mono ?_
  rintro e w2 ⟨rfl, rfl⟩
  go_wp2_with fail
  refine HMK.out.mono ?_
  rintro e w3 ⟨rfl, h3⟩
  have H3 := Lib.hid h3
  clear h3 d1
  go_wp2_with fail
  go_loopw [52] (fun _ wr => ∃ st' ns', FSt W0 N A n cap p st' ns' (m + 1) c1 wr ∧ st'.length + ns'.length ≤ 1000000 ∧ Hid (Sp.popW Sp.isAO st' ns' = (s9, n9))) (fun _ wr => openLen wr N)
  case atStart => exact ⟨st, ns, H3.out, hl, HPOP.out⟩
  case round =>
    obtain ⟨st', ns', h, hl', HF⟩ := hrel
    have HO := Lib.hid (openLen_eq h)
    obtain ⟨b, hb⟩ : ∃ b, topB st' = b := ⟨_, rfl⟩
    have HT : Hid (∀ W, FSt W0 N A n cap p st' ns' (m + 1) c1 W → Calls Tryz.prog 40 #[.pointer (some ⟨N, 0, none⟩)] W fun r w' => r = .returned (.int .u8 b.toNat) ∧ FSt W0 N A n cap p st' ns' (m + 1) c1 w') := by
      intro W h
      rw [← hb]
      exact f_top h (by omega)
    have HH := Lib.hid h
    by_cases hbq : Sp.isAO b = true
    · have hb3 : b = 38 ∨ b = 124 := by
        have h2 := hbq
        unfold Sp.isAO at h2
        simpa using h2
      obtain ⟨r, rfl⟩ := top_eq hb (by rcases hb3 with rfl | rfl <;> decide)
      have hl3 : r.length + ns'.length ≤ 1000000 := by rw [List.length_cons] at hl'; omega
      have hf := HF.out
      rw [Sp.popW_yes hbq] at hf
      have HF2 := Lib.hid hf
      have hnd := Sp.ndOf_len b ns'
      have HPP := Lib.hid (fun W (h : FSt W0 N A n cap p (b :: r) ns' (m + 1) c1 W) => f_pop h hl3)
      clear hf h hb hbq HF
      rcases hb3 with rfl | rfl
      · skip
        go_wp2_with fail
        refine (HT.out _ HH.out).mono ?_
        rintro e w4 ⟨rfl, h4⟩
        have HP4 := Lib.hid (HPP.out _ h4)
        clear h4
        go_wp2_with fail
        refine HP4.out.mono ?_
        rintro e w5 ⟨rfl, h5⟩
        go_wp2_with fail
        go_roundw
        case rel => exact ⟨r, _, h5, by rw [List.length_cons] at hl'; omega, HF2.out⟩
        case measure =>
          rw [openLen_eq h5, HO.out, List.length_cons]
          omega
      · skip
        go_wp2_with fail
        refine (HT.out _ HH.out).mono ?_
        rintro e w4 ⟨rfl, h4⟩
        go_wp2_with fail
        refine (HT.out _ h4).mono ?_
        clear h4
        rintro e w4 ⟨rfl, h4⟩
        have HP4 := Lib.hid (HPP.out _ h4)
        clear h4
        go_wp2_with fail
        refine HP4.out.mono ?_
        rintro e w5 ⟨rfl, h5⟩
        go_wp2_with fail
        go_roundw
        case rel => exact ⟨r, _, h5, by rw [List.length_cons] at hl'; omega, HF2.out⟩
        case measure =>
          rw [openLen_eq h5, HO.out, List.length_cons]
          omega
    rw [Bool.not_eq_true] at hbq
    have hf := HF.out
    rw [popW_top (by rw [hb]; exact hbq)] at hf
    injection hf with hf1 hf2
    subst hf1 hf2
    have q38 : ((b.toNat : Int) == 38) = false := beq_eq_false_iff_ne.2 (fun e => by have hb4 : b = 38 := UInt8.toNat_inj.1 (show b.toNat = 38 by omega); rw [hb4] at hbq; exact absurd hbq (by decide))
    have q124 : ((b.toNat : Int) == 124) = false := beq_eq_false_iff_ne.2 (fun e => by have hb4 : b = 124 := UInt8.toNat_inj.1 (show b.toNat = 124 by omega); rw [hb4] at hbq; exact absurd hbq (by decide))
    clear hb hbq HF h
    go_wp2_with fail
    refine (HT.out _ HH.out).mono ?_
    rintro e w4 ⟨rfl, h4⟩
    go_wp2_with fail
    refine (HT.out _ h4).mono ?_
    clear h4
    rintro e w4 ⟨rfl, h4⟩
    obtain ⟨ov, tv, r1, r2, r3, r4, d2, d2', g2', hnew, hNW, hne⟩ := FSt.apd h4 124
    obtain ⟨WA, hWA⟩ : ∃ WA, w4.alloc (.cells #[.int .u8 124] 5) = WA := ⟨_, rfl⟩
    rw [hWA] at r1 r2 r3 r4 d2' g2' hnew hNW
    have R1 := Lib.hid r1
    have R2 := Lib.hid r2
    have R3 := Lib.hid r3
    have R4 := Lib.hid r4
    have D2 := Lib.hid d2'
    have G2 := Lib.hid g2'
    have HNEW := Lib.hid hnew
    have HNE := Lib.hid hne
    have HWA := Lib.hid hWA
    have hNA : N + 1 ≤ WA.heap.size := hNW
    clear r1 r2 r3 r4 d2' g2' hnew hne hWA h4
    go_upto_region 16 with (at_builtin; rw [HWA.out]; go_loud (refine wpList_op rfl _ _ rfl (N + 1) ov st' rfl R2.out ⟨w4.heap.size, 0, none⟩ 1 124 rfl HNEW.out rfl (by omega) hNA _ rfl ?_; intro gg cap6 w6 hT6 hgrow hat hlt6; have e2 := (hgrow.cell_far ⟨N, 2, none⟩ hNW (Ne.symm HNE.out)).trans D2.out; have e2f := (hgrow.frozen_far ⟨N, 2, none⟩ hNW (Ne.symm HNE.out)).trans G2.out; have HFIN := Lib.hid (FSt.push R1.out R2.out R3.out R4.out hT6 hgrow); clear hT6 hgrow hat hlt6))
    obtain ⟨WB, hWB⟩ : ∃ X, w6.setCell ⟨N, 2, none⟩ (.slice (some ⟨gg, 0, none⟩) (st'.length + 1) cap6) = X := ⟨_, rfl⟩
    have hb := HFIN.out
    rw [hWB] at hb ⊢
    have HB := Lib.hid hb
    clear hWB hb e2 e2f d2 hNW hNA
    obtain ⟨_, d1, e1, _, _, d5, _⟩ := HB.out.cells
    by_cases h0 : c1 = 0
    · have s1 : ((c1 : Int) == 0) = true := beq_iff_eq.2 (by omega)
      have HQ2 : Hid (q = p + 1) := by show _ = _; rw [HQ.out, if_pos h0]
      have x1 : (p : Int) ≤ 4611686018427387904 := by omega
      have x2 : (0 : Int) ≤ (p : Int) := by omega
      clear h0 hpn hl hm hl' hs9 hplen
      go_wp2_with fail
      go_ret
      exact ⟨rfl, HB.out.setAt q _ (by rw [HQ2.out]; omega)⟩
    · have s1 : ((c1 : Int) == 0) = false := beq_eq_false_iff_ne.2 (by omega)
      have HQ2 : Hid (q = p) := by show _ = _; rw [HQ.out, if_neg h0]
      clear h0 hpn hl hm hl' hs9 hplen
      go_wp2_with fail
      go_ret
      exact ⟨rfl, by rw [HQ2.out]; exact HB.out⟩
  
theorem chn_close (h : FSt W0 N A n cap p st ns m 0 w) {zs : List ZTok} (hn : zs.length = n) (hv : ViewZ W0 N A zs) (hs38 : Sp.sgAt (zs.map ptZ) p [38] = false) (hs124 : Sp.sgAt (zs.map ptZ) p [124] = false) (Post : World → Prop) (hcl : Calls Tryz.prog 42 #[.pointer (some ⟨N, 0, none⟩)] w fun e w' => e = .returned (.bool true) ∧ Post w') :
    Calls Tryz.prog 21 #[.pointer (some ⟨N, 0, none⟩)] w fun e w' => e = .returned (.int .i64 0) ∧ Post w' := by
  obtain ⟨_, d1, _⟩ := h.cells
  have HSG0 := Lib.hid (h.sign p ⟨#[38]⟩ hn hv (b := false) hs38)
  have HSG := Lib.hid (h.sign p ⟨#[124]⟩ hn hv (b := false) hs124)
  have HC := Lib.hid hcl
  clear h hn hv hs38 hs124 hcl
  go_enter Tryz.func21, Tryz.ntmps21
  go_wp2_with fail
  refine HSG0.out.mono ?_
  rintro e w2 ⟨rfl, rfl⟩
  go_wp2_with fail
  refine HSG.out.mono ?_
  rintro e w2 ⟨rfl, rfl⟩
  go_wp2_with fail
  refine HC.out.mono ?_
  rintro e w3 ⟨rfl, h3⟩
  go_wp2_with fail
  go_ret
  exact ⟨rfl, h3⟩

theorem chn_end (h : FSt W0 N A n cap p st ns m 0 w) {zs : List ZTok} (hn : zs.length = n) (hv : ViewZ W0 N A zs) (hpn : p ≤ 4611686018427387904) (hl : st.length + ns.length ≤ 1000000) (hs38 : Sp.sgAt (zs.map ptZ) p [38] = false) (hs124 : Sp.sgAt (zs.map ptZ) p [124] = false) (hany : (st.any fun c => c == 40) = false) :
    Calls Tryz.prog 21 #[.pointer (some ⟨N, 0, none⟩)] w fun e w' => e = .returned (.int .i64 (-1)) ∧ FSt W0 N A n cap p [] (Sp.popW (fun _ => true) st ns).2 m 0 w' := by
  obtain ⟨_, d1, _⟩ := h.cells
  obtain ⟨n9, hpop⟩ : ∃ n9, (Sp.popW (fun _ => true) st ns).2 = n9 := ⟨_, rfl⟩
  rw [hpop]
  have HSG0 := Lib.hid (h.sign p ⟨#[38]⟩ hn hv (b := false) hs38)
  have HSG := Lib.hid (h.sign p ⟨#[124]⟩ hn hv (b := false) hs124)
  have HC := Lib.hid (cls_no h hn hv hpn hl hany)
  have HPOP := Lib.hid hpop
  clear h hn hv hs38 hs124 hany hpop hpn
  go_enter Tryz.func21, Tryz.ntmps21
  go_wp2_with fail
  refine HSG0.out.mono ?_
  rintro e w2 ⟨rfl, rfl⟩
  go_wp2_with fail
  refine HSG.out.mono ?_
  rintro e w2 ⟨rfl, rfl⟩
  go_wp2_with fail
  refine HC.out.mono ?_
  rintro e w3 ⟨rfl, h3⟩
  have H3 := Lib.hid h3
  clear h3 d1
  go_wp2_with fail
  go_loopw [10] (fun _ wr => ∃ st' ns', FSt W0 N A n cap p st' ns' m 0 wr ∧ st'.length + ns'.length ≤ 1000000 ∧ Hid ((Sp.popW (fun _ => true) st' ns').2 = n9)) (fun _ wr => openLen wr N)
  case atStart => exact ⟨st, ns, H3.out, hl, HPOP.out⟩
  case round =>
    obtain ⟨st', ns', h, hl', HF⟩ := hrel
    have HO := Lib.hid (openLen_eq h)
    have HH := Lib.hid h
    obtain ⟨ov, tv, r1, r2, r3, r4⟩ := h
    obtain ⟨A', cap', rfl⟩ := opn_form r2
    have c2 : wr.cell? ⟨N, 2, none⟩ = some (.slice A' st'.length cap') := r1.cell 2
    clear r1 r2 r3 r4
    cases st' with
    | nil =>
      have hf : ns' = n9 := HF.out
      subst hf
      clear HF
      go_wp2_with fail
      go_ret
      exact ⟨rfl, HH.out⟩
    | cons x r =>
      have hl3 : r.length + ns'.length ≤ 1000000 := by rw [List.length_cons] at hl'; omega
      have hf := HF.out
      rw [Sp.popW_yes (by rfl)] at hf
      have HF2 := Lib.hid hf
      have hnd := Sp.ndOf_len x ns'
      have HPP := Lib.hid (f_pop HH.out hl3)
      obtain ⟨k, hk⟩ : ∃ k, (x :: r).length = k := ⟨_, rfl⟩
      rw [hk] at c2
      have q1 : decide ((k : Int) > 0) = true := decide_eq_true (by rw [← hk, List.length_cons]; omega)
      have q1b : decide (0 < k) = true := decide_eq_true (by rw [← hk, List.length_cons]; omega)
      clear hf HF hk
      go_wp2_with fail
      refine HPP.out.mono ?_
      rintro e w5 ⟨rfl, h5⟩
      go_wp2_with fail
      go_roundw
      case rel => exact ⟨r, _, h5, by rw [List.length_cons] at hl'; omega, HF2.out⟩
      case measure =>
        rw [openLen_eq h5, HO.out, List.length_cons]
        omega
end
end Go.Proofs.YtdmpapoabeljfaaGreatDoor
