/-
  WALK: expr.Print (chapter 5).
-/
import Derived.Test.YtdmpapoabeljfaaGreatDoorKh
import Derived.Test.YtdmpapoabeljfaaGreatDoorKe
set_option linter.unusedVariables false
set_option linter.unusedSimpArgs false
set_option maxRecDepth 100000
set_option maxHeartbeats 8000000
namespace Go.Proofs.YtdmpapoabeljfaaGreatDoor
open Go.RowKit
namespace Sp
theorem printE_long {ns : List Nd} (h : 64 < ns.length) : printE ns = ([], 51) := by unfold printE; rw [if_pos h]
theorem printE_none {ns : List Nd} (h : ¬ 64 < ns.length) (hb : buildV ns = none) : printE ns = ([], 52) := by unfold printE; rw [if_neg h, hb]
theorem printE_bad {ns : List Nd} (h : ¬ 64 < ns.length) (hk : ns.all okN = false) : printE ns = ([], 52) := by
  unfold printE
  rw [if_neg h]
  cases buildV ns with
  | none => rfl
  | some t => simp [hk]
theorem printE_deep {ns : List Nd} {t : Tr} (h : ¬ 64 < ns.length) (hb : buildV ns = some t) (hk : ns.all okN = true) (hd : 32 < t.nest) : printE ns = ([], 53) := by unfold printE; rw [if_neg h, hb]; simp [hk, hd]
theorem printE_ok {ns : List Nd} {t : Tr} (h : ¬ 64 < ns.length) (hb : buildV ns = some t) (hk : ns.all okN = true) (hd : ¬ 32 < t.nest) : printE ns = (t.text, 0) := by unfold printE; rw [if_neg h, hb]; simp [hk, hd]
end Sp
/-- What Print comes to. -/
def PrtEnd (w : World) (r : List UInt8 × Nat) (e : Ending) (w' : World) : Prop := e = .returned (.tuple #[.string (bs r.1), .int .i64 (r.2 : Nat)]) ∧ Below w.heap.size w w'
theorem PrtEnd_of {w w' : World} {r r' : List UInt8 × Nat} (hr : r = r') {e : Ending} (he : e = .returned (.tuple #[.string (bs r'.1), .int .i64 (r'.2 : Nat)])) (h : Below w.heap.size w w') : PrtEnd w r e w' := by
  subst hr
  exact ⟨he, h⟩

theorem all_no {ns : List Sp.Nd} {q : Sp.Nd → Bool} {d : Sp.Nd} (hd : d ∈ ns) (h : q d = false) : ns.all q = false := List.all_eq_false.2 ⟨d, hd, by rw [h]; decide⟩
theorem all_more {ns : List Sp.Nd} {q : Sp.Nd → Bool} {i : Nat} {d : Sp.Nd} (h : (ns.take i).all q = true) (hd : ns[i]? = some d) (hq : q d = true) : (ns.take (i + 1)).all q = true := by
  have hi := (List.getElem?_eq_some_iff.1 hd).1
  have hb := (List.getElem?_eq_some_iff.1 hd).2
  rw [List.take_succ_eq_append_getElem hi, List.all_append, h, hb]
  simp [hq]

theorem expr_Print (A : Option Addr) (n cap : Nat) (ns : List Sp.Nd) (w : World) (hG : Gs w) (hT : Pow w) (hn : ns.length = n) (hl : n ≤ 100000) (hv : NView w w.heap.size A ns) (hs : ∀ d ∈ ns, d.field.length ≤ 4611686018427387904 ∧ d.pat.length ≤ 4611686018427387904) :
    Calls Tryz.prog 13 #[.slice A n cap] w (PrtEnd w (Sp.printE ns)) := by
  obtain ⟨R, hR⟩ : ∃ R, Sp.printE ns = R := ⟨_, rfl⟩
  rw [hR]
  by_cases h64 : 64 < n
  · have q1 : decide ((n : Int) > 64) = true := decide_eq_true (by omega)
    have q2 : decide (64 < n) = true := decide_eq_true h64
    have HE := Lib.hid (hR.symm.trans (Sp.printE_long (by rw [hn]; exact h64)))
    clear hG hT hn hl hv hs hR h64
    go_enter Tryz.func13, Tryz.ntmps13
    go_wp2_with fail
    go_ret2
    exact PrtEnd_of HE.out rfl (Below.refl _ _)
  have q1 : decide ((n : Int) > 64) = false := decide_eq_false (by omega)
  have q2 : decide (64 < n) = false := decide_eq_false h64
  have h64' : ¬ 64 < ns.length := by rw [hn]; exact h64
  have HB := Lib.hid (expr_build A n cap ns w hn hl hv)
  have HV := Lib.hid hv
  have HG := Lib.hid hG
  have HT := Lib.hid hT
  have HSZ := Lib.hid hs
  have HN := Lib.hid hn
  have n64 : (n : Int) ≤ 64 := by omega
  have n0 : (0 : Int) ≤ (n : Int) := by omega
  obtain ⟨T, hTT⟩ : ∃ T, Sp.buildV ns = T := ⟨_, rfl⟩
  rw [hTT] at HB
  cases T with
  | none =>
    have HE := Lib.hid (hR.symm.trans (Sp.printE_none h64' hTT))
    clear hG hT hn hl hv hs hR h64 h64' hTT
    go_enter Tryz.func13, Tryz.ntmps13
    go_wp2_with fail
    refine HB.out.mono ?_
    rintro e w1 ⟨rfl, h1⟩
    have HB1 := Lib.hid h1
    clear h1
    go_wp2_with fail
    go_ret2
    exact PrtEnd_of HE.out rfl HB1.out
  | some t =>
    have hsz := Sp.buildV_size hTT
    have HTT := Lib.hid hTT
    have HBD := Lib.hid (fun h => Sp.printE_bad h64' h : ns.all Sp.okN = false → _)
    have HDP := Lib.hid (fun hk hd => Sp.printE_deep h64' hTT hk hd)
    have HOK := Lib.hid (fun hk hd => Sp.printE_ok h64' hTT hk hd)
    have HR := Lib.hid hR
    have hts : t.size ≤ 1000 := by omega
    have hnl := Sp.nest_le t
    have HNS := Lib.hid (nest_all t hts)
    clear hG hT hn hl hv hs hR h64 h64' hTT
    go_enter Tryz.func13, Tryz.ntmps13
    go_wp2_with fail
    refine HB.out.mono ?_
    rintro e w1 ⟨rfl, h1⟩
    have HB1 := Lib.hid h1
    clear h1 HB
    go_wp2_with fail
    go_loopw [20] (fun v20 wr => ∃ i : Nat, v20 = .int .i64 (i : Int) ∧ i ≤ n ∧ Below w.heap.size w wr ∧ Hid ((ns.take i).all Sp.okN = true)) (fun v20 _ => n - (intOf v20).toNat)
    case atStart => exact ⟨0, rfl, by omega, HB1.out, Lib.hid rfl⟩
    case round =>
      obtain ⟨i, rfl, hi, hb, hA⟩ := hrel
      have HBW := Lib.hid hb
      have i0 : (0 : Int) ≤ (i : Int) := by omega
      clear hb
      by_cases hlt : i < n
      · have z1 : decide ((i : Int) < n) = true := decide_eq_true (by omega)
        have z2 : decide (i < n) = true := decide_eq_true hlt
        have p1 : (i : Int) < n := by omega
        obtain ⟨d, hd⟩ : ∃ d, ns[i]? = some d := ⟨_, List.getElem?_eq_getElem (by rw [HN.out]; exact hlt)⟩
        have hmem : d ∈ ns := List.mem_of_getElem? hd
        obtain ⟨hf1, hp1⟩ := HSZ.out d hmem
        have HW := Lib.hid (fun (o : Obj) => expr_written d (wr.alloc o) (HG.out.below (HBW.out.alloc HBW.out.size o)) hf1 hp1)
        have HNO := Lib.hid (fun h : Sp.okN d = false => HBD.out (all_no hmem h))
        have HNX := Lib.hid (fun h : Sp.okN d = true => all_more hA.out hd h)
        obtain ⟨G, O, rfl, hG, c0, c1, c2, c3, c4, c5, c6, c7⟩ := (HV.out.below HBW.out (Nat.le_refl _)) i d hd
        obtain ⟨k, F, op, fo, lo, hi2, le, pa⟩ := d
        clear hA hd hmem hf1 hp1 hi
        simp only [] at c0 c1 c2 c3 c4 c5 c6 c7
        by_cases k3 : k = 3
        · subst k3
          obtain ⟨wb, hwb⟩ : ∃ b, Sp.wrB ⟨3, F, op, fo, lo, hi2, le, pa⟩ = b := ⟨_, rfl⟩
          have HOKN := Lib.hid (show Sp.okN ⟨3, F, op, fo, lo, hi2, le, pa⟩ = wb by unfold Sp.okN; simp [hwb])
          rw [hwb] at HW
          clear hwb
          go_wp2_with fail
          refine (HW.out _).mono ?_
          rintro e w2 ⟨rfl, h2⟩
          have HB2 := Lib.hid ((HBW.out.alloc HBW.out.size _).trans (h2.mono (Nat.le_trans HBW.out.size (by simp))))
          clear h2
          cases wb
          case false =>
            have HE := Lib.hid (HR.out.symm.trans (HNO.out HOKN.out))
            go_wp2_with fail
            go_ret2
            exact PrtEnd_of HE.out rfl HB2.out
          case true =>
            go_wp2_with fail
            go_roundw
            case rel => exact ⟨i + 1, by go_num, by omega, HB2.out, Lib.hid (HNX.out HOKN.out)⟩
            case measure => simp [intOf]; omega
        · have g3 : (k == 3) = false := beq_eq_false_iff_ne.2 k3
          have HOKN := Lib.hid (show Sp.okN ⟨k, F, op, fo, lo, hi2, le, pa⟩ = true by unfold Sp.okN; simp [k3])
          clear k3
          go_wp2_with fail
          go_roundw
          case rel => exact ⟨i + 1, by go_num, by omega, HBW.out.alloc HBW.out.size _, Lib.hid (HNX.out HOKN.out)⟩
          case measure => simp [intOf]; omega
      · have z1 : decide ((i : Int) < n) = false := decide_eq_false (by omega)
        have z2 : decide (i < n) = false := decide_eq_false hlt
        have hall : ns.all Sp.okN = true := by
          have := hA.out
          rwa [List.take_of_length_le (by rw [HN.out]; omega)] at this
        obtain ⟨ty, V, F, hT1, hm1, hcf, hC⟩ := HNS.out
        obtain ⟨ty2, V2, F2, hT2, hm2, hcf2, hC2⟩ := text_all t (Sp.buildV_wr HTT.out hall) hts
        have HTR := Lib.hid (hT1.symm.trans hT2)
        obtain ⟨N, hN⟩ : ∃ N, t.nest = N := ⟨_, rfl⟩
        rw [hN] at hC
        have HC := Lib.hid hC
        have HC2 := Lib.hid hC2
        have hN2 : N ≤ 2000 := by omega
        rw [show bval (some t) = .iface ty V from hT1]
        by_cases hd : 32 < N
        · have y1 : decide ((N : Int) > 32) = true := decide_eq_true (by omega)
          have y2 : decide (32 < N) = true := decide_eq_true hd
          have HE := Lib.hid (HR.out.symm.trans (HDP.out hall (by rw [hN]; exact hd)))
          clear hC hC2 hT1 hT2 hm2 hcf2 hN hd hall hA hnl hsz hi
          go_wp2_with fail
          refine (HC.out _).mono ?_
          rintro e w2 ⟨rfl, h2⟩
          have HB2 := Lib.hid (HBW.out.trans (h2.mono HBW.out.size))
          clear h2
          go_wp2_with fail
          go_ret2
          exact PrtEnd_of HE.out rfl HB2.out
        · have y1 : decide ((N : Int) > 32) = false := decide_eq_false (by omega)
          have y2 : decide (32 < N) = false := decide_eq_false hd
          have HE := Lib.hid (HR.out.symm.trans (HOK.out hall (by rw [hN]; exact hd)))
          obtain ⟨rfl, rfl⟩ : ty2 = ty ∧ V2 = V := by
            have := HTR.out
            injection this with a b
            exact ⟨a.symm, b.symm⟩
          clear hC hC2 hT1 hT2 hN hd hall hA hnl hsz hi
          go_wp2_with fail
          refine (HC.out _).mono ?_
          rintro e w2 ⟨rfl, h2⟩
          have HB2 := Lib.hid (HBW.out.trans (h2.mono HBW.out.size))
          clear h2
          go_wp2_with fail
          refine (HC2.out _ (HT.out.below HB2.out)).mono ?_
          rintro e w3 ⟨rfl, h3⟩
          have HB3 := Lib.hid (HB2.out.trans (h3.mono HB2.out.size))
          clear h3
          go_wp2_with fail
          go_ret2
          exact PrtEnd_of HE.out rfl HB3.out
end Go.Proofs.YtdmpapoabeljfaaGreatDoor
