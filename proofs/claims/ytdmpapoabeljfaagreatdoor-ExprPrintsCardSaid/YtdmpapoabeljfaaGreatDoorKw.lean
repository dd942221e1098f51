/-
  WALK: the reference's Print of expressions (chapter 5).
-/
import Derived.Test.YtdmpapoabeljfaaGreatDoorKu
import Derived.Test.YtdmpapoabeljfaaGreatDoorKv
set_option linter.unusedVariables false
set_option linter.unusedSimpArgs false
set_option maxRecDepth 100000
set_option maxHeartbeats 8000000
namespace Go.Proofs.YtdmpapoabeljfaaGreatDoor
open Go.RowKit

theorem ref5_Print (A : Option Addr) (n cap : Nat) (ns : List Sp.Nd) (w : World) (hn : ns.length = n) (hl : n ≤ 100000) (hv : NView w w.heap.size A ns) (hs : ∀ d ∈ ns, d.field.length ≤ 4611686018427387904 ∧ d.pat.length ≤ 4611686018427387904) :
    Calls Tryz.prog 14 #[.slice A n cap] w (PrtEnd w (Sp.printE ns)) := by
  obtain ⟨R, hR⟩ : ∃ R, Sp.printE ns = R := ⟨_, rfl⟩
  rw [hR]
  by_cases h64 : 64 < n
  · have q1 : decide ((n : Int) > 64) = true := decide_eq_true (by omega)
    have q2 : decide (64 < n) = true := decide_eq_true h64
    have HE := Lib.hid (hR.symm.trans (Sp.printE_long (by rw [hn]; exact h64)))
    clear hn hl hv hs hR h64
    go_enter Tryz.func14, Tryz.ntmps14
    go_wp2_with fail
    go_ret2
    exact PrtEnd_of HE.out rfl (Below.refl _ _)
  have q1 : decide ((n : Int) > 64) = false := decide_eq_false (by omega)
  have q2 : decide (64 < n) = false := decide_eq_false h64
  have h64' : ¬ 64 < ns.length := by rw [hn]; exact h64
  have HBT := Lib.hid (fun (W : World) (hok : ns.all Sp.okN = true) (hV : NView W W.heap.size A ns) => ref5_tell A n cap ns W hn (by omega) hok hV)
  have HV := Lib.hid hv
  have HSZ := Lib.hid hs
  have HN := Lib.hid hn
  have n64 : (n : Int) ≤ 64 := by omega
  have n0 : (0 : Int) ≤ (n : Int) := by omega
  have HBD := Lib.hid (fun h => Sp.printE_bad h64' h : ns.all Sp.okN = false → _)
  have HNN := Lib.hid (fun h => Sp.printE_none h64' h)
  have HDP := Lib.hid (fun (t : Sp.Tr) (hb : Sp.buildV ns = some t) hk hd => Sp.printE_deep h64' hb hk hd)
  have HOK := Lib.hid (fun (t : Sp.Tr) (hb : Sp.buildV ns = some t) hk hd => Sp.printE_ok h64' hb hk hd)
  have HR := Lib.hid hR
  clear hn hl hv hs hR h64 h64'
  go_enter Tryz.func14, Tryz.ntmps14
  go_wp2_with fail
  go_loopw [4] (fun v4 wr => ∃ i : Nat, v4 = .int .i64 (i : Int) ∧ i ≤ n ∧ Below w.heap.size w wr ∧ Hid ((ns.take i).all Sp.okN = true)) (fun v4 _ => n - (intOf v4).toNat)
  case atStart => exact ⟨0, rfl, by omega, Below.refl _ _, Lib.hid rfl⟩
  case round =>
    obtain ⟨i, rfl, hi, hb, hA⟩ := hrel
    have HBW := Lib.hid hb
    have i0 : (0 : Int) ≤ (i : Int) := by omega
    clear hb
    by_cases hlt : i < n
    · have z1 : decide ((i : Int) < n) = true := decide_eq_true (by omega)
      have z2 : decide (i < n) = true := decide_eq_true hlt
      have p1 : (i : Int) < n := by omega
      obtain ⟨d, hd⟩ : ∃ d, ns[i]? = some d := ⟨_, List.getElem?_eq_getElem (by rw [HN.out]; exact hlt)⟩
      have hmem : d ∈ ns := List.mem_of_getElem? hd
      obtain ⟨hf1, hp1⟩ := HSZ.out d hmem
      have HW := Lib.hid (fun W => ref5_said d W hf1 hp1)
      have HNO := Lib.hid (fun h : Sp.okN d = false => HBD.out (all_no hmem h))
      have HNX := Lib.hid (fun h : Sp.okN d = true => all_more hA.out hd h)
      obtain ⟨G, O, rfl, hG, c0, c1, c2, c3, c4, c5, c6, c7⟩ := (HV.out.below HBW.out (Nat.le_refl _)) i d hd
      obtain ⟨k, F, op, fo, lo, hi2, le, pa⟩ := d
      clear hA hd hmem hf1 hp1 hi
      simp only [] at c0 c1 c2 c3 c4 c5 c6 c7
      by_cases k3 : k = 3
      · subst k3
        obtain ⟨wb, hwb⟩ : ∃ b, Sp.wrB ⟨3, F, op, fo, lo, hi2, le, pa⟩ = b := ⟨_, rfl⟩
        have HOKN := Lib.hid (show Sp.okN ⟨3, F, op, fo, lo, hi2, le, pa⟩ = wb by unfold Sp.okN; simp [hwb])
        rw [hwb] at HW
        clear hwb
        go_wp2_with fail
        refine (HW.out _).mono ?_
        rintro e w2 ⟨rfl, h2⟩
        have HB2 := Lib.hid (HBW.out.trans (h2.mono HBW.out.size))
        clear h2
        cases wb
        case false =>
          have HE := Lib.hid (HR.out.symm.trans (HNO.out HOKN.out))
          go_wp2_with fail
          go_ret2
          exact PrtEnd_of HE.out rfl HB2.out
        case true =>
          go_wp2_with fail
          go_roundw
          case rel => exact ⟨i + 1, by go_num, by omega, HB2.out, Lib.hid (HNX.out HOKN.out)⟩
          case measure => simp [intOf]; omega
      · have g3 : (k == 3) = false := beq_eq_false_iff_ne.2 k3
        have HOKN := Lib.hid (show Sp.okN ⟨k, F, op, fo, lo, hi2, le, pa⟩ = true by unfold Sp.okN; simp [k3])
        clear k3
        go_wp2_with fail
        go_roundw
        case rel => exact ⟨i + 1, by go_num, by omega, HBW.out, Lib.hid (HNX.out HOKN.out)⟩
        case measure => simp [intOf]; omega
    · have z1 : decide ((i : Int) < n) = false := decide_eq_false (by omega)
      have z2 : decide (i < n) = false := decide_eq_false hlt
      have hall : ns.all Sp.okN = true := by
        have := hA.out
        rwa [List.take_of_length_le (by rw [HN.out]; omega)] at this
      have hv2 := (HV.out.below HBW.out (Nat.le_refl _)).more HBW.out.size
      have HC := Lib.hid (HBT.out wr hall hv2)
      obtain ⟨T, hT⟩ : ∃ T, Sp.buildV ns = T := ⟨_, rfl⟩
      rw [hT] at HC
      cases T with
      | none =>
        have HE := Lib.hid (HR.out.symm.trans (HNN.out hT))
        have HC2 := Lib.hid (show Calls Tryz.prog 28 #[.slice A n cap] wr (Gives (.tuple #[.agg #[.string ⟨#[]⟩, .int .i64 0, .int .i64 0], .bool false]) wr) from HC.out)
        clear hv2 hT hall hA hi HC
        go_wp2_with fail
        refine HC2.out.mono ?_
        rintro e w2 ⟨rfl, h2⟩
        have HB2 := Lib.hid (HBW.out.trans (h2.mono HBW.out.size))
        clear h2
        go_wp2_with fail
        go_ret2
        exact PrtEnd_of HE.out rfl (HB2.out.alloc HB2.out.size _)
      | some t =>
        obtain ⟨N, hN⟩ : ∃ N, t.nest = N := ⟨_, rfl⟩
        obtain ⟨X, hX⟩ : ∃ X, t.text = X := ⟨_, rfl⟩
        have hC2 : Calls Tryz.prog 28 #[.slice A n cap] wr (Gives (.tuple #[.agg #[.string (bs t.text), .int .i64 (t.by_ : Nat), .int .i64 (t.nest : Nat)], .bool true]) wr) := HC.out
        rw [hN, hX] at hC2
        have HC2 := Lib.hid hC2
        have HD := Lib.hid (HDP.out t hT hall)
        have HO := Lib.hid (HOK.out t hT hall)
        rw [hN] at HD HO
        rw [hX] at HO
        have hN2 : N ≤ 200000 := by
          have h1 := Sp.nest_le t
          have h2 := Sp.buildV_size hT
          have h3 := HN.out
          omega
        have hN3 : (0 : Int) ≤ (N : Int) := by omega
        clear hC2 hv2 hT hall hA hi HC
        by_cases hd : 32 < N
        · have y1 : decide ((N : Int) > 32) = true := decide_eq_true (by omega)
          have y2 : decide (32 < N) = true := decide_eq_true hd
          have HE := Lib.hid (HR.out.symm.trans (HD.out hd))
          clear hd hN hX
          go_wp2_with fail
          refine HC2.out.mono ?_
          rintro e w2 ⟨rfl, h2⟩
          have HB2 := Lib.hid (HBW.out.trans (h2.mono HBW.out.size))
          clear h2
          go_wp2_with fail
          go_ret2
          exact PrtEnd_of HE.out rfl (HB2.out.alloc HB2.out.size _)
        · have y1 : decide ((N : Int) > 32) = false := decide_eq_false (by omega)
          have y2 : decide (32 < N) = false := decide_eq_false hd
          have HE := Lib.hid (HR.out.symm.trans (HO.out hd))
          clear hd hN hX
          go_wp2_with fail
          refine HC2.out.mono ?_
          rintro e w2 ⟨rfl, h2⟩
          have HB2 := Lib.hid (HBW.out.trans (h2.mono HBW.out.size))
          clear h2
          go_wp2_with fail
          go_ret2
          exact PrtEnd_of HE.out rfl (HB2.out.alloc HB2.out.size _)
end Go.Proofs.YtdmpapoabeljfaaGreatDoor
