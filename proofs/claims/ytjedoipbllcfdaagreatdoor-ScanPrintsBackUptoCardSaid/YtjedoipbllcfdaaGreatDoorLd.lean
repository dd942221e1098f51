/-
  THE WALKS of reachlaw3.seek, idle (chapter 3).
-/
import Derived.Test.YtjedoipbllcfdaaGreatDoorLa
import Derived.Test.YtjedoipbllcfdaaGreatDoorPd
set_option linter.unusedVariables false
set_option linter.unusedSimpArgs false
set_option maxRecDepth 100000
set_option maxHeartbeats 2000000
namespace Go.Proofs.YtjedoipbllcfdaaGreatDoor
open Go.RowKit

theorem law3_idle (s : ByteArray) (follows : Bool) (w : World) (hs : s.size ≤ 1073741824) (hok : Sp.idleV s.data.toList follows = true) :
    Calls Tryz.prog 26 #[.string s, .bool follows] w fun e w' => e = .returned (.bool true) ∧ w' = w := by
  have HSL := Lib.hid (Lib.size_eq s)
  have HDR : Hid (∀ i, (hi : i < s.size) → s.data.toList.drop i = (s[i]'hi) :: s.data.toList.drop (i + 1)) := fun i hi => Sp.drop_cons s i hi
  obtain ⟨cf, hcf, hfo⟩ : ∃ cf, Sp.idF false s.data.toList = some cf ∧ (!follows || !cf) = true := by
    unfold Sp.idleV at hok
    cases hx : Sp.idF false s.data.toList with
    | none => rw [hx] at hok; cases hok
    | some c => rw [hx] at hok; exact ⟨c, rfl, hok⟩
  have HCF := Lib.hid hcf
  clear hok hcf
  go_enter Tryz.func26, Tryz.ntmps26
  go_wp2
  go_loopw [5, 6, 7] (fun v5 v6 _ wr => wr = w ∧ ∃ (c : Bool) (i : Nat), v5 = .bool c ∧ v6 = .int .i64 (i : Int) ∧ i ≤ s.size ∧ Hid (Sp.idF c (s.data.toList.drop i) = some cf)) (fun _ v6 _ _ => s.size - (intOf v6).toNat)
  case atStart => exact ⟨rfl, false, 0, rfl, rfl, by omega, by rw [List.drop_zero]; exact HCF.out⟩
  case round =>
    obtain ⟨rfl, c, i, rfl, rfl, hi, HI⟩ := hrel
    by_cases hlt : i < s.size
    · have q1 : decide ((i : Int) < s.size) = true := decide_eq_true (by omega)
      have hlt' : (i : Int) < s.size := by omega
      have hid := HI.out
      rw [HDR.out i hlt, Sp.idF_cons] at hid
      by_cases c1 : (s[i]'hlt).toNat = 10
      · have q2 : (((s[i]'hlt).toNat : Int) == 10) = true := beq_iff_eq.2 (by omega)
        rw [if_pos c1] at hid
        have HI2 := Lib.hid hid
        clear hid
        go_wp2
        go_roundw
        case rel => exact ⟨by trivial, false, i + 1, rfl, by rfl, by omega, HI2⟩
        case measure => simp [intOf]; omega
      have q2 : (((s[i]'hlt).toNat : Int) == 10) = false := beq_eq_false_iff_ne.2 (by omega)
      rw [if_neg c1] at hid
      by_cases c2 : (s[i]'hlt).toNat = 35
      · have q3 : (((s[i]'hlt).toNat : Int) == 35) = true := beq_iff_eq.2 (by omega)
        rw [if_pos c2] at hid
        have HI2 := Lib.hid hid
        clear hid
        go_wp2
        go_roundw
        case rel => exact ⟨by trivial, true, i + 1, rfl, by rfl, by omega, HI2⟩
        case measure => simp [intOf]; omega
      have q3 : (((s[i]'hlt).toNat : Int) == 35) = false := beq_eq_false_iff_ne.2 (by omega)
      rw [if_neg c2] at hid
      cases c with
      | true =>
        rw [if_neg (by rintro ⟨h, _⟩; cases h)] at hid
        have HI2 := Lib.hid hid
        clear hid
        go_wp2
        go_roundw
        case rel => exact ⟨by trivial, true, i + 1, rfl, by rfl, by omega, HI2⟩
        case measure => simp [intOf]; omega
      | false =>
        by_cases c3 : Sp.blankB (s[i]'hlt) = true
        · rw [if_neg (by rintro ⟨_, h⟩; rw [c3] at h; cases h)] at hid
          have HI2 := Lib.hid hid
          unfold Sp.blankB at c3
          have c3 := of_decide_eq_true c3
          by_cases d1 : (s[i]'hlt).toNat = 32
          · have q4 : (((s[i]'hlt).toNat : Int) != 32) = false := by rw [bne_eq_false_iff_eq]; omega
            clear hid c3 d1
            go_wp2
            go_roundw
            case rel => exact ⟨by trivial, false, i + 1, rfl, by rfl, by omega, HI2⟩
            case measure => simp [intOf]; omega
          have q4 : (((s[i]'hlt).toNat : Int) != 32) = true := by rw [bne_iff_ne]; omega
          by_cases d2 : (s[i]'hlt).toNat = 9
          · have q5 : (((s[i]'hlt).toNat : Int) != 9) = false := by rw [bne_eq_false_iff_eq]; omega
            clear hid c3 d1 d2
            go_wp2
            go_roundw
            case rel => exact ⟨by trivial, false, i + 1, rfl, by rfl, by omega, HI2⟩
            case measure => simp [intOf]; omega
          have q5 : (((s[i]'hlt).toNat : Int) != 9) = true := by rw [bne_iff_ne]; omega
          have q6 : (((s[i]'hlt).toNat : Int) != 13) = false := by rw [bne_eq_false_iff_eq]; omega
          clear hid c3 d1 d2
          go_wp2
          go_roundw
          case rel => exact ⟨by trivial, false, i + 1, rfl, by rfl, by omega, HI2⟩
          case measure => simp [intOf]; omega
        · rw [if_pos ⟨rfl, by simpa using c3⟩] at hid
          cases hid
    · have q1 : decide ((i : Int) < s.size) = false := decide_eq_false (by omega)
      have hid := HI.out
      rw [List.drop_eq_nil_of_le (by rw [← HSL.out]; omega)] at hid
      have hcc : c = cf := by injection hid
      subst hcc
      clear hid
      cases follows with
      | true =>
        cases c with
        | true => cases hfo
        | false =>
          go_wp2
          go_ret
          exact ⟨rfl, rfl⟩
      | false =>
        go_wp2
        go_ret
        exact ⟨rfl, rfl⟩

/-- A struct spot. -/
def spotV (a l c : Int) : Value := .agg #[.int .i64 a, .int .i64 l, .int .i64 c]

theorem law3_seek (s : ByteArray) (p sl sc d ln cl : Nat) (w : World) (hs : s.size ≤ 1073741824) (hp : p ≤ s.size) (hl : sl ≤ 1073741824) (hc : sc ≤ 1073741824) (hA : Sp.At (s.data.toList.drop p) sl sc d ln cl) :
    Calls Tryz.prog 25 #[.string s, spotV p sl sc, .int .i64 ln, .int .i64 cl] w fun e w' => e = .returned (spotV ((p + d : Nat) : Int) ln cl) ∧ Below w.heap.size w w' := by
  unfold spotV
  have htl : (s.extract p s.size).data.toList = s.data.toList.drop p := ext_drop s p
  obtain ⟨t, ht⟩ : ∃ t, s.extract p s.size = t := ⟨_, rfl⟩
  have hts : t.size = s.size - p := by rw [← ht, ByteArray.size_extract]; omega
  rw [ht] at htl
  rw [← htl] at hA
  have hdle := hA.le
  rw [← Lib.size_eq] at hdle
  have b1 : (0 : Int) ≤ (p : Int) := by omega
  have b2 : (p : Int) ≤ s.size := by omega
  have hu := Tryz.underlying55
  have hin : (Tryz.prog.info? 55).map (·.size) = some 3 := by kernel_rfl
  have HA := Lib.hid hA
  have HT := Lib.hid ht
  have HU := Lib.hid hu
  have HIN := Lib.hid hin
  clear hA htl hu hin ht
  go_enter Tryz.func25, Tryz.ntmps25
  go_wp2
  rw [HT.out]
  go_loopw [10, 11] (fun _ _ wr => ∃ (pos L C : Nat), wr.heap[w.heap.size + 1 + 1]? = some (.stringIter t pos) ∧ Blk wr w.heap.size 55 #[.int .i64 (p : Nat), .int .i64 (L : Nat), .int .i64 (C : Nat)] ∧ Blk wr (w.heap.size + 1) 55 #[.int .i64 0, .int .i64 0, .int .i64 0] ∧ Below w.heap.size w wr ∧ pos ≤ d ∧ L ≤ sl + pos ∧ C ≤ sc + pos + 1 ∧ Hid (Sp.At (t.data.toList.drop pos) L C (d - pos) ln cl)) (fun _ _ wr => t.size - wr.iterPos (w.heap.size + 1 + 1))
  case atStart =>
    refine ⟨0, sl, sc, ?_, ?_, ?_, ?_, by omega, by omega, by omega, ?_⟩
    · have h := World.iter_heap ((w.alloc (.cells #[.int .i64 (p : Nat), .int .i64 (sl : Nat), .int .i64 (sc : Nat)] 55)).alloc (.cells #[.int .i64 0, .int .i64 0, .int .i64 0] 55)) t 0
      have e : ((w.alloc (.cells #[.int .i64 (p : Nat), .int .i64 (sl : Nat), .int .i64 (sc : Nat)] 55)).alloc (.cells #[.int .i64 0, .int .i64 0, .int .i64 0] 55)).heap.size = w.heap.size + 1 + 1 := by simp
      rw [e] at h
      exact h
    · exact ((Blk.new w _ _).alloc _).alloc _
    · have h := Blk.new (w.alloc (.cells #[.int .i64 (p : Nat), .int .i64 (sl : Nat), .int .i64 (sc : Nat)] 55)) 55 #[.int .i64 0, .int .i64 0, .int .i64 0]
      have e : (w.alloc (.cells #[.int .i64 (p : Nat), .int .i64 (sl : Nat), .int .i64 (sc : Nat)] 55)).heap.size = w.heap.size + 1 := by simp
      rw [e] at h
      exact h.alloc _
    · exact (((Below.refl _ _).alloc (Nat.le_refl _) _).alloc (by simp) _).alloc (by simp; omega) _
    · rw [List.drop_zero]
      exact HA.out
  case round =>
    obtain ⟨pos, L, C, hit, hb0, hb1, hbw, hpd, hLb, hCb, HP⟩ := hrel
    have hpos0 := iterPos_of hit
    by_cases hpt : pos < t.size
    · have hnx := fun ty => Lib.run_next_any_at (P := Tryz.prog) wr (w.heap.size + 1 + 1) t pos ty hit hpt
      simp only [Sp.dec_at] at hnx
      obtain ⟨l, hl⟩ : ∃ l, t.data.toList.drop pos = l := ⟨_, rfl⟩
      have hP := HP.out
      rw [hl] at hnx hP
      have hlne : l ≠ [] := by rw [← hl, Sp.drop_cons t pos hpt]; simp
      have hkp := Sp.dec_pos l hlne
      obtain ⟨c, hc⟩ : ∃ c : Nat, (Sp.dec l).1 = c := ⟨_, rfl⟩
      obtain ⟨k, hk⟩ : ∃ k : Nat, (Sp.dec l).2 = k := ⟨_, rfl⟩
      have hit2 := Lib.iterAt_heap wr (w.heap.size + 1 + 1) t pos (pos + k) hit
      have hbi := Lib.below_iterAt (Below.refl (w.heap.size + 1 + 1) wr) (k := w.heap.size + 1 + 1) (Nat.le_refl _) t (pos + k)
      rw [hc, hk] at hnx
      rw [hk] at hkp
      obtain ⟨W2, hW2⟩ : ∃ W2, wr.iterAt (w.heap.size + 1 + 1) t (pos + k) = W2 := ⟨_, rfl⟩
      rw [hW2] at hnx hit2 hbi
      have hb0' := hb0.below hbi (by omega)
      have hb1' := hb1.below hbi (by omega)
      have hbw2 := hbw.trans (hbi.mono (by omega))
      have c0 : W2.cell? ⟨w.heap.size, 0, none⟩ = some (.int .i64 (p : Nat)) := hb0'.cell 0
      have c1 : W2.cell? ⟨w.heap.size, 1, none⟩ = some (.int .i64 (L : Nat)) := hb0'.cell 1
      have c2 : W2.cell? ⟨w.heap.size, 2, none⟩ = some (.int .i64 (C : Nat)) := hb0'.cell 2
      have f0 := hb0'.frozen 0
      have f1 := hb0'.frozen 1
      have f2 := hb0'.frozen 2
      have d0 : W2.cell? ⟨w.heap.size + 1, 0, none⟩ = some (.int .i64 0) := hb1'.cell 0
      have d1 : W2.cell? ⟨w.heap.size + 1, 1, none⟩ = some (.int .i64 0) := hb1'.cell 1
      have d2 : W2.cell? ⟨w.heap.size + 1, 2, none⟩ = some (.int .i64 0) := hb1'.cell 2
      have e0 := hb1'.frozen 0
      have e1 := hb1'.frozen 1
      have e2 := hb1'.frozen 2
      have HB0 := Lib.hid hb0'
      have HB1 := Lib.hid hb1'
      have HBW := Lib.hid hbw2
      have HIT := Lib.hid hit2
      by_cases hend : pos = d
      · have hlex := hP.lex
        have eL : (L == ln) = true := beq_iff_eq.2 (by omega)
        have q1 : ((L : Int) == ln) = true := beq_iff_eq.2 (by omega)
        have q2 : ((C : Int) == cl) = true := beq_iff_eq.2 (by omega)
        have HL : Hid (L = ln ∧ C = cl) := ⟨by omega, by omega⟩
        have HE := Lib.hid hend
        clear hlex hP hl hlne hc hk hbi hW2 hb0 hb1 hb0' hb1' hbw hbw2 hit hit2 HP hend eL
        go_wp2
        obtain ⟨rfl, rfl⟩ := HL.out
        obtain rfl := HE.out
        have hg := (((HB1.out.far (p := ⟨w.heap.size, 0, none⟩) (by show w.heap.size + 1 ≠ w.heap.size; omega) (.int .i64 ((p : Int) + pos))).set_ 0 (.int .i64 ((p : Int) + pos))).set_ 1 (.int .i64 (L : Int))).set_ 2 (.int .i64 (C : Int))
        refine bodyPost_ret (results_cell_row rfl _ _ (w.heap.size + 1) 55 #[.int .i64 (((p + pos : Nat) : Int)), .int .i64 (L : Int), .int .i64 (C : Int)] (0, 0) _ rfl hg HU.out rfl HIN.out) rfl ?_
        exact ⟨rfl, (((HBW.out.setCell (p := ⟨w.heap.size, 0, none⟩) (Nat.le_refl _) _).setCell (p := ⟨w.heap.size + 1, 0, none⟩) (Nat.le_succ _) _).setCell (p := ⟨w.heap.size + 1, 1, none⟩) (Nat.le_succ _) _).setCell (p := ⟨w.heap.size + 1, 2, none⟩) (Nat.le_succ _) _⟩
      · obtain ⟨_, q, hq, hP2⟩ := hP.inv (by omega)
        have hlex := hP.lex
        rw [hk] at hq hP2
        rw [hc] at hP2
        rw [← hl, List.drop_drop] at hP2
        have hq' : q = d - (pos + k) := by omega
        subst hq'
        have hdiff : (L ≠ ln) ∨ (L = ln ∧ C ≠ cl) := by omega
        have hpk : pos + k ≤ d := by omega
        clear hq
        by_cases hc10 : c = 10
        · have q3 : ((c : Int) == 10) = true := beq_iff_eq.2 (by omega)
          have hP3 : Sp.At (t.data.toList.drop (pos + k)) (L + 1) 1 (d - (pos + k)) ln cl := by
            unfold Sp.stpL Sp.stpC at hP2
            rw [if_pos hc10, if_pos hc10] at hP2
            exact hP2
          have HP3 := Lib.hid hP3
          clear hlex hP hl hlne hc hk hbi hW2 hb0 hb1 hb0' hb1' hbw hbw2 hit hit2 HP hP2 hP3 hc10
          rcases hdiff with hdiff | hdiff
          · have q1 : ((L : Int) == ln) = false := beq_eq_false_iff_ne.2 (by omega)
            clear hdiff
            go_wp2
            have hit3 : ((W2.setCell ⟨w.heap.size, 1, none⟩ (.int .i64 ((L : Int) + 1))).setCell ⟨w.heap.size, 2, none⟩ (.int .i64 1)).heap[w.heap.size + 1 + 1]? = some (.stringIter t (pos + k)) := (Below.heap_setCell _ _ _ _ (by show w.heap.size + 1 + 1 ≠ w.heap.size; omega)).trans ((Below.heap_setCell _ _ _ _ (by show w.heap.size + 1 + 1 ≠ w.heap.size; omega)).trans HIT.out)
            go_roundw
            case rel => exact ⟨pos + k, L + 1, 1, hit3, (HB0.out.set_ 1 _).set_ 2 _, (HB1.out.far (p := ⟨w.heap.size, 1, none⟩) (by show w.heap.size + 1 ≠ w.heap.size; omega) _).far (p := ⟨w.heap.size, 2, none⟩) (by show w.heap.size + 1 ≠ w.heap.size; omega) _, (HBW.out.setCell (p := ⟨w.heap.size, 1, none⟩) (Nat.le_refl _) _).setCell (p := ⟨w.heap.size, 2, none⟩) (Nat.le_refl _) _, by omega, by omega, by omega, HP3.out⟩
            case measure =>
              rw [iterPos_of hit3, hpos0]
              omega
          · have q1 : ((L : Int) == ln) = true := beq_iff_eq.2 (by omega)
            have q2 : ((C : Int) == cl) = false := beq_eq_false_iff_ne.2 (by omega)
            clear hdiff
            go_wp2
            have hit3 : ((W2.setCell ⟨w.heap.size, 1, none⟩ (.int .i64 ((L : Int) + 1))).setCell ⟨w.heap.size, 2, none⟩ (.int .i64 1)).heap[w.heap.size + 1 + 1]? = some (.stringIter t (pos + k)) := (Below.heap_setCell _ _ _ _ (by show w.heap.size + 1 + 1 ≠ w.heap.size; omega)).trans ((Below.heap_setCell _ _ _ _ (by show w.heap.size + 1 + 1 ≠ w.heap.size; omega)).trans HIT.out)
            go_roundw
            case rel => exact ⟨pos + k, L + 1, 1, hit3, (HB0.out.set_ 1 _).set_ 2 _, (HB1.out.far (p := ⟨w.heap.size, 1, none⟩) (by show w.heap.size + 1 ≠ w.heap.size; omega) _).far (p := ⟨w.heap.size, 2, none⟩) (by show w.heap.size + 1 ≠ w.heap.size; omega) _, (HBW.out.setCell (p := ⟨w.heap.size, 1, none⟩) (Nat.le_refl _) _).setCell (p := ⟨w.heap.size, 2, none⟩) (Nat.le_refl _) _, by omega, by omega, by omega, HP3.out⟩
            case measure =>
              rw [iterPos_of hit3, hpos0]
              omega
        · have q3 : ((c : Int) == 10) = false := beq_eq_false_iff_ne.2 (by omega)
          have hP3 : Sp.At (t.data.toList.drop (pos + k)) L (C + 1) (d - (pos + k)) ln cl := by
            unfold Sp.stpL Sp.stpC at hP2
            rw [if_neg hc10, if_neg hc10] at hP2
            exact hP2
          have HP3 := Lib.hid hP3
          clear hlex hP hl hlne hc hk hbi hW2 hb0 hb1 hb0' hb1' hbw hbw2 hit hit2 HP hP2 hP3 hc10
          rcases hdiff with hdiff | hdiff
          · have q1 : ((L : Int) == ln) = false := beq_eq_false_iff_ne.2 (by omega)
            clear hdiff
            go_wp2
            have hit3 : (W2.setCell ⟨w.heap.size, 2, none⟩ (.int .i64 ((C : Int) + 1))).heap[w.heap.size + 1 + 1]? = some (.stringIter t (pos + k)) := (Below.heap_setCell _ _ _ _ (by show w.heap.size + 1 + 1 ≠ w.heap.size; omega)).trans HIT.out
            go_roundw
            case rel => exact ⟨pos + k, L, C + 1, hit3, HB0.out.set_ 2 _, HB1.out.far (p := ⟨w.heap.size, 2, none⟩) (by show w.heap.size + 1 ≠ w.heap.size; omega) _, HBW.out.setCell (p := ⟨w.heap.size, 2, none⟩) (Nat.le_refl _) _, by omega, by omega, by omega, HP3.out⟩
            case measure =>
              rw [iterPos_of hit3, hpos0]
              omega
          · have q1 : ((L : Int) == ln) = true := beq_iff_eq.2 (by omega)
            have q2 : ((C : Int) == cl) = false := beq_eq_false_iff_ne.2 (by omega)
            clear hdiff
            go_wp2
            have hit3 : (W2.setCell ⟨w.heap.size, 2, none⟩ (.int .i64 ((C : Int) + 1))).heap[w.heap.size + 1 + 1]? = some (.stringIter t (pos + k)) := (Below.heap_setCell _ _ _ _ (by show w.heap.size + 1 + 1 ≠ w.heap.size; omega)).trans HIT.out
            go_roundw
            case rel => exact ⟨pos + k, L, C + 1, hit3, HB0.out.set_ 2 _, HB1.out.far (p := ⟨w.heap.size, 2, none⟩) (by show w.heap.size + 1 ≠ w.heap.size; omega) _, HBW.out.setCell (p := ⟨w.heap.size, 2, none⟩) (Nat.le_refl _) _, by omega, by omega, by omega, HP3.out⟩
            case measure =>
              rw [iterPos_of hit3, hpos0]
              omega
    · have hnx := fun ty => Lib.run_next_end_at (P := Tryz.prog) wr (w.heap.size + 1 + 1) t pos ty hit hpt
      have hend : pos = d := by omega
      have hlex := HP.out.lex
      have q1 : ((L : Int) != ln) = false := by rw [bne_eq_false_iff_eq]; omega
      have q2 : ((C : Int) != cl) = false := by rw [bne_eq_false_iff_eq]; omega
      have HL : Hid (L = ln ∧ C = cl) := ⟨by omega, by omega⟩
      have HE := Lib.hid hend
      have c0 : wr.cell? ⟨w.heap.size, 0, none⟩ = some (.int .i64 (p : Nat)) := hb0.cell 0
      have c1 : wr.cell? ⟨w.heap.size, 1, none⟩ = some (.int .i64 (L : Nat)) := hb0.cell 1
      have c2 : wr.cell? ⟨w.heap.size, 2, none⟩ = some (.int .i64 (C : Nat)) := hb0.cell 2
      have f0 := hb0.frozen 0
      have d0 : wr.cell? ⟨w.heap.size + 1, 0, none⟩ = some (.int .i64 0) := hb1.cell 0
      have d1 : wr.cell? ⟨w.heap.size + 1, 1, none⟩ = some (.int .i64 0) := hb1.cell 1
      have d2 : wr.cell? ⟨w.heap.size + 1, 2, none⟩ = some (.int .i64 0) := hb1.cell 2
      have e0 := hb1.frozen 0
      have e1 := hb1.frozen 1
      have e2 := hb1.frozen 2
      have hsz : s.size = p + pos := by omega
      have HSZ := Lib.hid hsz
      have HB1 := Lib.hid hb1
      have HBW := Lib.hid hbw
      clear hlex HP hend hb0 hb1 hbw hit hsz
      go_wp2
      obtain ⟨rfl, rfl⟩ := HL.out
      obtain rfl := HE.out
      have hg := (((HB1.out.far (p := ⟨w.heap.size, 0, none⟩) (by show w.heap.size + 1 ≠ w.heap.size; omega) (.int .i64 (s.size : Int))).set_ 0 (.int .i64 (s.size : Int))).set_ 1 (.int .i64 (L : Int))).set_ 2 (.int .i64 (C : Int))
      refine bodyPost_ret (results_cell_row rfl _ _ (w.heap.size + 1) 55 #[.int .i64 (s.size : Int), .int .i64 (L : Int), .int .i64 (C : Int)] (0, 0) _ rfl hg HU.out rfl HIN.out) rfl ?_
      exact ⟨by rw [HSZ.out], (((HBW.out.setCell (p := ⟨w.heap.size, 0, none⟩) (Nat.le_refl _) _).setCell (p := ⟨w.heap.size + 1, 0, none⟩) (Nat.le_succ _) _).setCell (p := ⟨w.heap.size + 1, 1, none⟩) (Nat.le_succ _) _).setCell (p := ⟨w.heap.size + 1, 2, none⟩) (Nat.le_succ _) _⟩
end Go.Proofs.YtjedoipbllcfdaaGreatDoor
