/-
  THE WALKS of reachlaw10's num, in, has, lets (chapter 10).
-/
import Derived.Test.YthjenkbgiomibaaGreatDoorMs
import Derived.Deep.QuietTactic
import Derived.BigQuiet
set_option linter.unusedVariables false
set_option linter.unusedSimpArgs false
set_option maxRecDepth 100000
set_option maxHeartbeats 4000000
namespace Go.Proofs.YthjenkbgiomibaaGreatDoor
open Go.RowKit
theorem law10_num (e : Int) (w : World) : Calls Tryz.prog 9 #[.int .i64 e] w fun r w' => r = .returned (.int .i64 e) ∧ w' = w := by
  go_enter Tryz.func9, Tryz.ntmps9
  go_wp2
  go_ret
  exact ⟨rfl, rfl⟩
theorem law10_in (A : Option Addr) (cap : Nat) (l : List Int) (x : Int) (w : World) (hv : IV w A l) (hl : l.length ≤ 4611686018427387904) :
    Calls Tryz.prog 14 #[.slice A l.length cap, .int .i64 x] w fun e w' => e = .returned (.bool (Sp.memB l x)) ∧ w' = w := by
  obtain ⟨n, hn⟩ : ∃ n, l.length = n := ⟨_, rfl⟩
  rw [hn] at hl ⊢
  have HN := Lib.hid hn
  have HV := Lib.hid hv
  clear hn hv
  go_enter Tryz.func14, Tryz.ntmps14
  go_wp2
  go_loop [5] (fun v8 => ∃ i : Nat, v8 = .int .i64 (i : Int) ∧ i ≤ n ∧ Hid (∀ (j : Nat) (y : Int), j < i → l[j]? = some y → (x == y) = false)) (fun v8 => n - (intOf v8).toNat)
  case atStart => exact ⟨0, rfl, Nat.zero_le _, Lib.hid (fun j y hj => by omega)⟩
  case round =>
    obtain ⟨i, rfl, hi, hno⟩ := hrel
    have i0 : (0 : Int) ≤ (i : Int) := by omega
    by_cases hlt : i < n
    · have p1 : decide ((i : Int) < (n : Int)) = true := decide_eq_true (by omega)
      have p2 : decide (i < n) = true := decide_eq_true hlt
      have p3 : (i : Int) < (n : Int) := by omega
      obtain ⟨y, hy⟩ : ∃ y, l[i]? = some y := ⟨_, List.getElem?_eq_getElem (by rw [HN.out]; exact hlt)⟩
      obtain ⟨g, o, rfl, hg, c0⟩ := HV.out.at hy
      have z1 : IntKind.i64.wrap ((i : Int) + 1) = (i : Int) + 1 := by rw [IntKind.wrap_i64]; omega
      have HI := Lib.hid (show i + 1 ≤ n by omega)
      by_cases hxy : (x == y) = true
      · have HY : Hid (Sp.memB l x = true) := Lib.hid (by
          unfold Sp.memB Sp.idxI
          rw [Sp.idxF_yes (f := fun y => x == y) hy hxy hno.out]
          exact decide_eq_true (by omega))
        have hxy2 : (y == x) = true := by rw [beq_iff_eq] at hxy ⊢; exact hxy.symm
        clear hi hlt hy hno hxy
        go_wp2
        go_ret
        exact ⟨by rw [HY.out]; rfl, rfl⟩
      · have hxf : (x == y) = false := Bool.eq_false_iff.2 hxy
        have hyf : (y == x) = false := by rw [beq_eq_false_iff_ne] at hxf ⊢; exact fun e => hxf e.symm
        have hno2 : ∀ (j : Nat) (z : Int), j < i + 1 → l[j]? = some z → (x == z) = false := by
          intro j z hj hz
          by_cases hji : j = i
          · subst hji
            rw [hy] at hz
            injection hz with hz
            rw [← hz]
            exact hxf
          · exact hno.out j z (by omega) hz
        have HNO := Lib.hid hno2
        clear hi hlt hy hno hxy hno2 hxf
        go_wp2
        go_round
        case rel => exact ⟨i + 1, by rfl, HI.out, HNO⟩
        case measure => have := HI.out; simp [intOf]; omega
    · have p1 : decide ((i : Int) < (n : Int)) = false := decide_eq_false (by omega)
      have p2 : decide (i < n) = false := decide_eq_false hlt
      have HY : Hid (Sp.memB l x = false) := Lib.hid (by
        unfold Sp.memB Sp.idxI
        rw [Sp.idxF_no (f := fun y => x == y) (l := l) (fun j y hj => hno.out j y (by have := (List.getElem?_eq_some_iff.1 hj).1; rw [HN.out] at this; omega) hj)]
        rfl)
      clear hi hlt hno
      go_wp2
      go_ret
      exact ⟨by rw [HY.out]; rfl, rfl⟩
theorem law10_has (A : Option Addr) (cap : Nat) (cubes : List ByteArray) (h : ByteArray) (w : World) (hv : SV w A cubes) (hc : ∀ c ∈ cubes, c.size = h.size) (hh : h.size ≤ 1000000) (hl : cubes.length ≤ 1000000) :
    Calls Tryz.prog 15 #[.slice A cubes.length cap, .string h] w fun e w' => e = .returned (.bool (Sp.hasB cubes h)) ∧ Below w.heap.size w w' := by
  obtain ⟨n, hn⟩ : ∃ n, cubes.length = n := ⟨_, rfl⟩
  rw [hn] at hl ⊢
  have HN := Lib.hid hn
  have HV := Lib.hid hv
  have HC := Lib.hid hc
  clear hn hv hc
  go_enter Tryz.func15, Tryz.ntmps15
  go_wp2
  go_loopw [5, 6, 7] (fun v5 _ _ wr => ∃ i : Nat, v5 = .int .i64 (i : Int) ∧ i ≤ n ∧ Below w.heap.size w wr ∧ Hid (∀ (j : Nat) (c : ByteArray), j < i → cubes[j]? = some c → Sp.covs c.data.toList h.data.toList = false)) (fun v5 _ _ _ => n - (intOf v5).toNat)
  case atStart => exact ⟨0, rfl, Nat.zero_le _, Below.refl _ _, Lib.hid (fun j c hj => by omega)⟩
  case round =>
    obtain ⟨i, rfl, hi, hb, hno⟩ := hrel
    have HB := Lib.hid hb
    have i0 : (0 : Int) ≤ (i : Int) := by omega
    by_cases hlt : i < n
    · have p1 : decide ((i : Int) < (n : Int)) = true := decide_eq_true (by omega)
      have p2 : decide (i < n) = true := decide_eq_true hlt
      have p3 : (i : Int) < (n : Int) := by omega
      obtain ⟨c, hcs⟩ : ∃ c, cubes[i]? = some c := ⟨_, List.getElem?_eq_getElem (by rw [HN.out]; exact hlt)⟩
      obtain ⟨g, o, rfl, hg, c0⟩ := (HV.out.more hb).at hcs
      have hcz := HC.out c (List.mem_of_getElem? hcs)
      have t0 : ((c.size : Int) == (h.size : Int)) = true := beq_iff_eq.2 (by omega)
      have t0' : (c.size == h.size) = true := beq_iff_eq.2 hcz
      have HI := Lib.hid (show i + 1 ≤ n by omega)
      have HCS := Lib.hid hcs
      have HCZ := Lib.hid hcz
      have HC0 := Lib.hid c0
      have z1 : IntKind.i64.wrap ((i : Int) + 1) = (i : Int) + 1 := by rw [IntKind.wrap_i64]; omega
      clear hb hi hlt hcs hcz
      go_wp2
      clear c0 t0 t0'
      go_loopw [6, 7] (fun v6 v7 wr2 => ∃ (k : Nat) (f : Bool), v7 = .int .i64 (k : Int) ∧ v6 = .bool f ∧ k ≤ h.size ∧ Below wr.heap.size wr wr2 ∧ Hid ((f = true → Sp.covs (c.data.toList.drop k) (h.data.toList.drop k) = Sp.covs c.data.toList h.data.toList) ∧ (f = false → Sp.covs c.data.toList h.data.toList = false))) (fun _ v7 _ => h.size - (intOf v7).toNat)
      case atStart => exact ⟨0, true, rfl, rfl, Nat.zero_le _, Below.refl _ _, Lib.hid ⟨fun _ => rfl, fun e => by cases e⟩⟩
      case round =>
        obtain ⟨k, f, rfl, rfl, hk, hb2, hcv⟩ := hrel
        have HB2 := Lib.hid hb2
        have k0 : (0 : Int) ≤ (k : Int) := by omega
        cases f with
        | false =>
          have hno2 : ∀ (j : Nat) (c : ByteArray), j < i + 1 → cubes[j]? = some c → Sp.covs c.data.toList h.data.toList = false := by
            intro j c2 hj hc2
            by_cases hji : j = i
            · subst hji
              rw [HCS.out] at hc2
              injection hc2 with hc2
              rw [← hc2]
              exact hcv.out.2 rfl
            · exact hno.out j c2 (by omega) hc2
          have HNO := Lib.hid hno2
          clear hno2
          by_cases hkl : k < h.size
          · have q1 : decide ((k : Int) < (h.size : Int)) = true := decide_eq_true (by omega)
            have q2 : decide (k < h.size) = true := decide_eq_true hkl
            clear hb2 hk hkl
            go_wp2
            go_roundw
            case rel => exact ⟨i + 1, by rfl, HI.out, HB.out.trans (HB2.out.mono HB.out.size), HNO⟩
            case measure => have := HI.out; simp [intOf]; omega
          · have q1 : decide ((k : Int) < (h.size : Int)) = false := decide_eq_false (by omega)
            have q2 : decide (k < h.size) = false := decide_eq_false hkl
            clear hb2 hk hkl
            go_wp2
            go_roundw
            case rel => exact ⟨i + 1, by rfl, HI.out, HB.out.trans (HB2.out.mono HB.out.size), HNO⟩
            case measure => have := HI.out; simp [intOf]; omega
        | true =>
        by_cases hkl : k < h.size
        · have q1 : decide ((k : Int) < (h.size : Int)) = true := decide_eq_true (by omega)
          have q2 : decide (k < h.size) = true := decide_eq_true hkl
          have q3 : (k : Int) < (h.size : Int) := by omega
          have hkc : k < c.size := by have := HCZ.out; omega
          have q4 : (k : Int) < (c.size : Int) := by omega
          have c1 : wr.cell? ⟨g, o + i, none⟩ = some (.string c) := (hb2.cell (p := ⟨g, o + i, none⟩) hg).trans HC0.out
          have z2 : IntKind.i64.wrap ((k : Int) + 1) = (k : Int) + 1 := by rw [IntKind.wrap_i64]; omega
          have b1 := UInt8.toNat_lt (c[k]'hkc)
          have b2 := UInt8.toNat_lt (h[k]'hkl)
          have HKC := Lib.hid (show k + 1 ≤ h.size by omega)
          by_cases hx : (c[k]'hkc) = 120
          · have x1 : (((c[k]'hkc).toNat : Int) == 120) = true := by rw [hx]; rfl
            have hst := Sp.covs_step hkc hkl (Or.inl hx)
            rw [hcv.out.1 rfl] at hst
            have HST := Lib.hid hst.symm
            clear hb2 hst hx hk
            go_wp2
            go_quiet (fail)
            go_wp2
            go_roundw
            case rel => exact ⟨k + 1, true, by rfl, by rfl, HKC.out, below_drewN HB2.out _, Lib.hid ⟨fun _ => HST.out, fun e => by cases e⟩⟩
            case measure => have := HKC.out; simp [intOf]; omega
          · have x1 : (((c[k]'hkc).toNat : Int) == 120) = false := by rw [beq_eq_false_iff_ne]; intro e; exact hx (UInt8.toNat_inj.1 (by rw [show (120 : UInt8).toNat = 120 from rfl]; omega))
            by_cases hy : (c[k]'hkc) = (h[k]'hkl)
            · have x2 : (((c[k]'hkc).toNat : Int) == ((h[k]'hkl).toNat : Int)) = true := by rw [hy]; simp
              have hst := Sp.covs_step hkc hkl (Or.inr hy)
              rw [hcv.out.1 rfl] at hst
              have HST := Lib.hid hst.symm
              clear hb2 hst hx hk hy
              go_wp2
              go_quiet (fail)
              go_wp2
              go_roundw
              case rel => exact ⟨k + 1, true, by rfl, by rfl, HKC.out, below_drewN HB2.out _, Lib.hid ⟨fun _ => HST.out, fun e => by cases e⟩⟩
              case measure => have := HKC.out; simp [intOf]; omega
            · have x2 : (((c[k]'hkc).toNat : Int) == ((h[k]'hkl).toNat : Int)) = false := by rw [beq_eq_false_iff_ne]; intro e; exact hy (UInt8.toNat_inj.1 (by omega))
              have hst := Sp.covs_no hkc hkl hx hy
              rw [hcv.out.1 rfl] at hst
              have HST := Lib.hid hst
              clear hb2 hst hx hk hy
              go_wp2
              go_quiet (fail)
              go_wp2
              go_roundw
              case rel => exact ⟨k + 1, false, by rfl, by rfl, HKC.out, below_drewN HB2.out _, Lib.hid ⟨fun e => (by cases e), fun _ => HST.out⟩⟩
              case measure => have := HKC.out; simp [intOf]; omega
        · have q1 : decide ((k : Int) < (h.size : Int)) = false := decide_eq_false (by omega)
          have q2 : decide (k < h.size) = false := decide_eq_false hkl
          have hyes := Sp.hasB_yes HCS.out (by rw [← hcv.out.1 rfl]; exact Sp.covs_end (k := k) (by have := HCZ.out; omega))
          have HY := Lib.hid hyes
          clear hb2 hk hkl hyes
          go_wp2
          go_ret
          exact ⟨by rw [HY.out]; rfl, HB.out.trans (HB2.out.mono HB.out.size)⟩
    · have p1 : decide ((i : Int) < (n : Int)) = false := decide_eq_false (by omega)
      have p2 : decide (i < n) = false := decide_eq_false hlt
      have hnn := Sp.hasB_no (cubes := cubes) (h := h) (fun j c hj => hno.out j c (by have := (List.getElem?_eq_some_iff.1 hj).1; rw [HN.out] at this; omega) hj)
      have HY := Lib.hid hnn
      clear hb hi hlt hnn
      go_wp2
      go_ret
      exact ⟨by rw [HY.out]; rfl, HB.out⟩
/-- A guard whose cubes are as long as the header. -/
def Sp.fitsE2 (g : List Sp.Guard) (h : ByteArray) : Prop := (∀ l ∈ g, l.cubes.length ≤ 1000000 ∧ ∀ c ∈ l.cubes, c.size = h.size) ∧ g.length ≤ 1000000
theorem law10_lets (A : Option Addr) (cap : Nat) (g : List Sp.Guard) (h : ByteArray) (w : World) (hv : GV w A g) (hf : Sp.fitsE2 g h) (hh : h.size ≤ 1000000) :
    Calls Tryz.prog 13 #[.slice A g.length cap, .string h] w fun e w' => e = .returned (.bool (Sp.letsB g h)) ∧ Below w.heap.size w w' := by
  obtain ⟨m, hm⟩ : ∃ m, g.length = m := ⟨_, rfl⟩
  have hml : m ≤ 1000000 := by rw [← hm]; exact hf.2
  rw [hm]
  have HM := Lib.hid hm
  have HF := Lib.hid hf
  have HG := Lib.hid hv
  clear hf hm hv
  go_enter Tryz.func13, Tryz.ntmps13
  go_wp2
  go_loopw [5] (fun v5 wr => ∃ i : Nat, v5 = .int .i64 (i : Int) ∧ i ≤ m ∧ Below w.heap.size w wr ∧ Hid (∀ (j : Nat) (l : Sp.Guard), j < i → g[j]? = some l → Sp.hasB l.cubes h = false)) (fun v5 _ => m - (intOf v5).toNat)
  case atStart => exact ⟨0, rfl, Nat.zero_le _, Below.refl _ _, Lib.hid (fun j l hj => by omega)⟩
  case round =>
    obtain ⟨i, rfl, hi, hb, hno⟩ := hrel
    have HB := Lib.hid hb
    have i0 : (0 : Int) ≤ (i : Int) := by omega
    by_cases hlt : i < m
    · have p1 : decide ((i : Int) < (m : Int)) = true := decide_eq_true (by omega)
      have p2 : decide (i < m) = true := decide_eq_true hlt
      have p3 : (i : Int) < (m : Int) := by omega
      obtain ⟨l, hl⟩ : ∃ l, g[i]? = some l := ⟨_, List.getElem?_eq_getElem (by rw [HM.out]; exact hlt)⟩
      obtain ⟨gx, ox, Ax, cx, rfl, hgx, q0, q1, hsv, _⟩ := (HG.out.more hb).at hl
      have hfl := HF.out.1 l (List.mem_of_getElem? hl)
      have z1 : IntKind.i64.wrap ((i : Int) + 1) = (i : Int) + 1 := by rw [IntKind.wrap_i64]; omega
      have HI := Lib.hid (show i + 1 ≤ m by omega)
      have HL := Lib.hid hl
      have hcall : Calls Tryz.prog 15 #[.slice Ax l.cubes.length cx, .string h] wr fun e w' => e = .returned (.bool (Sp.hasB l.cubes h)) ∧ Below wr.heap.size wr w' := law10_has Ax cx l.cubes h wr hsv hfl.2 hh hfl.1
      have HQ0 := Lib.hid q0
      by_cases hy : Sp.hasB l.cubes h = true
      · rw [hy] at hcall
        have HCALL := Lib.hid hcall
        have HY := Lib.hid (Sp.lets_yes hl hno.out hy)
        clear hb hi hlt hl hcall hsv hfl hy
        go_wp2_with fail
        refine HCALL.out.mono ?_
        rintro e wb ⟨rfl, hbb⟩
        have q2 := (hbb.cell (p := ⟨gx, ox + i * 2, none⟩) hgx).trans HQ0.out
        have HBZ := Lib.hid (HB.out.trans (hbb.mono HB.out.size))
        clear hbb q0
        go_wp2
        go_ret
        exact ⟨by rw [HY.out]; rfl, HBZ.out⟩
      · rw [Bool.eq_false_iff.2 hy] at hcall
        have HCALL := Lib.hid hcall
        have hno2 : ∀ (j : Nat) (l : Sp.Guard), j < i + 1 → g[j]? = some l → Sp.hasB l.cubes h = false := by
          intro j l2 hj hl2
          by_cases hji : j = i
          · subst hji
            rw [hl] at hl2
            injection hl2 with hl2
            rw [← hl2]
            exact Bool.eq_false_iff.2 hy
          · exact hno.out j l2 (by omega) hl2
        have HNO := Lib.hid hno2
        clear hb hi hlt hl hcall hsv hfl hy hno2 hno
        go_wp2_with fail
        refine HCALL.out.mono ?_
        rintro e wb ⟨rfl, hbb⟩
        have HBZ := Lib.hid (HB.out.trans (hbb.mono HB.out.size))
        clear hbb
        go_wp2
        go_roundw
        case rel => exact ⟨i + 1, by rfl, HI.out, HBZ.out, HNO⟩
        case measure => have := HI.out; simp [intOf]; omega
    · have p1 : decide ((i : Int) < (m : Int)) = false := decide_eq_false (by omega)
      have p2 : decide (i < m) = false := decide_eq_false hlt
      have hnn := Sp.lets_no (g := g) (h := h) (fun j l hj => hno.out j l (by have := (List.getElem?_eq_some_iff.1 hj).1; rw [HM.out] at this; omega) hj)
      rw [HM.out] at hnn
      have HY := Lib.hid hnn
      by_cases hm0 : m = 0
      · have r1 : ((m : Int) == 0) = true := beq_iff_eq.2 (by omega)
        have r2 : decide (m = 0) = true := decide_eq_true hm0
        rw [r2] at HY
        have HY2 := HY
        clear hb hi hlt hnn hm0 hno HY r2
        go_wp2
        go_ret
        exact ⟨by rw [HY2.out]; rfl, HB.out⟩
      · have r1 : ((m : Int) == 0) = false := beq_eq_false_iff_ne.2 (by omega)
        have r2 : decide (m = 0) = false := decide_eq_false hm0
        rw [r2] at HY
        have HY2 := HY
        clear hb hi hlt hnn hm0 hno HY r2
        go_wp2
        go_ret
        exact ⟨by rw [HY2.out]; rfl, HB.out⟩
end Go.Proofs.YthjenkbgiomibaaGreatDoor
