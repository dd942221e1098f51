/-
  THE WALKS of step.has, lets, number, write (chapter 10).
-/
import Derived.Test.YtpknablklencdaaGreatDoorMa
import Derived.Test.YtpknablklencdaaGreatDoorWg
import Derived.Scope
import Derived.Deep.AppendLies
import Derived.Deep.CutRange
import Derived.Deep.DeepCutAuto
import Derived.Deep.QuietTactic
import Derived.BigQuiet
set_option linter.unusedVariables false
set_option linter.unusedSimpArgs false
set_option maxRecDepth 100000
set_option maxHeartbeats 4000000
namespace Go.Proofs.YtpknablklencdaaGreatDoor
open Go.RowKit

namespace Sp
/-- The digits of a cube let a header by. -/
def covs : List UInt8 → List UInt8 → Bool
  | [], _ => true
  | c :: cs, h :: hs => (c == 120 || c == h) && covs cs hs
  | _ :: _, [] => false
def hasB (cubes : List ByteArray) (h : ByteArray) : Bool := cubes.any fun c => covs c.data.toList h.data.toList
theorem covs_step {c h : ByteArray} {k : Nat} (hk : k < c.size) (hh : k < h.size) (hx : c[k] = 120 ∨ c[k] = h[k]) : covs (c.data.toList.drop k) (h.data.toList.drop k) = covs (c.data.toList.drop (k + 1)) (h.data.toList.drop (k + 1)) := by
  have e1 : c.data.toList.drop k = c[k] :: c.data.toList.drop (k + 1) := List.drop_eq_getElem_cons (by simpa using hk)
  have e2 : h.data.toList.drop k = h[k] :: h.data.toList.drop (k + 1) := List.drop_eq_getElem_cons (by simpa using hh)
  rw [e1, e2]
  show ((c[k] == 120 || c[k] == h[k]) && _) = _
  rcases hx with hx | hx
  · rw [hx]; rfl
  · rw [hx, beq_self_eq_true, Bool.or_true]; rfl
theorem covs_no {c h : ByteArray} {k : Nat} (hk : k < c.size) (hh : k < h.size) (h1 : c[k] ≠ 120) (h2 : c[k] ≠ h[k]) : covs (c.data.toList.drop k) (h.data.toList.drop k) = false := by
  have e1 : c.data.toList.drop k = c[k] :: c.data.toList.drop (k + 1) := List.drop_eq_getElem_cons (by simpa using hk)
  have e2 : h.data.toList.drop k = h[k] :: h.data.toList.drop (k + 1) := List.drop_eq_getElem_cons (by simpa using hh)
  rw [e1, e2]
  show ((c[k] == 120 || c[k] == h[k]) && _) = _
  rw [beq_eq_false_iff_ne.2 h1, beq_eq_false_iff_ne.2 h2]
  rfl
theorem covs_end {c h : ByteArray} {k : Nat} (hk : c.size ≤ k) : covs (c.data.toList.drop k) (h.data.toList.drop k) = true := by
  rw [List.drop_eq_nil_of_le (by simpa using hk)]
  cases h.data.toList.drop k <;> rfl
theorem hasB_yes {cubes : List ByteArray} {h c : ByteArray} {i : Nat} (hc : cubes[i]? = some c) (hy : covs c.data.toList h.data.toList = true) : hasB cubes h = true :=
  List.any_eq_true.2 ⟨c, List.mem_of_getElem? hc, hy⟩
theorem hasB_no {cubes : List ByteArray} {h : ByteArray} (hn : ∀ (i : Nat) (c : ByteArray), cubes[i]? = some c → covs c.data.toList h.data.toList = false) : hasB cubes h = false := by
  rw [hasB, List.any_eq_false]
  intro c hc
  obtain ⟨i, hi⟩ := List.mem_iff_getElem?.1 hc
  rw [hn i c hi]
  decide
end Sp
theorem below_drewN {B : Nat} {a w : World} (h : Below B a w) (n : Nat) : Below B a (w.drewN n) := ⟨h.os, h.tape, h.output, h.size, h.block⟩
theorem step_has (A : Option Addr) (cap : Nat) (cubes : List ByteArray) (h : ByteArray) (w : World) (hv : SV w A cubes) (hc : ∀ c ∈ cubes, c.size ≤ h.size) (hh : h.size ≤ 1000000) (hl : cubes.length ≤ 1000000) :
    Calls Tryz.prog 37 #[.slice A cubes.length cap, .string h] w fun e w' => e = .returned (.bool (Sp.hasB cubes h)) ∧ Below w.heap.size w w' := by
  obtain ⟨n, hn⟩ : ∃ n, cubes.length = n := ⟨_, rfl⟩
  rw [hn] at hl ⊢
  have HN := Lib.hid hn
  have HV := Lib.hid hv
  have HC := Lib.hid hc
  clear hn hv hc
  go_enter Tryz.func37, Tryz.ntmps37
  go_wp2
  refine wp_scope_straight ?_
  go_wp2
  refine wp_label ?_
  go_wp2
  go_loopw [10] (fun v10 wr => ∃ i : Nat, v10 = .int .i64 (i : Int) ∧ i ≤ n ∧ Below w.heap.size w wr ∧ Hid (∀ (j : Nat) (c : ByteArray), j < i → cubes[j]? = some c → Sp.covs c.data.toList h.data.toList = false)) (fun v10 _ => n - (intOf v10).toNat)
  case atStart => exact ⟨0, rfl, Nat.zero_le _, Below.refl _ _, Lib.hid (fun j c hj => by omega)⟩
  case round =>
    obtain ⟨i, rfl, hi, hb, hno⟩ := hrel
    have HB := Lib.hid hb
    have i0 : (0 : Int) ≤ (i : Int) := by omega
    by_cases hlt : i < n
    · have p1 : decide ((i : Int) < (n : Int)) = true := decide_eq_true (by omega)
      have p2 : decide (i < n) = true := decide_eq_true hlt
      have p3 : (i : Int) < (n : Int) := by omega
      obtain ⟨c, hcs⟩ : ∃ c, cubes[i]? = some c := ⟨_, List.getElem?_eq_getElem (by rw [HN.out]; exact hlt)⟩
      obtain ⟨g, o, rfl, hg, c0⟩ := (HV.out.more hb).at hcs
      have hcz := HC.out c (List.mem_of_getElem? hcs)
      have HI := Lib.hid (show i + 1 ≤ n by omega)
      have HCS := Lib.hid hcs
      have z1 : IntKind.i64.wrap ((i : Int) + 1) = (i : Int) + 1 := by rw [IntKind.wrap_i64]; omega
      clear hb hi hlt hcs
      go_wp2
      go_loopw [16] (fun v16 wr2 => ∃ k : Nat, v16 = .int .i64 (k : Int) ∧ k ≤ c.size ∧ Below wr.heap.size wr wr2 ∧ Hid (Sp.covs (c.data.toList.drop k) (h.data.toList.drop k) = Sp.covs c.data.toList h.data.toList)) (fun v16 _ => c.size - (intOf v16).toNat)
      case atStart => exact ⟨0, rfl, Nat.zero_le _, Below.refl _ _, Lib.hid rfl⟩
      case round =>
        obtain ⟨k, rfl, hk, hb2, hcv⟩ := hrel
        have HB2 := Lib.hid hb2
        have k0 : (0 : Int) ≤ (k : Int) := by omega
        by_cases hkl : k < c.size
        · have q1 : decide ((k : Int) < (c.size : Int)) = true := decide_eq_true (by omega)
          have q2 : decide (k < c.size) = true := decide_eq_true hkl
          have q3 : (k : Int) < (c.size : Int) := by omega
          have hkh : k < h.size := by omega
          have q4 : (k : Int) < (h.size : Int) := by omega
          have z2 : IntKind.i64.wrap ((k : Int) + 1) = (k : Int) + 1 := by rw [IntKind.wrap_i64]; omega
          have b1 := UInt8.toNat_lt (c[k]'hkl)
          have b2 := UInt8.toNat_lt (h[k]'hkh)
          have HKC := Lib.hid (show k + 1 ≤ c.size by omega)
          by_cases hx : (c[k]'hkl) = 120
          · have x1 : (((c[k]'hkl).toNat : Int) != 120) = false := by rw [hx]; rfl
            have hst := Sp.covs_step hkl hkh (Or.inl hx)
            rw [hcv.out] at hst
            have HST := Lib.hid hst.symm
            clear hb2 hst hx hk
            go_wp2
            go_quiet (fail)
            go_wp2
            go_roundw
            case rel => exact ⟨k + 1, by rfl, HKC.out, below_drewN HB2.out _, HST⟩
            case measure => have := HKC.out; simp [intOf]; omega
          · have x1 : (((c[k]'hkl).toNat : Int) != 120) = true := by rw [bne_iff_ne]; intro e; exact hx (UInt8.toNat_inj.1 (by rw [show (120 : UInt8).toNat = 120 from rfl]; omega))
            by_cases hy : (c[k]'hkl) = (h[k]'hkh)
            · have x2 : (((c[k]'hkl).toNat : Int) != ((h[k]'hkh).toNat : Int)) = false := by rw [hy]; simp
              have hst := Sp.covs_step hkl hkh (Or.inr hy)
              rw [hcv.out] at hst
              have HST := Lib.hid hst.symm
              clear hb2 hst hx hk hy
              go_wp2
              go_quiet (fail)
              go_wp2
              go_roundw
              case rel => exact ⟨k + 1, by rfl, HKC.out, below_drewN HB2.out _, HST⟩
              case measure => have := HKC.out; simp [intOf]; omega
            · have x2 : (((c[k]'hkl).toNat : Int) != ((h[k]'hkh).toNat : Int)) = true := by rw [bne_iff_ne]; intro e; exact hy (UInt8.toNat_inj.1 (by omega))
              have hst := Sp.covs_no hkl hkh hx hy
              rw [hcv.out] at hst
              have HST := Lib.hid hst
              clear hb2 hst hx hk hy
              go_wp2
              go_quiet (fail)
              go_wp2
              have hbz := below_drewN (HB.out.trans (HB2.out.mono HB.out.size)) nq
              have hno2 : ∀ (j : Nat) (c : ByteArray), j < i + 1 → cubes[j]? = some c → Sp.covs c.data.toList h.data.toList = false := by
                intro j c2 hj hc2
                by_cases hji : j = i
                · subst hji
                  rw [HCS.out] at hc2
                  injection hc2 with hc2
                  rw [← hc2]
                  exact HST.out
                · exact hno.out j c2 (by omega) hc2
              go_roundw
              case rel => exact ⟨i + 1, by rfl, HI.out, hbz, Lib.hid hno2⟩
              case measure => have := HI.out; simp [intOf]; omega
        · have q1 : decide ((k : Int) < (c.size : Int)) = false := decide_eq_false (by omega)
          have q2 : decide (k < c.size) = false := decide_eq_false hkl
          have hyes := Sp.hasB_yes HCS.out (by rw [← hcv.out]; exact Sp.covs_end (k := k) (by omega))
          have HY := Lib.hid hyes
          clear hb2 hk hkl hyes
          go_wp2
          dsimp (config := { zetaDelta := true }) only [Exit.noGoto, Exit.inBlock, Exit.then]
          go_ret
          exact ⟨by rw [HY.out]; rfl, HB.out.trans (HB2.out.mono HB.out.size)⟩
    · have p1 : decide ((i : Int) < (n : Int)) = false := decide_eq_false (by omega)
      have p2 : decide (i < n) = false := decide_eq_false hlt
      have hnn := Sp.hasB_no (cubes := cubes) (h := h) (fun j c hj => hno.out j c (by have := (List.getElem?_eq_some_iff.1 hj).1; rw [HN.out] at this; omega) hj)
      have HY := Lib.hid hnn
      clear hb hi hlt hnn
      go_wp2
      dsimp (config := { zetaDelta := true }) only [Exit.noGoto, Exit.inBlock, Exit.then]
      go_ret
      exact ⟨by rw [HY.out]; rfl, HB.out⟩

namespace Sp
/-- A guard lets a header by. -/
def letsB (g : List Guard) (h : ByteArray) : Bool := match g.find? (fun l => hasB l.cubes h) with | some l => l.permit | none => g.isEmpty
theorem lets_yes {g : List Guard} {h : ByteArray} {i : Nat} {l : Guard} (hl : g[i]? = some l) (hno : ∀ j m, j < i → g[j]? = some m → hasB m.cubes h = false) (hy : hasB l.cubes h = true) : letsB g h = l.permit := by
  unfold letsB
  have : g.find? (fun l => hasB l.cubes h) = some l := by
    rw [List.find?_eq_some_iff_getElem]
    refine ⟨hy, i, (List.getElem?_eq_some_iff.1 hl).1, (List.getElem?_eq_some_iff.1 hl).2, fun j hj => ?_⟩
    rw [hno j _ hj (List.getElem?_eq_getElem _)]
    rfl
  rw [this]
theorem lets_no {g : List Guard} {h : ByteArray} (hno : ∀ (j : Nat) (m : Guard), g[j]? = some m → hasB m.cubes h = false) : letsB g h = decide (g.length = 0) := by
  unfold letsB
  have : g.find? (fun l => hasB l.cubes h) = none := by
    rw [List.find?_eq_none]
    intro m hm
    obtain ⟨i, hi⟩ := List.mem_iff_getElem?.1 hm
    rw [hno i m hi]
    decide
  rw [this]
  cases g <;> rfl
/-- Every cube that is asked is no longer than the header. -/
def fitsG (g : List Guard) (h : ByteArray) : Prop := (∀ l ∈ g, l.cubes.length ≤ 1000000 ∧ ∀ c ∈ l.cubes, c.size ≤ h.size) ∧ g.length ≤ 1000000
end Sp
/-- A network behind a pointer. -/
def NetAt (w : World) (N : Nat) (n : Sp.Net) : Prop := ∃ cs, NetR w n cs ∧ N < w.heap.size ∧ (∀ f u, cs[f]? = some u → w.cell? ⟨N, f, none⟩ = some u)
theorem NetAt.more {w w' : World} {N : Nat} {n : Sp.Net} (h : NetAt w N n) (hb : Below w.heap.size w w') : NetAt w' N n := by
  obtain ⟨cs, h1, h2, h3⟩ := h
  exact ⟨cs, h1.more hb, Nat.lt_of_lt_of_le h2 hb.size, fun f u hf => (hb.cell (p := ⟨N, f, none⟩) h2).trans (h3 f u hf)⟩
theorem NetAt.at {w : World} {N : Nat} {n : Sp.Net} (h : NetAt w N n) : ∃ A1 c1 A2 c2 A3 c3, N < w.heap.size ∧ w.cell? ⟨N, 0, none⟩ = some (.int .i64 n.bits) ∧ w.cell? ⟨N, 1, none⟩ = some (.slice A1 n.ports.length c1) ∧ w.cell? ⟨N, 2, none⟩ = some (.slice A2 n.tables.length c2) ∧ w.cell? ⟨N, 3, none⟩ = some (.slice A3 n.guards.length c3) ∧ PV w A1 n.ports ∧ TTV w A2 n.tables ∧ GGV w A3 n.guards ∧ n.ports.length ≤ c1 ∧ n.tables.length ≤ c2 ∧ n.guards.length ≤ c3 := by
  obtain ⟨cs, ⟨A1, c1, A2, c2, A3, c3, rfl, h1, h2, h3⟩, hN, hc⟩ := h
  exact ⟨A1, c1, A2, c2, A3, c3, hN, hc 0 _ rfl, hc 1 _ rfl, hc 2 _ rfl, hc 3 _ rfl, h1, h2, h3⟩
theorem step_lets (N : Nat) (n : Sp.Net) (p : Nat) (g : List Sp.Guard) (h : ByteArray) (w : World) (hn : NetAt w N n) (hg : n.guards[p]? = some g) (hf : Sp.fitsG g h) (hp : n.guards.length ≤ 1000000) (hh : h.size ≤ 1000000) :
    Calls Tryz.prog 34 #[.pointer (some ⟨N, 0, none⟩), .int .i64 (p : Int), .string h] w fun e w' => e = .returned (.bool (Sp.letsB g h)) ∧ Below w.heap.size w w' := by
  obtain ⟨A1, c1, A2, c2, A3, c3, hN, n0, n1, n2, n3, _, _, hgv, _⟩ := hn.at
  obtain ⟨gb, go, Ag, cg, rfl, hgl, k0, hgv2, _⟩ := hgv.at hg
  have hpl : p < n.guards.length := (List.getElem?_eq_some_iff.1 hg).1
  have x0 : (0 : Int) ≤ (p : Int) := by omega
  have x1 : (p : Int) < (n.guards.length : Int) := by omega
  obtain ⟨m, hm⟩ : ∃ m, g.length = m := ⟨_, rfl⟩
  obtain ⟨ng, hng⟩ : ∃ ng, n.guards.length = ng := ⟨_, rfl⟩
  rw [hng] at n3 x1 hp
  rw [hm] at k0
  have hml : m ≤ 1000000 := by rw [← hm]; exact hf.2
  have HM := Lib.hid hm
  have HF := Lib.hid hf
  have HG := Lib.hid hgv2
  clear hn hgv hg hf hm hng hgv2 hpl n0 n1 n2
  go_enter Tryz.func34, Tryz.ntmps34
  go_wp2
  clear n3 k0
  go_loopw [19] (fun v19 wr => ∃ i : Nat, v19 = .int .i64 (i : Int) ∧ i ≤ m ∧ Below w.heap.size w wr ∧ Hid (∀ (j : Nat) (l : Sp.Guard), j < i → g[j]? = some l → Sp.hasB l.cubes h = false)) (fun v19 _ => m - (intOf v19).toNat)
  case atStart => exact ⟨0, rfl, Nat.zero_le _, Below.refl _ _, Lib.hid (fun j l hj => by omega)⟩
  case round =>
    obtain ⟨i, rfl, hi, hb, hno⟩ := hrel
    have HB := Lib.hid hb
    have i0 : (0 : Int) ≤ (i : Int) := by omega
    by_cases hlt : i < m
    · have p1 : decide ((i : Int) < (m : Int)) = true := decide_eq_true (by omega)
      have p2 : decide (i < m) = true := decide_eq_true hlt
      have p3 : (i : Int) < (m : Int) := by omega
      obtain ⟨l, hl⟩ : ∃ l, g[i]? = some l := ⟨_, List.getElem?_eq_getElem (by rw [HM.out]; exact hlt)⟩
      obtain ⟨gx, ox, Ax, cx, rfl, hgx, q0, q1, hsv, _⟩ := (HG.out.more hb).at hl
      have hfl := HF.out.1 l (List.mem_of_getElem? hl)
      have z1 : IntKind.i64.wrap ((i : Int) + 1) = (i : Int) + 1 := by rw [IntKind.wrap_i64]; omega
      have HI := Lib.hid (show i + 1 ≤ m by omega)
      have HL := Lib.hid hl
      have hcall : ∀ W, Below wr.heap.size wr W → Calls Tryz.prog 37 #[.slice Ax l.cubes.length cx, .string h] W fun e w' => e = .returned (.bool (Sp.hasB l.cubes h)) ∧ Below W.heap.size W w' := fun W hW => step_has Ax cx l.cubes h W (hsv.more hW) hfl.2 hh hfl.1
      have hal : Below wr.heap.size wr (wr.alloc (.cells #[.bool l.permit, .slice Ax l.cubes.length cx] 95)) := (Below.refl _ _).alloc (Nat.le_refl _) _
      have HAL := Lib.hid hal
      have hnew := World.news_of_block (cs := #[.bool l.permit, .slice Ax l.cubes.length cx]) (t := 95) (fr := (0, 0)) (heap_alloc_new wr _)
      have hc0 : (wr.alloc (.cells #[.bool l.permit, .slice Ax l.cubes.length cx] 95)).cell? ⟨wr.heap.size, 0, none⟩ = some (.bool l.permit) := hnew 0 _ rfl
      have HC0 := Lib.hid hc0
      have hsz : wr.heap.size < (wr.alloc (.cells #[.bool l.permit, .slice Ax l.cubes.length cx] 95)).heap.size := by simp
      have HSZ := Lib.hid hsz
      by_cases hy : Sp.hasB l.cubes h = true
      · rw [hy] at hcall
        have HCALL := Lib.hid hcall
        have HY := Lib.hid (Sp.lets_yes hl hno.out hy)
        clear hb hi hlt hl hcall hal hnew hc0 hsz hsv hfl hy
        go_wp2_with fail
        refine (HCALL.out _ HAL.out).mono ?_
        rintro e wb ⟨rfl, hbb⟩
        have c0 := (hbb.cell (p := ⟨wr.heap.size, 0, none⟩) HSZ.out).trans HC0.out
        have hbz := HB.out.trans ((HAL.out.trans (hbb.mono HAL.out.size)).mono HB.out.size)
        have HBZ := Lib.hid hbz
        clear hbb hbz
        go_wp2
        go_ret
        exact ⟨by rw [HY.out]; rfl, HBZ.out⟩
      · rw [Bool.eq_false_iff.2 hy] at hcall
        have HCALL := Lib.hid hcall
        have hno2 : ∀ (j : Nat) (l : Sp.Guard), j < i + 1 → g[j]? = some l → Sp.hasB l.cubes h = false := by
          intro j l2 hj hl2
          by_cases hji : j = i
          · subst hji
            rw [hl] at hl2
            injection hl2 with hl2
            rw [← hl2]
            exact Bool.eq_false_iff.2 hy
          · exact hno.out j l2 (by omega) hl2
        have HNO := Lib.hid hno2
        clear hb hi hlt hl hcall hal hnew hc0 hsz hsv hfl hy hno2 hno
        go_wp2_with fail
        refine (HCALL.out _ HAL.out).mono ?_
        rintro e wb ⟨rfl, hbb⟩
        have hbz := HB.out.trans ((HAL.out.trans (hbb.mono HAL.out.size)).mono HB.out.size)
        have HBZ := Lib.hid hbz
        clear hbb hbz
        go_wp2
        go_roundw
        case rel => exact ⟨i + 1, by rfl, HI.out, HBZ.out, HNO⟩
        case measure => have := HI.out; simp [intOf]; omega
    · have p1 : decide ((i : Int) < (m : Int)) = false := decide_eq_false (by omega)
      have p2 : decide (i < m) = false := decide_eq_false hlt
      have hnn := Sp.lets_no (g := g) (h := h) (fun j l hj => hno.out j l (by have := (List.getElem?_eq_some_iff.1 hj).1; rw [HM.out] at this; omega) hj)
      rw [HM.out] at hnn
      have HY := Lib.hid hnn
      by_cases hm0 : m = 0
      · have r1 : ((m : Int) == 0) = true := beq_iff_eq.2 (by omega)
        have r2 : decide (m = 0) = true := decide_eq_true hm0
        rw [r2] at HY
        have HY2 := HY
        clear hb hi hlt hnn hm0 hno HY r2
        go_wp2
        go_ret
        exact ⟨by rw [HY2.out]; rfl, HB.out⟩
      · have r1 : ((m : Int) == 0) = false := beq_eq_false_iff_ne.2 (by omega)
        have r2 : decide (m = 0) = false := decide_eq_false hm0
        rw [r2] at HY
        have HY2 := HY
        clear hb hi hlt hnn hm0 hno HY r2
        go_wp2
        go_ret
        exact ⟨by rw [HY2.out]; rfl, HB.out⟩

namespace Sp
/-- An entry's number: its place behind the tables of the boxes ahead. -/
def numB (n : Net) (box place : Nat) : Nat := place + ((n.tables.take box).map List.length).sum
theorem numB_step {l : List (List Entry)} {i : Nat} {t : List Entry} (h : l[i]? = some t) : ((l.take (i + 1)).map List.length).sum = ((l.take i).map List.length).sum + t.length := by
  have hi := (List.getElem?_eq_some_iff.1 h).1
  rw [List.take_succ_eq_append_getElem hi, List.map_append, List.sum_append]
  have e := (List.getElem?_eq_some_iff.1 h).2
  rw [e]
  simp
theorem take_sum_le {l : List (List Entry)} (i : Nat) : ((l.take i).map List.length).sum ≤ (l.map List.length).sum := by
  conv => rhs; rw [← List.take_append_drop i l]
  rw [List.map_append, List.sum_append]
  omega
end Sp
theorem step_number (N : Nat) (n : Sp.Net) (b p : Nat) (w : World) (hn : NetAt w N n) (hb : b ≤ n.tables.length) (ht : (n.tables.map List.length).sum ≤ 1000000) (hp : p ≤ 1000000) (hc : n.tables.length ≤ 1000000) :
    Calls Tryz.prog 22 #[.pointer (some ⟨N, 0, none⟩), .int .i64 (b : Int), .int .i64 (p : Int)] w fun e w' => e = .returned (.int .i64 (Sp.numB n b p : Int)) ∧ Below w.heap.size w w' := by
  obtain ⟨A1, c1, A2, c2, A3, c3, hN, n0, n1, n2, n3, _, htv, _, _, htc, _⟩ := hn.at
  obtain ⟨nt, hnt⟩ : ∃ nt, n.tables.length = nt := ⟨_, rfl⟩
  rw [hnt] at n2 hb hc htc
  have HT := Lib.hid htv
  have HS := Lib.hid ht
  have HNT := Lib.hid hnt
  clear hn htv ht hnt n0 n1 n3
  have x0 : (0 : Int) ≤ (b : Int) := by omega
  have x1 : (b : Int) ≤ (nt : Int) := by omega
  have x2 : (b : Int) ≤ (c2 : Int) := by omega
  go_enter Tryz.func22, Tryz.ntmps22
  go_wp2
  go_loopw [2, 16] (fun v2 v16 wr => ∃ i q : Nat, v16 = .int .i64 (i : Int) ∧ v2 = .int .i64 (q : Int) ∧ i ≤ b ∧ wr = w ∧ Hid (q = p + ((n.tables.take i).map List.length).sum)) (fun _ v16 _ => b - (intOf v16).toNat)
  case atStart => exact ⟨0, p, rfl, rfl, Nat.zero_le _, rfl, Lib.hid (by simp)⟩
  case round =>
    obtain ⟨i, q, rfl, rfl, hi, rfl, hq⟩ := hrel
    have i0 : (0 : Int) ≤ (i : Int) := by omega
    by_cases hlt : i < b
    · have p1 : decide ((i : Int) < (b : Int)) = true := decide_eq_true (by omega)
      have p2 : decide (i < b) = true := decide_eq_true hlt
      have p3 : (i : Int) < (b : Int) := by omega
      obtain ⟨t, hl⟩ : ∃ t, n.tables[i]? = some t := ⟨_, List.getElem?_eq_getElem (by rw [HNT.out]; omega)⟩
      obtain ⟨gx, ox, Ax, cx, rfl, hgx, q0, _, _⟩ := HT.out.at hl
      have z1 : IntKind.i64.wrap ((i : Int) + 1) = (i : Int) + 1 := by rw [IntKind.wrap_i64]; omega
      have hst := Sp.numB_step hl
      have hle := Sp.take_sum_le (l := n.tables) (i + 1)
      have hS := HS.out
      obtain ⟨m, hm⟩ : ∃ m, t.length = m := ⟨_, rfl⟩
      rw [hm] at q0 hst
      have hq1 := hq.out
      have z2 : IntKind.i64.wrap ((q : Int) + (m : Int)) = (q : Int) + (m : Int) := by rw [IntKind.wrap_i64]; omega
      have HI := Lib.hid (show i + 1 ≤ b by omega)
      have HQ := Lib.hid (show q + m = p + ((n.tables.take (i + 1)).map List.length).sum by omega)
      clear hi hlt hl hst hle hS hm hq1 hq
      go_wp2
      go_roundw
      case rel => exact ⟨i + 1, q + m, by rfl, by go_num, HI.out, by trivial, HQ⟩
      case measure => have := HI.out; simp [intOf]; omega
    · have p1 : decide ((i : Int) < (b : Int)) = false := decide_eq_false (by omega)
      have p2 : decide (i < b) = false := decide_eq_false hlt
      obtain rfl : i = b := by omega
      have HQ := hq
      clear hi hlt hq
      go_wp2
      go_ret
      exact ⟨by rw [Sp.numB, ← HQ.out]; rfl, Below.refl _ _⟩
end Go.Proofs.YtpknablklencdaaGreatDoor
