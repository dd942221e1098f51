/-
  THE WALKS of slices.IndexFunc on a table, of step.fit (chapter 10).
-/
import Derived.Test.YtpknablklencdaaGreatDoorMd
import Derived.Deep.RegionHeld3
set_option linter.unusedVariables false
set_option linter.unusedSimpArgs false
set_option maxRecDepth 100000
set_option maxHeartbeats 4000000
namespace Go.Proofs.YtpknablklencdaaGreatDoor
open Go.RowKit

namespace Sp
/-- What step.fit asks of a table's entries. -/
def fitsT (t : List Entry) (h : ByteArray) : Prop := ∀ e ∈ t, e.ins.length ≤ 1000000 ∧ e.cubes.length ≤ 1000000 ∧ ∀ c ∈ e.cubes, c.size ≤ h.size
def fitI (t : List Entry) (p : Int) (h : ByteArray) : Int := idxF (fun e => fitsE e p h) t
end Sp
theorem step_index (A : Option Addr) (cap : Nat) (t : List Sp.Entry) (p : Int) (h : ByteArray) (Bp Bh : Nat) (w : World) (hv : EV w A t) (hp : w.cell? ⟨Bp, 0, none⟩ = some (.int .i64 p)) (hh : w.cell? ⟨Bh, 0, none⟩ = some (.string h)) (hbp : Bp < w.heap.size) (hbh : Bh < w.heap.size)
    (hl : t.length ≤ 1000000) (hf : Sp.fitsT t h) (hhs : h.size ≤ 1000000) :
    Calls Tryz.prog 35 #[.slice A t.length cap, .func (.func 36) #[] #[.pointer (some ⟨Bp, 0, none⟩), .pointer (some ⟨Bh, 0, none⟩)]] w fun r w' => r = .returned (.int .i64 (Sp.fitI t p h)) ∧ Below w.heap.size w w' := by
  obtain ⟨n, hn⟩ : ∃ n, t.length = n := ⟨_, rfl⟩
  rw [hn] at hl ⊢
  have HN := Lib.hid hn
  have HV := Lib.hid hv
  have HF := Lib.hid hf
  have HP := Lib.hid hp
  have HH := Lib.hid hh
  have eg := enters_of (P := Tryz.prog) Tryz.func36 (by kernel_rfl) rfl
  clear hn hv hf hp hh
  go_enter Tryz.func35, Tryz.ntmps35
  go_wp2
  go_loopw [8] (fun v8 wr => ∃ i : Nat, v8 = .int .i64 (i : Int) ∧ i ≤ n ∧ Below w.heap.size w wr ∧ Hid (∀ (j : Nat) (e : Sp.Entry), j < i → t[j]? = some e → Sp.fitsE e p h = false)) (fun v8 _ => n - (intOf v8).toNat)
  case atStart => exact ⟨0, rfl, Nat.zero_le _, Below.refl _ _, Lib.hid (fun j y hj => by omega)⟩
  case round =>
    obtain ⟨i, rfl, hi, hb, hno⟩ := hrel
    have HB := Lib.hid hb
    have i0 : (0 : Int) ≤ (i : Int) := by omega
    by_cases hlt : i < n
    · have p1 : decide ((i : Int) < (n : Int)) = true := decide_eq_true (by omega)
      have p2 : decide (i < n) = true := decide_eq_true hlt
      have p3 : (i : Int) < (n : Int) := by omega
      obtain ⟨x, hx⟩ : ∃ x, t[i]? = some x := ⟨_, List.getElem?_eq_getElem (by rw [HN.out]; exact hlt)⟩
      obtain ⟨g, o, A1, c1, A2, c2, A3, c3, rfl, hg, q0, q1, q2, q3, q4, v1, v2, v3, _⟩ := (HV.out.more hb).at hx
      obtain ⟨f1, f2, f3⟩ := HF.out x (List.mem_of_getElem? hx)
      have z1 : IntKind.i64.wrap ((i : Int) + 1) = (i : Int) + 1 := by rw [IntKind.wrap_i64]; omega
      have HI := Lib.hid (show i + 1 ≤ n by omega)
      have hcall := step_fit1 x A1 A2 A3 c1 c2 c3 p h Bp Bh wr v1 v2 ((hb.cell (p := ⟨Bp, 0, none⟩) hbp).trans HP.out) ((hb.cell (p := ⟨Bh, 0, none⟩) hbh).trans HH.out) (by have := hb.size; omega) (by have := hb.size; omega) f1 f2 f3 hhs
      by_cases hy : Sp.fitsE x p h = true
      · rw [hy] at hcall
        have HCALL := Lib.hid hcall
        have HY := Lib.hid (Sp.idxF_yes (f := fun e => Sp.fitsE e p h) hx hy hno.out)
        clear hb hi hlt hx hcall v1 v2 v3 f1 f2 f3 hy hno
        go_wp2_with (go_at_call 36; refine HCALL.out.mono ?_; rintro e wb ⟨rfl, hbb⟩; have HBB := Lib.hid (HB.out.trans (hbb.mono HB.out.size)); clear hbb)
        go_ret
        exact ⟨by rw [Sp.fitI, HY.out]; rfl, HBB.out⟩
      · rw [Bool.eq_false_iff.2 hy] at hcall
        have HCALL := Lib.hid hcall
        have hno2 : ∀ (j : Nat) (e : Sp.Entry), j < i + 1 → t[j]? = some e → Sp.fitsE e p h = false := by
          intro j z hj hz
          by_cases hji : j = i
          · subst hji
            rw [hx] at hz
            injection hz with hz
            rw [← hz]
            exact Bool.eq_false_iff.2 hy
          · exact hno.out j z (by omega) hz
        have HNO := Lib.hid hno2
        clear hb hi hlt hx hcall v1 v2 v3 f1 f2 f3 hy hno hno2
        go_wp2_with (go_at_call 36; refine HCALL.out.mono ?_; rintro e wb ⟨rfl, hbb⟩; have HBB := Lib.hid (HB.out.trans (hbb.mono HB.out.size)); clear hbb)
        go_roundw
        case rel => exact ⟨i + 1, by rfl, HI.out, HBB.out, HNO⟩
        case measure => have := HI.out; simp [intOf]; omega
    · have p1 : decide ((i : Int) < (n : Int)) = false := decide_eq_false (by omega)
      have p2 : decide (i < n) = false := decide_eq_false hlt
      have HY := Lib.hid (Sp.idxF_no (f := fun e => Sp.fitsE e p h) (l := t) (fun j y hj => hno.out j y (by have := (List.getElem?_eq_some_iff.1 hj).1; rw [HN.out] at this; omega) hj))
      clear hb hi hlt hno
      go_wp2
      go_ret
      exact ⟨by rw [Sp.fitI, HY.out]; rfl, HB.out⟩
namespace Sp
/-- The entry that is applied to a header at a port: its place in the box's table, or -1. -/
def fitN (n : Net) (p : Nat) (h : ByteArray) : Int := match n.guards[p]?, n.ports[p]? with
  | some g, some q => if letsB g h = true then fitI (n.tables.getD q.box.toNat []) p h else -1
  | _, _ => -1
end Sp
theorem step_fit (N : Nat) (n : Sp.Net) (p : Nat) (q : Sp.Port) (g : List Sp.Guard) (t : List Sp.Entry) (h : ByteArray) (w : World) (hn : NetAt w N n) (hg : n.guards[p]? = some g) (hq : n.ports[p]? = some q) (hb : 0 ≤ q.box) (ht : n.tables[q.box.toNat]? = some t)
    (hf : Sp.fitsG g h) (hft : Sp.fitsT t h) (htl : t.length ≤ 1000000) (hp : n.guards.length ≤ 1000000) (hpp : n.ports.length ≤ 1000000) (htt : n.tables.length ≤ 1000000) (hh : h.size ≤ 1000000) :
    Calls Tryz.prog 21 #[.pointer (some ⟨N, 0, none⟩), .int .i64 (p : Int), .string h] w fun r w' => r = .returned (.int .i64 (Sp.fitN n p h)) ∧ Below w.heap.size w w' := by
  have hb1 : Below w.heap.size w (w.alloc (.cells #[.int .i64 (p : Int)] 3)) := (Below.refl _ _).alloc (Nat.le_refl _) _
  have hb2 : Below w.heap.size w ((w.alloc (.cells #[.int .i64 (p : Int)] 3)).alloc (.cells #[.string h] 9)) := hb1.alloc (by simp) _
  have hfit : Sp.fitN n p h = if Sp.letsB g h = true then Sp.fitI t p h else -1 := by
    unfold Sp.fitN
    rw [hg, hq]
    simp only [List.getD_eq_getElem?_getD, ht]
    rfl
  rw [hfit]
  obtain ⟨W2, hW2⟩ : ∃ W2, (w.alloc (.cells #[.int .i64 (p : Int)] 3)).alloc (.cells #[.string h] 9) = W2 := ⟨_, rfl⟩
  obtain ⟨B, hB⟩ : ∃ B, w.heap.size = B := ⟨_, rfl⟩
  have hsz : W2.heap.size = B + 2 := by rw [← hW2, ← hB]; simp
  rw [hW2, hB] at hb2
  have hx0 : W2.cell? ⟨B, 0, none⟩ = some (.int .i64 (p : Int)) := by
    rw [← hW2, ← hB, World.cell?_alloc_past _ _ _ (by simp)]
    exact World.news_of_block (heap_alloc_new w (.cells #[.int .i64 (p : Int)] 3)) 0 _ rfl
  have hx1 : W2.cell? ⟨B + 1, 0, none⟩ = some (.string h) := by
    have := World.news_of_block (heap_alloc_new (w.alloc (.cells #[.int .i64 (p : Int)] 3)) (.cells #[.string h] 9)) 0 _ rfl
    rw [World.size_alloc, hB] at this
    rw [← hW2]
    exact this
  have hlets := step_lets N n p g h W2 (hn.more (by rw [hB]; exact hb2)) hg hf hp hh
  obtain ⟨b, hbb⟩ : ∃ b : Nat, q.box.toNat = b := ⟨_, rfl⟩
  have hqb : q.box = (b : Int) := by omega
  rw [hbb] at ht
  have HN := Lib.hid hn
  have HB2 := Lib.hid hb2
  have HW2 := Lib.hid hW2
  have HB := Lib.hid hB
  have HQ := Lib.hid hq
  have HT := Lib.hid ht
  have HFT := Lib.hid hft
  have HQB := Lib.hid hqb
  have HSZ := Lib.hid hsz
  have HX0 := Lib.hid hx0
  have HX1 := Lib.hid hx1
  clear hn hg hq ht hf hft hb1 hb2 hfit hbb hqb hb hp
  by_cases hl : Sp.letsB g h = true
  · rw [hl] at hlets
    rw [if_pos hl]
    have HL := Lib.hid hlets
    clear hlets hl hsz
    go_enter Tryz.func21, Tryz.ntmps21
    go_wp2_with (go_at_call 34; refine HL.out.mono ?_; rintro e W3 ⟨rfl, hb3⟩; have HB3 := Lib.hid hb3; clear hb3)
    have hn3 := HN.out.more (w' := W3) (by rw [HB.out]; exact HB2.out.trans (HB3.out.mono (by have := HSZ.out; omega)))
    obtain ⟨A1, c1, A2, c2, A3, c3, hN, n0, n1, n2, n3, pv, tv, _⟩ := hn3.at
    obtain ⟨gq, oq, rfl, hgq, _, k1, _, _⟩ := pv.at HQ.out
    obtain ⟨gt, ot, At, ct, rfl, hgt, k2, ev, _⟩ := tv.at HT.out
    rw [HQB.out] at k1
    have pl : p < n.ports.length := (List.getElem?_eq_some_iff.1 HQ.out).1
    have bl : b < n.tables.length := (List.getElem?_eq_some_iff.1 HT.out).1
    obtain ⟨np, hnp⟩ : ∃ np, n.ports.length = np := ⟨_, rfl⟩
    obtain ⟨nt, hnt⟩ : ∃ nt, n.tables.length = nt := ⟨_, rfl⟩
    obtain ⟨m, hm⟩ : ∃ m, t.length = m := ⟨_, rfl⟩
    rw [hnp] at n1 pl
    rw [hnt] at n2 bl
    rw [hm] at k2 htl
    have b0 : (0 : Int) ≤ (b : Int) := by omega
    have b1 : (b : Int) < (nt : Int) := by omega
    have p0 : (0 : Int) ≤ (p : Int) := by omega
    have p1 : (p : Int) < (np : Int) := by omega
    have k3 : W3.cell? ⟨B, 0, none⟩ = some (.int .i64 (p : Int)) := (HB3.out.cell (p := ⟨B, 0, none⟩) (by have := HSZ.out; show B < _; omega)).trans HX0.out
    have k4 : W3.cell? ⟨B + 1, 0, none⟩ = some (.string h) := (HB3.out.cell (p := ⟨B + 1, 0, none⟩) (by have := HSZ.out; show B + 1 < _; omega)).trans HX1.out
    have lB : B + 1 < W3.heap.size := by have := HSZ.out; have := HB3.out.size; omega
    have hS5 : W3.cell? ⟨N, 2, none⟩ = some (.slice (some ⟨gt, ot, none⟩) nt c2) ∧ W3.cell? ⟨N, 1, none⟩ = some (.slice (some ⟨gq, oq, none⟩) np c1) ∧ W3.cell? ⟨B, 0, none⟩ = some (.int .i64 (p : Int)) ∧ W3.cell? ⟨gq, oq + p * 4 + 1, none⟩ = some (.int .i64 (b : Int)) ∧ W3.cell? ⟨gt, ot + b, none⟩ = some (.slice At m ct) := ⟨n2, n1, k3, k1, k2⟩
    have hkeep : ∀ W, Below W3.drew.heap.size W3.drew W → W.cell? ⟨N, 2, none⟩ = some (.slice (some ⟨gt, ot, none⟩) nt c2) ∧ W.cell? ⟨N, 1, none⟩ = some (.slice (some ⟨gq, oq, none⟩) np c1) ∧ W.cell? ⟨B, 0, none⟩ = some (.int .i64 (p : Int)) ∧ W.cell? ⟨gq, oq + p * 4 + 1, none⟩ = some (.int .i64 (b : Int)) ∧ W.cell? ⟨gt, ot + b, none⟩ = some (.slice At m ct) := fun W hb => ⟨(hb.cell (p := ⟨N, 2, none⟩) hN).trans n2, (hb.cell (p := ⟨N, 1, none⟩) hN).trans n1, (hb.cell (p := ⟨B, 0, none⟩) (by show B < W3.heap.size; omega)).trans k3, (hb.cell (p := ⟨gq, oq + p * 4 + 1, none⟩) hgq).trans k1, (hb.cell (p := ⟨gt, ot + b, none⟩) hgt).trans k2⟩
    have hix : ∀ W, Below W3.heap.size W3 W → Calls Tryz.prog 35 #[.slice At m ct, .func (.func 36) #[] #[.pointer (some ⟨B, 0, none⟩), .pointer (some ⟨B + 1, 0, none⟩)]] W fun r w' => r = .returned (.int .i64 (Sp.fitI t p h)) ∧ Below W.heap.size W w' := fun W hW => by
      rw [← hm]
      exact step_index At ct t p h B (B + 1) W (ev.more hW) ((hW.cell (p := ⟨B, 0, none⟩) (by show B < W3.heap.size; omega)).trans k3) ((hW.cell (p := ⟨B + 1, 0, none⟩) lB).trans k4) (by have := hW.size; omega) (by have := hW.size; omega) (by omega) HFT.out hh
    have HIX := Lib.hid hix
    have HK := Lib.hid hkeep
    have hdr : Below W3.heap.size W3 W3.drew := (Below.refl _ _).drew
    have HDR := Lib.hid hdr
    have hB3 := HB2.out.trans (HB3.out.mono (by have := HSZ.out; omega))
    have HB4 := Lib.hid hB3
    clear hn3 n0 n1 n2 n3 pv tv k1 k2 k3 k4 ev hkeep hix hnp hnt hm hdr hB3 hx0 hx1 hW2 lB
    go_region_held3 (fun w' => w'.cell? ⟨N, 2, none⟩ = some (.slice (some ⟨gt, ot, none⟩) nt c2) ∧ w'.cell? ⟨N, 1, none⟩ = some (.slice (some ⟨gq, oq, none⟩) np c1) ∧ w'.cell? ⟨B, 0, none⟩ = some (.int .i64 (p : Int)) ∧ w'.cell? ⟨gq, oq + p * 4 + 1, none⟩ = some (.int .i64 (b : Int)) ∧ w'.cell? ⟨gt, ot + b, none⟩ = some (.slice At m ct))
      (first | go_keep | exact hS5 | exact ks)
      ((go_at_call 35; refine (HIX.out _ HDR.out).mono ?_; rintro e wd ⟨rfl, hbd⟩; have ks := HK.out wd hbd))
    go_wp2
    go_ret
    have hW3 : B ≤ W3.heap.size := by rw [← HB.out]; exact HB4.out.size
    exact ⟨rfl, by rw [HB.out]; exact HB4.out.trans ((HDR.out.trans (hbd.mono HDR.out.size)).mono hW3)⟩
  · rw [Bool.eq_false_iff.2 hl] at hlets
    rw [if_neg hl]
    have HL := Lib.hid hlets
    clear hlets hl hsz
    go_enter Tryz.func21, Tryz.ntmps21
    go_wp2_with (go_at_call 34; refine HL.out.mono ?_; rintro e W3 ⟨rfl, hb3⟩; have HB3 := Lib.hid hb3; clear hb3)
    go_ret
    exact ⟨rfl, by rw [HB.out]; exact HB2.out.trans (HB3.out.mono (by have := HSZ.out; omega))⟩
end Go.Proofs.YtpknablklencdaaGreatDoor
