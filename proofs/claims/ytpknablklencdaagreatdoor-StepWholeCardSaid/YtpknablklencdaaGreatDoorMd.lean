/-
  THE WALKS of slices.Index and Contains on lists of numbers, of slices.IndexFunc on a table, of step.fit (chapter 10).
-/
import Derived.Test.YtpknablklencdaaGreatDoorMc
set_option linter.unusedVariables false
set_option linter.unusedSimpArgs false
set_option maxRecDepth 100000
set_option maxHeartbeats 4000000
namespace Go.Proofs.YtpknablklencdaaGreatDoor
open Go.RowKit

namespace Sp
/-- The first place at which something holds, or -1. -/
def idxF {α : Type} (f : α → Bool) : List α → Int
  | [] => -1
  | x :: r => if f x = true then 0 else if idxF f r < 0 then -1 else idxF f r + 1
theorem idxF_range {α : Type} (f : α → Bool) : ∀ l : List α, -1 ≤ idxF f l ∧ idxF f l < (l.length : Int)
  | [] => by unfold idxF; simp
  | x :: r => by
    have ih := idxF_range f r
    unfold idxF
    rw [List.length_cons]
    split
    · omega
    · split <;> omega
theorem idxF_no {α : Type} {f : α → Bool} : ∀ {l : List α}, (∀ (i : Nat) (x : α), l[i]? = some x → f x = false) → idxF f l = -1
  | [], _ => rfl
  | x :: r, h => by
    have h0 := h 0 x rfl
    have ih := idxF_no (f := f) (l := r) (fun i y hy => h (i + 1) y (by simpa using hy))
    unfold idxF
    rw [if_neg (by rw [h0]; decide), ih]
    rfl
theorem idxF_yes {α : Type} {f : α → Bool} : ∀ {l : List α} {i : Nat} {x : α}, l[i]? = some x → f x = true → (∀ (j : Nat) (y : α), j < i → l[j]? = some y → f y = false) → idxF f l = (i : Int)
  | [], i, x, h, _, _ => by simp at h
  | x :: r, 0, y, h, hy, _ => by
    simp at h
    subst h
    unfold idxF
    rw [if_pos hy]
    rfl
  | x :: r, i + 1, y, h, hy, hno => by
    have h0 := hno 0 x (by omega) rfl
    have ih := idxF_yes (f := f) (l := r) (i := i) (x := y) (by simpa using h) hy (fun j z hj hz => hno (j + 1) z (by omega) (by simpa using hz))
    unfold idxF
    rw [if_neg (by rw [h0]; decide), ih, if_neg (by omega)]
    omega
theorem idxF_find {α : Type} {f : α → Bool} {l : List α} (h : 0 ≤ idxF f l) : ∃ x, l[(idxF f l).toNat]? = some x ∧ f x = true ∧ ∀ (j : Nat) (y : α), (j : Int) < idxF f l → l[j]? = some y → f y = false := by
  induction l with
  | nil => unfold idxF at h; omega
  | cons a r ih =>
    unfold idxF at h ⊢
    by_cases ha : f a = true
    · rw [if_pos ha]
      exact ⟨a, rfl, ha, fun j y hj => by omega⟩
    · rw [if_neg ha] at h ⊢
      by_cases hr : idxF f r < 0
      · rw [if_pos hr] at h
        omega
      · rw [if_neg hr] at h ⊢
        obtain ⟨x, hx, hf, hno⟩ := ih (by omega)
        refine ⟨x, ?_, hf, fun j y hj hy => ?_⟩
        · rw [show (idxF f r + 1).toNat = (idxF f r).toNat + 1 by omega]
          simpa using hx
        · cases j with
          | zero =>
            simp at hy
            rw [← hy]
            exact Bool.eq_false_iff.2 ha
          | succ j => exact hno j y (by omega) (by simpa using hy)
def idxI (l : List Int) (x : Int) : Int := idxF (fun y => x == y) l
def memB (l : List Int) (x : Int) : Bool := decide (0 ≤ idxI l x)
end Sp
theorem slices_index (A : Option Addr) (cap : Nat) (l : List Int) (x : Int) (w : World) (hv : IV w A l) (hl : l.length ≤ 4611686018427387904) :
    Calls Tryz.prog 41 #[.slice A l.length cap, .int .i64 x] w fun e w' => e = .returned (.int .i64 (Sp.idxI l x)) ∧ w' = w := by
  obtain ⟨n, hn⟩ : ∃ n, l.length = n := ⟨_, rfl⟩
  rw [hn] at hl ⊢
  have HN := Lib.hid hn
  have HV := Lib.hid hv
  clear hn hv
  go_enter Tryz.func41, Tryz.ntmps41
  go_wp2
  go_loop [8] (fun v8 => ∃ i : Nat, v8 = .int .i64 (i : Int) ∧ i ≤ n ∧ Hid (∀ (j : Nat) (y : Int), j < i → l[j]? = some y → (x == y) = false)) (fun v8 => n - (intOf v8).toNat)
  case atStart => exact ⟨0, rfl, Nat.zero_le _, Lib.hid (fun j y hj => by omega)⟩
  case round =>
    obtain ⟨i, rfl, hi, hno⟩ := hrel
    have i0 : (0 : Int) ≤ (i : Int) := by omega
    by_cases hlt : i < n
    · have p1 : decide ((i : Int) < (n : Int)) = true := decide_eq_true (by omega)
      have p2 : decide (i < n) = true := decide_eq_true hlt
      have p3 : (i : Int) < (n : Int) := by omega
      obtain ⟨y, hy⟩ : ∃ y, l[i]? = some y := ⟨_, List.getElem?_eq_getElem (by rw [HN.out]; exact hlt)⟩
      obtain ⟨g, o, rfl, hg, c0⟩ := HV.out.at hy
      have z1 : IntKind.i64.wrap ((i : Int) + 1) = (i : Int) + 1 := by rw [IntKind.wrap_i64]; omega
      have HI := Lib.hid (show i + 1 ≤ n by omega)
      by_cases hxy : (x == y) = true
      · have HY := Lib.hid (Sp.idxF_yes (f := fun y => x == y) hy hxy hno.out)
        clear hi hlt hy hno
        go_wp2
        go_ret
        exact ⟨by rw [Sp.idxI, HY.out]; rfl, rfl⟩
      · have hxf : (x == y) = false := Bool.eq_false_iff.2 hxy
        have hno2 : ∀ (j : Nat) (z : Int), j < i + 1 → l[j]? = some z → (x == z) = false := by
          intro j z hj hz
          by_cases hji : j = i
          · subst hji
            rw [hy] at hz
            injection hz with hz
            rw [← hz]
            exact hxf
          · exact hno.out j z (by omega) hz
        have HNO := Lib.hid hno2
        clear hi hlt hy hno hxy hno2
        go_wp2
        go_round
        case rel => exact ⟨i + 1, by rfl, HI.out, HNO⟩
        case measure => have := HI.out; simp [intOf]; omega
    · have p1 : decide ((i : Int) < (n : Int)) = false := decide_eq_false (by omega)
      have p2 : decide (i < n) = false := decide_eq_false hlt
      have HY := Lib.hid (Sp.idxF_no (f := fun y => x == y) (l := l) (fun j y hj => hno.out j y (by have := (List.getElem?_eq_some_iff.1 hj).1; rw [HN.out] at this; omega) hj))
      clear hi hlt hno
      go_wp2
      go_ret
      exact ⟨by rw [Sp.idxI, HY.out]; rfl, rfl⟩
theorem slices_contains (A : Option Addr) (cap : Nat) (l : List Int) (x : Int) (w : World) (hv : IV w A l) (hl : l.length ≤ 4611686018427387904) :
    Calls Tryz.prog 29 #[.slice A l.length cap, .int .i64 x] w fun e w' => e = .returned (.bool (Sp.memB l x)) ∧ w' = w := by
  have H := Lib.hid (slices_index A cap l x w hv hl)
  obtain ⟨r, hr⟩ : ∃ r, Sp.idxI l x = r := ⟨_, rfl⟩
  have hm : Sp.memB l x = decide (r ≥ 0) := by unfold Sp.memB; rw [hr]
  rw [hr] at H
  rw [hm]
  clear hr hm
  go_enter Tryz.func29, Tryz.ntmps29
  go_wp2_with (go_at_call 41; refine H.out.mono ?_; rintro e w' ⟨rfl, rfl⟩)
  go_ret
  exact ⟨rfl, rfl⟩

namespace Sp
/-- An entry is applied to a header at an in-port. -/
def fitsE (e : Entry) (p : Int) (h : ByteArray) : Bool := memB e.ins p && hasB e.cubes h
end Sp
theorem step_fit1 (e : Sp.Entry) (A1 A2 A3 : Option Addr) (c1 c2 c3 : Nat) (p : Int) (h : ByteArray) (Bp Bh : Nat) (w : World) (hi : IV w A1 e.ins) (hs : SV w A2 e.cubes) (hp : w.cell? ⟨Bp, 0, none⟩ = some (.int .i64 p)) (hh : w.cell? ⟨Bh, 0, none⟩ = some (.string h)) (hbp : Bp < w.heap.size) (hbh : Bh < w.heap.size)
    (hil : e.ins.length ≤ 1000000) (hcl : e.cubes.length ≤ 1000000) (hc : ∀ c ∈ e.cubes, c.size ≤ h.size) (hhs : h.size ≤ 1000000) :
    Calls Tryz.prog 36 #[.agg #[.string e.name, .slice A1 e.ins.length c1, .slice A2 e.cubes.length c2, .string e.write, .slice A3 e.outs.length c3], .pointer (some ⟨Bp, 0, none⟩), .pointer (some ⟨Bh, 0, none⟩)] w fun r w' => r = .returned (.bool (Sp.fitsE e p h)) ∧ Below w.heap.size w w' := by
  have hcon : ∀ W, Below w.heap.size w W → Calls Tryz.prog 29 #[.slice A1 e.ins.length c1, .int .i64 p] W fun r w' => r = .returned (.bool (Sp.memB e.ins p)) ∧ w' = W := fun W hb => slices_contains A1 c1 e.ins p W (hi.more hb) (by omega)
  have hhas : ∀ W, Below w.heap.size w W → Calls Tryz.prog 37 #[.slice A2 e.cubes.length c2, .string h] W fun r w' => r = .returned (.bool (Sp.hasB e.cubes h)) ∧ Below W.heap.size W w' := fun W hb => step_has A2 c2 e.cubes h W (hs.more hb) hc hhs hcl
  have hal : Below w.heap.size w (w.alloc (.cells #[.string e.name, .slice A1 e.ins.length c1, .slice A2 e.cubes.length c2, .string e.write, .slice A3 e.outs.length c3] 85)) := (Below.refl _ _).alloc (Nat.le_refl _) _
  have HAL := Lib.hid hal
  clear hi hs hal hc hil hcl hhs
  by_cases hm : Sp.memB e.ins p = true
  · rw [hm] at hcon
    have hf : Sp.fitsE e p h = Sp.hasB e.cubes h := by unfold Sp.fitsE; rw [hm]; rfl
    rw [hf]
    have HCON := Lib.hid hcon
    have HHAS := Lib.hid hhas
    clear hcon hhas hm hf
    go_enter Tryz.func36, Tryz.ntmps36
    go_wp2_with (first | (go_at_call 29; refine (HCON.out _ HAL.out).mono ?_; rintro r w1 ⟨rfl, rfl⟩) | (go_at_call 37; refine (HHAS.out _ HAL.out).mono ?_; rintro r w2 ⟨rfl, hb2⟩))
    go_ret
    exact ⟨rfl, HAL.out.trans (hb2.mono HAL.out.size)⟩
  · rw [Bool.eq_false_iff.2 hm] at hcon
    have hf : Sp.fitsE e p h = false := by unfold Sp.fitsE; rw [Bool.eq_false_iff.2 hm]; rfl
    rw [hf]
    have HCON := Lib.hid hcon
    clear hcon hhas hm hf
    go_enter Tryz.func36, Tryz.ntmps36
    go_wp2_with (go_at_call 29; refine (HCON.out _ HAL.out).mono ?_; rintro r w1 ⟨rfl, rfl⟩)
    go_ret
    exact ⟨rfl, HAL.out⟩
end Go.Proofs.YtpknablklencdaaGreatDoor
