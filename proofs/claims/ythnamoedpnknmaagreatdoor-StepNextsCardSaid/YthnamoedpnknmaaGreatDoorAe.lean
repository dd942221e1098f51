/-
  Texts joined: Ha Ab Ae.
-/
import Derived.Test.YthnamoedpnknmaaGreatDoorMs
import Derived.Test.YthnamoedpnknmaaGreatDoorMw
import Derived.Test.YthnamoedpnknmaaGreatDoorUb
import Derived.Maps.AppendAt

set_option linter.unusedVariables false
set_option linter.unusedSimpArgs false
namespace Go.Proofs.YthnamoedpnknmaaGreatDoor
open Go.RowKit
namespace Sp
theorem wordV_sz (word h : ByteArray) : (wordV word h).size = h.size := by
 show (wrL word.data.toList h.data.toList).toArray.size = _
 rw [List.size_toArray, wrL_len, Array.length_toList]
 rfl
end Sp
end Go.Proofs.YthnamoedpnknmaaGreatDoor


set_option linter.unusedVariables false
set_option linter.unusedSimpArgs false
namespace Go.Proofs.YthnamoedpnknmaaGreatDoor
open Go.RowKit
namespace Sp
theorem digits_word {n : Net} {w h : ByteArray} (hw : CubeOk n.bits w) (hh : ∀ (i : Nat) (c : UInt8), h.data.toList[i]? = some c → c = 48 ∨ c = 49) : ∀ (i : Nat) (c : UInt8), (wordV w h).data.toList[i]? = some c → c = 48 ∨ c = 49 := by
 intro i c hc
 have hcu : ∀ x ∈ w.data.toList, x = 48 ∨ x = 49 ∨ x = 120 := by
  intro x hx
  have h1 := hw.1
  unfold cubeE at h1
  split at h1
  ·cases h1
  ·split at h1
   ·cases h1
   ·split at h1
    ·rename_i h3
     have := List.all_eq_true.1 h3 x hx
     simp only [Bool.or_eq_true, beq_iff_eq] at this
     rcases this with (e | e) | e
     ·exact .inl e
     ·exact .inr (.inl e)
     ·exact .inr (.inr e)
    ·cases h1
 have key : ∀ (a b : List UInt8), (∀ x ∈ a, x = 48 ∨ x = 49 ∨ x = 120) → (∀ (i : Nat) (c : UInt8), b[i]? = some c → c = 48 ∨ c = 49) → ∀ (i : Nat) (c : UInt8), (wrL a b)[i]? = some c → c = 48 ∨ c = 49 := by
  intro a
  induction a with
  | nil => intro b _ hb i c hc; rw [show wrL [] b = b by cases b <;> rfl] at hc; exact hb i c hc
  | cons x a ih =>
   intro b ha hb i c hc
   cases b with
   | nil => rw [show wrL (x :: a) [] = [] from rfl] at hc; simp at hc
   | cons y b =>
    rw [show wrL (x :: a) (y :: b) = wrB x y :: wrL a b from rfl] at hc
    cases i with
    | zero =>
     have hc' : wrB x y = c := by simpa using hc
     unfold wrB at hc'
     split at hc'
     ·exact hb 0 c (by simpa using hc')
     ·rename_i hne
      rcases ha x List.mem_cons_self with e | e | e
      ·exact .inl (hc'.symm.trans e)
      ·exact .inr (hc'.symm.trans e)
      ·exact absurd e hne
    | succ i => exact ih b (fun z hz => ha z (List.mem_cons_of_mem _ hz)) (fun j d hd => hb (j + 1) d (by simpa using hd)) i c (by simpa using hc)
 exact key _ _ hcu hh i c (by simpa [wordV] using hc)
end Sp
end Go.Proofs.YthnamoedpnknmaaGreatDoor

set_option linter.unusedVariables false
set_option linter.unusedSimpArgs false
namespace Go.Proofs.YthnamoedpnknmaaGreatDoor
open Go.RowKit
namespace Sp
end Sp
end Go.Proofs.YthnamoedpnknmaaGreatDoor


set_option linter.unusedVariables false
set_option linter.unusedSimpArgs false
set_option maxRecDepth 100000
set_option maxHeartbeats 4000000
namespace Go.Proofs.YthnamoedpnknmaaGreatDoor
open Go.RowKit
theorem ref10_in (A : Option Addr) (cap : Nat) (l : List Int) (x : Int) (w : World) (hv : IV w A l) (hl : l.length ≤ 4611686018427387904) :
  Calls Tryz.prog 85 #[.slice A l.length cap, .int .i64 x] w fun e w' => e = .returned (.bool (Sp.memB l x)) ∧ w' = w := by
 obtain ⟨n, hn⟩ : ∃ n, l.length = n := ⟨_, rfl⟩
 rw [hn] at hl ⊢
 have HN := Lib.hid hn
 have HV := Lib.hid hv
 clear hn hv
 go_enter Tryz.func85, Tryz.ntmps85
 go_wp2
 go_loop [5] (fun v8 => ∃ i : Nat, v8 = .int .i64 (i : Int) ∧ i ≤ n ∧ Hid (∀ (j : Nat) (y : Int), j < i → l[j]? = some y → (x == y) = false)) (fun v8 => n - (intOf v8).toNat)
 case atStart => exact ⟨0, rfl, Nat.zero_le _, Lib.hid (fun j y hj => by omega)⟩
 case round =>
  obtain ⟨i, rfl, hi, hno⟩ := hrel
  have i0 : (0 : Int) ≤ (i : Int) := by omega
  by_cases hlt : i < n
  ·have p1 : decide ((i : Int) < (n : Int)) = true := decide_eq_true (by omega)
   have p2 : decide (i < n) = true := decide_eq_true hlt
   have p3 : (i : Int) < (n : Int) := by omega
   obtain ⟨y, hy⟩ : ∃ y, l[i]? = some y := ⟨_, List.getElem?_eq_getElem (by rw [HN.out]; exact hlt)⟩
   obtain ⟨g, o, rfl, hg, c0⟩ := HV.out.at hy
   have z1 : IntKind.i64.wrap ((i : Int) + 1) = (i : Int) + 1 := by rw [IntKind.wrap_i64]; omega
   have HI := Lib.hid (show i + 1 ≤ n by omega)
   by_cases hxy : (x == y) = true
   ·have HY : Hid (Sp.memB l x = true) := Lib.hid (by
     unfold Sp.memB Sp.idxI
     rw [Sp.idxF_yes (f := fun y => x == y) hy hxy hno.out]
     exact decide_eq_true (by omega))
    have hxy2 : (y == x) = true := by rw [beq_iff_eq] at hxy ⊢; exact hxy.symm
    clear hi hlt hy hno hxy
    go_wp2
    go_ret
    exact ⟨by rw [HY.out]; rfl, rfl⟩
   ·have hxf : (x == y) = false := Bool.eq_false_iff.2 hxy
    have hyf : (y == x) = false := by rw [beq_eq_false_iff_ne] at hxf ⊢; exact fun e => hxf e.symm
    have hno2 : ∀ (j : Nat) (z : Int), j < i + 1 → l[j]? = some z → (x == z) = false := by
     intro j z hj hz
     by_cases hji : j = i
     ·subst hji
      rw [hy] at hz
      injection hz with hz
      rw [← hz]
      exact hxf
     ·exact hno.out j z (by omega) hz
    have HNO := Lib.hid hno2
    clear hi hlt hy hno hxy hno2 hxf
    go_wp2
    go_round
    case rel => exact ⟨i + 1, by rfl, HI.out, HNO⟩
    case measure => have := HI.out; simp [intOf]; omega
  ·have p1 : decide ((i : Int) < (n : Int)) = false := decide_eq_false (by omega)
   have p2 : decide (i < n) = false := decide_eq_false hlt
   have HY : Hid (Sp.memB l x = false) := Lib.hid (by
    unfold Sp.memB Sp.idxI
    rw [Sp.idxF_no (f := fun y => x == y) (l := l) (fun j y hj => hno.out j y (by have := (List.getElem?_eq_some_iff.1 hj).1; rw [HN.out] at this; omega) hj)]
    rfl)
   clear hi hlt hno
   go_wp2
   go_ret
   exact ⟨by rw [HY.out]; rfl, rfl⟩
def InR (w : World) (B : Nat) (v : Value) (l : List Int) : Prop := w.ownsRow B 3 1 v l.length (l.map (Value.int .i64))
end Go.Proofs.YthnamoedpnknmaaGreatDoor

set_option linter.unusedVariables false
set_option linter.unusedSimpArgs false
set_option maxRecDepth 100000
set_option maxHeartbeats 4000000
namespace Go.Proofs.YthnamoedpnknmaaGreatDoor
open Go.RowKit
structure Two (B : Nat) (W : World) (x y : Value) (P E : List Int) : Prop where
 fst : InR W B x P
 snd : InR W B y E
 apart : ∀ b, x.ownBlock = some b → y.ownBlock ≠ some b
end Go.Proofs.YthnamoedpnknmaaGreatDoor

set_option linter.unusedVariables false
set_option linter.unusedSimpArgs false
set_option maxRecDepth 100000
set_option maxHeartbeats 8000000
namespace Go.Proofs.YthnamoedpnknmaaGreatDoor
open Go.RowKit
end Go.Proofs.YthnamoedpnknmaaGreatDoor
