/-
  Texts joined: Wb Wc Wd We Wf.
-/
import Derived.Test.YthjenkbgiomibaaGreatDoorWsize
import Derived.Test.YthjenkbgiomibaaGreatDoorPa
import Derived.Laws.BytesString
import Derived.Deep.RegionWith
import Derived.BigQuiet
import Derived.Deep.RegionHeld3

/-
  THE WALKS of the reference's escapes (chapter 3).
-/
set_option linter.unusedVariables false
set_option linter.unusedSimpArgs false
set_option maxRecDepth 100000
set_option maxHeartbeats 1000000
namespace Go.Proofs.YthjenkbgiomibaaGreatDoor
open Go.RowKit

/-- 'string' of the bytes that a new block holds. -/
theorem str_lit (w : World) (zs : List Int) :
    (convert 83 9 (.slice (some ⟨w.heap.size, 0, none⟩) zs.length zs.length)).run Tryz.prog (w.alloc (.cells (zs.map (Value.int .u8)).toArray 5)) = .ok (.string (strOfNums zs)) (w.alloc (.cells (zs.map (Value.int .u8)).toArray 5)) :=
  run_convert_bytes_arg (P := Tryz.prog) (w.alloc (.cells (zs.map (Value.int .u8)).toArray 5)) 83 5 Tryz.underlying83 Tryz.underlying5 w.heap.size 0 zs.length zs.length zs rfl
    (fun i hi => by rw [Nat.zero_add, World.cell?_alloc_mark]; simp [List.getElem?_eq_getElem hi]) 9 Tryz.underlying9

theorem str_enc (r : Int) (zs : List Int) (h : Lib.encodeRuneZ r = zs) : Value.string (strOfNums zs) = .string ⟨(Lib.encodeRune r).toArray⟩ := by
  subst h
  rfl

end Go.Proofs.YthjenkbgiomibaaGreatDoor

/-
  THE WALK of reachref3.braced (chapter 3).
-/
set_option linter.unusedVariables false
set_option linter.unusedSimpArgs false
set_option maxRecDepth 100000
set_option maxHeartbeats 2000000
namespace Go.Proofs.YthjenkbgiomibaaGreatDoor
open Go.RowKit

theorem ret_ii {a b c d : Int} (h1 : a = b) (h2 : c = d) : Ending.returned (.tuple #[.int .i64 a, .int .i64 c]) = .returned (.tuple #[.int .i64 b, .int .i64 d]) := by rw [h1, h2]

theorem br_key (s : ByteArray) (n : Nat) (m : List UInt8) (k : Nat) (a : Int) (hO : Sp.brO (s.data.toList.drop n) = Sp.bracedV m) (hR : Sp.bracedR m k = Sp.bracedV m) (ha : a = (Sp.digitsV 16 0 (m.take k) : Nat))
    (hlt : n + 3 + k < s.size) (hkm : k < m.length) (hb : Sp.bt m k = (s[n + 3 + k]'hlt).toNat) :
    ((k = 0 ∨ (s[n + 3 + k]'hlt).toNat ≠ 125 ∨ 1114111 < a ∨ (55296 ≤ a ∧ a ≤ 57343)) → Sp.brK (s.data.toList.drop n) = 0 ∧ Sp.brN (s.data.toList.drop n) = 0) ∧
    (¬ (k = 0 ∨ (s[n + 3 + k]'hlt).toNat ≠ 125 ∨ 1114111 < a ∨ (55296 ≤ a ∧ a ≤ 57343)) → (Sp.brK (s.data.toList.drop n) : Int) = k + 4 ∧ (Sp.brN (s.data.toList.drop n) : Int) = a) := by
  have hv : (Sp.validRune (Sp.digitsV 16 0 (m.take k)) = false) ↔ (1114111 < a ∨ (55296 ≤ a ∧ a ≤ 57343)) := by
    unfold Sp.validRune
    rw [decide_eq_false_iff_not]
    omega
  have hC : (k = 0 ∨ m.length ≤ k ∨ Sp.bt m k ≠ 125 ∨ Sp.validRune (Sp.digitsV 16 0 (m.take k)) = false) ↔ (k = 0 ∨ (s[n + 3 + k]'hlt).toNat ≠ 125 ∨ 1114111 < a ∨ (55296 ≤ a ∧ a ≤ 57343)) := by
    rw [hb, hv]
    omega
  unfold Sp.brK Sp.brN
  rw [hO, ← hR]
  unfold Sp.bracedR
  constructor
  · intro h
    rw [if_pos (hC.2 h)]
    exact ⟨rfl, rfl⟩
  · intro h
    rw [if_neg (fun g => h (hC.1 g))]
    exact ⟨by simp, ha.symm⟩
theorem br_zero (s : ByteArray) (n : Nat) (m : List UInt8) (k : Nat) (hO : Sp.brO (s.data.toList.drop n) = Sp.bracedV m) (hR : Sp.bracedR m k = Sp.bracedV m) (hkm : m.length ≤ k) :
    Sp.brK (s.data.toList.drop n) = 0 ∧ Sp.brN (s.data.toList.drop n) = 0 := by
  unfold Sp.brK Sp.brN
  rw [hO, ← hR]
  unfold Sp.bracedR
  rw [if_pos (Or.inr (Or.inl hkm))]
  exact ⟨rfl, rfl⟩
theorem hexAll_le {m : List UInt8} {k : Nat} (h : Sp.hexAll (m.take k) = true) (j : Nat) (hj : (m.take k).length ≤ j) : Sp.digitsV 16 0 (m.take k) < 16 ^ j := Sp.digitsV_lt 16 (by omega) _ h j hj
theorem take_le (m : List UInt8) (k : Nat) : (m.take k).length ≤ k := by rw [List.length_take]; omega

end Go.Proofs.YthjenkbgiomibaaGreatDoor

/-
  THE WALK of reachref3.escape (chapter 3).
-/
set_option linter.unusedVariables false
set_option linter.unusedSimpArgs false
set_option maxRecDepth 100000
set_option maxHeartbeats 2000000
namespace Go.Proofs.YthjenkbgiomibaaGreatDoor
open Go.RowKit

theorem getD_idx (s : ByteArray) (n : Nat) (h : n < s.size) : s.data.toList.getD n 0 = s[n]'h := by
  rw [Sp.get_idx s n h (by rw [← Lib.size_eq]; exact h), List.getD_eq_getElem?_getD, List.getElem?_eq_getElem]
  rfl
theorem str_lit_drew (w : World) (zs : List Int) :
    (convert 83 9 (.slice (some ⟨w.heap.size, 0, none⟩) zs.length zs.length)).run Tryz.prog (w.alloc (.cells (zs.map (Value.int .u8)).toArray 5)).drew = .ok (.string (strOfNums zs)) (w.alloc (.cells (zs.map (Value.int .u8)).toArray 5)).drew :=
  run_convert_bytes_arg (P := Tryz.prog) (w.alloc (.cells (zs.map (Value.int .u8)).toArray 5)).drew 83 5 Tryz.underlying83 Tryz.underlying5 w.heap.size 0 zs.length zs.length zs rfl
    (fun i hi => by rw [Nat.zero_add]; show (w.alloc (.cells (zs.map (Value.int .u8)).toArray 5)).cell? _ = _; rw [World.cell?_alloc_mark]; simp [List.getElem?_eq_getElem hi]) 9 Tryz.underlying9
theorem ret_is {a b : Int} {x y : List UInt8} (h1 : a = b) (h2 : x = y) : Ending.returned (.tuple #[.int .i64 a, .string ⟨x.toArray⟩]) = .returned (.tuple #[.int .i64 b, .string ⟨y.toArray⟩]) := by rw [h1, h2]

theorem ret_x {X : Int} {k : Nat} (h : X = k) : Ending.returned (.tuple #[.int .i64 4, .string (strOfNums [X])]) = .returned (.tuple #[.int .i64 4, .string ⟨#[k.toUInt8]⟩]) := by
  subst h
  rfl

def escSpec (l : List UInt8) (W : World) (e : Ending) (w' : World) : Prop := e = .returned (.tuple #[.int .i64 (Sp.escK l : Nat), .string ⟨(Sp.escB l).toArray⟩]) ∧ Below W.heap.size W w'
theorem escSpec_none {l : List UInt8} {W : World} (h : Sp.escV l = none) : ∀ e w', (e = Ending.returned (.tuple #[.int .i64 0, .string ⟨#[]⟩]) ∧ Below W.heap.size W w') → escSpec l W e w' := by
  rintro e w' ⟨rfl, hb⟩
  unfold escSpec Sp.escK Sp.escB
  rw [h]
  exact ⟨rfl, hb⟩
theorem escSpec_some {l : List UInt8} {W : World} {k : Nat} {b : List UInt8} (h : Sp.escV l = some (k, b)) : ∀ e w', (e = Ending.returned (.tuple #[.int .i64 (k : Nat), .string ⟨b.toArray⟩]) ∧ Below W.heap.size W w') → escSpec l W e w' := by
  rintro e w' ⟨rfl, hb⟩
  unfold escSpec Sp.escK Sp.escB
  rw [h]
  exact ⟨rfl, hb⟩

end Go.Proofs.YthjenkbgiomibaaGreatDoor

/-
  THE WALK of reachref3.escape: the x piece (chapter 3).
-/
set_option linter.unusedVariables false
set_option linter.unusedSimpArgs false
set_option maxRecDepth 100000
set_option maxHeartbeats 2000000
namespace Go.Proofs.YthjenkbgiomibaaGreatDoor
open Go.RowKit

end Go.Proofs.YthjenkbgiomibaaGreatDoor

/-
  THE WALK of reachref3.inside (chapter 3).
-/
set_option linter.unusedVariables false
set_option linter.unusedSimpArgs false
set_option maxRecDepth 100000
set_option maxHeartbeats 2000000
namespace Go.Proofs.YthjenkbgiomibaaGreatDoor
open Go.RowKit

def insR (s : ByteArray) (i : Nat) : Nat × List UInt8 × Nat := Sp.speakF false s.size (s.data.toList.drop (i + 1)) (i + 1) []
def insSpec (s : ByteArray) (i : Nat) (W : World) (e : Ending) (w' : World) : Prop := e = .returned (.tuple #[.string ⟨(insR s i).2.1.toArray⟩, .int .i64 (insR s i).2.2, .int .i64 (insR s i).1]) ∧ Below W.heap.size W w'

theorem ins_exit {s : ByteArray} {i : Nat} {W : World} {a p : Nat} {b : List UInt8} (h : insR s i = (a, b, p)) {x : ByteArray} {q d : Int} (hx : x = ⟨b.toArray⟩) (hq : q = p) (hd : d = a) {w' : World} (hw : Below W.heap.size W w') :
    insSpec s i W (.returned (.tuple #[.string x, .int .i64 q, .int .i64 d])) w' := by
  unfold insSpec
  rw [h, hx, hq, hd]
  exact ⟨rfl, hw⟩

end Go.Proofs.YthjenkbgiomibaaGreatDoor
