/-
  Texts joined: Va Vb Vc Vd.
-/
import Derived.Test.YtpknablklencdaaGreatDoorPa
import Derived.Test.YtpknablklencdaaGreatDoorWg

/-
  THE WALKS of reachref3.dot and reachref3.all (chapter 3).
-/
set_option linter.unusedVariables false
set_option linter.unusedSimpArgs false
set_option maxRecDepth 100000
set_option maxHeartbeats 2000000
namespace Go.Proofs.YtpknablklencdaaGreatDoor
open Go.RowKit

end Go.Proofs.YtpknablklencdaaGreatDoor

/-
  THE WALK of reachref3.decimal (chapter 3).
-/
set_option linter.unusedVariables false
set_option linter.unusedSimpArgs false
set_option maxRecDepth 100000
set_option maxHeartbeats 2000000
namespace Go.Proofs.YtpknablklencdaaGreatDoor
open Go.RowKit

theorem digit_fin : ∀ n : Fin 256, [48, 49, 50, 51, 52, 53, 54, 55, 56, 57].contains (UInt8.ofNat n.1) = decide (48 ≤ (UInt8.ofNat n.1).toNat ∧ (UInt8.ofNat n.1).toNat ≤ 57) := by decide
theorem digit_in (c : UInt8) : [48, 49, 50, 51, 52, 53, 54, 55, 56, 57].contains c = decide (48 ≤ c.toNat ∧ c.toNat ≤ 57) := by
  have h := digit_fin ⟨c.toNat, c.toNat_lt⟩
  simpa using h
def DIG : ByteArray := ⟨#[48, 49, 50, 51, 52, 53, 54, 55, 56, 57]⟩
theorem digits_all (l : List UInt8) : l.all (DIG.data.toList.contains ·) = l.all (fun c => decide (48 ≤ c.toNat ∧ c.toNat ≤ 57)) := by
  congr 1
  funext c
  exact digit_in c
theorem hexv_digit (c : UInt8) (h1 : 48 ≤ c.toNat) (h2 : c.toNat ≤ 57) : Sp.hexv c = c.toNat - 48 := by
  unfold Sp.hexv
  rw [if_pos (by omega)]
theorem dec_some {top : Nat} {l : List UInt8} (h : ¬ (l.length = 0 ∨ 10 < l.length ∨ l.all (fun c => decide (48 ≤ c.toNat ∧ c.toNat ≤ 57)) = false ∨ (1 < l.length ∧ l.head? = some 48))) : Sp.decV top l = if top < Sp.digitsV 10 0 l then none else some (Sp.digitsV 10 0 l) := by
  unfold Sp.decV
  rw [if_neg h]

end Go.Proofs.YtpknablklencdaaGreatDoor

/-
  THE WALK of reachref3.quad (chapter 3).
-/
set_option linter.unusedVariables false
set_option linter.unusedSimpArgs false
set_option maxRecDepth 100000
set_option maxHeartbeats 2000000
namespace Go.Proofs.YtpknablklencdaaGreatDoor
open Go.RowKit

theorem decV_le {top : Nat} {l : List UInt8} {v : Nat} (h : Sp.decV top l = some v) : v ≤ top := by
  unfold Sp.decV at h
  split at h
  · cases h
  split at h
  · cases h
  · injection h with h; omega
theorem ext_take (S : ByteArray) (p : Nat) : (S.extract 0 p).data.toList = S.data.toList.take p := by
  rw [Lib.extract_data, List.drop_zero, Nat.sub_zero]
theorem ext_drop (S : ByteArray) (p : Nat) : (S.extract p S.size).data.toList = S.data.toList.drop p := by
  rw [Lib.extract_data, List.take_of_length_le]
  rw [List.length_drop, ← Lib.size_eq]
  omega
theorem tw_take (q : UInt8 → Bool) : ∀ l : List UInt8, l.take (l.takeWhile q).length = l.takeWhile q
  | [] => rfl
  | c :: r => by
    rw [List.takeWhile_cons]
    by_cases h : q c = true
    · rw [if_pos h, List.length_cons, List.take_succ_cons, tw_take q r]
    · rw [if_neg h]; rfl

end Go.Proofs.YtpknablklencdaaGreatDoor

/-
  THE WALK of reachref3.number and reachref3.Value (chapter 3).
-/
set_option linter.unusedVariables false
set_option linter.unusedSimpArgs false
set_option maxRecDepth 100000
set_option maxHeartbeats 2000000
namespace Go.Proofs.YtpknablklencdaaGreatDoor
open Go.RowKit

theorem dot_none {l : List UInt8} (h : l.all (fun x => decide (x ≠ 46)) = true) : Lib.indexByte l 46 = -1 := by rw [Sp.indexByte_tw, if_pos h]
theorem dot_some {l : List UInt8} (h : ¬ l.all (fun x => decide (x ≠ 46)) = true) : 0 ≤ Lib.indexByte l 46 := by rw [Sp.indexByte_tw, if_neg h]; omega
theorem num_quad {l : List UInt8} (h : ¬ l.all (fun x => decide (x ≠ 46)) = true) : Sp.numV l = Sp.quadF 3 0 l := by
  unfold Sp.numV
  rw [if_pos (by simpa using h)]
theorem num_hex {l : List UInt8} (h : l.all (fun x => decide (x ≠ 46)) = true) (h2 : l.take 2 = [48, 120]) : Sp.numV l = Sp.basedV 16 8 (l.drop 2) := by
  unfold Sp.numV
  rw [if_neg (by rw [h]; simp), if_pos h2]
theorem num_bin {l : List UInt8} (h : l.all (fun x => decide (x ≠ 46)) = true) (h2 : l.take 2 = [48, 98]) : Sp.numV l = Sp.basedV 2 32 (l.drop 2) := by
  unfold Sp.numV
  rw [if_neg (by rw [h]; simp), if_neg (by rw [h2]; decide), if_pos h2]
theorem num_dec {l : List UInt8} (h : l.all (fun x => decide (x ≠ 46)) = true) (h1 : l.take 2 ≠ [48, 120]) (h2 : l.take 2 ≠ [48, 98]) : Sp.numV l = Sp.decV 4294967295 l := by
  unfold Sp.numV
  rw [if_neg (by rw [h]; simp), if_neg h1, if_neg h2]
end Go.Proofs.YtpknablklencdaaGreatDoor
