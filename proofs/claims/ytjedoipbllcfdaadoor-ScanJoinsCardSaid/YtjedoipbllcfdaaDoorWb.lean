/-
  THE WALKS of the reference's escapes (chapter 3).
-/
import Derived.Test.YtjedoipbllcfdaaDoorWsize
import Derived.Test.YtjedoipbllcfdaaDoorSpE
import Derived.Laws.BytesString
import Derived.Deep.RegionWith
import Derived.BigQuiet
set_option linter.unusedVariables false
set_option linter.unusedSimpArgs false
set_option maxRecDepth 100000
set_option maxHeartbeats 1000000
namespace Go.Proofs.YtjedoipbllcfdaaDoor
open Go.RowKit

/-- 'string' of the bytes that a new block holds. -/
theorem str_lit (w : World) (zs : List Int) :
    (convert 50 9 (.slice (some ⟨w.heap.size, 0, none⟩) zs.length zs.length)).run Tryd.prog (w.alloc (.cells (zs.map (Value.int .u8)).toArray 5)) = .ok (.string (strOfNums zs)) (w.alloc (.cells (zs.map (Value.int .u8)).toArray 5)) :=
  run_convert_bytes_arg (P := Tryd.prog) (w.alloc (.cells (zs.map (Value.int .u8)).toArray 5)) 50 5 Tryd.underlying50 Tryd.underlying5 w.heap.size 0 zs.length zs.length zs rfl
    (fun i hi => by rw [Nat.zero_add, World.cell?_alloc_mark]; simp [List.getElem?_eq_getElem hi]) 9 Tryd.underlying9

theorem str_enc (r : Int) (zs : List Int) (h : Lib.encodeRuneZ r = zs) : Value.string (strOfNums zs) = .string ⟨(Lib.encodeRune r).toArray⟩ := by
  subst h
  rfl

theorem ref3_utf1 (r : Int) (w : World) (h1 : 0 ≤ r) (h2 : r < 128) :
    Calls Tryd.prog 64 #[.int .i64 r] w fun e w' => e = .returned (.string ⟨(Lib.encodeRune r).toArray⟩) ∧ Below w.heap.size w w' := by
  have hz : Lib.encodeRuneZ r = [r] := Lib.encodeRuneZ_one (by omega) (by omega)
  have HZ := Lib.hid hz
  clear hz
  have hcv := str_lit w [r]
  simp only [List.map_cons, List.map_nil, List.length_cons, List.length_nil, Nat.zero_add, Nat.reduceAdd] at hcv
  go_enter Tryd.func64, Tryd.ntmps64
  go_wp2
  go_ret
  exact ⟨congrArg Ending.returned (str_enc _ _ HZ.out), (Below.refl _ _).alloc (Nat.le_refl _) _⟩
theorem ref3_utf2 (r : Int) (w : World) (h1 : 128 ≤ r) (h2 : r < 2048) :
    Calls Tryd.prog 64 #[.int .i64 r] w fun e w' => e = .returned (.string ⟨(Lib.encodeRune r).toArray⟩) ∧ Below w.heap.size w w' := by
  have hz : Lib.encodeRuneZ r = [192 + r / 64, 128 + r % 64] := Lib.encodeRuneZ_two (by omega) (by omega)
  have HZ := Lib.hid hz
  clear hz
  have hcv := str_lit w [192 + r / 64, 128 + r % 64]
  simp only [List.map_cons, List.map_nil, List.length_cons, List.length_nil, Nat.zero_add, Nat.reduceAdd] at hcv
  go_enter Tryd.func64, Tryd.ntmps64
  go_wp2
  go_ret
  exact ⟨congrArg Ending.returned (str_enc _ _ HZ.out), (Below.refl _ _).alloc (Nat.le_refl _) _⟩
theorem ref3_utf3 (r : Int) (w : World) (h1 : 2048 ≤ r) (h2 : r < 65536) (hv : r < 55296 ∨ 57343 < r) :
    Calls Tryd.prog 64 #[.int .i64 r] w fun e w' => e = .returned (.string ⟨(Lib.encodeRune r).toArray⟩) ∧ Below w.heap.size w w' := by
  have hz : Lib.encodeRuneZ r = [224 + r / 4096, 128 + r / 64 % 64, 128 + r % 64] := Lib.encodeRuneZ_three (by omega)
  have HZ := Lib.hid hz
  clear hz
  have hcv := str_lit w [224 + r / 4096, 128 + r / 64 % 64, 128 + r % 64]
  simp only [List.map_cons, List.map_nil, List.length_cons, List.length_nil, Nat.zero_add, Nat.reduceAdd] at hcv
  go_enter Tryd.func64, Tryd.ntmps64
  go_wp2
  go_ret
  exact ⟨congrArg Ending.returned (str_enc _ _ HZ.out), (Below.refl _ _).alloc (Nat.le_refl _) _⟩
theorem ref3_utf4 (r : Int) (w : World) (h1 : 65536 ≤ r) (h2 : r ≤ 1114111) :
    Calls Tryd.prog 64 #[.int .i64 r] w fun e w' => e = .returned (.string ⟨(Lib.encodeRune r).toArray⟩) ∧ Below w.heap.size w w' := by
  have hz : Lib.encodeRuneZ r = [240 + r / 262144, 128 + r / 4096 % 64, 128 + r / 64 % 64, 128 + r % 64] := Lib.encodeRuneZ_four (by omega) (by omega)
  have HZ := Lib.hid hz
  clear hz
  have hcv := str_lit w [240 + r / 262144, 128 + r / 4096 % 64, 128 + r / 64 % 64, 128 + r % 64]
  simp only [List.map_cons, List.map_nil, List.length_cons, List.length_nil, Nat.zero_add, Nat.reduceAdd] at hcv
  go_enter Tryd.func64, Tryd.ntmps64
  go_wp2
  go_ret
  exact ⟨congrArg Ending.returned (str_enc _ _ HZ.out), (Below.refl _ _).alloc (Nat.le_refl _) _⟩
theorem ref3_utf (r : Int) (w : World) (h0 : 0 ≤ r) (h1 : r ≤ 1114111) (hv : r < 55296 ∨ 57343 < r) :
    Calls Tryd.prog 64 #[.int .i64 r] w fun e w' => e = .returned (.string ⟨(Lib.encodeRune r).toArray⟩) ∧ Below w.heap.size w w' := by
  by_cases c1 : r < 128
  · exact ref3_utf1 r w h0 c1
  by_cases c2 : r < 2048
  · exact ref3_utf2 r w (by omega) c2
  by_cases c3 : r < 65536
  · exact ref3_utf3 r w (by omega) c3 hv
  · exact ref3_utf4 r w (by omega) h1

end Go.Proofs.YtjedoipbllcfdaaDoor
