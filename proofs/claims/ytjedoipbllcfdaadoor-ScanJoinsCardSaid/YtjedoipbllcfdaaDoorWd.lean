/-
  THE WALK of reachref3.escape (chapter 3).
-/
import Derived.Test.YtjedoipbllcfdaaDoorWc
import Derived.Deep.RegionHeld3
set_option linter.unusedVariables false
set_option linter.unusedSimpArgs false
set_option maxRecDepth 100000
set_option maxHeartbeats 2000000
namespace Go.Proofs.YtjedoipbllcfdaaDoor
open Go.RowKit

theorem getD_idx (s : ByteArray) (n : Nat) (h : n < s.size) : s.data.toList.getD n 0 = s[n]'h := by
  rw [Sp.get_idx s n h (by rw [← Lib.size_eq]; exact h), List.getD_eq_getElem?_getD, List.getElem?_eq_getElem]
  rfl
theorem str_lit_drew (w : World) (zs : List Int) :
    (convert 50 9 (.slice (some ⟨w.heap.size, 0, none⟩) zs.length zs.length)).run Tryd.prog (w.alloc (.cells (zs.map (Value.int .u8)).toArray 5)).drew = .ok (.string (strOfNums zs)) (w.alloc (.cells (zs.map (Value.int .u8)).toArray 5)).drew :=
  run_convert_bytes_arg (P := Tryd.prog) (w.alloc (.cells (zs.map (Value.int .u8)).toArray 5)).drew 50 5 Tryd.underlying50 Tryd.underlying5 w.heap.size 0 zs.length zs.length zs rfl
    (fun i hi => by rw [Nat.zero_add]; show (w.alloc (.cells (zs.map (Value.int .u8)).toArray 5)).cell? _ = _; rw [World.cell?_alloc_mark]; simp [List.getElem?_eq_getElem hi]) 9 Tryd.underlying9
theorem ret_is {a b : Int} {x y : List UInt8} (h1 : a = b) (h2 : x = y) : Ending.returned (.tuple #[.int .i64 a, .string ⟨x.toArray⟩]) = .returned (.tuple #[.int .i64 b, .string ⟨y.toArray⟩]) := by rw [h1, h2]

theorem ret_x {X : Int} {k : Nat} (h : X = k) : Ending.returned (.tuple #[.int .i64 4, .string (strOfNums [X])]) = .returned (.tuple #[.int .i64 4, .string ⟨#[k.toUInt8]⟩]) := by
  subst h
  rfl

theorem ref3_escape_end (s : ByteArray) (n : Nat) (w : World) (hs : s.size ≤ 4611686018427387904) (hn : (n : Int) ≤ 4611686018427387904) (h1 : ¬ n + 1 < s.size) :
    Calls Tryd.prog 37 #[.string s, .int .i64 n] w fun e w' => e = .returned (.tuple #[.int .i64 0, .string ⟨#[]⟩]) ∧ Below w.heap.size w w' := by
  go_enter Tryd.func37, Tryd.ntmps37
  go_wp2
  go_ret2
  exact ⟨rfl, Below.refl _ _⟩

theorem ref3_escape_34 (s : ByteArray) (n : Nat) (w : World) (hs : s.size ≤ 4611686018427387904) (h1 : n + 1 < s.size) (hc : (s[n + 1]'h1).toNat = 34) :
    Calls Tryd.prog 37 #[.string s, .int .i64 n] w fun e w' => e = .returned (.tuple #[.int .i64 2, .string ⟨#[34]⟩]) ∧ Below w.heap.size w w' := by
  have t0 : (((s[n + 1]'h1).toNat : Int) == 34) = true := beq_iff_eq.2 (by omega)
  clear hc
  go_enter Tryd.func37, Tryd.ntmps37
  go_wp2
  go_ret2
  exact ⟨rfl, Below.refl _ _⟩

theorem ref3_escape_92 (s : ByteArray) (n : Nat) (w : World) (hs : s.size ≤ 4611686018427387904) (h1 : n + 1 < s.size) (hc : (s[n + 1]'h1).toNat = 92) :
    Calls Tryd.prog 37 #[.string s, .int .i64 n] w fun e w' => e = .returned (.tuple #[.int .i64 2, .string ⟨#[92]⟩]) ∧ Below w.heap.size w w' := by
  have t0 : (((s[n + 1]'h1).toNat : Int) == 34) = false := beq_eq_false_iff_ne.2 (by omega)
  have t1 : (((s[n + 1]'h1).toNat : Int) == 92) = true := beq_iff_eq.2 (by omega)
  clear hc
  go_enter Tryd.func37, Tryd.ntmps37
  go_wp2
  go_ret2
  exact ⟨rfl, Below.refl _ _⟩

theorem ref3_escape_110 (s : ByteArray) (n : Nat) (w : World) (hs : s.size ≤ 4611686018427387904) (h1 : n + 1 < s.size) (hc : (s[n + 1]'h1).toNat = 110) :
    Calls Tryd.prog 37 #[.string s, .int .i64 n] w fun e w' => e = .returned (.tuple #[.int .i64 2, .string ⟨#[10]⟩]) ∧ Below w.heap.size w w' := by
  have t0 : (((s[n + 1]'h1).toNat : Int) == 34) = false := beq_eq_false_iff_ne.2 (by omega)
  have t1 : (((s[n + 1]'h1).toNat : Int) == 92) = false := beq_eq_false_iff_ne.2 (by omega)
  have t2 : (((s[n + 1]'h1).toNat : Int) == 110) = true := beq_iff_eq.2 (by omega)
  clear hc
  go_enter Tryd.func37, Tryd.ntmps37
  go_wp2
  go_ret2
  exact ⟨rfl, Below.refl _ _⟩

theorem ref3_escape_114 (s : ByteArray) (n : Nat) (w : World) (hs : s.size ≤ 4611686018427387904) (h1 : n + 1 < s.size) (hc : (s[n + 1]'h1).toNat = 114) :
    Calls Tryd.prog 37 #[.string s, .int .i64 n] w fun e w' => e = .returned (.tuple #[.int .i64 2, .string ⟨#[13]⟩]) ∧ Below w.heap.size w w' := by
  have t0 : (((s[n + 1]'h1).toNat : Int) == 34) = false := beq_eq_false_iff_ne.2 (by omega)
  have t1 : (((s[n + 1]'h1).toNat : Int) == 92) = false := beq_eq_false_iff_ne.2 (by omega)
  have t2 : (((s[n + 1]'h1).toNat : Int) == 110) = false := beq_eq_false_iff_ne.2 (by omega)
  have t3 : (((s[n + 1]'h1).toNat : Int) == 114) = true := beq_iff_eq.2 (by omega)
  clear hc
  go_enter Tryd.func37, Tryd.ntmps37
  go_wp2
  go_ret2
  exact ⟨rfl, Below.refl _ _⟩

theorem ref3_escape_116 (s : ByteArray) (n : Nat) (w : World) (hs : s.size ≤ 4611686018427387904) (h1 : n + 1 < s.size) (hc : (s[n + 1]'h1).toNat = 116) :
    Calls Tryd.prog 37 #[.string s, .int .i64 n] w fun e w' => e = .returned (.tuple #[.int .i64 2, .string ⟨#[9]⟩]) ∧ Below w.heap.size w w' := by
  have t0 : (((s[n + 1]'h1).toNat : Int) == 34) = false := beq_eq_false_iff_ne.2 (by omega)
  have t1 : (((s[n + 1]'h1).toNat : Int) == 92) = false := beq_eq_false_iff_ne.2 (by omega)
  have t2 : (((s[n + 1]'h1).toNat : Int) == 110) = false := beq_eq_false_iff_ne.2 (by omega)
  have t3 : (((s[n + 1]'h1).toNat : Int) == 114) = false := beq_eq_false_iff_ne.2 (by omega)
  have t4 : (((s[n + 1]'h1).toNat : Int) == 116) = true := beq_iff_eq.2 (by omega)
  clear hc
  go_enter Tryd.func37, Tryd.ntmps37
  go_wp2
  go_ret2
  exact ⟨rfl, Below.refl _ _⟩

theorem ref3_escape_no (s : ByteArray) (n : Nat) (w : World) (hs : s.size ≤ 4611686018427387904) (h1 : n + 1 < s.size) (h34 : (s[n + 1]'h1).toNat ≠ 34) (h92 : (s[n + 1]'h1).toNat ≠ 92) (h110 : (s[n + 1]'h1).toNat ≠ 110)
    (h114 : (s[n + 1]'h1).toNat ≠ 114) (h116 : (s[n + 1]'h1).toNat ≠ 116) (h120 : (s[n + 1]'h1).toNat ≠ 120) (h117 : (s[n + 1]'h1).toNat ≠ 117) :
    Calls Tryd.prog 37 #[.string s, .int .i64 n] w fun e w' => e = .returned (.tuple #[.int .i64 0, .string ⟨#[]⟩]) ∧ Below w.heap.size w w' := by
  have t0 : (((s[n + 1]'h1).toNat : Int) == 34) = false := beq_eq_false_iff_ne.2 (by omega)
  have t1 : (((s[n + 1]'h1).toNat : Int) == 92) = false := beq_eq_false_iff_ne.2 (by omega)
  have t2 : (((s[n + 1]'h1).toNat : Int) == 110) = false := beq_eq_false_iff_ne.2 (by omega)
  have t3 : (((s[n + 1]'h1).toNat : Int) == 114) = false := beq_eq_false_iff_ne.2 (by omega)
  have t4 : (((s[n + 1]'h1).toNat : Int) == 116) = false := beq_eq_false_iff_ne.2 (by omega)
  have t5 : (((s[n + 1]'h1).toNat : Int) == 120) = false := beq_eq_false_iff_ne.2 (by omega)
  have t6 : (((s[n + 1]'h1).toNat : Int) == 117) = false := beq_eq_false_iff_ne.2 (by omega)
  clear h34 h92 h110 h114 h116 h120 h117
  go_enter Tryd.func37, Tryd.ntmps37
  go_wp2
  go_ret2
  exact ⟨rfl, Below.refl _ _⟩

theorem ref3_escape_x_no (s : ByteArray) (n : Nat) (w : World) (hs : s.size ≤ 4611686018427387904) (h1 : n + 1 < s.size) (hc : (s[n + 1]'h1).toNat = 120)
    (hno : ¬ (n + 3 < s.size ∧ Sp.hexv (s.data.toList.getD (n + 2) 0) < 16 ∧ Sp.hexv (s.data.toList.getD (n + 3) 0) < 16)) :
    Calls Tryd.prog 37 #[.string s, .int .i64 n] w fun e w' => e = .returned (.tuple #[.int .i64 0, .string ⟨#[]⟩]) ∧ Below w.heap.size w w' := by
  have t0 : (((s[n + 1]'h1).toNat : Int) == 34) = false := beq_eq_false_iff_ne.2 (by omega)
  have t1 : (((s[n + 1]'h1).toNat : Int) == 92) = false := beq_eq_false_iff_ne.2 (by omega)
  have t2 : (((s[n + 1]'h1).toNat : Int) == 110) = false := beq_eq_false_iff_ne.2 (by omega)
  have t3 : (((s[n + 1]'h1).toNat : Int) == 114) = false := beq_eq_false_iff_ne.2 (by omega)
  have t4 : (((s[n + 1]'h1).toNat : Int) == 116) = false := beq_eq_false_iff_ne.2 (by omega)
  have t5 : (((s[n + 1]'h1).toNat : Int) == 120) = true := beq_iff_eq.2 (by omega)
  clear hc
  by_cases h3 : n + 3 < s.size
  · have h2 : n + 2 < s.size := by omega
    rw [getD_idx s (n + 2) h2, getD_idx s (n + 3) h3] at hno
    have q1 : decide ((n : Int) + 3 < s.size) = true := decide_eq_true (by omega)
    by_cases ha : Sp.hexv (s[n + 2]'h2) < 16
    · obtain ⟨a, hd⟩ : ∃ d : Int, Sp.hexZ (s[n + 2]'h2) = d := ⟨_, rfl⟩
      have hd0 : 0 ≤ a := by rw [← hd, Sp.hexZ_pos _ ha]; omega
      have hb := Sp.hexZ_neg (s[n + 3]'h3) (fun h => hno ⟨h3, ha, h⟩)
      clear hno ha
      go_enter Tryd.func37, Tryd.ntmps37
      go_wp2_with (go_at_call 49; refine (ref3_hex _ _).mono ?_; rintro e w' ⟨rfl, rfl⟩)
      go_ret2
      exact ⟨rfl, Below.refl _ _⟩
    · have hd := Sp.hexZ_neg (s[n + 2]'h2) ha
      clear hno ha
      go_enter Tryd.func37, Tryd.ntmps37
      go_wp2_with (go_at_call 49; refine (ref3_hex _ _).mono ?_; rintro e w' ⟨rfl, rfl⟩)
      go_ret2
      exact ⟨rfl, Below.refl _ _⟩
  · clear hno
    go_enter Tryd.func37, Tryd.ntmps37
    go_wp2_with (go_at_call 49; refine (ref3_hex _ _).mono ?_; rintro e w' ⟨rfl, rfl⟩)
    go_ret2
    exact ⟨rfl, Below.refl _ _⟩

def escSpec (l : List UInt8) (W : World) (e : Ending) (w' : World) : Prop := e = .returned (.tuple #[.int .i64 (Sp.escK l : Nat), .string ⟨(Sp.escB l).toArray⟩]) ∧ Below W.heap.size W w'
theorem escSpec_none {l : List UInt8} {W : World} (h : Sp.escV l = none) : ∀ e w', (e = Ending.returned (.tuple #[.int .i64 0, .string ⟨#[]⟩]) ∧ Below W.heap.size W w') → escSpec l W e w' := by
  rintro e w' ⟨rfl, hb⟩
  unfold escSpec Sp.escK Sp.escB
  rw [h]
  exact ⟨rfl, hb⟩
theorem escSpec_some {l : List UInt8} {W : World} {k : Nat} {b : List UInt8} (h : Sp.escV l = some (k, b)) : ∀ e w', (e = Ending.returned (.tuple #[.int .i64 (k : Nat), .string ⟨b.toArray⟩]) ∧ Below W.heap.size W w') → escSpec l W e w' := by
  rintro e w' ⟨rfl, hb⟩
  unfold escSpec Sp.escK Sp.escB
  rw [h]
  exact ⟨rfl, hb⟩

theorem ref3_escape_u (s : ByteArray) (n : Nat) (w : World) (hs : s.size ≤ 4611686018427387904) (hn : (n : Int) ≤ 4611686018427387904) (h1 : n + 1 < s.size) (hc : (s[n + 1]'h1).toNat = 117) :
    Calls Tryd.prog 37 #[.string s, .int .i64 n] w (escSpec (s.data.toList.drop n) w) := by
  have hE : Sp.escV (s.data.toList.drop n) = match Sp.brO (s.data.toList.drop n) with | none => none | some (k, v) => some (k, Lib.encodeRune (v : Nat)) := by
    have hl : ¬ (s.data.toList.drop n).length < 2 := by rw [List.length_drop, ← Lib.size_eq]; omega
    have hb : Sp.bt (s.data.toList.drop n) 1 = 117 := by rw [Sp.bt_drop, ← Sp.bt_idx s (n + 1) h1]; exact hc
    rw [Sp.escV_eq, if_neg hl, hb]
    simp only [Nat.reduceEqDiff, if_false, if_true]
    cases Sp.brO (s.data.toList.drop n) <;> rfl
  have t0 : (((s[n + 1]'h1).toNat : Int) == 34) = false := beq_eq_false_iff_ne.2 (by omega)
  have t1 : (((s[n + 1]'h1).toNat : Int) == 92) = false := beq_eq_false_iff_ne.2 (by omega)
  have t2 : (((s[n + 1]'h1).toNat : Int) == 110) = false := beq_eq_false_iff_ne.2 (by omega)
  have t3 : (((s[n + 1]'h1).toNat : Int) == 114) = false := beq_eq_false_iff_ne.2 (by omega)
  have t4 : (((s[n + 1]'h1).toNat : Int) == 116) = false := beq_eq_false_iff_ne.2 (by omega)
  have t5 : (((s[n + 1]'h1).toNat : Int) == 120) = false := beq_eq_false_iff_ne.2 (by omega)
  have t6 : (((s[n + 1]'h1).toNat : Int) == 117) = true := beq_iff_eq.2 (by omega)
  clear hc
  have hbr := ref3_braced s n w (by omega) hn hs
  rw [Int.toNat_natCast] at hbr
  rcases hO : Sp.brO (s.data.toList.drop n) with _ | ⟨k, v⟩
  · rw [hO] at hE
    have k0 : Sp.brK (s.data.toList.drop n) = 0 := by unfold Sp.brK; rw [hO]
    have v0 : Sp.brN (s.data.toList.drop n) = 0 := by unfold Sp.brN; rw [hO]
    rw [k0, v0] at hbr
    have HB := Lib.hid hbr
    clear hbr k0 v0 hO
    refine Calls.mono ?_ (escSpec_none hE)
    clear hE
    go_enter Tryd.func37, Tryd.ntmps37
    go_wp2_with (go_at_call 63; refine HB.out.mono ?_; rintro e w' ⟨rfl, rfl⟩)
    go_ret2
    exact ⟨rfl, Below.refl _ _⟩
  · rw [hO] at hE
    have k0 : Sp.brK (s.data.toList.drop n) = k := by unfold Sp.brK; rw [hO]
    have v0 : Sp.brN (s.data.toList.drop n) = v := by unfold Sp.brN; rw [hO]
    rw [k0, v0] at hbr
    have hk4 : (4 : Int) ≤ k := by have := Sp.brO_k hO; omega
    have hv := Sp.brO_v hO
    have HB := Lib.hid hbr
    have HV := Lib.hid hv
    clear hbr k0 v0 hO hv
    refine Calls.mono ?_ (escSpec_some hE)
    clear hE
    go_enter Tryd.func37, Tryd.ntmps37
    go_wp2_with (first | (go_at_call 63; refine HB.out.mono ?_; rintro e w' ⟨rfl, rfl⟩) | (go_at_call 64; refine (ref3_utf _ _ (by omega) (by have := HV.out; omega) (by have := HV.out; omega)).mono ?_; rintro e w1 ⟨rfl, hb1⟩))
    go_ret2
    exact ⟨rfl, by assumption⟩

end Go.Proofs.YtjedoipbllcfdaaDoor
