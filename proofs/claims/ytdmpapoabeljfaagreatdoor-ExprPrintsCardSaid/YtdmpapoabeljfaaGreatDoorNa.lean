/-
  THE WALK of scan.Number.
-/
import Derived.Test.YtdmpapoabeljfaaGreatDoorPe
import Derived.Test.YtdmpapoabeljfaaGreatDoorShelg
import Derived.Test.YtdmpapoabeljfaaGreatDoorLa
import Derived.Test.YtdmpapoabeljfaaGreatDoorWo
set_option linter.unusedVariables false
set_option linter.unusedSimpArgs false
set_option maxRecDepth 100000
set_option maxHeartbeats 800000
namespace Go.Proofs.YtdmpapoabeljfaaGreatDoor
open Go.RowKit

/-- The table of the powers of ten reads as it is laid. -/
def Pow (w : World) : Prop := Lib.TabIs Tryz.prog w "internal/strconv.uint64pow10" .u64 Lib.pow10Tab
theorem Pow.below {w w' : World} (h : Pow w) (hb : Below w.heap.size w w') : Pow w' := Lib.tabBelow_of_tabIs h w' hb

theorem scan_Number_plain (u : Nat) (hu : u ≤ 4294967295) (w : World) (hT : Pow w) :
    Calls Tryz.prog 193 #[.int .i64 (u : Nat), .bool false] w fun e w' => e = .returned (.tuple #[.string ⟨(Go.Lib.decDigits u).toArray⟩, .int .i64 0]) ∧ Below w.heap.size w w' := by
  have hc := fun W (h : Pow W) => Tryz.strconv_Itoa (u : Nat) (by omega) (by omega) W h
  rw [Lib.itoa_nonneg] at hc
  obtain ⟨x, hx⟩ : ∃ x : Int, (u : Int) = x := ⟨_, rfl⟩
  rw [hx] at hc ⊢
  have q1 : decide (x < 0) = false := decide_eq_false (by omega)
  have q2 : decide (x > 4294967295) = false := decide_eq_false (by omega)
  have q3 : decide (4294967295 < x) = false := decide_eq_false (by omega)
  have HC := Lib.hid hc
  have HT := Lib.hid hT
  clear hc hT hx
  go_enter Tryz.func193, Tryz.ntmps193
  go_wp2_with (go_at_call 158; refine (HC.out _ HT.out).mono ?_; rintro e w1 ⟨rfl, k, os, rfl⟩)
  go_ret2
  exact ⟨rfl, Lib.below_grow _ _ (Nat.le_refl _) _ _⟩

def partV (u : Nat) : Nat → List UInt8
  | 0 => []
  | 1 => Go.Lib.decDigits (u / 16777216) ++ [46]
  | 2 => Go.Lib.decDigits (u / 16777216) ++ [46] ++ Go.Lib.decDigits (u / 65536 % 256) ++ [46]
  | 3 => Go.Lib.decDigits (u / 16777216) ++ [46] ++ Go.Lib.decDigits (u / 65536 % 256) ++ [46] ++ Go.Lib.decDigits (u / 256 % 256) ++ [46]
  | _ => Go.Lib.decDigits (u / 16777216) ++ [46] ++ Go.Lib.decDigits (u / 65536 % 256) ++ [46] ++ Go.Lib.decDigits (u / 256 % 256) ++ [46] ++ Go.Lib.decDigits (u % 256)
theorem part_dot (u : Nat) : partV u 4 = Sp.dotV u := by simp [partV, Sp.dotV]

theorem wraps_i64 (n : Int) (h0 : 0 ≤ n) (h1 : n < 2 ^ 63) : IntKind.i64.wrap n = n := by rw [IntKind.wrap_i64]; omega
theorem and_byte (y : Int) (h0 : 0 ≤ y) (h1 : y < 2 ^ 63) : bits BinOp.and IntKind.i64 y 255 = y % 256 := by
  have h := bits_mask .i64 63 (by decide) wraps_i64 8 (by decide) y h0 h1
  exact h
theorem and_byte0 (u : Nat) (hu : u ≤ 4294967295) : bits BinOp.and IntKind.i64 ((u : Int) / 16777216) 255 = ((u / 16777216 : Nat) : Int) := by
  rw [and_byte _ (by omega) (by omega)]; omega
theorem and_byte1 (u : Nat) (hu : u ≤ 4294967295) : bits BinOp.and IntKind.i64 ((u : Int) / 65536) 255 = ((u / 65536 % 256 : Nat) : Int) := by
  rw [and_byte _ (by omega) (by omega)]; omega
theorem and_byte2 (u : Nat) (hu : u ≤ 4294967295) : bits BinOp.and IntKind.i64 ((u : Int) / 256) 255 = ((u / 256 % 256 : Nat) : Int) := by
  rw [and_byte _ (by omega) (by omega)]; omega
theorem and_byte3 (u : Nat) (hu : u ≤ 4294967295) : bits BinOp.and IntKind.i64 (u : Int) 255 = ((u % 256 : Nat) : Int) := by
  rw [and_byte _ (by omega) (by omega)]; omega
theorem binfo' : (Tryz.prog.info? 5).map (fun i => (i.zero, i.size, i.bytes)) = some (some (.int .u8 0), 1, 1) := by kernel_rfl
theorem part_len (u : Nat) (hu : u ≤ 4294967295) (k : Nat) : (partV u k).length ≤ 60 := by
  have h1 := Sp.dec_length 9 (u / 16777216) (by omega)
  have h2 := Sp.dec_length 9 (u / 65536 % 256) (by omega)
  have h3 := Sp.dec_length 9 (u / 256 % 256) (by omega)
  have h4 := Sp.dec_length 9 (u % 256) (by omega)
  match k with
  | 0 => simp [partV]
  | 1 => simp only [partV, List.length_append, List.length_singleton]; omega
  | 2 => simp only [partV, List.length_append, List.length_singleton]; omega
  | 3 => simp only [partV, List.length_append, List.length_singleton]; omega
  | k + 4 => simp only [partV, List.length_append, List.length_singleton]; omega
theorem own_stringN {w : World} {B : Nat} {v : Value} {b : List UInt8} (h : w.ownsRow B 5 1 v b.length (Lib.byteCells b)) :
    (convert 49 9 v).run Tryz.prog w = .ok (.string ⟨b.toArray⟩) w := by
  rcases h.2 with ⟨rfl, hx⟩ | ⟨g, cap, cur, rfl, _⟩
  · have hb : b = [] := List.length_eq_zero_iff.1 hx
    subst hb
    exact run_convert_bytes_nil (P := Tryz.prog) (w := w) 49 5 Tryz.underlying49 Tryz.underlying5 0 0 9 Tryz.underlying9
  · refine run_convert_bytes_back w 49 9 5 ⟨g, 0, none⟩ cap b Tryz.underlying49 Tryz.underlying5 Tryz.underlying9 ?_
    intro j hj
    refine (h.cells (g := g) rfl) j _ ?_
    simp [Lib.byteCells, hj]

theorem scan_Number_dots (u : Nat) (hu : u ≤ 4294967295) (w : World) (hT : Pow w) :
    Calls Tryz.prog 193 #[.int .i64 (u : Nat), .bool true] w fun e w' => e = .returned (.tuple #[.string ⟨(Sp.dotV u).toArray⟩, .int .i64 0]) ∧ Below w.heap.size w w' := by
  have hTB := Lib.tabBelow_of_tabIs hT
  obtain ⟨x, hx⟩ : ∃ x : Int, (u : Int) = x := ⟨_, rfl⟩
  rw [hx]
  have q1 : decide (x < 0) = false := decide_eq_false (by omega)
  have q2 : decide (x > 4294967295) = false := decide_eq_false (by omega)
  have q3 : decide (4294967295 < x) = false := decide_eq_false (by omega)
  have HT := Lib.hid hTB
  have HX := Lib.hid hx
  clear hT hTB hx
  go_enter Tryz.func193, Tryz.ntmps193
  go_wp2
  go_loopw [6, 7] (fun v6 v7 wr => ∃ (k : Nat), k ≤ 4 ∧ v7 = .int .i64 (24 - 8 * (k : Int)) ∧ wr.ownsRow w.heap.size 5 1 v6 (partV u k).length (Lib.byteCells (partV u k)) ∧ Below w.heap.size w wr) (fun _ v7 _ => ((intOf v7) + 8).toNat)
  case atStart => exact ⟨0, by omega, rfl, World.ownsRow_nil _ _ _ _, Below.refl _ _⟩
  case round =>
    obtain ⟨k, hk, rfl, hown, hbw⟩ := hrel
    have HO := Lib.hid hown
    have HB := Lib.hid hbw
    clear hown hbw
    rcases (show k = 0 ∨ k = 1 ∨ k = 2 ∨ k = 3 ∨ k = 4 by omega) with rfl | rfl | rfl | rfl | rfl
    · obtain ⟨p, hp⟩ : ∃ p, p = u / 16777216 := ⟨_, rfl⟩
      have hp9 : p ≤ 255 := by omega
      have ep : bits BinOp.and IntKind.i64 (x / 16777216) 255 = (p : Int) := by rw [← HX.out, hp]; exact and_byte0 u hu
      have hln := part_len u hu 0
      have HP := Lib.hid hp
      clear hp
      go_wp2_with (go_at_call 195; refine (Tryz.strconv_AppendInt_10 w.heap.size _ (p : Nat) (by omega) (by omega) _ _ _ HO.out HB.out.size (by omega) (HT.out.on HB.out)).mono ?_; rintro e w1 ⟨v1, rfl, hown1, hb1, -⟩; refine Hid.out ?_)
      refine Lib.hid ?_
      rw [Lib.itoa_nonneg, ← List.length_append, ← Lib.byteCells_append] at hown1
      have hl1 : (partV u 0 ++ Go.Lib.decDigits p).length ≤ 100 := by rw [List.length_append]; have := Sp.dec_length 9 p (by omega); omega
      have hB1 := HB.out.trans hb1
      have HB1 := Lib.hid hB1
      obtain ⟨L, hL⟩ : ∃ L, partV u 0 ++ Go.Lib.decDigits p = L := ⟨_, rfl⟩
      rw [hL] at hown1 hl1
      have HL := Lib.hid hL
      have HO1 := Lib.hid hown1
      clear hL ep hp9 hln hB1 hb1 hown1
      obtain ⟨i0, hi, hz0, hz1, hz2⟩ := info_parts binfo'
      have HI := Lib.hid hi
      have HZ := Lib.hid (And.intro hz0 (And.intro hz1 hz2))
      clear hi hz0 hz1 hz2
      go_wp2_with (at_builtin; refine wpList_append_own _ rfl _ _ 49 rfl w.heap.size 5 i0 (.int .u8 0) 1 1 Tryz.underlying49 HI.out HZ.out.1 HZ.out.2.1 HZ.out.2.2 rfl (by decide) _ _ _ rfl (HO1.out.alloc _) ⟨w1.heap.size, 0, none⟩ 1 1 [Value.int .u8 46] rfl rfl (by intro j u' hj; match j, hj with | 0, hj => simp at hj; subst hj; simp [Addr.add]) (by intro u' hu'; simp at hu'; subst hu'; rfl) (by unfold maxLen; omega) (by omega) (by have := HB1.out.size; simp; omega) ?_)
      intro v2 w2 hown2 hgrow _
      have hnx2 : Below w.heap.size w w2 := (HB1.out.alloc HB1.out.size _).grown hgrow (by have := HB1.out.size; simp; omega) (fun k hk => (HO1.out.lt k hk).1)
      have hown3 : w2.ownsRow w.heap.size 5 1 v2 (partV u 1).length (Lib.byteCells (partV u 1)) := by
        have e : partV u 1 = L ++ [46] := by rw [← HL.out, HP.out]; simp [partV]
        rw [e, List.length_append, Lib.byteCells_append]
        exact hown2
      have HO3 := Lib.hid hown3
      have HB3 := Lib.hid hnx2
      clear hown2 hown3 hnx2 hgrow
      go_wp2
      go_roundw
      case rel => exact ⟨1, by omega, by first | rfl | simp, HO3.out, HB3.out⟩
      case measure => simp [intOf]
    · obtain ⟨p, hp⟩ : ∃ p, p = u / 65536 % 256 := ⟨_, rfl⟩
      have hp9 : p ≤ 255 := by omega
      have ep : bits BinOp.and IntKind.i64 (x / 65536) 255 = (p : Int) := by rw [← HX.out, hp]; exact and_byte1 u hu
      have hln := part_len u hu 1
      have HP := Lib.hid hp
      clear hp
      go_wp2_with (go_at_call 195; refine (Tryz.strconv_AppendInt_10 w.heap.size _ (p : Nat) (by omega) (by omega) _ _ _ HO.out HB.out.size (by omega) (HT.out.on HB.out)).mono ?_; rintro e w1 ⟨v1, rfl, hown1, hb1, -⟩; refine Hid.out ?_)
      refine Lib.hid ?_
      rw [Lib.itoa_nonneg, ← List.length_append, ← Lib.byteCells_append] at hown1
      have hl1 : (partV u 1 ++ Go.Lib.decDigits p).length ≤ 100 := by rw [List.length_append]; have := Sp.dec_length 9 p (by omega); omega
      have hB1 := HB.out.trans hb1
      have HB1 := Lib.hid hB1
      obtain ⟨L, hL⟩ : ∃ L, partV u 1 ++ Go.Lib.decDigits p = L := ⟨_, rfl⟩
      rw [hL] at hown1 hl1
      have HL := Lib.hid hL
      have HO1 := Lib.hid hown1
      clear hL ep hp9 hln hB1 hb1 hown1
      obtain ⟨i0, hi, hz0, hz1, hz2⟩ := info_parts binfo'
      have HI := Lib.hid hi
      have HZ := Lib.hid (And.intro hz0 (And.intro hz1 hz2))
      clear hi hz0 hz1 hz2
      go_wp2_with (at_builtin; refine wpList_append_own _ rfl _ _ 49 rfl w.heap.size 5 i0 (.int .u8 0) 1 1 Tryz.underlying49 HI.out HZ.out.1 HZ.out.2.1 HZ.out.2.2 rfl (by decide) _ _ _ rfl (HO1.out.alloc _) ⟨w1.heap.size, 0, none⟩ 1 1 [Value.int .u8 46] rfl rfl (by intro j u' hj; match j, hj with | 0, hj => simp at hj; subst hj; simp [Addr.add]) (by intro u' hu'; simp at hu'; subst hu'; rfl) (by unfold maxLen; omega) (by omega) (by have := HB1.out.size; simp; omega) ?_)
      intro v2 w2 hown2 hgrow _
      have hnx2 : Below w.heap.size w w2 := (HB1.out.alloc HB1.out.size _).grown hgrow (by have := HB1.out.size; simp; omega) (fun k hk => (HO1.out.lt k hk).1)
      have hown3 : w2.ownsRow w.heap.size 5 1 v2 (partV u 2).length (Lib.byteCells (partV u 2)) := by
        have e : partV u 2 = L ++ [46] := by rw [← HL.out, HP.out]; simp [partV]
        rw [e, List.length_append, Lib.byteCells_append]
        exact hown2
      have HO3 := Lib.hid hown3
      have HB3 := Lib.hid hnx2
      clear hown2 hown3 hnx2 hgrow
      go_wp2
      go_roundw
      case rel => exact ⟨2, by omega, by first | rfl | simp, HO3.out, HB3.out⟩
      case measure => simp [intOf]
    · obtain ⟨p, hp⟩ : ∃ p, p = u / 256 % 256 := ⟨_, rfl⟩
      have hp9 : p ≤ 255 := by omega
      have ep : bits BinOp.and IntKind.i64 (x / 256) 255 = (p : Int) := by rw [← HX.out, hp]; exact and_byte2 u hu
      have hln := part_len u hu 2
      have HP := Lib.hid hp
      clear hp
      go_wp2_with (go_at_call 195; refine (Tryz.strconv_AppendInt_10 w.heap.size _ (p : Nat) (by omega) (by omega) _ _ _ HO.out HB.out.size (by omega) (HT.out.on HB.out)).mono ?_; rintro e w1 ⟨v1, rfl, hown1, hb1, -⟩; refine Hid.out ?_)
      refine Lib.hid ?_
      rw [Lib.itoa_nonneg, ← List.length_append, ← Lib.byteCells_append] at hown1
      have hl1 : (partV u 2 ++ Go.Lib.decDigits p).length ≤ 100 := by rw [List.length_append]; have := Sp.dec_length 9 p (by omega); omega
      have hB1 := HB.out.trans hb1
      have HB1 := Lib.hid hB1
      obtain ⟨L, hL⟩ : ∃ L, partV u 2 ++ Go.Lib.decDigits p = L := ⟨_, rfl⟩
      rw [hL] at hown1 hl1
      have HL := Lib.hid hL
      have HO1 := Lib.hid hown1
      clear hL ep hp9 hln hB1 hb1 hown1
      obtain ⟨i0, hi, hz0, hz1, hz2⟩ := info_parts binfo'
      have HI := Lib.hid hi
      have HZ := Lib.hid (And.intro hz0 (And.intro hz1 hz2))
      clear hi hz0 hz1 hz2
      go_wp2_with (at_builtin; refine wpList_append_own _ rfl _ _ 49 rfl w.heap.size 5 i0 (.int .u8 0) 1 1 Tryz.underlying49 HI.out HZ.out.1 HZ.out.2.1 HZ.out.2.2 rfl (by decide) _ _ _ rfl (HO1.out.alloc _) ⟨w1.heap.size, 0, none⟩ 1 1 [Value.int .u8 46] rfl rfl (by intro j u' hj; match j, hj with | 0, hj => simp at hj; subst hj; simp [Addr.add]) (by intro u' hu'; simp at hu'; subst hu'; rfl) (by unfold maxLen; omega) (by omega) (by have := HB1.out.size; simp; omega) ?_)
      intro v2 w2 hown2 hgrow _
      have hnx2 : Below w.heap.size w w2 := (HB1.out.alloc HB1.out.size _).grown hgrow (by have := HB1.out.size; simp; omega) (fun k hk => (HO1.out.lt k hk).1)
      have hown3 : w2.ownsRow w.heap.size 5 1 v2 (partV u 3).length (Lib.byteCells (partV u 3)) := by
        have e : partV u 3 = L ++ [46] := by rw [← HL.out, HP.out]; simp [partV]
        rw [e, List.length_append, Lib.byteCells_append]
        exact hown2
      have HO3 := Lib.hid hown3
      have HB3 := Lib.hid hnx2
      clear hown2 hown3 hnx2 hgrow
      go_wp2
      go_roundw
      case rel => exact ⟨3, by omega, by first | rfl | simp, HO3.out, HB3.out⟩
      case measure => simp [intOf]
    · obtain ⟨p, hp⟩ : ∃ p, p = u % 256 := ⟨_, rfl⟩
      have hp9 : p ≤ 255 := by omega
      have ep : bits BinOp.and IntKind.i64 (x) 255 = (p : Int) := by rw [← HX.out, hp]; exact and_byte3 u hu
      have hln := part_len u hu 3
      have HP := Lib.hid hp
      clear hp
      go_wp2_with (go_at_call 195; refine (Tryz.strconv_AppendInt_10 w.heap.size _ (p : Nat) (by omega) (by omega) _ _ _ HO.out HB.out.size (by omega) (HT.out.on HB.out)).mono ?_; rintro e w1 ⟨v1, rfl, hown1, hb1, -⟩; refine Hid.out ?_)
      refine Lib.hid ?_
      rw [Lib.itoa_nonneg, ← List.length_append, ← Lib.byteCells_append] at hown1
      have hl1 : (partV u 3 ++ Go.Lib.decDigits p).length ≤ 100 := by rw [List.length_append]; have := Sp.dec_length 9 p (by omega); omega
      have hB1 := HB.out.trans hb1
      have HB1 := Lib.hid hB1
      have hown3 : w1.ownsRow w.heap.size 5 1 v1 (partV u 4).length (Lib.byteCells (partV u 4)) := by
        have e : partV u 4 = partV u 3 ++ Go.Lib.decDigits p := by rw [HP.out]; rfl
        rw [e]
        exact hown1
      have HO3 := Lib.hid hown3
      clear hown1 hown3 hB1 hb1 hl1 hln ep hp9
      go_wp2
      go_roundw
      case rel => exact ⟨4, by omega, by first | rfl | simp, HO3.out, HB1.out⟩
      case measure => simp [intOf]
    · have hsz : (partV u 4).length = (Sp.dotV u).length := by rw [part_dot]
      have hown := HO.out
      rw [part_dot] at hown
      have hcv := own_stringN hown
      have HO4 := Lib.hid hown
      clear hown hsz
      go_wp2
      go_ret2
      exact ⟨rfl, HB.out⟩
end Go.Proofs.YtdmpapoabeljfaaGreatDoor
