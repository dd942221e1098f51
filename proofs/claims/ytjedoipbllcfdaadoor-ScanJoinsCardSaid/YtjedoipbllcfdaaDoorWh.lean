/-
  THE WALKS of strconv.ParseUint at bases 16 and 2 (the library's), as chapter 3's numbers call it (written by wip/gen/parseuint.py).
-/
import Derived.Test.YtjedoipbllcfdaaDoorWg
import Derived.Lib.ConvBytes
import Derived.Lib.Walk
set_option linter.unusedVariables false
set_option linter.unusedSimpArgs false
set_option maxRecDepth 100000
set_option maxHeartbeats 8000000
namespace Go.Proofs.YtjedoipbllcfdaaDoor
open Go.RowKit

theorem lower_low (n : Nat) (h : 97 ≤ n ∧ n ≤ 102) : bits .or .u8 (n : Int) 32 = n := by
  have : n = 97 ∨ n = 98 ∨ n = 99 ∨ n = 100 ∨ n = 101 ∨ n = 102 := by omega
  rcases this with rfl | rfl | rfl | rfl | rfl | rfl <;> decide
theorem lower_up (n : Nat) (h : 65 ≤ n ∧ n ≤ 70) : bits .or .u8 (n : Int) 32 = n + 32 := by
  have : n = 65 ∨ n = 66 ∨ n = 67 ∨ n = 68 ∨ n = 69 ∨ n = 70 := by omega
  rcases this with rfl | rfl | rfl | rfl | rfl | rfl <;> decide
theorem hexv_cases (c : UInt8) (h : Sp.hexv c < 16) : (48 ≤ c.toNat ∧ c.toNat ≤ 57 ∧ Sp.hexv c = c.toNat - 48) ∨ (97 ≤ c.toNat ∧ c.toNat ≤ 102 ∧ Sp.hexv c = c.toNat - 87) ∨ (65 ≤ c.toNat ∧ c.toNat ≤ 70 ∧ Sp.hexv c = c.toNat - 55) := by
  unfold Sp.hexv at h ⊢
  split
  · rename_i h1; exact Or.inl ⟨h1.1, h1.2, rfl⟩
  · split
    · rename_i h1; exact Or.inr (Or.inl ⟨h1.1, h1.2, rfl⟩)
    · split
      · rename_i h1; exact Or.inr (Or.inr ⟨h1.1, h1.2, rfl⟩)
      · exfalso; rename_i h1 h2 h3; rw [if_neg h1, if_neg h2, if_neg h3] at h; omega

/-- What ParseUint hands back at hexadecimal digits: the number, or the syntax's error. -/
def puV (base : Nat) (l : List UInt8) : Value := if l.all (fun c => decide (Sp.hexv c < base)) then .tuple #[.int .u64 (Sp.digitsV base 0 l : Nat), .nilIface] else .tuple #[.int .u64 0, .iface 129 (.int .i64 2)]
theorem puV_ok {base : Nat} {l : List UInt8} (h : l.all (fun c => decide (Sp.hexv c < base)) = true) : puV base l = .tuple #[.int .u64 (Sp.digitsV base 0 l : Nat), .nilIface] := by unfold puV; rw [if_pos h]
theorem puV_bad {base : Nat} {l : List UInt8} {k : Nat} (hk : k < l.length) (h : ¬ Sp.hexv (l[k]'hk) < base) : puV base l = .tuple #[.int .u64 0, .iface 129 (.int .i64 2)] := by
  unfold puV
  rw [if_neg]
  intro hh
  exact h (of_decide_eq_true (List.all_eq_true.1 hh _ (List.getElem_mem hk)))
theorem all_snoc {p : UInt8 → Bool} {m : List UInt8} {k : Nat} (h : k < m.length) (ha : (m.take k).all p = true) (hx : p (m[k]'h) = true) : (m.take (k + 1)).all p = true := by
  rw [List.take_succ_eq_append_getElem h, List.all_append, ha]
  simp [hx]

theorem parse_uint_16 (t : ByteArray) (hne : t.size ≠ 0) (hmax : t.size ≤ 8) (hx : t.data.toList.all (fun c => decide (Sp.hexv c < 16)) = true) (w : World) :
    Calls Tryd.prog 89 #[.string t, .int .i64 16, .int .i64 64] w fun e w' => e = .returned (puV 16 t.data.toList) ∧ w' = Lib.bytesWorld w 5 t := by
  have hemp : t.toList.isEmpty = false := by
    rw [← decide_eq_emptyBytes]
    exact decide_eq_false (fun h => hne (by rw [h]; rfl))
  have hcv := Lib.run_convert_string_bytes (P := Tryd.prog) w 9 50 5 t (u := .string) Tryd.underlying9 Tryd.underlying50 Tryd.underlying5
  have hB : ∀ j, j < t.size → (Lib.bytesWorld w 5 t).cell? ⟨w.heap.size, j, none⟩ = some (.int .u8 (t.data.toList.getD j 0).toNat) := fun j hj => Lib.bytesWorld_cell w 5 t j hj
  obtain ⟨W1, hW1⟩ : ∃ W1, W1 = Lib.bytesWorld w 5 t := ⟨_, rfl⟩
  rw [← hW1] at hcv hB ⊢
  clear hW1
  obtain ⟨bs, hL⟩ : ∃ bs, bs = t.data.toList := ⟨_, rfl⟩
  have hLn : bs.length = t.size := by rw [hL, Lib.size_eq]
  rw [← hL] at hB hx ⊢
  clear hL
  have HX := Lib.hid hx
  have HL := Lib.hid hLn
  have HB := Lib.hid hB
  clear hx hLn hB
  have hmv : IntKind.u64.wrap (IntKind.u64.wrap 18446744073709551616 - 1) = 18446744073709551615 := by
    rw [IntKind.wrap_u64, IntKind.wrap_u64]
    decide
  go_enter Tryd.func89, Tryd.ntmps89
  go_wp2
  go_loop [12, 13, 101] (fun vu vn vi => ∃ (k : Nat) (a : Int), vu = .bool false ∧ vn = .int .u64 a ∧ vi = .int .i64 k ∧ k ≤ t.size ∧ 0 ≤ a ∧ Hid (a = (Sp.digitsV 16 0 (bs.take k) : Nat) ∧ (bs.take k).all (fun c => decide (Sp.hexv c < 16)) = true))
    (fun _ _ vi => t.size - (intOf vi).toNat)
  case atStart => exact ⟨0, 0, rfl, rfl, rfl, by omega, by omega, rfl, rfl⟩
  case round =>
    obtain ⟨k, a, rfl, rfl, rfl, hk, ha0, H⟩ := hrel
    by_cases hkn : k < t.size
    · have hkm : k < bs.length := by have := HL.out; omega
      have ha1 : a ≤ 268435455 := by
        have h1 := Sp.digitsV_lt 16 (by omega) _ H.out.2 7 (by rw [List.length_take]; omega)
        have h2 := H.out.1
        have h3 : (16 : Nat) ^ 7 = 268435456 := by decide
        omega
      have hc := HB.out k hkn
      have hget : bs.getD k 0 = bs[k]'hkm := by rw [List.getD_eq_getElem?_getD, List.getElem?_eq_getElem hkm]; rfl
      have hx16 : Sp.hexv (bs[k]'hkm) < 16 := of_decide_eq_true (List.all_eq_true.1 HX.out _ (List.getElem_mem hkm))
      have hcs := hexv_cases _ hx16
      rw [hget] at hc
      have hdg := Sp.digits_snoc 16 bs k hkm
      have hal := fun hx => all_snoc (p := fun c => decide (Sp.hexv c < 16)) hkm H.out.2 hx
      have hbd := fun hx => puV_bad (base := 16) hkm hx
      obtain ⟨c, hce⟩ : ∃ c, bs[k]'hkm = c := ⟨_, rfl⟩
      rw [hce] at hc hcs hdg hal hbd
      clear hget hx16 hce
      obtain ⟨x, hxv⟩ : ∃ x, Sp.hexv c = x := ⟨_, rfl⟩
      rw [hxv] at hcs hdg hal hbd
      have HN : Hid (x < 16 → 16 * a + x = (Sp.digitsV 16 0 (bs.take (k + 1)) : Nat) ∧ (bs.take (k + 1)).all (fun c => decide (Sp.hexv c < 16)) = true) := by
        intro hh
        refine ⟨?_, hal (decide_eq_true hh)⟩
        rw [hdg, H.out.1]
        simp
      have HBD := Lib.hid hbd
      clear hdg hal hbd hxv
      obtain ⟨z, hz⟩ : ∃ z : Int, (c.toNat : Int) = z := ⟨_, rfl⟩
      have hlow := lower_low c.toNat
      have hup := lower_up c.toNat
      rw [hz] at hc hlow hup
      have q95 : (z == 95) = false := beq_eq_false_iff_ne.2 (by omega)
      rcases hcs with g | g | g
      · skip
        obtain ⟨g1, g2, g3⟩ := g
        have hz1 : 48 ≤ z := by omega
        have hz2 : z ≤ 57 := by omega
        have hxz : (x : Int) = z - 48 := by omega
        have p1 : decide ((48 : Int) ≤ z) = true := decide_eq_true (by omega)
        have p2 : decide (z ≤ 57) = true := decide_eq_true (by omega)
        have HXZ := Lib.hid hxz
        clear hxz g1 g2 g3 hlow hup hz
        have e16 : decide ((16 : Int) ≤ z - 48) = false := decide_eq_false (by omega)
        (go_wp2_with (go_at_call 108; refine (Tryd.internal_strconv_lower _ _).mono ?_; rintro e w' ⟨rfl, rfl⟩)); all_goals (try (exfalso; omega))
        refine ⟨⟨k + 1, 16 * a + (z - 48), rfl, (by first | rfl | (congr 1; omega)), (by first | rfl | (congr 1; omega)), by omega, by omega, ?_⟩, by simp [intOf]; omega⟩
        have h1 := HN.out (by have := HXZ.out; omega)
        rw [HXZ.out] at h1
        exact h1
      · skip
        obtain ⟨g1, g2, g3⟩ := g
        have hz1 : 97 ≤ z := by omega
        have hz2 : z ≤ 102 := by omega
        have hxz : (x : Int) = z - 97 + 10 := by omega
        have p1 : decide ((48 : Int) ≤ z) = true := decide_eq_true (by omega)
        have p2 : decide (z ≤ 57) = false := decide_eq_false (by omega)
        have p3 : decide ((97 : Int) ≤ z) = true := decide_eq_true (by omega)
        have p4 : decide (z ≤ 122) = true := decide_eq_true (by omega)
        have hlw := hlow ⟨by omega, by omega⟩
        have HXZ := Lib.hid hxz
        clear hxz g1 g2 g3 hlow hup hz
        have e16 : decide ((16 : Int) ≤ z - 97 + 10) = false := decide_eq_false (by omega)
        (go_wp2_with (go_at_call 108; refine (Tryd.internal_strconv_lower _ _).mono ?_; rintro e w' ⟨rfl, rfl⟩)); all_goals (try (exfalso; omega))
        refine ⟨⟨k + 1, 16 * a + (z - 97 + 10), rfl, (by first | rfl | (congr 1; omega)), (by first | rfl | (congr 1; omega)), by omega, by omega, ?_⟩, by simp [intOf]; omega⟩
        have h1 := HN.out (by have := HXZ.out; omega)
        rw [HXZ.out] at h1
        exact h1
      · skip
        obtain ⟨g1, g2, g3⟩ := g
        have hz1 : 65 ≤ z := by omega
        have hz2 : z ≤ 70 := by omega
        have hxz : (x : Int) = z + 32 - 97 + 10 := by omega
        have p1 : decide ((48 : Int) ≤ z) = true := decide_eq_true (by omega)
        have p2 : decide (z ≤ 57) = false := decide_eq_false (by omega)
        have p3 : decide ((97 : Int) ≤ z + 32) = true := decide_eq_true (by omega)
        have p4 : decide (z + 32 ≤ 122) = true := decide_eq_true (by omega)
        have hlw := hup ⟨by omega, by omega⟩
        have HXZ := Lib.hid hxz
        clear hxz g1 g2 g3 hlow hup hz
        have e16 : decide ((16 : Int) ≤ z + 32 - 97 + 10) = false := decide_eq_false (by omega)
        (go_wp2_with (go_at_call 108; refine (Tryd.internal_strconv_lower _ _).mono ?_; rintro e w' ⟨rfl, rfl⟩)); all_goals (try (exfalso; omega))
        refine ⟨⟨k + 1, 16 * a + (z + 32 - 97 + 10), rfl, (by first | rfl | (congr 1; omega)), (by first | rfl | (congr 1; omega)), by omega, by omega, ?_⟩, by simp [intOf]; omega⟩
        have h1 := HN.out (by have := HXZ.out; omega)
        rw [HXZ.out] at h1
        exact h1
    · have hkk : k = t.size := by omega
      have hv : puV 16 bs = .tuple #[.int .u64 a, .nilIface] := by
        have h2 := H.out.2
        have h1 := H.out.1
        rw [hkk, ← HL.out, List.take_length] at h1 h2
        rw [puV_ok h2, h1]
      have HV := Lib.hid hv
      clear hv
      subst hkk
      go_wp2
      go_ret2
      exact ⟨congrArg Ending.returned HV.out.symm, rfl⟩
end Go.Proofs.YtjedoipbllcfdaaDoor
