/-
  Texts joined: Wb Wc Wd We Wf.
-/
import Derived.Test.YtdmpapoabeljfaaGreatDoorWsize
import Derived.Test.YtdmpapoabeljfaaGreatDoorPa
import Derived.Laws.BytesString
import Derived.Deep.RegionWith
import Derived.BigQuiet
import Derived.Deep.RegionHeld3

/-
  THE WALKS of the reference's escapes (chapter 3).
-/
set_option linter.unusedVariables false
set_option linter.unusedSimpArgs false
set_option maxRecDepth 100000
set_option maxHeartbeats 1000000
namespace Go.Proofs.YtdmpapoabeljfaaGreatDoor
open Go.RowKit

/-- 'string' of the bytes that a new block holds. -/
theorem str_lit (w : World) (zs : List Int) :
    (convert 49 9 (.slice (some ⟨w.heap.size, 0, none⟩) zs.length zs.length)).run Tryz.prog (w.alloc (.cells (zs.map (Value.int .u8)).toArray 5)) = .ok (.string (strOfNums zs)) (w.alloc (.cells (zs.map (Value.int .u8)).toArray 5)) :=
  run_convert_bytes_arg (P := Tryz.prog) (w.alloc (.cells (zs.map (Value.int .u8)).toArray 5)) 49 5 Tryz.underlying49 Tryz.underlying5 w.heap.size 0 zs.length zs.length zs rfl
    (fun i hi => by rw [Nat.zero_add, World.cell?_alloc_mark]; simp [List.getElem?_eq_getElem hi]) 9 Tryz.underlying9

theorem str_enc (r : Int) (zs : List Int) (h : Lib.encodeRuneZ r = zs) : Value.string (strOfNums zs) = .string ⟨(Lib.encodeRune r).toArray⟩ := by
  subst h
  rfl

theorem ref3_utf1 (r : Int) (w : World) (h1 : 0 ≤ r) (h2 : r < 128) :
    Calls Tryz.prog 118 #[.int .i64 r] w fun e w' => e = .returned (.string ⟨(Lib.encodeRune r).toArray⟩) ∧ Below w.heap.size w w' := by
  have hz : Lib.encodeRuneZ r = [r] := Lib.encodeRuneZ_one (by omega) (by omega)
  have HZ := Lib.hid hz
  clear hz
  have hcv := str_lit w [r]
  simp only [List.map_cons, List.map_nil, List.length_cons, List.length_nil, Nat.zero_add, Nat.reduceAdd] at hcv
  go_enter Tryz.func118, Tryz.ntmps118
  go_wp2
  go_ret
  exact ⟨congrArg Ending.returned (str_enc _ _ HZ.out), (Below.refl _ _).alloc (Nat.le_refl _) _⟩
theorem ref3_utf2 (r : Int) (w : World) (h1 : 128 ≤ r) (h2 : r < 2048) :
    Calls Tryz.prog 118 #[.int .i64 r] w fun e w' => e = .returned (.string ⟨(Lib.encodeRune r).toArray⟩) ∧ Below w.heap.size w w' := by
  have hz : Lib.encodeRuneZ r = [192 + r / 64, 128 + r % 64] := Lib.encodeRuneZ_two (by omega) (by omega)
  have HZ := Lib.hid hz
  clear hz
  have hcv := str_lit w [192 + r / 64, 128 + r % 64]
  simp only [List.map_cons, List.map_nil, List.length_cons, List.length_nil, Nat.zero_add, Nat.reduceAdd] at hcv
  go_enter Tryz.func118, Tryz.ntmps118
  go_wp2
  go_ret
  exact ⟨congrArg Ending.returned (str_enc _ _ HZ.out), (Below.refl _ _).alloc (Nat.le_refl _) _⟩
theorem ref3_utf3 (r : Int) (w : World) (h1 : 2048 ≤ r) (h2 : r < 65536) (hv : r < 55296 ∨ 57343 < r) :
    Calls Tryz.prog 118 #[.int .i64 r] w fun e w' => e = .returned (.string ⟨(Lib.encodeRune r).toArray⟩) ∧ Below w.heap.size w w' := by
  have hz : Lib.encodeRuneZ r = [224 + r / 4096, 128 + r / 64 % 64, 128 + r % 64] := Lib.encodeRuneZ_three (by omega)
  have HZ := Lib.hid hz
  clear hz
  have hcv := str_lit w [224 + r / 4096, 128 + r / 64 % 64, 128 + r % 64]
  simp only [List.map_cons, List.map_nil, List.length_cons, List.length_nil, Nat.zero_add, Nat.reduceAdd] at hcv
  go_enter Tryz.func118, Tryz.ntmps118
  go_wp2
  go_ret
  exact ⟨congrArg Ending.returned (str_enc _ _ HZ.out), (Below.refl _ _).alloc (Nat.le_refl _) _⟩
theorem ref3_utf4 (r : Int) (w : World) (h1 : 65536 ≤ r) (h2 : r ≤ 1114111) :
    Calls Tryz.prog 118 #[.int .i64 r] w fun e w' => e = .returned (.string ⟨(Lib.encodeRune r).toArray⟩) ∧ Below w.heap.size w w' := by
  have hz : Lib.encodeRuneZ r = [240 + r / 262144, 128 + r / 4096 % 64, 128 + r / 64 % 64, 128 + r % 64] := Lib.encodeRuneZ_four (by omega) (by omega)
  have HZ := Lib.hid hz
  clear hz
  have hcv := str_lit w [240 + r / 262144, 128 + r / 4096 % 64, 128 + r / 64 % 64, 128 + r % 64]
  simp only [List.map_cons, List.map_nil, List.length_cons, List.length_nil, Nat.zero_add, Nat.reduceAdd] at hcv
  go_enter Tryz.func118, Tryz.ntmps118
  go_wp2
  go_ret
  exact ⟨congrArg Ending.returned (str_enc _ _ HZ.out), (Below.refl _ _).alloc (Nat.le_refl _) _⟩
theorem ref3_utf (r : Int) (w : World) (h0 : 0 ≤ r) (h1 : r ≤ 1114111) (hv : r < 55296 ∨ 57343 < r) :
    Calls Tryz.prog 118 #[.int .i64 r] w fun e w' => e = .returned (.string ⟨(Lib.encodeRune r).toArray⟩) ∧ Below w.heap.size w w' := by
  by_cases c1 : r < 128
  · exact ref3_utf1 r w h0 c1
  by_cases c2 : r < 2048
  · exact ref3_utf2 r w (by omega) c2
  by_cases c3 : r < 65536
  · exact ref3_utf3 r w (by omega) c3 hv
  · exact ref3_utf4 r w (by omega) h1

end Go.Proofs.YtdmpapoabeljfaaGreatDoor

/-
  THE WALK of reachref3.braced (chapter 3).
-/
set_option linter.unusedVariables false
set_option linter.unusedSimpArgs false
set_option maxRecDepth 100000
set_option maxHeartbeats 2000000
namespace Go.Proofs.YtdmpapoabeljfaaGreatDoor
open Go.RowKit

theorem ret_ii {a b c d : Int} (h1 : a = b) (h2 : c = d) : Ending.returned (.tuple #[.int .i64 a, .int .i64 c]) = .returned (.tuple #[.int .i64 b, .int .i64 d]) := by rw [h1, h2]

theorem ref3_braced_no (s : ByteArray) (n : Nat) (w : World) (hs : s.size ≤ 4611686018427387904) (hn : (n : Int) ≤ 4611686018427387904) (hno : ¬ (n + 2 < s.size ∧ Sp.bt s.data.toList (n + 2) = 123)) :
    Calls Tryz.prog 117 #[.string s, .int .i64 n] w fun e w' => e = .returned (.tuple #[.int .i64 0, .int .i64 0]) ∧ w = w' := by
  by_cases h2 : n + 2 < s.size
  · have hb := Sp.bt_idx s (n + 2) h2
    have q : (((s[n + 2]'h2).toNat : Int) != 123) = true := by rw [bne_iff_ne]; intro h; exact hno ⟨h2, by omega⟩
    clear hb hno
    go_enter Tryz.func117, Tryz.ntmps117
    go_wp2
    go_ret2
    exact ⟨rfl, rfl⟩
  · go_enter Tryz.func117, Tryz.ntmps117
    go_wp2
    go_ret2
    exact ⟨rfl, rfl⟩

theorem br_key (s : ByteArray) (n : Nat) (m : List UInt8) (k : Nat) (a : Int) (hO : Sp.brO (s.data.toList.drop n) = Sp.bracedV m) (hR : Sp.bracedR m k = Sp.bracedV m) (ha : a = (Sp.digitsV 16 0 (m.take k) : Nat))
    (hlt : n + 3 + k < s.size) (hkm : k < m.length) (hb : Sp.bt m k = (s[n + 3 + k]'hlt).toNat) :
    ((k = 0 ∨ (s[n + 3 + k]'hlt).toNat ≠ 125 ∨ 1114111 < a ∨ (55296 ≤ a ∧ a ≤ 57343)) → Sp.brK (s.data.toList.drop n) = 0 ∧ Sp.brN (s.data.toList.drop n) = 0) ∧
    (¬ (k = 0 ∨ (s[n + 3 + k]'hlt).toNat ≠ 125 ∨ 1114111 < a ∨ (55296 ≤ a ∧ a ≤ 57343)) → (Sp.brK (s.data.toList.drop n) : Int) = k + 4 ∧ (Sp.brN (s.data.toList.drop n) : Int) = a) := by
  have hv : (Sp.validRune (Sp.digitsV 16 0 (m.take k)) = false) ↔ (1114111 < a ∨ (55296 ≤ a ∧ a ≤ 57343)) := by
    unfold Sp.validRune
    rw [decide_eq_false_iff_not]
    omega
  have hC : (k = 0 ∨ m.length ≤ k ∨ Sp.bt m k ≠ 125 ∨ Sp.validRune (Sp.digitsV 16 0 (m.take k)) = false) ↔ (k = 0 ∨ (s[n + 3 + k]'hlt).toNat ≠ 125 ∨ 1114111 < a ∨ (55296 ≤ a ∧ a ≤ 57343)) := by
    rw [hb, hv]
    omega
  unfold Sp.brK Sp.brN
  rw [hO, ← hR]
  unfold Sp.bracedR
  constructor
  · intro h
    rw [if_pos (hC.2 h)]
    exact ⟨rfl, rfl⟩
  · intro h
    rw [if_neg (fun g => h (hC.1 g))]
    exact ⟨by simp, ha.symm⟩
theorem br_zero (s : ByteArray) (n : Nat) (m : List UInt8) (k : Nat) (hO : Sp.brO (s.data.toList.drop n) = Sp.bracedV m) (hR : Sp.bracedR m k = Sp.bracedV m) (hkm : m.length ≤ k) :
    Sp.brK (s.data.toList.drop n) = 0 ∧ Sp.brN (s.data.toList.drop n) = 0 := by
  unfold Sp.brK Sp.brN
  rw [hO, ← hR]
  unfold Sp.bracedR
  rw [if_pos (Or.inr (Or.inl hkm))]
  exact ⟨rfl, rfl⟩
theorem hexAll_le {m : List UInt8} {k : Nat} (h : Sp.hexAll (m.take k) = true) (j : Nat) (hj : (m.take k).length ≤ j) : Sp.digitsV 16 0 (m.take k) < 16 ^ j := Sp.digitsV_lt 16 (by omega) _ h j hj
theorem take_le (m : List UInt8) (k : Nat) : (m.take k).length ≤ k := by rw [List.length_take]; omega

theorem ref3_braced_yes (s : ByteArray) (n : Nat) (w : World) (hs : s.size ≤ 4611686018427387904) (h2 : n + 2 < s.size) (hb : Sp.bt s.data.toList (n + 2) = 123) :
    Calls Tryz.prog 117 #[.string s, .int .i64 n] w fun e w' => e = .returned (.tuple #[.int .i64 (Sp.brK (s.data.toList.drop n)), .int .i64 (Sp.brN (s.data.toList.drop n))]) ∧ w = w' := by
  have q : (((s[n + 2]'h2).toNat : Int) != 123) = false := by rw [bne_eq_false_iff_eq, Sp.bt_idx]; omega
  obtain ⟨m, hm⟩ : ∃ m, m = s.data.toList.drop (n + 3) := ⟨_, rfl⟩
  have hlen : m.length + (n + 3) = s.size := by rw [hm, List.length_drop, ← Lib.size_eq]; omega
  have hO : Sp.brO (s.data.toList.drop n) = Sp.bracedV m := by
    unfold Sp.brO
    rw [if_pos ⟨by rw [List.length_drop, ← Lib.size_eq]; omega, by rw [Sp.bt_drop]; exact hb⟩, List.drop_drop, hm]
  have hmi : ∀ (k : Nat) (h : n + 3 + k < s.size) (h' : k < m.length), m[k]'h' = s[n + 3 + k]'h := by
    intro k h h'
    subst hm
    rw [List.getElem_drop, Sp.get_idx s (n + 3 + k) h (by rw [← Lib.size_eq]; exact h)]
  have HO := Lib.hid hO
  have HM := Lib.hid hm
  have HMI := Lib.hid hmi
  have HL := Lib.hid hlen
  clear hO hm hmi hlen hb
  go_enter Tryz.func117, Tryz.ntmps117
  go_wp2
  · exfalso; omega
  go_loop [6, 7] (fun v6 v7 => ∃ (k : Nat) (a : Int), k ≤ 6 ∧ n + 3 + k ≤ s.size ∧ v7 = .int .i64 ((n : Int) + 3 + k) ∧ v6 = .int .i64 a ∧ 0 ≤ a ∧ Hid (a = (Sp.digitsV 16 0 (m.take k) : Nat) ∧ Sp.hexAll (m.take k) = true))
    (fun _ v7 => s.size - (intOf v7).toNat)
  case atStart => exact ⟨0, 0, by omega, by omega, by go_num, rfl, by omega, rfl, rfl⟩
  case round =>
    obtain ⟨k, a, hk, hj, rfl, rfl, ha0, H⟩ := hrel
    have hbound : a ≤ 16777215 := by
      have := hexAll_le H.out.2 6 (Nat.le_trans (take_le m k) hk)
      have := H.out.1
      omega
    by_cases hlt : n + 3 + k < s.size
    · have hkm : k < m.length := by have := HL.out; omega
      have hck := HMI.out k hlt hkm
      by_cases hx : Sp.hexv (s[n + 3 + k]'hlt) < 16
      · obtain ⟨d, hd⟩ : ∃ d : Int, Sp.hexZ (s[n + 3 + k]'hlt) = d := ⟨_, rfl⟩
        have hd0 : 0 ≤ d := by rw [← hd, Sp.hexZ_pos _ hx]; omega
        have hd1 : d ≤ 15 := by rw [← hd, Sp.hexZ_pos _ hx]; omega
        have hdv : d = (Sp.hexv (m[k]'hkm) : Nat) := by rw [← hd, Sp.hexZ_pos _ hx, hck]
        have HX := Lib.hid hx
        have HC := Lib.hid hck
        have HDV := Lib.hid hdv
        clear hx hck hdv
        by_cases hk6 : k < 6
        · have hb5 : a ≤ 1048575 := by
            have := hexAll_le H.out.2 5 (Nat.le_trans (take_le m k) (by omega))
            have := H.out.1
            omega
          go_wp2_with (go_at_call 98; refine (ref3_hex _ _).mono ?_; rintro e w' ⟨rfl, rfl⟩)
          go_round
          case rel =>
            refine ⟨k + 1, 16 * a + d, by omega, by omega, by go_num, rfl, by omega, ?_, ?_⟩
            · rw [Sp.digits_snoc 16 m k hkm, HDV.out, H.out.1]; simp
            · exact Sp.hexAll_snoc m k hkm H.out.2 (by rw [HC.out]; exact HX.out)
          case measure => simp [intOf]; omega
        · have KEY := Lib.hid (br_key s n m k a HO.out (Sp.bracedR_eq m k hk (by omega) H.out.2 (Or.inr (Or.inl (by omega)))) H.out.1 hlt (by have := HL.out; omega) (by rw [Sp.bt_get m k hkm, HC.out]))
          have q0 : ((n : Int) + 3 + k == (n : Int) + 3) = false := beq_eq_false_iff_ne.2 (by omega)
          go_wp2_with (go_at_call 98; refine (ref3_hex _ _).mono ?_; rintro e w' ⟨rfl, rfl⟩)
          all_goals (go_ret2; first | (obtain ⟨e1, e2⟩ := KEY.out.1 (by omega); exact ⟨ret_ii (by omega) (by omega), rfl⟩) | (obtain ⟨e1, e2⟩ := KEY.out.2 (by omega); exact ⟨ret_ii (by omega) (by omega), rfl⟩))
      · have hd := Sp.hexZ_neg _ hx
        have KEY := Lib.hid (br_key s n m k a HO.out (Sp.bracedR_eq m k hk (by omega) H.out.2 (Or.inr (Or.inr ⟨hkm, by rw [hck]; exact hx⟩))) H.out.1 hlt (by have := HL.out; omega) (by rw [Sp.bt_get m k hkm, hck]))
        clear hx hck
        by_cases hk0 : k = 0
        · have q0 : ((n : Int) + 3 + k == (n : Int) + 3) = true := beq_iff_eq.2 (by omega)
          have hk1 : k ≤ 0 := by omega
          clear hk0
          go_wp2_with (go_at_call 98; refine (ref3_hex _ _).mono ?_; rintro e w' ⟨rfl, rfl⟩)
          all_goals (go_ret2; first | (obtain ⟨e1, e2⟩ := KEY.out.1 (by omega); exact ⟨ret_ii (by omega) (by omega), rfl⟩) | (obtain ⟨e1, e2⟩ := KEY.out.2 (by omega); exact ⟨ret_ii (by omega) (by omega), rfl⟩))
        · have q0 : ((n : Int) + 3 + k == (n : Int) + 3) = false := beq_eq_false_iff_ne.2 (by omega)
          have hk1 : 1 ≤ k := by omega
          clear hk0
          go_wp2_with (go_at_call 98; refine (ref3_hex _ _).mono ?_; rintro e w' ⟨rfl, rfl⟩)
          all_goals (go_ret2; first | (obtain ⟨e1, e2⟩ := KEY.out.1 (by omega); exact ⟨ret_ii (by omega) (by omega), rfl⟩) | (obtain ⟨e1, e2⟩ := KEY.out.2 (by omega); exact ⟨ret_ii (by omega) (by omega), rfl⟩))
    · have hRE : Sp.bracedR m k = Sp.bracedV m := Sp.bracedR_eq m k hk (by have := HL.out; omega) H.out.2 (Or.inl (by have := HL.out; omega))
      have hz := br_zero s n m k HO.out hRE (by have := HL.out; omega)
      have HZ := Lib.hid hz
      clear hz hRE
      by_cases hk0 : k = 0
      · have q0 : ((n : Int) + 3 + k == (n : Int) + 3) = true := beq_iff_eq.2 (by omega)
        have hk1 : k ≤ 0 := by omega
        clear hk0
        go_wp2_with (go_at_call 98; refine (ref3_hex _ _).mono ?_; rintro e w' ⟨rfl, rfl⟩)
        all_goals (go_ret2; exact ⟨ret_ii (by have := HZ.out.1; omega) (by have := HZ.out.2; omega), rfl⟩)
      · have q0 : ((n : Int) + 3 + k == (n : Int) + 3) = false := beq_eq_false_iff_ne.2 (by omega)
        have q1 : decide ((s.size : Int) ≤ (n : Int) + 3 + k) = true := decide_eq_true (by omega)
        have hk1 : 1 ≤ k := by omega
        clear hk0
        go_wp2_with (go_at_call 98; refine (ref3_hex _ _).mono ?_; rintro e w' ⟨rfl, rfl⟩)
        all_goals (go_ret2; exact ⟨ret_ii (by have := HZ.out.1; omega) (by have := HZ.out.2; omega), rfl⟩)

theorem ref3_braced (s : ByteArray) (i : Int) (w : World) (h0 : 0 ≤ i) (h1 : i ≤ 4611686018427387904) (hs : s.size ≤ 4611686018427387904) :
    Calls Tryz.prog 117 #[.string s, .int .i64 i] w fun e w' => e = .returned (.tuple #[.int .i64 (Sp.brK (s.data.toList.drop i.toNat)), .int .i64 (Sp.brN (s.data.toList.drop i.toNat))]) ∧ w = w' := by
  obtain ⟨n, rfl⟩ := Int.eq_ofNat_of_zero_le h0
  rw [Int.toNat_natCast]
  by_cases h : n + 2 < s.size ∧ Sp.bt s.data.toList (n + 2) = 123
  · exact ref3_braced_yes s n w hs h.1 h.2
  · have hO : Sp.brO (s.data.toList.drop n) = none := by
      unfold Sp.brO
      rw [if_neg]
      rintro ⟨g1, g2⟩
      rw [List.length_drop, ← Lib.size_eq] at g1
      rw [Sp.bt_drop] at g2
      exact h ⟨by omega, g2⟩
    unfold Sp.brK Sp.brN
    rw [hO]
    exact ref3_braced_no s n w hs h1 h
end Go.Proofs.YtdmpapoabeljfaaGreatDoor

/-
  THE WALK of reachref3.escape (chapter 3).
-/
set_option linter.unusedVariables false
set_option linter.unusedSimpArgs false
set_option maxRecDepth 100000
set_option maxHeartbeats 2000000
namespace Go.Proofs.YtdmpapoabeljfaaGreatDoor
open Go.RowKit

theorem getD_idx (s : ByteArray) (n : Nat) (h : n < s.size) : s.data.toList.getD n 0 = s[n]'h := by
  rw [Sp.get_idx s n h (by rw [← Lib.size_eq]; exact h), List.getD_eq_getElem?_getD, List.getElem?_eq_getElem]
  rfl
theorem str_lit_drew (w : World) (zs : List Int) :
    (convert 49 9 (.slice (some ⟨w.heap.size, 0, none⟩) zs.length zs.length)).run Tryz.prog (w.alloc (.cells (zs.map (Value.int .u8)).toArray 5)).drew = .ok (.string (strOfNums zs)) (w.alloc (.cells (zs.map (Value.int .u8)).toArray 5)).drew :=
  run_convert_bytes_arg (P := Tryz.prog) (w.alloc (.cells (zs.map (Value.int .u8)).toArray 5)).drew 49 5 Tryz.underlying49 Tryz.underlying5 w.heap.size 0 zs.length zs.length zs rfl
    (fun i hi => by rw [Nat.zero_add]; show (w.alloc (.cells (zs.map (Value.int .u8)).toArray 5)).cell? _ = _; rw [World.cell?_alloc_mark]; simp [List.getElem?_eq_getElem hi]) 9 Tryz.underlying9
theorem ret_x {X : Int} {k : Nat} (h : X = k) : Ending.returned (.tuple #[.int .i64 4, .string (strOfNums [X])]) = .returned (.tuple #[.int .i64 4, .string ⟨#[k.toUInt8]⟩]) := by
  subst h
  rfl

theorem ref3_escape_end (s : ByteArray) (n : Nat) (w : World) (hs : s.size ≤ 4611686018427387904) (hn : (n : Int) ≤ 4611686018427387904) (h1 : ¬ n + 1 < s.size) :
    Calls Tryz.prog 101 #[.string s, .int .i64 n] w fun e w' => e = .returned (.tuple #[.int .i64 0, .string ⟨#[]⟩]) ∧ Below w.heap.size w w' := by
  go_enter Tryz.func101, Tryz.ntmps101
  go_wp2
  go_ret2
  exact ⟨rfl, Below.refl _ _⟩

theorem ref3_escape_34 (s : ByteArray) (n : Nat) (w : World) (hs : s.size ≤ 4611686018427387904) (h1 : n + 1 < s.size) (hc : (s[n + 1]'h1).toNat = 34) :
    Calls Tryz.prog 101 #[.string s, .int .i64 n] w fun e w' => e = .returned (.tuple #[.int .i64 2, .string ⟨#[34]⟩]) ∧ Below w.heap.size w w' := by
  have t0 : (((s[n + 1]'h1).toNat : Int) == 34) = true := beq_iff_eq.2 (by omega)
  clear hc
  go_enter Tryz.func101, Tryz.ntmps101
  go_wp2
  go_ret2
  exact ⟨rfl, Below.refl _ _⟩

theorem ref3_escape_92 (s : ByteArray) (n : Nat) (w : World) (hs : s.size ≤ 4611686018427387904) (h1 : n + 1 < s.size) (hc : (s[n + 1]'h1).toNat = 92) :
    Calls Tryz.prog 101 #[.string s, .int .i64 n] w fun e w' => e = .returned (.tuple #[.int .i64 2, .string ⟨#[92]⟩]) ∧ Below w.heap.size w w' := by
  have t0 : (((s[n + 1]'h1).toNat : Int) == 34) = false := beq_eq_false_iff_ne.2 (by omega)
  have t1 : (((s[n + 1]'h1).toNat : Int) == 92) = true := beq_iff_eq.2 (by omega)
  clear hc
  go_enter Tryz.func101, Tryz.ntmps101
  go_wp2
  go_ret2
  exact ⟨rfl, Below.refl _ _⟩

theorem ref3_escape_110 (s : ByteArray) (n : Nat) (w : World) (hs : s.size ≤ 4611686018427387904) (h1 : n + 1 < s.size) (hc : (s[n + 1]'h1).toNat = 110) :
    Calls Tryz.prog 101 #[.string s, .int .i64 n] w fun e w' => e = .returned (.tuple #[.int .i64 2, .string ⟨#[10]⟩]) ∧ Below w.heap.size w w' := by
  have t0 : (((s[n + 1]'h1).toNat : Int) == 34) = false := beq_eq_false_iff_ne.2 (by omega)
  have t1 : (((s[n + 1]'h1).toNat : Int) == 92) = false := beq_eq_false_iff_ne.2 (by omega)
  have t2 : (((s[n + 1]'h1).toNat : Int) == 110) = true := beq_iff_eq.2 (by omega)
  clear hc
  go_enter Tryz.func101, Tryz.ntmps101
  go_wp2
  go_ret2
  exact ⟨rfl, Below.refl _ _⟩

theorem ref3_escape_114 (s : ByteArray) (n : Nat) (w : World) (hs : s.size ≤ 4611686018427387904) (h1 : n + 1 < s.size) (hc : (s[n + 1]'h1).toNat = 114) :
    Calls Tryz.prog 101 #[.string s, .int .i64 n] w fun e w' => e = .returned (.tuple #[.int .i64 2, .string ⟨#[13]⟩]) ∧ Below w.heap.size w w' := by
  have t0 : (((s[n + 1]'h1).toNat : Int) == 34) = false := beq_eq_false_iff_ne.2 (by omega)
  have t1 : (((s[n + 1]'h1).toNat : Int) == 92) = false := beq_eq_false_iff_ne.2 (by omega)
  have t2 : (((s[n + 1]'h1).toNat : Int) == 110) = false := beq_eq_false_iff_ne.2 (by omega)
  have t3 : (((s[n + 1]'h1).toNat : Int) == 114) = true := beq_iff_eq.2 (by omega)
  clear hc
  go_enter Tryz.func101, Tryz.ntmps101
  go_wp2
  go_ret2
  exact ⟨rfl, Below.refl _ _⟩

theorem ref3_escape_116 (s : ByteArray) (n : Nat) (w : World) (hs : s.size ≤ 4611686018427387904) (h1 : n + 1 < s.size) (hc : (s[n + 1]'h1).toNat = 116) :
    Calls Tryz.prog 101 #[.string s, .int .i64 n] w fun e w' => e = .returned (.tuple #[.int .i64 2, .string ⟨#[9]⟩]) ∧ Below w.heap.size w w' := by
  have t0 : (((s[n + 1]'h1).toNat : Int) == 34) = false := beq_eq_false_iff_ne.2 (by omega)
  have t1 : (((s[n + 1]'h1).toNat : Int) == 92) = false := beq_eq_false_iff_ne.2 (by omega)
  have t2 : (((s[n + 1]'h1).toNat : Int) == 110) = false := beq_eq_false_iff_ne.2 (by omega)
  have t3 : (((s[n + 1]'h1).toNat : Int) == 114) = false := beq_eq_false_iff_ne.2 (by omega)
  have t4 : (((s[n + 1]'h1).toNat : Int) == 116) = true := beq_iff_eq.2 (by omega)
  clear hc
  go_enter Tryz.func101, Tryz.ntmps101
  go_wp2
  go_ret2
  exact ⟨rfl, Below.refl _ _⟩

theorem ref3_escape_no (s : ByteArray) (n : Nat) (w : World) (hs : s.size ≤ 4611686018427387904) (h1 : n + 1 < s.size) (h34 : (s[n + 1]'h1).toNat ≠ 34) (h92 : (s[n + 1]'h1).toNat ≠ 92) (h110 : (s[n + 1]'h1).toNat ≠ 110)
    (h114 : (s[n + 1]'h1).toNat ≠ 114) (h116 : (s[n + 1]'h1).toNat ≠ 116) (h120 : (s[n + 1]'h1).toNat ≠ 120) (h117 : (s[n + 1]'h1).toNat ≠ 117) :
    Calls Tryz.prog 101 #[.string s, .int .i64 n] w fun e w' => e = .returned (.tuple #[.int .i64 0, .string ⟨#[]⟩]) ∧ Below w.heap.size w w' := by
  have t0 : (((s[n + 1]'h1).toNat : Int) == 34) = false := beq_eq_false_iff_ne.2 (by omega)
  have t1 : (((s[n + 1]'h1).toNat : Int) == 92) = false := beq_eq_false_iff_ne.2 (by omega)
  have t2 : (((s[n + 1]'h1).toNat : Int) == 110) = false := beq_eq_false_iff_ne.2 (by omega)
  have t3 : (((s[n + 1]'h1).toNat : Int) == 114) = false := beq_eq_false_iff_ne.2 (by omega)
  have t4 : (((s[n + 1]'h1).toNat : Int) == 116) = false := beq_eq_false_iff_ne.2 (by omega)
  have t5 : (((s[n + 1]'h1).toNat : Int) == 120) = false := beq_eq_false_iff_ne.2 (by omega)
  have t6 : (((s[n + 1]'h1).toNat : Int) == 117) = false := beq_eq_false_iff_ne.2 (by omega)
  clear h34 h92 h110 h114 h116 h120 h117
  go_enter Tryz.func101, Tryz.ntmps101
  go_wp2
  go_ret2
  exact ⟨rfl, Below.refl _ _⟩

theorem ref3_escape_x_no (s : ByteArray) (n : Nat) (w : World) (hs : s.size ≤ 4611686018427387904) (h1 : n + 1 < s.size) (hc : (s[n + 1]'h1).toNat = 120)
    (hno : ¬ (n + 3 < s.size ∧ Sp.hexv (s.data.toList.getD (n + 2) 0) < 16 ∧ Sp.hexv (s.data.toList.getD (n + 3) 0) < 16)) :
    Calls Tryz.prog 101 #[.string s, .int .i64 n] w fun e w' => e = .returned (.tuple #[.int .i64 0, .string ⟨#[]⟩]) ∧ Below w.heap.size w w' := by
  have t0 : (((s[n + 1]'h1).toNat : Int) == 34) = false := beq_eq_false_iff_ne.2 (by omega)
  have t1 : (((s[n + 1]'h1).toNat : Int) == 92) = false := beq_eq_false_iff_ne.2 (by omega)
  have t2 : (((s[n + 1]'h1).toNat : Int) == 110) = false := beq_eq_false_iff_ne.2 (by omega)
  have t3 : (((s[n + 1]'h1).toNat : Int) == 114) = false := beq_eq_false_iff_ne.2 (by omega)
  have t4 : (((s[n + 1]'h1).toNat : Int) == 116) = false := beq_eq_false_iff_ne.2 (by omega)
  have t5 : (((s[n + 1]'h1).toNat : Int) == 120) = true := beq_iff_eq.2 (by omega)
  clear hc
  by_cases h3 : n + 3 < s.size
  · have h2 : n + 2 < s.size := by omega
    rw [getD_idx s (n + 2) h2, getD_idx s (n + 3) h3] at hno
    have q1 : decide ((n : Int) + 3 < s.size) = true := decide_eq_true (by omega)
    by_cases ha : Sp.hexv (s[n + 2]'h2) < 16
    · obtain ⟨a, hd⟩ : ∃ d : Int, Sp.hexZ (s[n + 2]'h2) = d := ⟨_, rfl⟩
      have hd0 : 0 ≤ a := by rw [← hd, Sp.hexZ_pos _ ha]; omega
      have hb := Sp.hexZ_neg (s[n + 3]'h3) (fun h => hno ⟨h3, ha, h⟩)
      clear hno ha
      go_enter Tryz.func101, Tryz.ntmps101
      go_wp2_with (go_at_call 98; refine (ref3_hex _ _).mono ?_; rintro e w' ⟨rfl, rfl⟩)
      go_ret2
      exact ⟨rfl, Below.refl _ _⟩
    · have hd := Sp.hexZ_neg (s[n + 2]'h2) ha
      clear hno ha
      go_enter Tryz.func101, Tryz.ntmps101
      go_wp2_with (go_at_call 98; refine (ref3_hex _ _).mono ?_; rintro e w' ⟨rfl, rfl⟩)
      go_ret2
      exact ⟨rfl, Below.refl _ _⟩
  · clear hno
    go_enter Tryz.func101, Tryz.ntmps101
    go_wp2_with (go_at_call 98; refine (ref3_hex _ _).mono ?_; rintro e w' ⟨rfl, rfl⟩)
    go_ret2
    exact ⟨rfl, Below.refl _ _⟩

def escSpec (l : List UInt8) (W : World) (e : Ending) (w' : World) : Prop := e = .returned (.tuple #[.int .i64 (Sp.escK l : Nat), .string ⟨(Sp.escB l).toArray⟩]) ∧ Below W.heap.size W w'
theorem escSpec_none {l : List UInt8} {W : World} (h : Sp.escV l = none) : ∀ e w', (e = Ending.returned (.tuple #[.int .i64 0, .string ⟨#[]⟩]) ∧ Below W.heap.size W w') → escSpec l W e w' := by
  rintro e w' ⟨rfl, hb⟩
  unfold escSpec Sp.escK Sp.escB
  rw [h]
  exact ⟨rfl, hb⟩
theorem escSpec_some {l : List UInt8} {W : World} {k : Nat} {b : List UInt8} (h : Sp.escV l = some (k, b)) : ∀ e w', (e = Ending.returned (.tuple #[.int .i64 (k : Nat), .string ⟨b.toArray⟩]) ∧ Below W.heap.size W w') → escSpec l W e w' := by
  rintro e w' ⟨rfl, hb⟩
  unfold escSpec Sp.escK Sp.escB
  rw [h]
  exact ⟨rfl, hb⟩

theorem ref3_escape_u (s : ByteArray) (n : Nat) (w : World) (hs : s.size ≤ 4611686018427387904) (hn : (n : Int) ≤ 4611686018427387904) (h1 : n + 1 < s.size) (hc : (s[n + 1]'h1).toNat = 117) :
    Calls Tryz.prog 101 #[.string s, .int .i64 n] w (escSpec (s.data.toList.drop n) w) := by
  have hE : Sp.escV (s.data.toList.drop n) = match Sp.brO (s.data.toList.drop n) with | none => none | some (k, v) => some (k, Lib.encodeRune (v : Nat)) := by
    have hl : ¬ (s.data.toList.drop n).length < 2 := by rw [List.length_drop, ← Lib.size_eq]; omega
    have hb : Sp.bt (s.data.toList.drop n) 1 = 117 := by rw [Sp.bt_drop, ← Sp.bt_idx s (n + 1) h1]; exact hc
    rw [Sp.escV_eq, if_neg hl, hb]
    simp only [Nat.reduceEqDiff, if_false, if_true]
    cases Sp.brO (s.data.toList.drop n) <;> rfl
  have t0 : (((s[n + 1]'h1).toNat : Int) == 34) = false := beq_eq_false_iff_ne.2 (by omega)
  have t1 : (((s[n + 1]'h1).toNat : Int) == 92) = false := beq_eq_false_iff_ne.2 (by omega)
  have t2 : (((s[n + 1]'h1).toNat : Int) == 110) = false := beq_eq_false_iff_ne.2 (by omega)
  have t3 : (((s[n + 1]'h1).toNat : Int) == 114) = false := beq_eq_false_iff_ne.2 (by omega)
  have t4 : (((s[n + 1]'h1).toNat : Int) == 116) = false := beq_eq_false_iff_ne.2 (by omega)
  have t5 : (((s[n + 1]'h1).toNat : Int) == 120) = false := beq_eq_false_iff_ne.2 (by omega)
  have t6 : (((s[n + 1]'h1).toNat : Int) == 117) = true := beq_iff_eq.2 (by omega)
  clear hc
  have hbr := ref3_braced s n w (by omega) hn hs
  rw [Int.toNat_natCast] at hbr
  rcases hO : Sp.brO (s.data.toList.drop n) with _ | ⟨k, v⟩
  · rw [hO] at hE
    have k0 : Sp.brK (s.data.toList.drop n) = 0 := by unfold Sp.brK; rw [hO]
    have v0 : Sp.brN (s.data.toList.drop n) = 0 := by unfold Sp.brN; rw [hO]
    rw [k0, v0] at hbr
    have HB := Lib.hid hbr
    clear hbr k0 v0 hO
    refine Calls.mono ?_ (escSpec_none hE)
    clear hE
    go_enter Tryz.func101, Tryz.ntmps101
    go_wp2_with (go_at_call 117; refine HB.out.mono ?_; rintro e w' ⟨rfl, rfl⟩)
    go_ret2
    exact ⟨rfl, Below.refl _ _⟩
  · rw [hO] at hE
    have k0 : Sp.brK (s.data.toList.drop n) = k := by unfold Sp.brK; rw [hO]
    have v0 : Sp.brN (s.data.toList.drop n) = v := by unfold Sp.brN; rw [hO]
    rw [k0, v0] at hbr
    have hk4 : (4 : Int) ≤ k := by have := Sp.brO_k hO; omega
    have hv := Sp.brO_v hO
    have HB := Lib.hid hbr
    have HV := Lib.hid hv
    clear hbr k0 v0 hO hv
    refine Calls.mono ?_ (escSpec_some hE)
    clear hE
    go_enter Tryz.func101, Tryz.ntmps101
    go_wp2_with (first | (go_at_call 117; refine HB.out.mono ?_; rintro e w' ⟨rfl, rfl⟩) | (go_at_call 118; refine (ref3_utf _ _ (by omega) (by have := HV.out; omega) (by have := HV.out; omega)).mono ?_; rintro e w1 ⟨rfl, hb1⟩))
    go_ret2
    exact ⟨rfl, by assumption⟩

end Go.Proofs.YtdmpapoabeljfaaGreatDoor

/-
  THE WALK of reachref3.escape: the x piece (chapter 3).
-/
set_option linter.unusedVariables false
set_option linter.unusedSimpArgs false
set_option maxRecDepth 100000
set_option maxHeartbeats 2000000
namespace Go.Proofs.YtdmpapoabeljfaaGreatDoor
open Go.RowKit

theorem ref3_escape_x (s : ByteArray) (n : Nat) (w : World) (hs : s.size ≤ 4611686018427387904) (h1 : n + 1 < s.size) (hc : (s[n + 1]'h1).toNat = 120)
    (h3 : n + 3 < s.size) (h2 : n + 2 < s.size) (ha : Sp.hexv (s[n + 2]'h2) < 16) (hb : Sp.hexv (s[n + 3]'h3) < 16) :
    Calls Tryz.prog 101 #[.string s, .int .i64 n] w fun e w' => e = .returned (.tuple #[.int .i64 4, .string ⟨#[(16 * Sp.hexv (s[n + 2]'h2) + Sp.hexv (s[n + 3]'h3)).toUInt8]⟩]) ∧ Below w.heap.size w w' := by
  have t0 : (((s[n + 1]'h1).toNat : Int) == 34) = false := beq_eq_false_iff_ne.2 (by omega)
  have t1 : (((s[n + 1]'h1).toNat : Int) == 92) = false := beq_eq_false_iff_ne.2 (by omega)
  have t2 : (((s[n + 1]'h1).toNat : Int) == 110) = false := beq_eq_false_iff_ne.2 (by omega)
  have t3 : (((s[n + 1]'h1).toNat : Int) == 114) = false := beq_eq_false_iff_ne.2 (by omega)
  have t4 : (((s[n + 1]'h1).toNat : Int) == 116) = false := beq_eq_false_iff_ne.2 (by omega)
  have t5 : (((s[n + 1]'h1).toNat : Int) == 120) = true := beq_iff_eq.2 (by omega)
  clear hc
  obtain ⟨a, hd⟩ : ∃ d : Int, Sp.hexZ (s[n + 2]'h2) = d := ⟨_, rfl⟩
  have hd0 : 0 ≤ a := by rw [← hd, Sp.hexZ_pos _ ha]; omega
  have hd1 : a ≤ 15 := by rw [← hd, Sp.hexZ_pos _ ha]; omega
  obtain ⟨b, he⟩ : ∃ d : Int, Sp.hexZ (s[n + 3]'h3) = d := ⟨_, rfl⟩
  have he0 : 0 ≤ b := by rw [← he, Sp.hexZ_pos _ hb]; omega
  have he1 : b ≤ 15 := by rw [← he, Sp.hexZ_pos _ hb]; omega
  have hav : a = (Sp.hexv (s[n + 2]'h2) : Nat) := by rw [← hd, Sp.hexZ_pos _ ha]
  have hbv : b = (Sp.hexv (s[n + 3]'h3) : Nat) := by rw [← he, Sp.hexZ_pos _ hb]
  have HA := Lib.hid hav
  have HB := Lib.hid hbv
  clear hav hbv ha hb
  have hcv := fun z : Int => str_lit_drew w [z]
  simp only [List.map_cons, List.map_nil, List.length_cons, List.length_nil, Nat.zero_add] at hcv
  have q1 : decide ((n : Int) + 3 < s.size) = true := decide_eq_true (by omega)
  go_enter Tryz.func101, Tryz.ntmps101
  go_wp2_with (go_at_call 98; refine (ref3_hex _ _).mono ?_; rintro e w' ⟨rfl, rfl⟩)
  have wr1 : IntKind.i64.wrap (16 * a) = 16 * a := by rw [IntKind.wrap_i64]; omega
  have wr2 : IntKind.i64.wrap (16 * a + b) = 16 * a + b := by rw [IntKind.wrap_i64]; omega
  have wr3 : IntKind.u8.wrap (16 * a + b) = 16 * a + b := by rw [IntKind.wrap_u8]; omega
  have wr4 : IntKind.i64.wrap ((n : Int) + 2) = (n : Int) + 2 := by rw [IntKind.wrap_i64]; omega
  have wr5 : IntKind.i64.wrap ((n : Int) + 3) = (n : Int) + 3 := by rw [IntKind.wrap_i64]; omega
  have i2 : ((n : Int) + 2).toNat = n + 2 := by omega
  have i3 : ((n : Int) + 3).toNat = n + 3 := by omega
  go_region_with (first | (go_at_call 98; refine (ref3_hex _ _).mono ?_; rintro e w' ⟨rfl, rfl⟩))
  all_goals go_wp2
  all_goals go_ret2
  all_goals
    refine ⟨Eq.trans (b := Ending.returned (.tuple #[.int .i64 4, .string (strOfNums [16 * a + b])])) ?_ (ret_x (by have := HA.out; have := HB.out; omega)), ((Below.refl _ _).alloc (Nat.le_refl _) _).drew⟩
    simp [Act.put, i2, i3, hd, he, wr1, wr2, wr3]

theorem ref3_escape (s : ByteArray) (i : Int) (w : World) (h0 : 0 ≤ i) (hn : i ≤ 4611686018427387904) (hs : s.size ≤ 4611686018427387904) :
    Calls Tryz.prog 101 #[.string s, .int .i64 i] w (escSpec (s.data.toList.drop i.toNat) w) := by
  obtain ⟨n, rfl⟩ := Int.eq_ofNat_of_zero_le h0
  rw [Int.toNat_natCast]
  have hE := Sp.escV_eq (s.data.toList.drop n)
  rw [List.length_drop, ← Lib.size_eq] at hE
  by_cases h1 : n + 1 < s.size
  · have hb := Sp.bt_idx s (n + 1) h1
    rw [if_neg (by omega), Sp.bt_drop, ← hb] at hE
    by_cases c1 : (s[n + 1]'h1).toNat = 34
    · rw [if_pos c1] at hE
      exact (ref3_escape_34 s n w hs h1 c1).mono (escSpec_some hE)
    rw [if_neg c1] at hE
    by_cases c2 : (s[n + 1]'h1).toNat = 92
    · rw [if_pos c2] at hE
      exact (ref3_escape_92 s n w hs h1 c2).mono (escSpec_some hE)
    rw [if_neg c2] at hE
    by_cases c3 : (s[n + 1]'h1).toNat = 110
    · rw [if_pos c3] at hE
      exact (ref3_escape_110 s n w hs h1 c3).mono (escSpec_some hE)
    rw [if_neg c3] at hE
    by_cases c4 : (s[n + 1]'h1).toNat = 114
    · rw [if_pos c4] at hE
      exact (ref3_escape_114 s n w hs h1 c4).mono (escSpec_some hE)
    rw [if_neg c4] at hE
    by_cases c5 : (s[n + 1]'h1).toNat = 116
    · rw [if_pos c5] at hE
      exact (ref3_escape_116 s n w hs h1 c5).mono (escSpec_some hE)
    rw [if_neg c5] at hE
    by_cases c6 : (s[n + 1]'h1).toNat = 120
    · rw [if_pos c6] at hE
      have g2 : (s.data.toList.drop n).getD 2 0 = s.data.toList.getD (n + 2) 0 := by rw [List.getD_eq_getElem?_getD, List.getD_eq_getElem?_getD, List.getElem?_drop]
      have g3 : (s.data.toList.drop n).getD 3 0 = s.data.toList.getD (n + 3) 0 := by rw [List.getD_eq_getElem?_getD, List.getD_eq_getElem?_getD, List.getElem?_drop]
      rw [g2, g3] at hE
      by_cases hx : n + 3 < s.size ∧ Sp.hexv (s.data.toList.getD (n + 2) 0) < 16 ∧ Sp.hexv (s.data.toList.getD (n + 3) 0) < 16
      · obtain ⟨h3, ha, hb'⟩ := hx
        have h2 : n + 2 < s.size := by omega
        rw [if_pos ⟨by omega, ha, hb'⟩] at hE
        rw [getD_idx s (n + 2) h2] at ha hE
        rw [getD_idx s (n + 3) h3] at hb' hE
        exact (ref3_escape_x s n w hs h1 c6 h3 h2 ha hb').mono (escSpec_some hE)
      · rw [if_neg (fun h => hx ⟨by omega, h.2.1, h.2.2⟩)] at hE
        exact (ref3_escape_x_no s n w hs h1 c6 hx).mono (escSpec_none hE)
    rw [if_neg c6] at hE
    by_cases c7 : (s[n + 1]'h1).toNat = 117
    · exact ref3_escape_u s n w hs hn h1 c7
    · rw [if_neg c7] at hE
      exact (ref3_escape_no s n w hs h1 c1 c2 c3 c4 c5 c6 c7).mono (escSpec_none hE)
  · rw [if_pos (by omega)] at hE
    exact (ref3_escape_end s n w hs hn h1).mono (escSpec_none hE)

end Go.Proofs.YtdmpapoabeljfaaGreatDoor

/-
  THE WALK of reachref3.inside (chapter 3).
-/
set_option linter.unusedVariables false
set_option linter.unusedSimpArgs false
set_option maxRecDepth 100000
set_option maxHeartbeats 2000000
namespace Go.Proofs.YtdmpapoabeljfaaGreatDoor
open Go.RowKit

def insR (s : ByteArray) (i : Nat) : Nat × List UInt8 × Nat := Sp.speakF false s.size (s.data.toList.drop (i + 1)) (i + 1) []
def insSpec (s : ByteArray) (i : Nat) (W : World) (e : Ending) (w' : World) : Prop := e = .returned (.tuple #[.string ⟨(insR s i).2.1.toArray⟩, .int .i64 (insR s i).2.2, .int .i64 (insR s i).1]) ∧ Below W.heap.size W w'

theorem ins_exit {s : ByteArray} {i : Nat} {W : World} {a p : Nat} {b : List UInt8} (h : insR s i = (a, b, p)) {x : ByteArray} {q d : Int} (hx : x = ⟨b.toArray⟩) (hq : q = p) (hd : d = a) {w' : World} (hw : Below W.heap.size W w') :
    insSpec s i W (.returned (.tuple #[.string x, .int .i64 q, .int .i64 d])) w' := by
  unfold insSpec
  rw [h, hx, hq, hd]
  exact ⟨rfl, hw⟩

theorem ref3_inside (s : ByteArray) (i : Nat) (w : World) (h1 : i < s.size) (hs : s.size ≤ 1073741824) :
    Calls Tryz.prog 81 #[.string s, .int .i64 i] w (insSpec s i w) := by
  have hin : (i : Int) < s.size := by omega
  go_enter Tryz.func81, Tryz.ntmps81
  go_wp2
  go_loopw [7, 8] (fun v7 v8 wr => ∃ (j : Nat) (acc : List UInt8), v8 = .int .i64 (j : Int) ∧ j ≤ s.size ∧ v7 = .string ⟨acc.toArray⟩ ∧ acc.length ≤ j ∧ Below w.heap.size w wr ∧ Hid (∃ f, s.size - j ≤ f ∧ Sp.speakF false f (s.data.toList.drop j) j acc = insR s i))
    (fun _ v8 _ => s.size - (intOf v8).toNat)
  case atStart => exact ⟨i + 1, [], by go_num, by omega, rfl, by simp, Below.refl _ _, s.size, by omega, rfl⟩
  case round =>
    obtain ⟨j, acc, rfl, hj, rfl, hal, hbw, H⟩ := hrel
    by_cases hlt : j < s.size
    · have hd := Sp.drop_cons s j hlt
      have HD := Lib.hid hd
      clear hd
      have q0 : decide ((j : Int) < s.size) = true := decide_eq_true (by omega)
      by_cases c1 : (s[j]'hlt).toNat = 34
      · have q1 : (((s[j]'hlt).toNat : Int) != 34) = false := by rw [bne_eq_false_iff_eq]; omega
        have HR : Hid (insR s i = (0, acc, j + 1)) := by
          obtain ⟨f, hf, hF⟩ := H.out
          obtain ⟨g, rfl⟩ : ∃ g, f = g + 1 := ⟨f - 1, by omega⟩
          rw [HD.out, Sp.speakF_quote false g _ _ _ _ c1] at hF
          exact hF.symm
        clear c1
        go_wp2
        go_ret3
        exact ins_exit HR.out rfl (by omega) rfl hbw
      · have q1 : (((s[j]'hlt).toNat : Int) != 34) = true := by rw [bne_iff_ne]; omega
        by_cases c2 : (s[j]'hlt).toNat = 92
        · have q2 : (((s[j]'hlt).toNat : Int) == 92) = true := beq_iff_eq.2 (by omega)
          have hesc := fun W => ref3_escape s j W (by omega) (by omega) (by omega)
          simp only [Int.toNat_natCast] at hesc
          have HR := H.out
          rcases hE : Sp.escV (s.data.toList.drop j) with _ | ⟨k, b⟩
          · have he2 : ∀ W, Calls Tryz.prog 101 #[.string s, .int .i64 j] W fun e w' => e = .returned (.tuple #[.int .i64 0, .string ⟨#[]⟩]) ∧ Below W.heap.size W w' := by
              intro W
              refine (hesc W).mono ?_
              intro e w' h
              unfold escSpec Sp.escK Sp.escB at h
              rw [hE] at h
              exact h
            have HR2 : Hid (insR s i = (34, [], j)) := by
              obtain ⟨f, hf, hF⟩ := HR
              obtain ⟨g, rfl⟩ : ∃ g, f = g + 1 := ⟨f - 1, by omega⟩
              rw [HD.out, Sp.speakF_esc false g _ _ _ _ c2, ← HD.out, hE] at hF
              exact hF.symm
            have HE := Lib.hid he2
            clear hesc he2 hE HR c1 c2
            go_wp2_with (go_at_call 101; refine (HE.out _).mono ?_; rintro e w1 ⟨rfl, hb1⟩)
            go_ret3
            exact ins_exit HR2.out rfl rfl rfl (hbw.trans (hb1.mono hbw.size))
          · have hk := Sp.escV_len hE
            rw [List.length_drop, ← Lib.size_eq] at hk
            obtain ⟨hk1, hk2, hk3⟩ := hk
            have he2 : ∀ W, Calls Tryz.prog 101 #[.string s, .int .i64 j] W fun e w' => e = .returned (.tuple #[.int .i64 (k : Nat), .string ⟨b.toArray⟩]) ∧ Below W.heap.size W w' := by
              intro W
              refine (hesc W).mono ?_
              intro e w' h
              unfold escSpec Sp.escK Sp.escB at h
              rw [hE] at h
              exact h
            have HR2 : Hid (∃ f, s.size - (j + k) ≤ f ∧ Sp.speakF false f (s.data.toList.drop (j + k)) (j + k) (acc ++ b) = insR s i) := by
              obtain ⟨f, hf, hF⟩ := HR
              obtain ⟨g, rfl⟩ : ∃ g, f = g + 1 := ⟨f - 1, by omega⟩
              rw [HD.out, Sp.speakF_esc false g _ _ _ _ c2, ← HD.out, hE] at hF
              refine ⟨g, by omega, ?_⟩
              rw [← hF]
              show _ = Sp.speakF false g ((s.data.toList.drop j).drop k) (j + k) (acc ++ b)
              rw [List.drop_drop]
            have HE := Lib.hid he2
            have q3 : ((k : Int) == 0) = false := beq_eq_false_iff_ne.2 (by omega)
            clear hesc he2 hE HR c1 c2
            go_wp2_with (go_at_call 101; refine (HE.out _).mono ?_; rintro e w1 ⟨rfl, hb1⟩)
            go_roundw
            case rel => exact ⟨j + k, acc ++ b, by go_num, by omega, congrArg Value.string (Sp.append_lists _ _), by rw [List.length_append]; omega, hbw.trans (hb1.mono hbw.size), HR2⟩
            case measure => simp [intOf]; omega
        · have q2 : (((s[j]'hlt).toNat : Int) == 92) = false := beq_eq_false_iff_ne.2 (by omega)
          have hsz := fun W => ref3_size s j W (by omega) (by omega) (by omega)
          simp only [Int.toNat_natCast] at hsz
          have hne : s.data.toList.drop j ≠ [] := by rw [HD.out]; simp
          have hk1 := Sp.dec_pos _ hne
          have hk2 := Sp.dec_len _ hne
          rw [List.length_drop, ← Lib.size_eq] at hk2
          obtain ⟨k, hkk⟩ : ∃ k, (Sp.dec (s.data.toList.drop j)).2 = k := ⟨_, rfl⟩
          rw [hkk] at hk1 hk2 hsz
          have bad : ((s[j]'hlt).toNat < 32 ∨ (s[j]'hlt).toNat = 127 ∨ Sp.looseB (s.data.toList.drop j) = true) → insR s i = (33, [], j) := by
            intro hb
            obtain ⟨f, hf, hF⟩ := H.out
            obtain ⟨g, rfl⟩ : ∃ g, f = g + 1 := ⟨f - 1, by omega⟩
            rw [HD.out] at hb
            rw [HD.out, Sp.speakF_bad false g _ _ _ _ c1 c2 (fun h => by cases h) hb] at hF
            exact hF.symm
          rcases hl : Sp.looseB (s.data.toList.drop j) with _ | _
          · rw [hl] at hsz
            by_cases c3 : (s[j]'hlt).toNat < 32
            · have HR2 := Lib.hid (bad (Or.inl c3))
              have q4 : decide (((s[j]'hlt).toNat : Int) < 32) = true := decide_eq_true (by omega)
              have HE := Lib.hid hsz
              clear hsz bad hl hkk c1 c2 c3 hne
              go_wp2_with (go_at_call 83; refine (HE.out _).mono ?_; rintro e w1 ⟨rfl, rfl⟩)
              go_ret3
              exact ins_exit HR2.out rfl rfl rfl hbw
            · have q4 : decide (((s[j]'hlt).toNat : Int) < 32) = false := decide_eq_false (by omega)
              by_cases c4 : (s[j]'hlt).toNat = 127
              · have HR2 := Lib.hid (bad (Or.inr (Or.inl c4)))
                have q5 : (((s[j]'hlt).toNat : Int) == 127) = true := beq_iff_eq.2 (by omega)
                have HE := Lib.hid hsz
                clear hsz bad hl hkk c1 c2 c3 c4 hne
                go_wp2_with (go_at_call 83; refine (HE.out _).mono ?_; rintro e w1 ⟨rfl, rfl⟩)
                go_ret3
                exact ins_exit HR2.out rfl rfl rfl hbw
              · have q5 : (((s[j]'hlt).toNat : Int) == 127) = false := beq_eq_false_iff_ne.2 (by omega)
                have HR2 : Hid (∃ f, s.size - (j + k) ≤ f ∧ Sp.speakF false f (s.data.toList.drop (j + k)) (j + k) (acc ++ (s.data.toList.drop j).take k) = insR s i) := by
                  obtain ⟨f, hf, hF⟩ := H.out
                  obtain ⟨g, rfl⟩ : ∃ g, f = g + 1 := ⟨f - 1, by omega⟩
                  rw [HD.out, Sp.speakF_char false g _ _ _ _ c1 c2 (by rintro (h | h | h); exact c3 h; exact c4 h; rw [← HD.out, hl] at h; cases h), ← HD.out, hkk] at hF
                  refine ⟨g, by omega, ?_⟩
                  rw [← hF, List.drop_drop]
                have HE := Lib.hid hsz
                clear hsz bad hl hkk c1 c2 c3 c4 hne
                go_wp2_with (go_at_call 83; refine (HE.out _).mono ?_; rintro e w1 ⟨rfl, rfl⟩)
                go_roundw
                case rel =>
                  refine ⟨j + k, acc ++ (s.data.toList.drop j).take k, by go_num, by omega, congrArg Value.string ?_, by rw [List.length_append, List.length_take]; omega, hbw, HR2⟩
                  rw [Sp.append_extract]
                  rw [show j + k - j = k from by omega]
                case measure => simp [intOf]; omega
          · rw [hl] at hsz
            have HR2 := Lib.hid (bad (Or.inr (Or.inr hl)))
            have HE := Lib.hid hsz
            clear hsz bad hl hkk c1 c2 hne
            go_wp2_with (go_at_call 83; refine (HE.out _).mono ?_; rintro e w1 ⟨rfl, rfl⟩)
            go_ret3
            exact ins_exit HR2.out rfl rfl rfl hbw
    · have q0 : decide ((j : Int) < s.size) = false := decide_eq_false (by omega)
      have q1 : decide ((s.size : Int) ≤ j) = true := decide_eq_true (by omega)
      have HR : Hid (insR s i = (32, [], s.size)) := by
        obtain ⟨f, hf, hF⟩ := H.out
        have hjs : j = s.size := by omega
        rw [hjs, List.drop_eq_nil_of_le (by rw [← Lib.size_eq]; omega), Sp.speakF_nil] at hF
        exact hF.symm
      go_wp2
      go_ret3
      exact ins_exit HR.out rfl rfl rfl hbw
end Go.Proofs.YtdmpapoabeljfaaGreatDoor
