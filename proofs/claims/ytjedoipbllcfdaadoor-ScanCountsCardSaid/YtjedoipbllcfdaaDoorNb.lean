/-
  THE WALK of the law ScanCounts (chapter 3).
-/
import Derived.Test.YtjedoipbllcfdaaDoorNa
import Derived.Test.YtjedoipbllcfdaaDoorVg
import Derived.Laws.Concat
set_option linter.unusedVariables false
set_option linter.unusedSimpArgs false
set_option maxRecDepth 100000
set_option maxHeartbeats 1000000
namespace Go.Proofs.YtjedoipbllcfdaaDoor
open Go.RowKit

theorem law_counts_bad (x : Int) (w : World) (h : x < 0 ∨ 4294967295 < x) :
    Calls Tryd.prog 9 #[.int .i64 x] w fun e w' => e = .returned (.bool true) ∧ Below w.heap.size w w' := by
  have HB := Lib.hid (fun (y : Bool) (W : World) => scan_Number_bad x y W h)
  have p2 : ((⟨#[]⟩ : ByteArray).toList.isEmpty) = true := by rw [Lib.toList_data]; rfl
  by_cases h1 : x < 0
  · have q1 : decide (x < 0) = true := decide_eq_true h1
    clear h
    go_enter Tryd.func9, Tryd.ntmps9
    go_wp2_with (first
      | (go_at_call 22; have _t := tok2; refine (HB.out _ _).mono ?_; clear _t tok2; rintro e w2 ⟨rfl, hb2⟩)
      | (go_at_call 22; refine (HB.out _ _).mono ?_; rintro e w1 ⟨rfl, hb1⟩; have tok2 : True := trivial))
    go_ret
    exact ⟨ret_bool (by simp), hb1.trans (hb2.mono hb1.size)⟩
  · have q1 : decide (x < 0) = false := decide_eq_false h1
    have q2 : decide (x > 4294967295) = true := decide_eq_true (by omega)
    have q3 : decide (4294967295 < x) = true := decide_eq_true (by omega)
    clear h h1
    go_enter Tryd.func9, Tryd.ntmps9
    go_wp2_with (first
      | (go_at_call 22; have _t := tok2; refine (HB.out _ _).mono ?_; clear _t tok2; rintro e w2 ⟨rfl, hb2⟩)
      | (go_at_call 22; refine (HB.out _ _).mono ?_; rintro e w1 ⟨rfl, hb1⟩; have tok2 : True := trivial))
    go_ret
    exact ⟨ret_bool (by simp), hb1.trans (hb2.mono hb1.size)⟩

theorem counts_text (a b : ByteArray) : (a ++ (⟨#[32]⟩ : ByteArray) ++ b).data.toList = a.data.toList ++ 32 :: b.data.toList := by simp

theorem law_counts_ok (u : Nat) (hu : u ≤ 4294967295) (w : World) (hG : Gs w) (hT : Pow w) :
    Calls Tryd.prog 9 #[.int .i64 (u : Nat)] w fun e w' => e = .returned (.bool true) ∧ Below w.heap.size w w' := by
  have hp := fun W (h : Pow W) => scan_Number_plain u hu W h
  have hd := fun W (h : Pow W) => scan_Number_dots u hu W h
  have hla := Sp.dec_length 9 u (by omega)
  have hlb : (Sp.dotV u).length ≤ 60 := by rw [← part_dot]; exact part_len u hu 4
  obtain ⟨c1, c2, hsc⟩ := Sp.scan_two u hu (by omega)
  obtain ⟨a, ha⟩ : ∃ a : ByteArray, (⟨(Go.Lib.decDigits u).toArray⟩ : ByteArray) = a := ⟨_, rfl⟩
  obtain ⟨b, hb⟩ : ∃ b : ByteArray, (⟨(Sp.dotV u).toArray⟩ : ByteArray) = b := ⟨_, rfl⟩
  have hal : a.data.toList = Go.Lib.decDigits u := by rw [← ha]
  have hbl : b.data.toList = Sp.dotV u := by rw [← hb]
  have has : a.size ≤ 10 := by rw [Lib.size_eq, hal]; exact hla
  have hbs : b.size ≤ 60 := by rw [Lib.size_eq, hbl]; exact hlb
  have hva : Sp.valueV a.data.toList = (u, 0) := by
    unfold Sp.valueV
    rw [hal, if_neg (by omega), Sp.numV_dec u hu]
  have hvb : Sp.valueV b.data.toList = (u, 0) := by
    unfold Sp.valueV
    rw [hbl, if_neg (by omega), Sp.numV_dot u hu]
  have hVa := fun W (h : Gl W) => scan_value a W h (by omega)
  have hVb := fun W (h : Gl W) => scan_value b W h (by omega)
  unfold ValEnd at hVa hVb
  rw [hva] at hVa
  rw [hvb] at hVb
  have hSs : (a ++ (⟨#[32]⟩ : ByteArray) ++ b).size = a.size + 1 + b.size := by rw [ByteArray.size_append, ByteArray.size_append]; rfl
  have hS : ScanSays (a ++ (⟨#[32]⟩ : ByteArray) ++ b) [(4, Go.Lib.decDigits u, 1, 1), (4, Sp.dotV u, 1, c1), (1, [10], 1, c2)] 0 0 0 := scan_says _ (by omega) (by rw [counts_text, hal, hbl]; exact hsc)
  have hS' : ∀ W, Gs W → Calls Tryd.prog 16 #[.string (a ++ (⟨#[32]⟩ : ByteArray) ++ b)] W fun e w' => ∃ A cap, e = .returned (.tuple #[.slice A 3 cap, .int .i64 0, .int .i64 0, .int .i64 0]) ∧ View w' w'.heap.size A [(4, Go.Lib.decDigits u, 1, 1), (4, Sp.dotV u, 1, c1), (1, [10], 1, c2)] ∧ Below W.heap.size W w' := hS
  have r1 := fun W => run_string_add_sum (P := Tryd.prog) (w := W) a (⟨#[32]⟩ : ByteArray) (by show a.size + 1 ≤ _; omega)
  have r2 := fun W => run_string_add_sum (P := Tryd.prog) (w := W) (a ++ (⟨#[32]⟩ : ByteArray)) b (by rw [ByteArray.size_append]; show a.size + 1 + b.size ≤ _; omega)
  simp only [ha] at hp
  simp only [hb] at hd
  have q4 : (a.toList == a.toList) = true := by simp
  have q5 : (b.toList == b.toList) = true := by simp
  have HP := Lib.hid hp
  have HD := Lib.hid hd
  have HVA := Lib.hid hVa
  have HVB := Lib.hid hVb
  have HS := Lib.hid hS'
  have HA := Lib.hid ha
  have HBB := Lib.hid hb
  have HG := Lib.hid hG
  have HT := Lib.hid hT
  obtain ⟨x, hx⟩ : ∃ x : Int, (u : Int) = x := ⟨_, rfl⟩
  have q1 : decide (x < 0) = false := decide_eq_false (by omega)
  have q2 : decide (x > 4294967295) = false := decide_eq_false (by omega)
  have q3 : decide (4294967295 < x) = false := decide_eq_false (by omega)
  simp only [hx] at hp hd hVa hVb ⊢
  have HP := Lib.hid hp
  have HD := Lib.hid hd
  have HVA := Lib.hid hVa
  have HVB := Lib.hid hVb
  clear hp hd hVa hVb hS hS' ha hb hG hT hx hva hvb hal hbl hla hlb hsc hSs
  have tok1 : True := trivial
  go_enter Tryd.func9, Tryd.ntmps9
  go_wp2_with (first
    | (go_at_call 22; have _t := tok1; refine (HP.out _ HT.out).mono ?_; clear _t tok1; rintro e w1 ⟨rfl, hb1⟩; have hT1 := HT.out.below hb1; have hG1 := HG.out.below hb1; have tok2 : True := trivial)
    | (go_at_call 22; have _t := tok2; refine (HD.out _ hT1).mono ?_; clear _t tok2; rintro e w2 ⟨rfl, hb2⟩; have hG2 := hG1.below hb2; have tok3 : True := trivial)
    | (go_at_call 14; have _t := tok3; refine (HVA.out _ hG2.toGl).mono ?_; clear _t tok3; rintro e w3 ⟨rfl, hb3⟩; have hG3 := hG2.below hb3; have tok4 : True := trivial)
    | (go_at_call 14; have _t := tok4; refine (HVB.out _ hG3.toGl).mono ?_; clear _t tok4; rintro e w4 ⟨rfl, hb4⟩; have hG4 := hG3.below hb4; have tok5 : True := trivial)
    | (go_at_call 16; have _t := tok5; refine (HS.out _ hG4).mono ?_; clear _t tok5; rintro e w5 ⟨A, cap, rfl, hv5, hb5⟩; obtain ⟨g, rfl, hg, x1, x2, x3, x4⟩ := hv5 0 _ rfl; obtain ⟨g', hgg, hg', y1, y2, y3, y4⟩ := hv5 1 _ rfl; cases hgg; simp only [HA.out, HBB.out, Nat.zero_mul, Nat.zero_add, Nat.one_mul] at x1 x2 y1 y2))
  go_ret
  exact ⟨ret_bool (by simp), (((hb1.trans (hb2.mono hb1.size)).trans (hb3.mono (by have := hb1.size; have := hb2.size; omega))).trans (hb4.mono (by have := hb1.size; have := hb2.size; have := hb3.size; omega))).trans (hb5.mono (by have := hb1.size; have := hb2.size; have := hb3.size; have := hb4.size; omega))⟩

theorem law_counts (x : Int) (w : World) (hG : Gs w) (hT : Pow w) :
    Calls Tryd.prog 9 #[.int .i64 x] w fun e w' => e = .returned (.bool true) ∧ Below w.heap.size w w' := by
  by_cases h : x < 0 ∨ 4294967295 < x
  · exact law_counts_bad x w h
  · obtain ⟨u, rfl⟩ : ∃ u : Nat, x = (u : Int) := ⟨x.toNat, by omega⟩
    exact law_counts_ok u (by omega) w hG hT
end Go.Proofs.YtjedoipbllcfdaaDoor
