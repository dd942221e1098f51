/-
  THE WALK of reachref3.inside (chapter 3).
-/
import Derived.Test.YtjedoipbllcfdaaDoorWe
import Derived.Test.YtjedoipbllcfdaaDoorSpF
set_option linter.unusedVariables false
set_option linter.unusedSimpArgs false
set_option maxRecDepth 100000
set_option maxHeartbeats 2000000
namespace Go.Proofs.YtjedoipbllcfdaaDoor
open Go.RowKit

def insR (s : ByteArray) (i : Nat) : Nat × List UInt8 × Nat := Sp.speakF false s.size (s.data.toList.drop (i + 1)) (i + 1) []
def insSpec (s : ByteArray) (i : Nat) (W : World) (e : Ending) (w' : World) : Prop := e = .returned (.tuple #[.string ⟨(insR s i).2.1.toArray⟩, .int .i64 (insR s i).2.2, .int .i64 (insR s i).1]) ∧ Below W.heap.size W w'

theorem ins_exit {s : ByteArray} {i : Nat} {W : World} {a p : Nat} {b : List UInt8} (h : insR s i = (a, b, p)) {x : ByteArray} {q d : Int} (hx : x = ⟨b.toArray⟩) (hq : q = p) (hd : d = a) {w' : World} (hw : Below W.heap.size W w') :
    insSpec s i W (.returned (.tuple #[.string x, .int .i64 q, .int .i64 d])) w' := by
  unfold insSpec
  rw [h, hx, hq, hd]
  exact ⟨rfl, hw⟩

theorem ref3_inside (s : ByteArray) (i : Nat) (w : World) (h1 : i < s.size) (hs : s.size ≤ 1073741824) :
    Calls Tryd.prog 24 #[.string s, .int .i64 i] w (insSpec s i w) := by
  have hin : (i : Int) < s.size := by omega
  go_enter Tryd.func24, Tryd.ntmps24
  go_wp2
  go_loopw [7, 8] (fun v7 v8 wr => ∃ (j : Nat) (acc : List UInt8), v8 = .int .i64 (j : Int) ∧ j ≤ s.size ∧ v7 = .string ⟨acc.toArray⟩ ∧ acc.length ≤ j ∧ Below w.heap.size w wr ∧ Hid (∃ f, s.size - j ≤ f ∧ Sp.speakF false f (s.data.toList.drop j) j acc = insR s i))
    (fun _ v8 _ => s.size - (intOf v8).toNat)
  case atStart => exact ⟨i + 1, [], by go_num, by omega, rfl, by simp, Below.refl _ _, s.size, by omega, rfl⟩
  case round =>
    obtain ⟨j, acc, rfl, hj, rfl, hal, hbw, H⟩ := hrel
    by_cases hlt : j < s.size
    · have hd := Sp.drop_cons s j hlt
      have HD := Lib.hid hd
      clear hd
      have q0 : decide ((j : Int) < s.size) = true := decide_eq_true (by omega)
      by_cases c1 : (s[j]'hlt).toNat = 34
      · have q1 : (((s[j]'hlt).toNat : Int) != 34) = false := by rw [bne_eq_false_iff_eq]; omega
        have HR : Hid (insR s i = (0, acc, j + 1)) := by
          obtain ⟨f, hf, hF⟩ := H.out
          obtain ⟨g, rfl⟩ : ∃ g, f = g + 1 := ⟨f - 1, by omega⟩
          rw [HD.out, Sp.speakF_quote false g _ _ _ _ c1] at hF
          exact hF.symm
        clear c1
        go_wp2
        go_ret3
        exact ins_exit HR.out rfl (by omega) rfl hbw
      · have q1 : (((s[j]'hlt).toNat : Int) != 34) = true := by rw [bne_iff_ne]; omega
        by_cases c2 : (s[j]'hlt).toNat = 92
        · have q2 : (((s[j]'hlt).toNat : Int) == 92) = true := beq_iff_eq.2 (by omega)
          have hesc := fun W => ref3_escape s j W (by omega) (by omega) (by omega)
          simp only [Int.toNat_natCast] at hesc
          have HR := H.out
          rcases hE : Sp.escV (s.data.toList.drop j) with _ | ⟨k, b⟩
          · have he2 : ∀ W, Calls Tryd.prog 37 #[.string s, .int .i64 j] W fun e w' => e = .returned (.tuple #[.int .i64 0, .string ⟨#[]⟩]) ∧ Below W.heap.size W w' := by
              intro W
              refine (hesc W).mono ?_
              intro e w' h
              unfold escSpec Sp.escK Sp.escB at h
              rw [hE] at h
              exact h
            have HR2 : Hid (insR s i = (34, [], j)) := by
              obtain ⟨f, hf, hF⟩ := HR
              obtain ⟨g, rfl⟩ : ∃ g, f = g + 1 := ⟨f - 1, by omega⟩
              rw [HD.out, Sp.speakF_esc false g _ _ _ _ c2, ← HD.out, hE] at hF
              exact hF.symm
            have HE := Lib.hid he2
            clear hesc he2 hE HR c1 c2
            go_wp2_with (go_at_call 37; refine (HE.out _).mono ?_; rintro e w1 ⟨rfl, hb1⟩)
            go_ret3
            exact ins_exit HR2.out rfl rfl rfl (hbw.trans (hb1.mono hbw.size))
          · have hk := Sp.escV_len hE
            rw [List.length_drop, ← Lib.size_eq] at hk
            obtain ⟨hk1, hk2, hk3⟩ := hk
            have he2 : ∀ W, Calls Tryd.prog 37 #[.string s, .int .i64 j] W fun e w' => e = .returned (.tuple #[.int .i64 (k : Nat), .string ⟨b.toArray⟩]) ∧ Below W.heap.size W w' := by
              intro W
              refine (hesc W).mono ?_
              intro e w' h
              unfold escSpec Sp.escK Sp.escB at h
              rw [hE] at h
              exact h
            have HR2 : Hid (∃ f, s.size - (j + k) ≤ f ∧ Sp.speakF false f (s.data.toList.drop (j + k)) (j + k) (acc ++ b) = insR s i) := by
              obtain ⟨f, hf, hF⟩ := HR
              obtain ⟨g, rfl⟩ : ∃ g, f = g + 1 := ⟨f - 1, by omega⟩
              rw [HD.out, Sp.speakF_esc false g _ _ _ _ c2, ← HD.out, hE] at hF
              refine ⟨g, by omega, ?_⟩
              rw [← hF]
              show _ = Sp.speakF false g ((s.data.toList.drop j).drop k) (j + k) (acc ++ b)
              rw [List.drop_drop]
            have HE := Lib.hid he2
            have q3 : ((k : Int) == 0) = false := beq_eq_false_iff_ne.2 (by omega)
            clear hesc he2 hE HR c1 c2
            go_wp2_with (go_at_call 37; refine (HE.out _).mono ?_; rintro e w1 ⟨rfl, hb1⟩)
            go_roundw
            case rel => exact ⟨j + k, acc ++ b, by go_num, by omega, congrArg Value.string (Sp.append_lists _ _), by rw [List.length_append]; omega, hbw.trans (hb1.mono hbw.size), HR2⟩
            case measure => simp [intOf]; omega
        · have q2 : (((s[j]'hlt).toNat : Int) == 92) = false := beq_eq_false_iff_ne.2 (by omega)
          have hsz := fun W => ref3_size s j W (by omega) (by omega) (by omega)
          simp only [Int.toNat_natCast] at hsz
          have hne : s.data.toList.drop j ≠ [] := by rw [HD.out]; simp
          have hk1 := Sp.dec_pos _ hne
          have hk2 := Sp.dec_len _ hne
          rw [List.length_drop, ← Lib.size_eq] at hk2
          obtain ⟨k, hkk⟩ : ∃ k, (Sp.dec (s.data.toList.drop j)).2 = k := ⟨_, rfl⟩
          rw [hkk] at hk1 hk2 hsz
          have bad : ((s[j]'hlt).toNat < 32 ∨ (s[j]'hlt).toNat = 127 ∨ Sp.looseB (s.data.toList.drop j) = true) → insR s i = (33, [], j) := by
            intro hb
            obtain ⟨f, hf, hF⟩ := H.out
            obtain ⟨g, rfl⟩ : ∃ g, f = g + 1 := ⟨f - 1, by omega⟩
            rw [HD.out] at hb
            rw [HD.out, Sp.speakF_bad false g _ _ _ _ c1 c2 (fun h => by cases h) hb] at hF
            exact hF.symm
          rcases hl : Sp.looseB (s.data.toList.drop j) with _ | _
          · rw [hl] at hsz
            by_cases c3 : (s[j]'hlt).toNat < 32
            · have HR2 := Lib.hid (bad (Or.inl c3))
              have q4 : decide (((s[j]'hlt).toNat : Int) < 32) = true := decide_eq_true (by omega)
              have HE := Lib.hid hsz
              clear hsz bad hl hkk c1 c2 c3 hne
              go_wp2_with (go_at_call 38; refine (HE.out _).mono ?_; rintro e w1 ⟨rfl, rfl⟩)
              go_ret3
              exact ins_exit HR2.out rfl rfl rfl hbw
            · have q4 : decide (((s[j]'hlt).toNat : Int) < 32) = false := decide_eq_false (by omega)
              by_cases c4 : (s[j]'hlt).toNat = 127
              · have HR2 := Lib.hid (bad (Or.inr (Or.inl c4)))
                have q5 : (((s[j]'hlt).toNat : Int) == 127) = true := beq_iff_eq.2 (by omega)
                have HE := Lib.hid hsz
                clear hsz bad hl hkk c1 c2 c3 c4 hne
                go_wp2_with (go_at_call 38; refine (HE.out _).mono ?_; rintro e w1 ⟨rfl, rfl⟩)
                go_ret3
                exact ins_exit HR2.out rfl rfl rfl hbw
              · have q5 : (((s[j]'hlt).toNat : Int) == 127) = false := beq_eq_false_iff_ne.2 (by omega)
                have HR2 : Hid (∃ f, s.size - (j + k) ≤ f ∧ Sp.speakF false f (s.data.toList.drop (j + k)) (j + k) (acc ++ (s.data.toList.drop j).take k) = insR s i) := by
                  obtain ⟨f, hf, hF⟩ := H.out
                  obtain ⟨g, rfl⟩ : ∃ g, f = g + 1 := ⟨f - 1, by omega⟩
                  rw [HD.out, Sp.speakF_char false g _ _ _ _ c1 c2 (by rintro (h | h | h); exact c3 h; exact c4 h; rw [← HD.out, hl] at h; cases h), ← HD.out, hkk] at hF
                  refine ⟨g, by omega, ?_⟩
                  rw [← hF, List.drop_drop]
                have HE := Lib.hid hsz
                clear hsz bad hl hkk c1 c2 c3 c4 hne
                go_wp2_with (go_at_call 38; refine (HE.out _).mono ?_; rintro e w1 ⟨rfl, rfl⟩)
                go_roundw
                case rel =>
                  refine ⟨j + k, acc ++ (s.data.toList.drop j).take k, by go_num, by omega, congrArg Value.string ?_, by rw [List.length_append, List.length_take]; omega, hbw, HR2⟩
                  rw [Sp.append_extract]
                  rw [show j + k - j = k from by omega]
                case measure => simp [intOf]; omega
          · rw [hl] at hsz
            have HR2 := Lib.hid (bad (Or.inr (Or.inr hl)))
            have HE := Lib.hid hsz
            clear hsz bad hl hkk c1 c2 hne
            go_wp2_with (go_at_call 38; refine (HE.out _).mono ?_; rintro e w1 ⟨rfl, rfl⟩)
            go_ret3
            exact ins_exit HR2.out rfl rfl rfl hbw
    · have q0 : decide ((j : Int) < s.size) = false := decide_eq_false (by omega)
      have q1 : decide ((s.size : Int) ≤ j) = true := decide_eq_true (by omega)
      have HR : Hid (insR s i = (32, [], s.size)) := by
        obtain ⟨f, hf, hF⟩ := H.out
        have hjs : j = s.size := by omega
        rw [hjs, List.drop_eq_nil_of_le (by rw [← Lib.size_eq]; omega), Sp.speakF_nil] at hF
        exact hF.symm
      go_wp2
      go_ret3
      exact ins_exit HR.out rfl rfl rfl hbw
end Go.Proofs.YtjedoipbllcfdaaDoor
