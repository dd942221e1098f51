/-
  THE WALK of scan.piece (chapter 3).
-/
import Derived.Test.YtjedoipbllcfdaaDoorYc
import Derived.Test.YtjedoipbllcfdaaDoorWo
import Derived.Laws.Rows
set_option linter.unusedVariables false
set_option linter.unusedSimpArgs false
set_option maxRecDepth 100000
set_option maxHeartbeats 2000000
namespace Go.Proofs.YtjedoipbllcfdaaDoor
open Go.RowKit

def SIGNL : List (List UInt8) := [[33, 61], [60, 61], [62, 61], [46, 46], [45, 62], [40], [41], [33], [61], [60], [62], [38], [124], [44], [58], [47]]
def SIGNV : Array Value := #[.string ⟨#[33, 61]⟩, .string ⟨#[60, 61]⟩, .string ⟨#[62, 61]⟩, .string ⟨#[46, 46]⟩, .string ⟨#[45, 62]⟩, .string ⟨#[40]⟩, .string ⟨#[41]⟩, .string ⟨#[33]⟩, .string ⟨#[61]⟩, .string ⟨#[60]⟩, .string ⟨#[62]⟩, .string ⟨#[38]⟩, .string ⟨#[124]⟩, .string ⟨#[44]⟩, .string ⟨#[58]⟩, .string ⟨#[47]⟩]
/-- The signs' table too. -/
structure Gs (w : World) : Prop extends Gl w where
  signs : ∃ t fr, w.heap[(0 : Nat)]? = some (.cells SIGNV t fr)
theorem Gs.below {w w' : World} (h : Gs w) (hb : Below w.heap.size w w') : Gs w' where
  toGl := h.toGl.below hb
  signs := by
    obtain ⟨t, fr, h1⟩ := h.signs
    refine ⟨t, fr, (hb.block _ ?_).trans h1⟩
    rcases Nat.lt_or_ge (0 : Nat) w.heap.size with hlt | hge
    · exact hlt
    · rw [Array.getElem?_eq_none hge] at h1; cases h1

theorem idx_sign (k : Nat) (p : List UInt8) (h : SIGNL[k]? = some p) (w : World) : (Instr.index 105 (.agg SIGNV) (.int .i64 (k : Int))).run Tryd.prog w = .ok (.string ⟨p.toArray⟩) w := by
  match k, h with
  | 0, h => injection h with h; subst h; show _ = _; kernel_rfl
  | 1, h => injection h with h; subst h; show _ = _; kernel_rfl
  | 2, h => injection h with h; subst h; show _ = _; kernel_rfl
  | 3, h => injection h with h; subst h; show _ = _; kernel_rfl
  | 4, h => injection h with h; subst h; show _ = _; kernel_rfl
  | 5, h => injection h with h; subst h; show _ = _; kernel_rfl
  | 6, h => injection h with h; subst h; show _ = _; kernel_rfl
  | 7, h => injection h with h; subst h; show _ = _; kernel_rfl
  | 8, h => injection h with h; subst h; show _ = _; kernel_rfl
  | 9, h => injection h with h; subst h; show _ = _; kernel_rfl
  | 10, h => injection h with h; subst h; show _ = _; kernel_rfl
  | 11, h => injection h with h; subst h; show _ = _; kernel_rfl
  | 12, h => injection h with h; subst h; show _ = _; kernel_rfl
  | 13, h => injection h with h; subst h; show _ = _; kernel_rfl
  | 14, h => injection h with h; subst h; show _ = _; kernel_rfl
  | 15, h => injection h with h; subst h; show _ = _; kernel_rfl
  | k + 16, h => cases h

def signF : List (List UInt8) → List UInt8 → Nat
  | [], _ => 0
  | p :: r, l => if p.isPrefixOf l = true then p.length else signF r l
theorem ite_bor (a b : Bool) (x y : Nat) : (if a = true then x else if b = true then x else y) = if (a || b) = true then x else y := by cases a <;> cases b <;> rfl
theorem u8_beq (a b : UInt8) : (a == b) = (b == a) := by
  rw [Bool.eq_iff_iff, beq_iff_eq, beq_iff_eq]
  exact eq_comm
theorem signF_eq (l : List UInt8) : signF SIGNL l = Sp.signV l := by
  match l with
  | [] => rfl
  | [a] =>
    simp only [SIGNL, signF, List.isPrefixOf, Bool.and_false, Bool.and_true, List.length_cons, List.length_nil, Nat.zero_add, Bool.false_eq_true, if_false, ite_bor, Sp.signV]
    simp only [u8_beq 40 a, u8_beq 41 a, u8_beq 33 a, u8_beq 61 a, u8_beq 60 a, u8_beq 62 a, u8_beq 38 a, u8_beq 124 a, u8_beq 44 a, u8_beq 58 a, u8_beq 47 a, Bool.or_assoc]
  | a :: b :: r =>
    simp only [SIGNL, signF, List.isPrefixOf, Bool.and_false, Bool.and_true, List.length_cons, List.length_nil, Nat.zero_add, Bool.false_eq_true, if_false, ite_bor, Sp.signV]
    simp only [u8_beq 40 a, u8_beq 41 a, u8_beq 33 a, u8_beq 61 a, u8_beq 60 a, u8_beq 62 a, u8_beq 38 a, u8_beq 124 a, u8_beq 44 a, u8_beq 58 a, u8_beq 47 a, u8_beq 46 a, u8_beq 45 a, u8_beq 61 b, u8_beq 46 b, u8_beq 62 b, Bool.or_assoc]

theorem scan_piece_sign (s : ByteArray) (w : World) (hG : Gs w) (hs : s.size ≤ 1073741824) (c : Nat) (hc : Sp.classV s.data.toList = c) (h5 : c ≠ 5) (h6 : c ≠ 6) (h7 : c ≠ 7) (h8 : c ≠ 8) :
    Calls Tryd.prog 52 #[.string s] w (PieceEnd (Sp.pieceV s.data.toList) w) := by
  have hC : ∀ W, Calls Tryd.prog 51 #[.string s, .int .i64 0] W fun e w' => e = .returned (.int .i64 (c : Nat)) ∧ w' = W := fun W => hc ▸ scan_classOf s 0 W (by omega)
  have HC := Lib.hid hC
  have q5 : ((c : Int) == 5) = false := beq_eq_false_iff_ne.2 (by omega)
  have q6 : ((c : Int) == 6) = false := beq_eq_false_iff_ne.2 (by omega)
  have q7 : ((c : Int) == 7) = false := beq_eq_false_iff_ne.2 (by omega)
  have q8 : ((c : Int) == 8) = false := beq_eq_false_iff_ne.2 (by omega)
  obtain ⟨t, fr, hg⟩ := hG.signs
  have hP : Sp.pieceV s.data.toList = if signF SIGNL s.data.toList = 0 then (0, 0, 0, 30) else (7, signF SIGNL s.data.toList, 0, 0) := by
    rw [signF_eq]
    unfold Sp.pieceV
    rw [hc, if_neg h5, if_neg h6, if_neg h7, if_neg h8]
  have HP := Lib.hid hP
  have hu := Tryd.underlying105
  have hin : (Tryd.prog.info? 105).map (·.size) = some SIGNV.size := by kernel_rfl
  clear hC hc h5 h6 h7 h8 hP
  go_enter Tryd.func52, Tryd.ntmps52
  go_wp2_with (first | (go_at_call 51; refine (HC.out _).mono ?_; rintro e w1 ⟨rfl, rfl⟩) | (with_reducible refine wpList_load_row rfl _ _ rfl _ rfl _ SIGNV _ _ hg hu rfl hin ?_))
  go_loopw [12, 66] (fun v12 v66 wr => wr = w1 ∧ ∃ k : Nat, v66 = .int .i64 (k : Int) ∧ k ≤ 16 ∧ Hid (signF SIGNL s.data.toList = signF (SIGNL.drop k) s.data.toList)) (fun _ v66 _ => 16 - (intOf v66).toNat)
  case atStart => exact ⟨rfl, 0, rfl, by omega, rfl⟩
  case round =>
    obtain ⟨rfl, k, rfl, hk, HF⟩ := hrel
    by_cases hlt : k < 16
    · have q1 : decide ((k : Int) < 16) = true := decide_eq_true (by omega)
      have hkl : k < SIGNL.length := hlt
      obtain ⟨p, hp⟩ : ∃ p, SIGNL[k]? = some p := ⟨_, List.getElem?_eq_getElem hkl⟩
      have hf := HF.out
      have hix := idx_sign k p hp
      rw [List.drop_eq_getElem_cons hkl, signF] at hf
      have hpk : SIGNL[k]'hkl = p := by
        rw [List.getElem?_eq_getElem hkl] at hp
        exact Option.some.inj hp
      rw [hpk] at hf
      have hp2 : p.length ≤ 2 := by
        have : ∀ q ∈ SIGNL, q.length ≤ 2 := by decide
        rw [← hpk]
        exact this _ (List.getElem_mem hkl)
      have hp1 : 1 ≤ p.length := by
        have : ∀ q ∈ SIGNL, 1 ≤ q.length := by decide
        rw [← hpk]
        exact this _ (List.getElem_mem hkl)
      obtain ⟨B, hB⟩ : ∃ B : ByteArray, (⟨p.toArray⟩ : ByteArray) = B := ⟨_, rfl⟩
      have hBl : B.data.toList = p := by rw [← hB]
      have hBs : B.size = p.length := by rw [Lib.size_eq, hBl]
      have hBT : B.toList = p := by rw [Lib.toList_data, hBl]
      simp only [hB] at hix
      have hpre : p.isPrefixOf s.data.toList = true ↔ s.data.toList.take p.length = p := by
        rw [List.isPrefixOf_iff_prefix, List.prefix_iff_eq_take]
        exact eq_comm
      have hex : (s.extract 0 B.size).toList = s.data.toList.take p.length := by rw [Lib.toList_data, ext_take, hBs]
      have hsl := Lib.size_eq s
      by_cases hm : p.isPrefixOf s.data.toList = true
      · rw [if_pos hm] at hf
        have ht := hpre.1 hm
        have hle : B.size ≤ s.size := by
          have := congrArg List.length ht
          rw [List.length_take] at this
          omega
        have q2 : decide ((s.size : Int) ≥ B.size) = true := decide_eq_true (by omega)
        have q3 : ((s.extract 0 B.size).toList == B.toList) = true := by rw [hex, hBT, ht]; simp
        have hBs1 : 0 < B.size := by omega
        have hBs2 : B.size ≤ 2 := by omega
        have HE : Hid (Sp.pieceV s.data.toList = (7, B.size, 0, 0)) := by
          show _ = _
          rw [HP.out, hf, if_neg (by omega), hBs]
        clear hf hp hpk hB hBl hBs hBT hpre hex hm ht hp1 hp2 hsl HF
        go_wp2
        refine bodyPost_ret (results_tmp4 rfl _ _ _) rfl ?_
        exact PieceEnd_of HE.out rfl rfl rfl rfl (Below.refl _ _)
      · rw [if_neg hm] at hf
        have HF2 : Hid (signF SIGNL s.data.toList = signF (SIGNL.drop (k + 1)) s.data.toList) := hf
        have q3 : ((s.extract 0 B.size).toList == B.toList) = false := by
          rw [hex, hBT, beq_eq_false_iff_ne]
          exact fun e => hm (hpre.2 e)
        have hBs1 : 0 < B.size := by omega
        have hBs2 : B.size ≤ 2 := by omega
        by_cases hle : B.size ≤ s.size
        · have q2 : decide ((s.size : Int) ≥ B.size) = true := decide_eq_true (by omega)
          clear hf hp hpk hB hBl hBs hBT hpre hex hm hp1 hp2 hsl HF
          go_wp2
          go_roundw
          case rel => exact ⟨by trivial, k + 1, by rfl, by omega, HF2⟩
          case measure => simp [intOf]; omega
        · have q2 : decide ((s.size : Int) ≥ B.size) = false := decide_eq_false (by omega)
          clear hf hp hpk hB hBl hBs hBT hpre hex hm hp1 hp2 hsl HF
          go_wp2
          go_roundw
          case rel => exact ⟨by trivial, k + 1, by rfl, by omega, HF2⟩
          case measure => simp [intOf]; omega
    · have q1 : decide ((k : Int) < 16) = false := decide_eq_false (by omega)
      have HE : Hid (Sp.pieceV s.data.toList = (0, 0, 0, 30)) := by
        show _ = _
        rw [HP.out, HF.out, List.drop_eq_nil_of_le (show SIGNL.length ≤ k by show 16 ≤ k; omega)]
        rfl
      go_wp2
      refine bodyPost_ret (results_tmp4 rfl _ _ _) rfl ?_
      exact PieceEnd_of HE.out rfl rfl rfl rfl (Below.refl _ _)

theorem scan_piece_name (s : ByteArray) (w : World) (hs : s.size ≤ 1073741824) (hc : Sp.classV s.data.toList = 5) :
    Calls Tryd.prog 52 #[.string s] w (PieceEnd (Sp.pieceV s.data.toList) w) := by
  have hC : ∀ W, Calls Tryd.prog 51 #[.string s, .int .i64 0] W fun e w' => e = .returned (.int .i64 (5 : Nat)) ∧ w' = W := fun W => hc ▸ scan_classOf s 0 W (by omega)
  have hN := fun W => scan_name s W hs
  rw [piece_name hc]
  obtain ⟨⟨x, y, z, u⟩, hp⟩ : ∃ p, nameV s.data.toList = p := ⟨_, rfl⟩
  rw [hp] at hN ⊢
  have HC := Lib.hid hC
  have HN : Hid (∀ W, Calls Tryd.prog 77 #[.string s] W fun e w' => e = .returned (.tuple #[.int .i64 (x : Nat), .int .i64 (y : Nat), .int .i64 (z : Nat), .int .i64 (u : Nat)]) ∧ Below W.heap.size W w') := hN
  clear hC hN hc hp
  go_enter Tryd.func52, Tryd.ntmps52
  go_wp2_with (first | (go_at_call 51; refine (HC.out _).mono ?_; rintro e w1 ⟨rfl, rfl⟩) | (go_at_call 77; refine (HN.out _).mono ?_; rintro e w2 ⟨rfl, hb2⟩))
  refine bodyPost_ret (results_tmp4 rfl _ _ _) rfl ?_
  exact PieceEnd_of rfl rfl rfl rfl rfl (by assumption)

theorem scan_piece_number (s : ByteArray) (w : World) (hG : Gl w) (hs : s.size ≤ 1073741824) (hc : Sp.classV s.data.toList = 6) :
    Calls Tryd.prog 52 #[.string s] w (PieceEnd (Sp.pieceV s.data.toList) w) := by
  have hC : ∀ W, Calls Tryd.prog 51 #[.string s, .int .i64 0] W fun e w' => e = .returned (.int .i64 (6 : Nat)) ∧ w' = W := fun W => hc ▸ scan_classOf s 0 W (by omega)
  have hR := fun W => scan_numberRun s W (by omega)
  have hle := Sp.numRun_le s.data.toList
  rw [← Lib.size_eq] at hle
  have hP : Sp.pieceV s.data.toList = match Sp.numV (s.data.toList.take (Sp.numRun s.data.toList)) with | none => (0, 0, 0, 31) | some _ => (4, Sp.numRun s.data.toList, 0, 0) := by
    unfold Sp.pieceV
    rw [hc, if_neg (by omega), if_pos rfl]
    cases Sp.numV (s.data.toList.take (Sp.numRun s.data.toList)) <;> rfl
  obtain ⟨n, hn⟩ : ∃ n, Sp.numRun s.data.toList = n := ⟨_, rfl⟩
  rw [hn] at hR hle hP
  have hN := scan_number (s.extract 0 n) w hG (by rw [ByteArray.size_extract]; omega)
  rw [ext_take] at hN
  have HC := Lib.hid hC
  have HR := Lib.hid hR
  cases hv : Sp.numV (s.data.toList.take n) with
  | none =>
    rw [hv] at hP
    rw [okV_none hv] at hN
    have HN := Lib.hid hN
    have HP := Lib.hid hP
    clear hC hR hc hP hN hv hn hG
    go_enter Tryd.func52, Tryd.ntmps52
    go_wp2_with (first | (go_at_call 51; refine (HC.out _).mono ?_; rintro e w1 ⟨rfl, rfl⟩) | (go_at_call 78; refine (HR.out _).mono ?_; rintro e w2 ⟨rfl, rfl⟩) | (go_at_call 28; refine HN.out.mono ?_; rintro e w3 ⟨rfl, hb3⟩))
    refine bodyPost_ret (results_tmp4 rfl _ _ _) rfl ?_
    exact PieceEnd_of HP.out rfl rfl rfl rfl (by assumption)
  | some v =>
    rw [hv] at hP
    rw [okV_some hv] at hN
    have HN := Lib.hid hN
    have HP := Lib.hid hP
    clear hC hR hc hP hN hv hn hG
    go_enter Tryd.func52, Tryd.ntmps52
    go_wp2_with (first | (go_at_call 51; refine (HC.out _).mono ?_; rintro e w1 ⟨rfl, rfl⟩) | (go_at_call 78; refine (HR.out _).mono ?_; rintro e w2 ⟨rfl, rfl⟩) | (go_at_call 28; refine HN.out.mono ?_; rintro e w3 ⟨rfl, hb3⟩))
    refine bodyPost_ret (results_tmp4 rfl _ _ _) rfl ?_
    exact PieceEnd_of HP.out rfl rfl rfl rfl (by assumption)

theorem scan_piece_pattern (s : ByteArray) (w : World) (hs : s.size ≤ 1073741824) (hc : Sp.classV s.data.toList = 7) :
    Calls Tryd.prog 52 #[.string s] w (PieceEnd (Sp.pieceV s.data.toList) w) := by
  have hC : ∀ W, Calls Tryd.prog 51 #[.string s, .int .i64 0] W fun e w' => e = .returned (.int .i64 (7 : Nat)) ∧ w' = W := fun W => hc ▸ scan_classOf s 0 W (by omega)
  have h1 : 1 ≤ s.size := by
    obtain ⟨x, r, hx, _⟩ := Sp.classV_at hc (by omega)
    have := Lib.size_eq s
    rw [hx] at this
    simp at this
    omega
  have h1' : (1 : Int) ≤ s.size := by omega
  have hR := fun W => scan_wordRun (s.extract 1 s.size) W (by rw [ByteArray.size_extract]; omega)
  rw [ext_drop] at hR
  have hle := Sp.wordRun_le (s.data.toList.drop 1)
  rw [List.length_drop, ← Lib.size_eq] at hle
  have hP : Sp.pieceV s.data.toList = if Sp.patV ((s.data.toList.drop 1).take (Sp.wordRun (s.data.toList.drop 1))) = true then (5, 1 + Sp.wordRun (s.data.toList.drop 1), 0, 0) else (0, 0, 0, 44) := by
    unfold Sp.pieceV
    rw [hc, if_neg (by omega), if_neg (by omega), if_pos rfl]
    simp only []
    rw [show 1 + Sp.wordRun (s.data.toList.drop 1) - 1 = Sp.wordRun (s.data.toList.drop 1) by omega]
  obtain ⟨n, hn⟩ : ∃ n, Sp.wordRun (s.data.toList.drop 1) = n := ⟨_, rfl⟩
  rw [hn] at hR hle hP
  have hN := fun W => scan_pattern (s.extract 1 (1 + n)) W (by rw [ByteArray.size_extract]; omega)
  have hx : (s.extract 1 (1 + n)).data.toList = (s.data.toList.drop 1).take n := by rw [Lib.extract_data]; congr 1; omega
  rw [hx] at hN
  have HC := Lib.hid hC
  have HR := Lib.hid hR
  by_cases hv : Sp.patV ((s.data.toList.drop 1).take n) = true
  · rw [if_pos hv] at hP
    simp only [hv] at hN
    have HN := Lib.hid hN
    have HP := Lib.hid hP
    clear hC hR hc hP hN hv hn hx
    go_enter Tryd.func52, Tryd.ntmps52
    go_wp2_with (first | (go_at_call 51; refine (HC.out _).mono ?_; rintro e w1 ⟨rfl, rfl⟩) | (go_at_call 79; refine (HR.out _).mono ?_; rintro e w2 ⟨rfl, rfl⟩) | (go_at_call 80; refine (HN.out _).mono ?_; rintro e w3 ⟨rfl, hb3⟩))
    refine bodyPost_ret (results_tmp4 rfl _ _ _) rfl ?_
    exact PieceEnd_of HP.out rfl (by omega) rfl rfl (by assumption)
  · rw [if_neg hv] at hP
    have hv' : Sp.patV ((s.data.toList.drop 1).take n) = false := by simpa using hv
    simp only [hv'] at hN
    have HN := Lib.hid hN
    have HP := Lib.hid hP
    clear hC hR hc hP hN hv hv' hn hx
    go_enter Tryd.func52, Tryd.ntmps52
    go_wp2_with (first | (go_at_call 51; refine (HC.out _).mono ?_; rintro e w1 ⟨rfl, rfl⟩) | (go_at_call 79; refine (HR.out _).mono ?_; rintro e w2 ⟨rfl, rfl⟩) | (go_at_call 80; refine (HN.out _).mono ?_; rintro e w3 ⟨rfl, hb3⟩))
    refine bodyPost_ret (results_tmp4 rfl _ _ _) rfl ?_
    exact PieceEnd_of HP.out rfl rfl rfl rfl (by assumption)

theorem scan_piece_quote (s : ByteArray) (w : World) (hG : Gl w) (hs : s.size ≤ 1073741824) (hc : Sp.classV s.data.toList = 8) :
    Calls Tryd.prog 52 #[.string s] w (PieceEnd (Sp.pieceV s.data.toList) w) := by
  have hC : ∀ W, Calls Tryd.prog 51 #[.string s, .int .i64 0] W fun e w' => e = .returned (.int .i64 (8 : Nat)) ∧ w' = W := fun W => hc ▸ scan_classOf s 0 W (by omega)
  have h1 : 1 ≤ s.size := by
    obtain ⟨x, r, hx, _⟩ := Sp.classV_at hc (by omega)
    have := Lib.size_eq s
    rw [hx] at this
    simp at this
    omega
  have hS := scan_speak s true w hG (by omega) (by omega)
  have hP : Sp.pieceV s.data.toList = if (Sp.speakV true s.data.toList).1 ≠ 0 then (0, 0, (Sp.speakV true s.data.toList).2.2, (Sp.speakV true s.data.toList).1) else if 256 < (Sp.speakV true s.data.toList).2.1.length then (0, 0, 0, 37) else (6, (Sp.speakV true s.data.toList).2.2, 0, 0) := by
    unfold Sp.pieceV
    rw [hc, if_neg (by omega), if_neg (by omega), if_neg (by omega), if_pos rfl]
  obtain ⟨c, b, p, hsp⟩ : ∃ c b p, Sp.speakV true s.data.toList = (c, b, p) := ⟨_, _, _, rfl⟩
  have hle := Sp.speakV_le hsp
  rw [← Lib.size_eq] at hle
  rw [hsp] at hP
  simp only [] at hP
  have HC := Lib.hid hC
  by_cases c0 : c = 0
  · subst c0
    rw [if_neg (by omega)] at hP
    have hc2 : Calls Tryd.prog 23 #[.string s, .bool true] w (fun e w' => ∃ o cap, e = .returned (.tuple #[.slice o b.length cap, .int .i64 (p : Nat), .int .i64 0]) ∧ Below w.heap.size w w') := hS.mono (fun e w' h => by
      unfold SpkEnd at h
      rw [hsp] at h
      obtain ⟨v, rfl, h5, h6⟩ := h.1 rfl
      obtain ⟨o, cap, rfl⟩ := own_slice h5
      exact ⟨o, cap, rfl, h6⟩)
    have HS := Lib.hid hc2
    by_cases c2 : 256 < b.length
    · rw [if_pos c2] at hP
      have HP := Lib.hid hP
      have q5 : decide ((b.length : Int) > 256) = true := decide_eq_true (by omega)
      clear hC hc hP hS hc2 hG hsp
      go_enter Tryd.func52, Tryd.ntmps52
      go_wp2_with (first | (go_at_call 51; refine (HC.out _).mono ?_; rintro e w1 ⟨rfl, rfl⟩) | (go_at_call 23; refine HS.out.mono ?_; rintro e w2 ⟨o, cap, rfl, hb2⟩))
      refine bodyPost_ret (results_tmp4 rfl _ _ _) rfl ?_
      exact PieceEnd_of HP.out rfl rfl rfl rfl (by assumption)
    · rw [if_neg c2] at hP
      have HP := Lib.hid hP
      have q5 : decide ((b.length : Int) > 256) = false := decide_eq_false (by omega)
      clear hC hc hP hS hc2 hG hsp
      go_enter Tryd.func52, Tryd.ntmps52
      go_wp2_with (first | (go_at_call 51; refine (HC.out _).mono ?_; rintro e w1 ⟨rfl, rfl⟩) | (go_at_call 23; refine HS.out.mono ?_; rintro e w2 ⟨o, cap, rfl, hb2⟩))
      refine bodyPost_ret (results_tmp4 rfl _ _ _) rfl ?_
      exact PieceEnd_of HP.out rfl rfl rfl rfl (by assumption)
  · rw [if_pos c0] at hP
    have q4 : ((c : Int) == 0) = false := beq_eq_false_iff_ne.2 (by omega)
    have q5 : ((c : Int) != 0) = true := by simp; omega
    have hc2 : Calls Tryd.prog 23 #[.string s, .bool true] w (fun e w' => e = .returned (.tuple #[.slice none 0 0, .int .i64 (p : Nat), .int .i64 (c : Nat)]) ∧ Below w.heap.size w w') := hS.mono (fun e w' h => by
      unfold SpkEnd at h
      rw [hsp] at h
      exact h.2 c0)
    have HS := Lib.hid hc2
    have HP := Lib.hid hP
    clear hC hc hP hS hc2 hG hsp
    go_enter Tryd.func52, Tryd.ntmps52
    go_wp2_with (first | (go_at_call 51; refine (HC.out _).mono ?_; rintro e w1 ⟨rfl, rfl⟩) | (go_at_call 23; refine HS.out.mono ?_; rintro e w2 ⟨rfl, hb2⟩))
    refine bodyPost_ret (results_tmp4 rfl _ _ _) rfl ?_
    exact PieceEnd_of HP.out rfl rfl rfl rfl (by assumption)

theorem scan_piece (s : ByteArray) (w : World) (hG : Gs w) (hs : s.size ≤ 1073741824) :
    Calls Tryd.prog 52 #[.string s] w (PieceEnd (Sp.pieceV s.data.toList) w) := by
  by_cases h5 : Sp.classV s.data.toList = 5
  · exact scan_piece_name s w hs h5
  by_cases h6 : Sp.classV s.data.toList = 6
  · exact scan_piece_number s w hG.toGl hs h6
  by_cases h7 : Sp.classV s.data.toList = 7
  · exact scan_piece_pattern s w hs h7
  by_cases h8 : Sp.classV s.data.toList = 8
  · exact scan_piece_quote s w hG.toGl hs h8
  exact scan_piece_sign s w hG hs _ rfl h5 h6 h7 h8
end Go.Proofs.YtjedoipbllcfdaaDoor
