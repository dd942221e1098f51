/-
  THE WALK of scan.escape (chapter 3).
-/
import Derived.Test.YtjedoipbllcfdaaDoorWj
import Derived.Test.YtjedoipbllcfdaaDoorSpG
set_option linter.unusedVariables false
set_option linter.unusedSimpArgs false
set_option maxRecDepth 100000
set_option maxHeartbeats 4000000
namespace Go.Proofs.YtjedoipbllcfdaaDoor
open Go.RowKit

def LET : ByteArray := ⟨#[34, 92, 110, 114, 116]⟩
/-- A slice of bytes in new memory. -/
def NewBytes (W : World) (b : List UInt8) (v : Value) (w' : World) : Prop := ∃ g cap, v = .slice (some ⟨g, 0, none⟩) b.length cap ∧ W.heap.size ≤ g ∧ (∀ j u, (Lib.byteCells b)[j]? = some u → w'.cell? ((⟨g, 0, none⟩ : Addr).add j) = some u)
/-- What escape hands back. -/
def EscEnd (l : List UInt8) (W : World) (e : Ending) (w' : World) : Prop :=
  match Sp.escV l with
  | none => e = .returned (.tuple #[.slice none 0 0, .int .i64 0]) ∧ Below W.heap.size W w'
  | some (k, b) => ∃ v, e = .returned (.tuple #[v, .int .i64 (k : Nat)]) ∧ NewBytes W b v w' ∧ Below W.heap.size W w'
theorem EscEnd_none {l : List UInt8} {W : World} (h : Sp.escV l = none) : ∀ e w', (e = Ending.returned (.tuple #[.slice none 0 0, .int .i64 0]) ∧ Below W.heap.size W w') → EscEnd l W e w' := by
  intro e w' hh
  unfold EscEnd
  rw [h]
  exact hh
theorem EscEnd_one {l : List UInt8} {W : World} {k : Nat} {y : UInt8} (h : Sp.escV l = some (k, [y])) {z : Int} (hz : z = y.toNat) (kk : Int) (hk : kk = k) {w' : World} (hb : Below W.heap.size W w') {g cap : Nat} (hg : W.heap.size ≤ g) (hc : w'.cell? ⟨g, 0, none⟩ = some (.int .u8 z)) :
    EscEnd l W (.returned (.tuple #[.slice (some ⟨g, 0, none⟩) 1 cap, .int .i64 kk])) w' := by
  unfold EscEnd
  rw [h]
  subst hk
  refine ⟨_, rfl, ⟨g, cap, rfl, hg, ?_⟩, hb⟩
  intro j u hu
  rcases j with _ | j
  · simp [Lib.byteCells] at hu
    subst hu
    rw [← hz]
    simpa [Addr.add] using hc
  · simp [Lib.byteCells] at hu

theorem scan_escape_end (s : ByteArray) (w : World) (h1 : ¬ 1 < s.size) :
    Calls Tryd.prog 35 #[.string s] w fun e w' => e = .returned (.tuple #[.slice none 0 0, .int .i64 0]) ∧ Below w.heap.size w w' := by
  go_enter Tryd.func35, Tryd.ntmps35
  go_wp2
  go_ret2
  exact ⟨rfl, Below.refl _ _⟩

theorem idx_let (c : UInt8) (w : World) : Calls Tryd.prog 58 #[.string LET, .int .u8 c.toNat] w fun e w' => e = .returned (.int .i64 (Lib.indexByte [34, 92, 110, 114, 116] c)) ∧ w' = w := by
  have h := Tryd.strings_IndexByte LET c.toNat w
  have e : ((c.toNat : Int)).toNat.toUInt8 = c := by simp
  rw [e] at h
  exact h

theorem scan_escape_34 (s : ByteArray) (w : World) (h1 : 1 < s.size) (hc : (s[1]'h1).toNat = 34) :
    Calls Tryd.prog 35 #[.string s] w fun e w' => ∃ g cap, e = .returned (.tuple #[.slice (some ⟨g, 0, none⟩) 1 cap, .int .i64 2]) ∧ w.heap.size ≤ g ∧ w'.cell? ⟨g, 0, none⟩ = some (.int .u8 34) ∧ Below w.heap.size w w' := by
  have hi := fun W => idx_let (s[1]'h1) W
  have hcc : s[1]'h1 = 34 := UInt8.toNat_inj.1 hc
  have hv : Lib.indexByte [34, 92, 110, 114, 116] (s[1]'h1) = 0 := by rw [hcc]; rfl
  simp only [hv] at hi
  have HI := Lib.hid hi
  have h1' : (1 : Int) < s.size := by omega
  clear hi hv hcc hc
  go_enter Tryd.func35, Tryd.ntmps35
  go_wp2_with (go_at_call 58; refine (HI.out _).mono ?_; rintro e w' ⟨rfl, rfl⟩)
  go_ret2
  exact ⟨_, _, rfl, Nat.le_refl _, by rw [World.cell?_alloc_mark]; rfl, (Below.refl _ _).alloc (Nat.le_refl _) _⟩

theorem scan_escape_92 (s : ByteArray) (w : World) (h1 : 1 < s.size) (hc : (s[1]'h1).toNat = 92) :
    Calls Tryd.prog 35 #[.string s] w fun e w' => ∃ g cap, e = .returned (.tuple #[.slice (some ⟨g, 0, none⟩) 1 cap, .int .i64 2]) ∧ w.heap.size ≤ g ∧ w'.cell? ⟨g, 0, none⟩ = some (.int .u8 92) ∧ Below w.heap.size w w' := by
  have hi := fun W => idx_let (s[1]'h1) W
  have hcc : s[1]'h1 = 92 := UInt8.toNat_inj.1 hc
  have hv : Lib.indexByte [34, 92, 110, 114, 116] (s[1]'h1) = 1 := by rw [hcc]; rfl
  simp only [hv] at hi
  have HI := Lib.hid hi
  have h1' : (1 : Int) < s.size := by omega
  clear hi hv hcc hc
  go_enter Tryd.func35, Tryd.ntmps35
  go_wp2_with (go_at_call 58; refine (HI.out _).mono ?_; rintro e w' ⟨rfl, rfl⟩)
  go_ret2
  exact ⟨_, _, rfl, Nat.le_refl _, by rw [World.cell?_alloc_mark]; rfl, (Below.refl _ _).alloc (Nat.le_refl _) _⟩

theorem scan_escape_110 (s : ByteArray) (w : World) (h1 : 1 < s.size) (hc : (s[1]'h1).toNat = 110) :
    Calls Tryd.prog 35 #[.string s] w fun e w' => ∃ g cap, e = .returned (.tuple #[.slice (some ⟨g, 0, none⟩) 1 cap, .int .i64 2]) ∧ w.heap.size ≤ g ∧ w'.cell? ⟨g, 0, none⟩ = some (.int .u8 10) ∧ Below w.heap.size w w' := by
  have hi := fun W => idx_let (s[1]'h1) W
  have hcc : s[1]'h1 = 110 := UInt8.toNat_inj.1 hc
  have hv : Lib.indexByte [34, 92, 110, 114, 116] (s[1]'h1) = 2 := by rw [hcc]; rfl
  simp only [hv] at hi
  have HI := Lib.hid hi
  have h1' : (1 : Int) < s.size := by omega
  clear hi hv hcc hc
  go_enter Tryd.func35, Tryd.ntmps35
  go_wp2_with (go_at_call 58; refine (HI.out _).mono ?_; rintro e w' ⟨rfl, rfl⟩)
  go_ret2
  exact ⟨_, _, rfl, Nat.le_refl _, by rw [World.cell?_alloc_mark]; rfl, (Below.refl _ _).alloc (Nat.le_refl _) _⟩

theorem scan_escape_114 (s : ByteArray) (w : World) (h1 : 1 < s.size) (hc : (s[1]'h1).toNat = 114) :
    Calls Tryd.prog 35 #[.string s] w fun e w' => ∃ g cap, e = .returned (.tuple #[.slice (some ⟨g, 0, none⟩) 1 cap, .int .i64 2]) ∧ w.heap.size ≤ g ∧ w'.cell? ⟨g, 0, none⟩ = some (.int .u8 13) ∧ Below w.heap.size w w' := by
  have hi := fun W => idx_let (s[1]'h1) W
  have hcc : s[1]'h1 = 114 := UInt8.toNat_inj.1 hc
  have hv : Lib.indexByte [34, 92, 110, 114, 116] (s[1]'h1) = 3 := by rw [hcc]; rfl
  simp only [hv] at hi
  have HI := Lib.hid hi
  have h1' : (1 : Int) < s.size := by omega
  clear hi hv hcc hc
  go_enter Tryd.func35, Tryd.ntmps35
  go_wp2_with (go_at_call 58; refine (HI.out _).mono ?_; rintro e w' ⟨rfl, rfl⟩)
  go_ret2
  exact ⟨_, _, rfl, Nat.le_refl _, by rw [World.cell?_alloc_mark]; rfl, (Below.refl _ _).alloc (Nat.le_refl _) _⟩

theorem scan_escape_116 (s : ByteArray) (w : World) (h1 : 1 < s.size) (hc : (s[1]'h1).toNat = 116) :
    Calls Tryd.prog 35 #[.string s] w fun e w' => ∃ g cap, e = .returned (.tuple #[.slice (some ⟨g, 0, none⟩) 1 cap, .int .i64 2]) ∧ w.heap.size ≤ g ∧ w'.cell? ⟨g, 0, none⟩ = some (.int .u8 9) ∧ Below w.heap.size w w' := by
  have hi := fun W => idx_let (s[1]'h1) W
  have hcc : s[1]'h1 = 116 := UInt8.toNat_inj.1 hc
  have hv : Lib.indexByte [34, 92, 110, 114, 116] (s[1]'h1) = 4 := by rw [hcc]; rfl
  simp only [hv] at hi
  have HI := Lib.hid hi
  have h1' : (1 : Int) < s.size := by omega
  clear hi hv hcc hc
  go_enter Tryd.func35, Tryd.ntmps35
  go_wp2_with (go_at_call 58; refine (HI.out _).mono ?_; rintro e w' ⟨rfl, rfl⟩)
  go_ret2
  exact ⟨_, _, rfl, Nat.le_refl _, by rw [World.cell?_alloc_mark]; rfl, (Below.refl _ _).alloc (Nat.le_refl _) _⟩

theorem idx_none {c : UInt8} (h34 : c.toNat ≠ 34) (h92 : c.toNat ≠ 92) (h110 : c.toNat ≠ 110) (h114 : c.toNat ≠ 114) (h116 : c.toNat ≠ 116) : Lib.indexByte [34, 92, 110, 114, 116] c = -1 := by
  rw [Sp.indexByte_tw, if_pos]
  simp only [List.all_cons, List.all_nil, Bool.and_true, Bool.and_eq_true, decide_eq_true_eq]
  refine ⟨?_, ?_, ?_, ?_, ?_⟩ <;> (rintro rfl; simp at h34 h92 h110 h114 h116)
theorem hasP (s : ByteArray) (w : World) (b : Bool) (hb : decide (3 ≤ s.size ∧ Sp.bt s.data.toList 0 = 92 ∧ Sp.bt s.data.toList 1 = 117 ∧ Sp.bt s.data.toList 2 = 123) = b) :
    Calls Tryd.prog 59 #[.string s, .string ⟨#[92, 117, 123]⟩] w fun e w' => e = .returned (.bool b) ∧ w' = w := by
  have h := Tryd.strings_HasPrefix s ⟨#[92, 117, 123]⟩ w
  have e : Lib.hasPrefix s.data.toList (⟨#[92, 117, 123]⟩ : ByteArray).data.toList = b := by
    rw [← hb, Lib.size_eq]
    exact Sp.hasP3 s.data.toList 92 117 123
  rw [e] at h
  exact h

theorem scan_escape_no (s : ByteArray) (w : World) (h1 : 1 < s.size) (h34 : (s[1]'h1).toNat ≠ 34) (h92 : (s[1]'h1).toNat ≠ 92) (h110 : (s[1]'h1).toNat ≠ 110) (h114 : (s[1]'h1).toNat ≠ 114) (h116 : (s[1]'h1).toNat ≠ 116) (h120 : (s[1]'h1).toNat ≠ 120)
    (hno : ¬ (3 ≤ s.size ∧ (s[1]'h1).toNat = 117 ∧ Sp.bt s.data.toList 2 = 123)) :
    Calls Tryd.prog 35 #[.string s] w fun e w' => e = .returned (.tuple #[.slice none 0 0, .int .i64 0]) ∧ Below w.heap.size w w' := by
  have hi := fun W => idx_let (s[1]'h1) W
  have hv := idx_none h34 h92 h110 h114 h116
  simp only [hv] at hi
  have HI := Lib.hid hi
  have hp := fun W => hasP s W false (decide_eq_false (by rintro ⟨a, b, c, d⟩; exact hno ⟨a, by rw [Sp.bt_idx s 1 h1]; exact c, d⟩))
  have HP := Lib.hid hp
  have q1 : (((s[1]'h1).toNat : Int) == 120) = false := beq_eq_false_iff_ne.2 (by omega)
  have h1' : (1 : Int) < s.size := by omega
  clear hi hv hp hno h34 h92 h110 h114 h116 h120
  go_enter Tryd.func35, Tryd.ntmps35
  go_wp2_with (first | (go_at_call 58; refine (HI.out _).mono ?_; rintro e w' ⟨rfl, rfl⟩) | (go_at_call 59; refine (HP.out _).mono ?_; rintro e w' ⟨rfl, rfl⟩))
  go_ret2
  exact ⟨rfl, Below.refl _ _⟩

theorem basedV_two (x y : UInt8) : Sp.basedV 16 2 [x, y] = if Sp.hexv x < 16 ∧ Sp.hexv y < 16 then some (16 * Sp.hexv x + Sp.hexv y) else none := by
  unfold Sp.basedV
  by_cases h : Sp.hexv x < 16 ∧ Sp.hexv y < 16
  · rw [if_pos h, if_neg]
    · simp [Sp.digitsV]
    · simp [h.1, h.2]
  · rw [if_neg h, if_pos]
    right; right
    rw [List.all_eq_false]
    by_cases hx : Sp.hexv x < 16
    · exact ⟨y, by simp, by simp; omega⟩
    · exact ⟨x, by simp, by simp; omega⟩
theorem piece_two (s : ByteArray) (h3 : 3 < s.size) : (s.extract 2 4).data.toList = [s[2]'(by omega), s[3]'h3] := by
  rw [Lib.extract_data, Sp.drop_cons s 2 (by omega), Sp.drop_cons s 3 h3]
  rfl

theorem scan_escape_x_no (s : ByteArray) (w : World) (hG : Gl w) (hs : s.size ≤ 1073741824) (h1 : 1 < s.size) (h120 : (s[1]'h1).toNat = 120) (hno : ∀ h3 : 3 < s.size, ¬ (Sp.hexv (s[2]'(by omega)) < 16 ∧ Sp.hexv (s[3]'h3) < 16)) :
    Calls Tryd.prog 35 #[.string s] w fun e w' => e = .returned (.tuple #[.slice none 0 0, .int .i64 0]) ∧ Below w.heap.size w w' := by
  have hi := fun W => idx_let (s[1]'h1) W
  have hv := idx_none (c := s[1]'h1) (by omega) (by omega) (by omega) (by omega) (by omega)
  simp only [hv] at hi
  have HI := Lib.hid hi
  have hp := fun W => hasP s W false (decide_eq_false (by rintro ⟨a, b, c, d⟩; rw [← Sp.bt_idx s 1 h1] at c; omega))
  have HP := Lib.hid hp
  have q1 : (((s[1]'h1).toNat : Int) == 120) = true := beq_iff_eq.2 (by omega)
  have h1' : (1 : Int) < s.size := by omega
  have hb := fun W hW => scan_based (s.extract 2 4) 16 2 W hW (by rw [ByteArray.size_extract]; omega) (by omega) (Or.inl ⟨rfl, by omega⟩)
  by_cases h3 : 3 < s.size
  · have q2 : decide ((4 : Int) ≤ s.size) = true := decide_eq_true (by omega)
    have hk : ∀ W, Gl W → Calls Tryd.prog 45 #[.string (s.extract 2 4), .int .i64 16, .int .i64 2] W fun e w' => e = .returned (.tuple #[.int .i64 0, .bool false]) ∧ Below W.heap.size W w' := by
      intro W hW
      have h := hb W hW
      rw [okV_none (by rw [piece_two s h3]; show Sp.basedV 16 2 _ = none; rw [basedV_two, if_neg (hno h3)])] at h
      exact h
    have HB := Lib.hid hk
    have HG := Lib.hid hG
    clear hi hv hp hno h120 hb hk hG
    go_enter Tryd.func35, Tryd.ntmps35
    go_wp2_with (first | (go_at_call 58; refine (HI.out _).mono ?_; rintro e w' ⟨rfl, rfl⟩) | (go_at_call 59; refine (HP.out _).mono ?_; rintro e w' ⟨rfl, rfl⟩) | (go_at_call 45; refine (HB.out _ HG.out).mono ?_; rintro e w1 ⟨rfl, hb1⟩))
    go_ret2
    exact ⟨rfl, by assumption⟩
  · have q2 : decide ((4 : Int) ≤ s.size) = false := decide_eq_false (by omega)
    clear hi hv hp hno h120 hb hG
    go_enter Tryd.func35, Tryd.ntmps35
    go_wp2_with (first | (go_at_call 58; refine (HI.out _).mono ?_; rintro e w' ⟨rfl, rfl⟩) | (go_at_call 59; refine (HP.out _).mono ?_; rintro e w' ⟨rfl, rfl⟩))
    go_ret2
    exact ⟨rfl, Below.refl _ _⟩

theorem scan_escape_x (s : ByteArray) (w : World) (hG : Gl w) (hs : s.size ≤ 1073741824) (h1 : 1 < s.size) (h120 : (s[1]'h1).toNat = 120) (h3 : 3 < s.size) (h2 : 2 < s.size) (ha : Sp.hexv (s[2]'h2) < 16) (hb2 : Sp.hexv (s[3]'h3) < 16) :
    Calls Tryd.prog 35 #[.string s] w fun e w' => ∃ g cap, e = .returned (.tuple #[.slice (some ⟨g, 0, none⟩) 1 cap, .int .i64 4]) ∧ w.heap.size ≤ g ∧ w'.cell? ⟨g, 0, none⟩ = some (.int .u8 (16 * Sp.hexv (s[2]'h2) + Sp.hexv (s[3]'h3) : Nat)) ∧ Below w.heap.size w w' := by
  have hi := fun W => idx_let (s[1]'h1) W
  have hv := idx_none (c := s[1]'h1) (by omega) (by omega) (by omega) (by omega) (by omega)
  simp only [hv] at hi
  have HI := Lib.hid hi
  have q1 : (((s[1]'h1).toNat : Int) == 120) = true := beq_iff_eq.2 (by omega)
  have h1' : (1 : Int) < s.size := by omega
  have q2 : decide ((4 : Int) ≤ s.size) = true := decide_eq_true (by omega)
  have hb := fun W hW => scan_based (s.extract 2 4) 16 2 W hW (by rw [ByteArray.size_extract]; omega) (by omega) (Or.inl ⟨rfl, by omega⟩)
  obtain ⟨z, hz⟩ : ∃ z : Int, ((16 * Sp.hexv (s[2]'h2) + Sp.hexv (s[3]'h3) : Nat) : Int) = z := ⟨_, rfl⟩
  have hz0 : 0 ≤ z := by omega
  have hz1 : z < 256 := by omega
  have hk : ∀ W, Gl W → Calls Tryd.prog 45 #[.string (s.extract 2 4), .int .i64 16, .int .i64 2] W fun e w' => e = .returned (.tuple #[.int .i64 z, .bool true]) ∧ Below W.heap.size W w' := by
    intro W hW
    have h := hb W hW
    rw [okV_some (by rw [piece_two s h3]; show Sp.basedV 16 2 _ = _; rw [basedV_two, if_pos ⟨ha, hb2⟩]), hz] at h
    exact h
  rw [hz]
  have HB := Lib.hid hk
  have HG := Lib.hid hG
  clear hi hv h120 hb hk hG hz ha hb2
  go_enter Tryd.func35, Tryd.ntmps35
  go_wp2_with (first | (go_at_call 58; refine (HI.out _).mono ?_; rintro e w' ⟨rfl, rfl⟩) | (go_at_call 45; refine (HB.out _ HG.out).mono ?_; rintro e w1 ⟨rfl, hb1⟩))
  go_ret2
  exact ⟨_, _, rfl, hb1.size, by rw [World.cell?_alloc_mark]; rfl, hb1.alloc hb1.size _⟩
end Go.Proofs.YtjedoipbllcfdaaDoor
