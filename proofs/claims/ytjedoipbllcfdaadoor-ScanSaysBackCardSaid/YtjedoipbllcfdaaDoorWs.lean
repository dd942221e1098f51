/-
  THE WALK of strings.IndexRune at the five letters that are written by a letter, at a character that is none (chapter 3).
-/
import Derived.Test.YtjedoipbllcfdaaDoorWr
set_option linter.unusedVariables false
set_option linter.unusedSimpArgs false
set_option maxRecDepth 100000
set_option maxHeartbeats 2000000
namespace Go.Proofs.YtjedoipbllcfdaaDoor
open Go.RowKit

def MEANT : ByteArray := ⟨#[34, 92, 10, 13, 9]⟩
theorem meant_fin : ∀ n : Fin 5, (MEANT[n.1]'(show n.1 < 5 from n.2)).toNat < 128 := by decide
theorem meant_at (n : Nat) (h : n < MEANT.size) : (MEANT[n]'h).toNat < 128 := meant_fin ⟨n, h⟩

theorem index_err (w : World) :
    Calls Tryd.prog 40 #[.string MEANT, .int .i32 65533] w fun e w' => e = .returned (.int .i64 (-1)) ∧ Below w.heap.size w w' ∧ Lib.OthersKept 5 none w w' := by
  obtain ⟨s, hs⟩ : ∃ s, MEANT = s := ⟨_, rfl⟩
  have hsz : s.size = 5 := by rw [← hs]; rfl
  have hat : ∀ n, (h : n < s.size) → (s[n]'h).toNat < 128 := by rw [← hs]; exact meant_at
  rw [hs]
  have HAT := Lib.hid hat
  clear hat hs
  go_enter Tryd.func40, Tryd.ntmps40
  go_wp2
  go_loopw [5, 6] (fun v5 v6 wr => ∃ pos : Nat, wr.heap[w.heap.size]? = some (.stringIter s pos) ∧ Below w.heap.size w wr ∧ Lib.OthersKept 5 none w wr) (fun _ _ wr => s.size - wr.iterPos w.heap.size)
  case atStart => exact ⟨0, World.iter_heap w s 0, (Below.refl _ _).alloc (Nat.le_refl _) _, (Lib.OthersKept.refl _ _ _).alloc _⟩
  case round =>
    obtain ⟨pos, hit, hbw, hok⟩ := hrel
    have hpos0 := iterPos_of hit
    by_cases hp : pos < s.size
    · obtain ⟨c, hc⟩ : ∃ c, (s[pos]'hp).toNat = c := ⟨_, rfl⟩
      have hc8 := HAT.out pos hp
      have hnx := fun ty => Lib.run_next_ascii_at (P := Tryd.prog) wr w.heap.size s pos ty hit hp (HAT.out pos hp)
      rw [hc] at hnx hc8
      have hit2 := Lib.iterAt_heap wr w.heap.size s pos (pos + 1) hit
      have hbw2 := Lib.below_iterAt hbw (k := w.heap.size) (Nat.le_refl _) s (pos + 1)
      have hok2 : Lib.OthersKept 5 none w (wr.iterAt w.heap.size s (pos + 1)) := by
        intro k o hk hb ho
        have h1 := hok k o hk hb ho
        have hlt : k < w.heap.size := (Array.getElem?_eq_some_iff.1 hk).1
        rw [Lib.iterAt_other _ _ _ _ _ (by omega)]
        exact h1
      have q1 : ((c : Int) == 65533) = false := beq_eq_false_iff_ne.2 (by omega)
      go_wp2
      go_roundw
      case rel => exact ⟨pos + 1, hit2, hbw2, hok2⟩
      case measure =>
        rw [iterPos_of hit2, hpos0]
        omega
    · have hnx := fun ty => Lib.run_next_end_at (P := Tryd.prog) wr w.heap.size s pos ty hit hp
      go_wp2
      go_ret
      exact ⟨rfl, hbw, hok⟩

theorem enc_last (r : Int) (h0 : 128 ≤ r) : ∃ k, (k = 2 ∨ k = 3 ∨ k = 4) ∧ (Utf8.encode r).size = k ∧ ∀ h : k - 1 < (Utf8.encode r).size, 128 ≤ ((Utf8.encode r)[k - 1]'h).toNat := by
  obtain ⟨c, hc, hcc⟩ : ∃ c : Nat, (if Utf8.valid r then r.toNat else Utf8.runeError) = c ∧ 128 ≤ c := by
    refine ⟨_, rfl, ?_⟩
    split
    · omega
    · decide
  have hm := Nat.mod_lt c (show 0 < 64 by omega)
  have e1 : Utf8.encode r = if c < 0x80 then ⟨#[UInt8.ofNat c]⟩ else if c < 0x800 then ⟨#[UInt8.ofNat (0xC0 + c / 64), UInt8.ofNat (0x80 + c % 64)]⟩ else if c < 0x10000 then ⟨#[UInt8.ofNat (0xE0 + c / 4096), UInt8.ofNat (0x80 + c / 64 % 64), UInt8.ofNat (0x80 + c % 64)]⟩
      else ⟨#[UInt8.ofNat (0xF0 + c / 262144), UInt8.ofNat (0x80 + c / 4096 % 64), UInt8.ofNat (0x80 + c / 64 % 64), UInt8.ofNat (0x80 + c % 64)]⟩ := by
    rw [← hc]
    rfl
  have hlast : 128 ≤ (UInt8.ofNat (0x80 + c % 64)).toNat := by rw [UInt8.toNat_ofNat']; omega
  rw [if_neg (by omega)] at e1
  by_cases c1 : c < 0x800
  · rw [if_pos c1] at e1
    refine ⟨2, Or.inl rfl, by rw [e1]; rfl, ?_⟩
    rw [e1]
    intro h
    exact hlast
  rw [if_neg c1] at e1
  by_cases c2 : c < 0x10000
  · rw [if_pos c2] at e1
    refine ⟨3, Or.inr (Or.inl rfl), by rw [e1]; rfl, ?_⟩
    rw [e1]
    intro h
    exact hlast
  · rw [if_neg c2] at e1
    refine ⟨4, Or.inr (Or.inr rfl), by rw [e1]; rfl, ?_⟩
    rw [e1]
    intro h
    exact hlast

theorem index_byte_none (t : ByteArray) (c : UInt8) (h : t.data.toList.all (fun x => decide (x.toNat < 128)) = true) (hc : 128 ≤ c.toNat) (w : World) :
    Calls Tryd.prog 58 #[.string t, .int .u8 c.toNat] w fun e w' => e = .returned (.int .i64 (-1)) ∧ w' = w := by
  have h1 := Tryd.strings_IndexByte t c.toNat w
  have e : ((c.toNat : Int)).toNat.toUInt8 = c := by simp
  rw [e, Sp.indexByte_tw, if_pos] at h1
  · exact h1
  · rw [List.all_eq_true] at h ⊢
    intro x hx
    have := h x hx
    simp only [decide_eq_true_eq] at this ⊢
    rintro rfl
    omega

theorem index_none_2 (r : Int) (q1 : decide ((0 : Int) ≤ r) = true) (q2 : decide (r < 128) = false) (q3 : (r == 65533) = false) (h2 : Lib.validRune r = true) (hsz : (Utf8.encode r).size = 2) (hm : ∀ h : 1 < (Utf8.encode r).size, 128 ≤ ((Utf8.encode r)[1]'h).toNat) (w : World) :
    Calls Tryd.prog 40 #[.string MEANT, .int .i32 r] w fun e w' => e = .returned (.int .i64 (-1)) ∧ Below w.heap.size w w' ∧ Lib.OthersKept 5 none w w' := by
  have hv := fun W => Tryd.utf8_ValidRune r W
  rw [h2] at hv
  have HVR := Lib.hid hv
  have hcv := fun W : World => run_convert_int_string (P := Tryd.prog) W 21 9 .i32 r (by kernel_rfl) Tryd.underlying9
  obtain ⟨t, ht⟩ : ∃ t, Utf8.encode r = t := ⟨_, rfl⟩
  simp only [ht] at hcv hsz hm
  have hlt : 1 < t.size := by omega
  have hm1 := hm hlt
  obtain ⟨y, hy⟩ : ∃ y, t[1]'hlt = y := ⟨_, rfl⟩
  rw [hy] at hm1
  have hib := fun W => index_byte_none (MEANT.extract 2 5) y (by decide) hm1 W
  have HIB := Lib.hid hib
  obtain ⟨s, hs⟩ : ∃ s, MEANT = s := ⟨_, rfl⟩
  have hss : s.size = 5 := by rw [← hs]; rfl
  have hs1 : 1 < s.size := by omega
  have hsy : (s[1]'hs1).toNat < 128 := by subst hs; exact meant_at 1 hs1
  have q4 : (((s[1]'hs1).toNat : Int) != (y.toNat : Int)) = true := by
    rw [bne_iff_ne]
    omega
  rw [hs] at HIB ⊢
  have hwr : IntKind.i64.wrap 2 = 2 := by decide
  clear hv h2 hib hm hm1 hsy hs ht
  go_enter Tryd.func40, Tryd.ntmps40
  go_wp2_with (go_at_call 61; refine (HVR.out _).mono ?_; rintro e w' ⟨rfl, rfl⟩)
  refine wp_scope_straight ?_
  go_wp2
  go_loopw [9, 10, 11, 12] (fun v9 v10 v11 v12 wr => v9 = .int .i64 1 ∧ v10 = .int .i64 0 ∧ wr = w') (fun _ _ _ _ _ => 0)
  case atStart => exact ⟨rfl, rfl, rfl⟩
  case round =>
    obtain ⟨rfl, rfl, rfl⟩ := hrel
    go_wp2
    refine wp_scope_straight ?_
    go_wp2
    go_region
    all_goals go_wp2
    all_goals (go_region_with (go_at_call 58; refine (HIB.out _).mono ?_; rintro e w' ⟨rfl, rfl⟩))
    all_goals go_wp2
    all_goals dsimp (config := { zetaDelta := true }) only [Exit.noGoto, Exit.inBlock, Exit.then]
    all_goals go_ret
    all_goals exact ⟨rfl, below_drewN' (below_drewN' (Below.refl _ _) 1) 1, fun _ _ h _ _ => h⟩

theorem index_none_3 (r : Int) (q1 : decide ((0 : Int) ≤ r) = true) (q2 : decide (r < 128) = false) (q3 : (r == 65533) = false) (h2 : Lib.validRune r = true) (hsz : (Utf8.encode r).size = 3) (hm : ∀ h : 2 < (Utf8.encode r).size, 128 ≤ ((Utf8.encode r)[2]'h).toNat) (w : World) :
    Calls Tryd.prog 40 #[.string MEANT, .int .i32 r] w fun e w' => e = .returned (.int .i64 (-1)) ∧ Below w.heap.size w w' ∧ Lib.OthersKept 5 none w w' := by
  have hv := fun W => Tryd.utf8_ValidRune r W
  rw [h2] at hv
  have HVR := Lib.hid hv
  have hcv := fun W : World => run_convert_int_string (P := Tryd.prog) W 21 9 .i32 r (by kernel_rfl) Tryd.underlying9
  obtain ⟨t, ht⟩ : ∃ t, Utf8.encode r = t := ⟨_, rfl⟩
  simp only [ht] at hcv hsz hm
  have hlt : 2 < t.size := by omega
  have hm1 := hm hlt
  obtain ⟨y, hy⟩ : ∃ y, t[2]'hlt = y := ⟨_, rfl⟩
  rw [hy] at hm1
  have hib := fun W => index_byte_none (MEANT.extract 3 5) y (by decide) hm1 W
  have HIB := Lib.hid hib
  obtain ⟨s, hs⟩ : ∃ s, MEANT = s := ⟨_, rfl⟩
  have hss : s.size = 5 := by rw [← hs]; rfl
  have hs1 : 2 < s.size := by omega
  have hsy : (s[2]'hs1).toNat < 128 := by subst hs; exact meant_at 2 hs1
  have q4 : (((s[2]'hs1).toNat : Int) != (y.toNat : Int)) = true := by
    rw [bne_iff_ne]
    omega
  rw [hs] at HIB ⊢
  have hwr : IntKind.i64.wrap 3 = 3 := by decide
  clear hv h2 hib hm hm1 hsy hs ht
  go_enter Tryd.func40, Tryd.ntmps40
  go_wp2_with (go_at_call 61; refine (HVR.out _).mono ?_; rintro e w' ⟨rfl, rfl⟩)
  refine wp_scope_straight ?_
  go_wp2
  go_loopw [9, 10, 11, 12] (fun v9 v10 v11 v12 wr => v9 = .int .i64 2 ∧ v10 = .int .i64 0 ∧ wr = w') (fun _ _ _ _ _ => 0)
  case atStart => exact ⟨rfl, rfl, rfl⟩
  case round =>
    obtain ⟨rfl, rfl, rfl⟩ := hrel
    go_wp2
    refine wp_scope_straight ?_
    go_wp2
    go_region
    all_goals go_wp2
    all_goals (go_region_with (go_at_call 58; refine (HIB.out _).mono ?_; rintro e w' ⟨rfl, rfl⟩))
    all_goals go_wp2
    all_goals dsimp (config := { zetaDelta := true }) only [Exit.noGoto, Exit.inBlock, Exit.then]
    all_goals go_ret
    all_goals exact ⟨rfl, below_drewN' (below_drewN' (Below.refl _ _) 1) 1, fun _ _ h _ _ => h⟩

theorem index_none_4 (r : Int) (q1 : decide ((0 : Int) ≤ r) = true) (q2 : decide (r < 128) = false) (q3 : (r == 65533) = false) (h2 : Lib.validRune r = true) (hsz : (Utf8.encode r).size = 4) (hm : ∀ h : 3 < (Utf8.encode r).size, 128 ≤ ((Utf8.encode r)[3]'h).toNat) (w : World) :
    Calls Tryd.prog 40 #[.string MEANT, .int .i32 r] w fun e w' => e = .returned (.int .i64 (-1)) ∧ Below w.heap.size w w' ∧ Lib.OthersKept 5 none w w' := by
  have hv := fun W => Tryd.utf8_ValidRune r W
  rw [h2] at hv
  have HVR := Lib.hid hv
  have hcv := fun W : World => run_convert_int_string (P := Tryd.prog) W 21 9 .i32 r (by kernel_rfl) Tryd.underlying9
  obtain ⟨t, ht⟩ : ∃ t, Utf8.encode r = t := ⟨_, rfl⟩
  simp only [ht] at hcv hsz hm
  have hlt : 3 < t.size := by omega
  have hm1 := hm hlt
  obtain ⟨y, hy⟩ : ∃ y, t[3]'hlt = y := ⟨_, rfl⟩
  rw [hy] at hm1
  have hib := fun W => index_byte_none (MEANT.extract 4 5) y (by decide) hm1 W
  have HIB := Lib.hid hib
  obtain ⟨s, hs⟩ : ∃ s, MEANT = s := ⟨_, rfl⟩
  have hss : s.size = 5 := by rw [← hs]; rfl
  have hs1 : 3 < s.size := by omega
  have hsy : (s[3]'hs1).toNat < 128 := by subst hs; exact meant_at 3 hs1
  have q4 : (((s[3]'hs1).toNat : Int) != (y.toNat : Int)) = true := by
    rw [bne_iff_ne]
    omega
  rw [hs] at HIB ⊢
  have hwr : IntKind.i64.wrap 4 = 4 := by decide
  clear hv h2 hib hm hm1 hsy hs ht
  go_enter Tryd.func40, Tryd.ntmps40
  go_wp2_with (go_at_call 61; refine (HVR.out _).mono ?_; rintro e w' ⟨rfl, rfl⟩)
  refine wp_scope_straight ?_
  go_wp2
  go_loopw [9, 10, 11, 12] (fun v9 v10 v11 v12 wr => v9 = .int .i64 3 ∧ v10 = .int .i64 0 ∧ wr = w') (fun _ _ _ _ _ => 0)
  case atStart => exact ⟨rfl, rfl, rfl⟩
  case round =>
    obtain ⟨rfl, rfl, rfl⟩ := hrel
    go_wp2
    refine wp_scope_straight ?_
    go_wp2
    go_region
    all_goals go_wp2
    all_goals (go_region_with (go_at_call 58; refine (HIB.out _).mono ?_; rintro e w' ⟨rfl, rfl⟩))
    all_goals go_wp2
    all_goals dsimp (config := { zetaDelta := true }) only [Exit.noGoto, Exit.inBlock, Exit.then]
    all_goals go_ret
    all_goals exact ⟨rfl, below_drewN' (below_drewN' (Below.refl _ _) 1) 1, fun _ _ h _ _ => h⟩

theorem index_none (r : Int) (h0 : 128 ≤ r) (h2 : Lib.validRune r = true) (w : World) :
    Calls Tryd.prog 40 #[.string MEANT, .int .i32 r] w fun e w' => e = .returned (.int .i64 (-1)) ∧ Below w.heap.size w w' ∧ Lib.OthersKept 5 none w w' := by
  by_cases h3 : r = 65533
  · subst h3
    exact index_err w
  have q1 : decide ((0 : Int) ≤ r) = true := decide_eq_true (by omega)
  have q2 : decide (r < 128) = false := decide_eq_false (by omega)
  have q3 : (r == 65533) = false := beq_eq_false_iff_ne.2 h3
  obtain ⟨k, hk, hsz, hm⟩ := enc_last r h0
  rcases hk with rfl | rfl | rfl
  · exact index_none_2 r q1 q2 q3 h2 hsz hm w
  · exact index_none_3 r q1 q2 q3 h2 hsz hm w
  · exact index_none_4 r q1 q2 q3 h2 hsz hm w
end Go.Proofs.YtjedoipbllcfdaaDoor
