/-
  THE WALKS of the reference's reader's methods pop, done (chapter 5).
-/
import Derived.Test.YtdmpapoabeljfaaGreatDoorFd
set_option linter.unusedVariables false
set_option linter.unusedSimpArgs false
set_option maxRecDepth 100000
set_option maxHeartbeats 8000000
namespace Go.Proofs.YtdmpapoabeljfaaGreatDoor
open Go.RowKit

theorem opn_cap {w : World} {B g k cap : Nat} {x : UInt8} {st : List UInt8} (h : Opn w B (.slice (some ⟨g, 0, none⟩) (k + 1) cap) (x :: st)) : k + 1 ≤ cap ∧ cap ≤ maxLen := by
  rcases h.2 with ⟨h, _⟩ | ⟨g', cap', cur, hv, hg, hh, hle, hcm, _⟩
  · cases h
  · injection hv with _ h2 h3
    subst h3
    have : (x :: st).length = k + 1 := h2.symm
    omega
section
variable {W0 w w' : World} {N n cap p m c : Nat} {A : Option Addr} {st st' : List UInt8} {ns ns' : List Sp.Nd}
/-- The reader when its last sign has been taken off. -/
theorem FSt.popped {x : UInt8} (h : FSt W0 N A n cap p (x :: st) ns m c w) : ∃ g cap', w.cell? ⟨N, 2, none⟩ = some (.slice (some ⟨g, 0, none⟩) (st.length + 1) cap') ∧ w.frozen? ⟨N, 2, none⟩ = false ∧ st.length + 1 ≤ cap' ∧ cap' ≤ maxLen ∧ FSt W0 N A n cap p st ns m c (w.drew.setCell ⟨N, 2, none⟩ (.slice (some ⟨g, 0, none⟩) st.length cap')) := by
  obtain ⟨ov, tv, r1, r2, r3, r4⟩ := h
  obtain ⟨g, cap', rfl, _, _, _⟩ := opn_at r2 (i := st.length) (b := x) (by simp)
  obtain ⟨h1, h2⟩ := opn_cap (k := st.length) r2
  exact ⟨g, cap', r1.cell 2, r1.frozen 2, h1, h2, FSt.push r1 r2 r3 r4 (w' := w.drew) (opn_pop r2) (only_drew (World.grownBy.refl w _))⟩

theorem f_pop {x : UInt8} (h : FSt W0 N A n cap p (x :: st) ns m c w) (hl : st.length + ns.length ≤ 1000000) :
    Calls Tryz.prog 41 #[.pointer (some ⟨N, 0, none⟩)] w fun r w' => r = .returned (.tuple #[]) ∧ FSt W0 N A n cap p st (Sp.ndOf x ns) m c w' := by
  have htop := f_top h (by rw [List.length_cons]; omega)
  rw [show topB (x :: st) = x from rfl] at htop
  have HT := Lib.hid htop
  have HL := Lib.hid hl
  clear htop h
  by_cases h33 : x = 33
  · subst h33
    have HRES : Hid (Sp.ndOf 33 ns = ns ++ [Sp.nd 4]) := rfl
    go_enter Tryz.func41, Tryz.ntmps41
    go_wp2_with fail
    refine HT.out.mono ?_
    rintro e w1 ⟨rfl, h1⟩
    have HP := Lib.hid (f_put h1 (by have := HL.out; omega) 4)
    clear h1
    go_wp2_with fail
    refine HP.out.mono ?_
    rintro e w2 ⟨rfl, h2⟩
    obtain ⟨g, cap', c2, f2, b1, b2, hfin⟩ := FSt.popped h2
    have HFIN := Lib.hid hfin
    obtain ⟨k, hk⟩ : ∃ k, st.length = k := ⟨_, rfl⟩
    have hl := HL.out
    unfold maxLen at b2
    rw [hk] at c2 HFIN b1 hl
    have k1 : ((k + 1 : Nat) : Int) - 1 = k := by omega
    have k2 : (k : Int) ≤ (cap' : Int) := by omega
    have k3 : (0 : Int) ≤ (k : Int) := by omega
    have k4 : (k : Int) ≤ 1000000 := by omega
    have k5 : ((k + 1 : Nat) : Int) ≤ 1000001 := by omega
    have k6 : (k : Int).toNat = k := by omega
    have k7 : IntKind.i64.wrap (k : Int) = (k : Int) := by rw [IntKind.wrap_i64]; omega
    clear hfin hk hl b1 b2 h2
    go_wp2
    refine wp_region_K 14 (fun w' => w'.cell? ⟨N, 2, none⟩ = some (.slice (some ⟨g, 0, none⟩) (k + 1) cap')) (by kernel_rfl) (fun hcl => ?_)
    have hS : (fun w' : World => w'.cell? ⟨N, 2, none⟩ = some (.slice (some ⟨g, 0, none⟩) (k + 1) cap')) w2.drew := c2
    refine wpAnyK_take (i := 0) (v := ?_) hcl hS rfl (by kernel_rfl) (fun _ _ _ h => h) (by rfl) ?_ (fun hcl2 => ?_)
    rotate_left
    · (intro w hSw; (try dsimp only at hSw); first | (go_simp; done) | (go_simp; with_reducible rfl))
    (try simp only [Act.put, List.setIfInBounds_toArray, List.set_cons_zero, List.set_cons_succ])
    clear hcl; have hcl := hcl2; clear hcl2
    refine wpAnyK_take (i := 1) (v := ?_) hcl hS rfl (by kernel_rfl) (fun _ _ _ h => h) (by rfl) ?_ (fun hcl2 => ?_)
    rotate_left
    · (intro w hSw; (try dsimp only at hSw); first | (go_simp; done) | (go_simp; with_reducible rfl))
    (try simp only [Act.put, List.setIfInBounds_toArray, List.set_cons_zero, List.set_cons_succ])
    clear hcl; have hcl := hcl2; clear hcl2
    refine wpAnyK_take (i := 2) (v := ?_) hcl hS rfl (by kernel_rfl) (fun _ _ _ h => h) (by rfl) ?_ (fun hcl2 => ?_)
    rotate_left
    · (intro w hSw; (try dsimp only at hSw); first | (go_simp; done) | (go_simp; with_reducible rfl))
    (try simp only [Act.put, List.setIfInBounds_toArray, List.set_cons_zero, List.set_cons_succ])
    clear hcl; have hcl := hcl2; clear hcl2
    refine wpAnyK_take (i := 3) (v := ?_) hcl hS rfl (by kernel_rfl) (fun _ _ _ h => h) (by rfl) ?_ (fun hcl2 => ?_)
    rotate_left
    · (intro w hSw; (try dsimp only at hSw); first | (go_simp; done) | (go_simp; with_reducible rfl))
    (try simp only [Act.put, List.setIfInBounds_toArray, List.set_cons_zero, List.set_cons_succ])
    clear hcl; have hcl := hcl2; clear hcl2
    refine wpAnyK_take (i := 4) (v := ?_) hcl hS rfl (by kernel_rfl) (fun _ _ _ h => h) (by rfl) ?_ (fun hcl2 => ?_)
    rotate_left
    · (intro w hSw; (try dsimp only at hSw); first | (go_simp; done) | (go_simp; with_reducible rfl))
    (try simp only [Act.put, List.setIfInBounds_toArray, List.set_cons_zero, List.set_cons_succ])
    clear hcl; have hcl := hcl2; clear hcl2
    refine wpAnyK_take (i := 5) (v := ?_) hcl hS rfl (by kernel_rfl) (fun _ _ _ h => h) (by rfl) ?_ (fun hcl2 => ?_)
    rotate_left
    · (intro w hSw; (try dsimp only at hSw); first | (go_simp; done) | (go_simp; with_reducible rfl))
    (try simp only [Act.put, List.setIfInBounds_toArray, List.set_cons_zero, List.set_cons_succ])
    clear hcl; have hcl := hcl2; clear hcl2
    refine wpAnyK_take (i := 6) (v := ?_) hcl hS rfl (by kernel_rfl) (fun _ _ _ h => h) (by rfl) ?_ (fun hcl2 => ?_)
    rotate_left
    · (intro w hSw; (try dsimp only at hSw); first | (go_simp; done) | (go_simp; with_reducible rfl))
    (try simp only [Act.put, List.setIfInBounds_toArray, List.set_cons_zero, List.set_cons_succ])
    clear hcl; have hcl := hcl2; clear hcl2
    refine wpAnyK_take (i := 7) (v := ?_) hcl hS rfl (by kernel_rfl) (fun _ _ _ h => h) (by rfl) ?_ (fun hcl2 => ?_)
    rotate_left
    · (intro w hSw; (try dsimp only at hSw); first | (go_simp; done) | (go_simp; with_reducible rfl))
    (try simp only [Act.put, List.setIfInBounds_toArray, List.set_cons_zero, List.set_cons_succ])
    clear hcl; have hcl := hcl2; clear hcl2
    refine wpAnyK_take (i := 8) (v := ?_) hcl hS rfl (by kernel_rfl) (fun _ _ _ h => h) (by rfl) ?_ (fun hcl2 => ?_)
    rotate_left
    · (intro w hSw; (try dsimp only at hSw); first | (go_simp; done) | (go_simp; with_reducible rfl))
    (try simp only [Act.put, List.setIfInBounds_toArray, List.set_cons_zero, List.set_cons_succ])
    clear hcl; have hcl := hcl2; clear hcl2
    refine wpAnyK_take (i := 9) (v := ?_) hcl hS rfl (by kernel_rfl) (fun _ _ _ h => h) (by rfl) ?_ (fun hcl2 => ?_)
    rotate_left
    · (intro w hSw; (try dsimp only at hSw); first | (go_simp; done) | (go_simp; with_reducible rfl))
    (try simp only [Act.put, List.setIfInBounds_toArray, List.set_cons_zero, List.set_cons_succ])
    clear hcl; have hcl := hcl2; clear hcl2
    refine wpAnyK_take (i := 10) (v := ?_) hcl hS rfl (by kernel_rfl) (fun _ _ _ h => h) (by rfl) ?_ (fun hcl2 => ?_)
    rotate_left
    · (intro w hSw; (try dsimp only at hSw); first | (go_simp; done) | (go_simp; with_reducible rfl))
    (try simp only [Act.put, List.setIfInBounds_toArray, List.set_cons_zero, List.set_cons_succ])
    clear hcl; have hcl := hcl2; clear hcl2
    refine wpAnyK_take (i := 11) (v := ?_) hcl hS rfl (by kernel_rfl) (fun _ _ _ h => h) (by rfl) ?_ (fun hcl2 => ?_)
    rotate_left
    · (intro w hSw; (try dsimp only at hSw); first | (go_simp; done) | (go_simp; with_reducible rfl))
    (try simp only [Act.put, List.setIfInBounds_toArray, List.set_cons_zero, List.set_cons_succ])
    clear hcl; have hcl := hcl2; clear hcl2
    refine wpAnyK_take (i := 12) (v := ?_) hcl hS rfl (by kernel_rfl) (fun _ _ _ h => h) (by rfl) ?_ (fun hcl2 => ?_)
    rotate_left
    · (intro w hSw; (try dsimp only at hSw); first | (go_simp; done) | (go_simp; with_reducible rfl))
    (try simp only [Act.put, List.setIfInBounds_toArray, List.set_cons_zero, List.set_cons_succ])
    clear hcl; have hcl := hcl2; clear hcl2
    refine wpAnyK_take (i := 13) (v := ?_) hcl hS rfl (by kernel_rfl) (fun _ _ _ h => h) (by rfl) ?_ (fun hcl2 => ?_)
    rotate_left
    · (intro w hSw; (try dsimp only at hSw); first | (go_simp; done) | (go_simp; with_reducible rfl))
    (try simp only [Act.put, List.setIfInBounds_toArray, List.set_cons_zero, List.set_cons_succ])
    clear hcl; have hcl := hcl2; clear hcl2
    refine wpAnyK_one (i := 14) hcl (by kernel_rfl) rfl (by rfl) (fun K hK => ?_)
    go_simp
    refine hK.out _ _ (Or.inl (by kernel_rfl)) (fun hcl2 => ?_)
    clear hK K hcl hcl2 hS
    refine wpAnyK_done (by kernel_rfl) ?_ _
    go_wp2_with fail
    go_end0
    exact ⟨rfl, by rw [HRES.out]; exact HFIN.out⟩
  by_cases h38 : x = 38
  · subst h38
    have HRES : Hid (Sp.ndOf 38 ns = ns ++ [Sp.nd 5]) := rfl
    go_enter Tryz.func41, Tryz.ntmps41
    go_wp2_with fail
    refine HT.out.mono ?_
    rintro e w1 ⟨rfl, h1⟩
    have HP := Lib.hid (f_put h1 (by have := HL.out; omega) 5)
    clear h1
    go_wp2_with fail
    refine HP.out.mono ?_
    rintro e w2 ⟨rfl, h2⟩
    obtain ⟨g, cap', c2, f2, b1, b2, hfin⟩ := FSt.popped h2
    have HFIN := Lib.hid hfin
    obtain ⟨k, hk⟩ : ∃ k, st.length = k := ⟨_, rfl⟩
    have hl := HL.out
    unfold maxLen at b2
    rw [hk] at c2 HFIN b1 hl
    have k1 : ((k + 1 : Nat) : Int) - 1 = k := by omega
    have k2 : (k : Int) ≤ (cap' : Int) := by omega
    have k3 : (0 : Int) ≤ (k : Int) := by omega
    have k4 : (k : Int) ≤ 1000000 := by omega
    have k5 : ((k + 1 : Nat) : Int) ≤ 1000001 := by omega
    have k6 : (k : Int).toNat = k := by omega
    have k7 : IntKind.i64.wrap (k : Int) = (k : Int) := by rw [IntKind.wrap_i64]; omega
    clear hfin hk hl b1 b2 h2
    go_wp2
    refine wp_region_K 14 (fun w' => w'.cell? ⟨N, 2, none⟩ = some (.slice (some ⟨g, 0, none⟩) (k + 1) cap')) (by kernel_rfl) (fun hcl => ?_)
    have hS : (fun w' : World => w'.cell? ⟨N, 2, none⟩ = some (.slice (some ⟨g, 0, none⟩) (k + 1) cap')) w2.drew := c2
    refine wpAnyK_take (i := 0) (v := ?_) hcl hS rfl (by kernel_rfl) (fun _ _ _ h => h) (by rfl) ?_ (fun hcl2 => ?_)
    rotate_left
    · (intro w hSw; (try dsimp only at hSw); first | (go_simp; done) | (go_simp; with_reducible rfl))
    (try simp only [Act.put, List.setIfInBounds_toArray, List.set_cons_zero, List.set_cons_succ])
    clear hcl; have hcl := hcl2; clear hcl2
    refine wpAnyK_take (i := 1) (v := ?_) hcl hS rfl (by kernel_rfl) (fun _ _ _ h => h) (by rfl) ?_ (fun hcl2 => ?_)
    rotate_left
    · (intro w hSw; (try dsimp only at hSw); first | (go_simp; done) | (go_simp; with_reducible rfl))
    (try simp only [Act.put, List.setIfInBounds_toArray, List.set_cons_zero, List.set_cons_succ])
    clear hcl; have hcl := hcl2; clear hcl2
    refine wpAnyK_take (i := 2) (v := ?_) hcl hS rfl (by kernel_rfl) (fun _ _ _ h => h) (by rfl) ?_ (fun hcl2 => ?_)
    rotate_left
    · (intro w hSw; (try dsimp only at hSw); first | (go_simp; done) | (go_simp; with_reducible rfl))
    (try simp only [Act.put, List.setIfInBounds_toArray, List.set_cons_zero, List.set_cons_succ])
    clear hcl; have hcl := hcl2; clear hcl2
    refine wpAnyK_take (i := 3) (v := ?_) hcl hS rfl (by kernel_rfl) (fun _ _ _ h => h) (by rfl) ?_ (fun hcl2 => ?_)
    rotate_left
    · (intro w hSw; (try dsimp only at hSw); first | (go_simp; done) | (go_simp; with_reducible rfl))
    (try simp only [Act.put, List.setIfInBounds_toArray, List.set_cons_zero, List.set_cons_succ])
    clear hcl; have hcl := hcl2; clear hcl2
    refine wpAnyK_take (i := 4) (v := ?_) hcl hS rfl (by kernel_rfl) (fun _ _ _ h => h) (by rfl) ?_ (fun hcl2 => ?_)
    rotate_left
    · (intro w hSw; (try dsimp only at hSw); first | (go_simp; done) | (go_simp; with_reducible rfl))
    (try simp only [Act.put, List.setIfInBounds_toArray, List.set_cons_zero, List.set_cons_succ])
    clear hcl; have hcl := hcl2; clear hcl2
    refine wpAnyK_take (i := 5) (v := ?_) hcl hS rfl (by kernel_rfl) (fun _ _ _ h => h) (by rfl) ?_ (fun hcl2 => ?_)
    rotate_left
    · (intro w hSw; (try dsimp only at hSw); first | (go_simp; done) | (go_simp; with_reducible rfl))
    (try simp only [Act.put, List.setIfInBounds_toArray, List.set_cons_zero, List.set_cons_succ])
    clear hcl; have hcl := hcl2; clear hcl2
    refine wpAnyK_take (i := 6) (v := ?_) hcl hS rfl (by kernel_rfl) (fun _ _ _ h => h) (by rfl) ?_ (fun hcl2 => ?_)
    rotate_left
    · (intro w hSw; (try dsimp only at hSw); first | (go_simp; done) | (go_simp; with_reducible rfl))
    (try simp only [Act.put, List.setIfInBounds_toArray, List.set_cons_zero, List.set_cons_succ])
    clear hcl; have hcl := hcl2; clear hcl2
    refine wpAnyK_take (i := 7) (v := ?_) hcl hS rfl (by kernel_rfl) (fun _ _ _ h => h) (by rfl) ?_ (fun hcl2 => ?_)
    rotate_left
    · (intro w hSw; (try dsimp only at hSw); first | (go_simp; done) | (go_simp; with_reducible rfl))
    (try simp only [Act.put, List.setIfInBounds_toArray, List.set_cons_zero, List.set_cons_succ])
    clear hcl; have hcl := hcl2; clear hcl2
    refine wpAnyK_take (i := 8) (v := ?_) hcl hS rfl (by kernel_rfl) (fun _ _ _ h => h) (by rfl) ?_ (fun hcl2 => ?_)
    rotate_left
    · (intro w hSw; (try dsimp only at hSw); first | (go_simp; done) | (go_simp; with_reducible rfl))
    (try simp only [Act.put, List.setIfInBounds_toArray, List.set_cons_zero, List.set_cons_succ])
    clear hcl; have hcl := hcl2; clear hcl2
    refine wpAnyK_take (i := 9) (v := ?_) hcl hS rfl (by kernel_rfl) (fun _ _ _ h => h) (by rfl) ?_ (fun hcl2 => ?_)
    rotate_left
    · (intro w hSw; (try dsimp only at hSw); first | (go_simp; done) | (go_simp; with_reducible rfl))
    (try simp only [Act.put, List.setIfInBounds_toArray, List.set_cons_zero, List.set_cons_succ])
    clear hcl; have hcl := hcl2; clear hcl2
    refine wpAnyK_take (i := 10) (v := ?_) hcl hS rfl (by kernel_rfl) (fun _ _ _ h => h) (by rfl) ?_ (fun hcl2 => ?_)
    rotate_left
    · (intro w hSw; (try dsimp only at hSw); first | (go_simp; done) | (go_simp; with_reducible rfl))
    (try simp only [Act.put, List.setIfInBounds_toArray, List.set_cons_zero, List.set_cons_succ])
    clear hcl; have hcl := hcl2; clear hcl2
    refine wpAnyK_take (i := 11) (v := ?_) hcl hS rfl (by kernel_rfl) (fun _ _ _ h => h) (by rfl) ?_ (fun hcl2 => ?_)
    rotate_left
    · (intro w hSw; (try dsimp only at hSw); first | (go_simp; done) | (go_simp; with_reducible rfl))
    (try simp only [Act.put, List.setIfInBounds_toArray, List.set_cons_zero, List.set_cons_succ])
    clear hcl; have hcl := hcl2; clear hcl2
    refine wpAnyK_take (i := 12) (v := ?_) hcl hS rfl (by kernel_rfl) (fun _ _ _ h => h) (by rfl) ?_ (fun hcl2 => ?_)
    rotate_left
    · (intro w hSw; (try dsimp only at hSw); first | (go_simp; done) | (go_simp; with_reducible rfl))
    (try simp only [Act.put, List.setIfInBounds_toArray, List.set_cons_zero, List.set_cons_succ])
    clear hcl; have hcl := hcl2; clear hcl2
    refine wpAnyK_take (i := 13) (v := ?_) hcl hS rfl (by kernel_rfl) (fun _ _ _ h => h) (by rfl) ?_ (fun hcl2 => ?_)
    rotate_left
    · (intro w hSw; (try dsimp only at hSw); first | (go_simp; done) | (go_simp; with_reducible rfl))
    (try simp only [Act.put, List.setIfInBounds_toArray, List.set_cons_zero, List.set_cons_succ])
    clear hcl; have hcl := hcl2; clear hcl2
    refine wpAnyK_one (i := 14) hcl (by kernel_rfl) rfl (by rfl) (fun K hK => ?_)
    go_simp
    refine hK.out _ _ (Or.inl (by kernel_rfl)) (fun hcl2 => ?_)
    clear hK K hcl hcl2 hS
    refine wpAnyK_done (by kernel_rfl) ?_ _
    go_wp2_with fail
    go_end0
    exact ⟨rfl, by rw [HRES.out]; exact HFIN.out⟩
  by_cases h124 : x = 124
  · subst h124
    have HRES : Hid (Sp.ndOf 124 ns = ns ++ [Sp.nd 6]) := rfl
    go_enter Tryz.func41, Tryz.ntmps41
    go_wp2_with fail
    refine HT.out.mono ?_
    rintro e w1 ⟨rfl, h1⟩
    have HP := Lib.hid (f_put h1 (by have := HL.out; omega) 6)
    clear h1
    go_wp2_with fail
    refine HP.out.mono ?_
    rintro e w2 ⟨rfl, h2⟩
    obtain ⟨g, cap', c2, f2, b1, b2, hfin⟩ := FSt.popped h2
    have HFIN := Lib.hid hfin
    obtain ⟨k, hk⟩ : ∃ k, st.length = k := ⟨_, rfl⟩
    have hl := HL.out
    unfold maxLen at b2
    rw [hk] at c2 HFIN b1 hl
    have k1 : ((k + 1 : Nat) : Int) - 1 = k := by omega
    have k2 : (k : Int) ≤ (cap' : Int) := by omega
    have k3 : (0 : Int) ≤ (k : Int) := by omega
    have k4 : (k : Int) ≤ 1000000 := by omega
    have k5 : ((k + 1 : Nat) : Int) ≤ 1000001 := by omega
    have k6 : (k : Int).toNat = k := by omega
    have k7 : IntKind.i64.wrap (k : Int) = (k : Int) := by rw [IntKind.wrap_i64]; omega
    clear hfin hk hl b1 b2 h2
    go_wp2
    refine wp_region_K 14 (fun w' => w'.cell? ⟨N, 2, none⟩ = some (.slice (some ⟨g, 0, none⟩) (k + 1) cap')) (by kernel_rfl) (fun hcl => ?_)
    have hS : (fun w' : World => w'.cell? ⟨N, 2, none⟩ = some (.slice (some ⟨g, 0, none⟩) (k + 1) cap')) w2.drew := c2
    refine wpAnyK_take (i := 0) (v := ?_) hcl hS rfl (by kernel_rfl) (fun _ _ _ h => h) (by rfl) ?_ (fun hcl2 => ?_)
    rotate_left
    · (intro w hSw; (try dsimp only at hSw); first | (go_simp; done) | (go_simp; with_reducible rfl))
    (try simp only [Act.put, List.setIfInBounds_toArray, List.set_cons_zero, List.set_cons_succ])
    clear hcl; have hcl := hcl2; clear hcl2
    refine wpAnyK_take (i := 1) (v := ?_) hcl hS rfl (by kernel_rfl) (fun _ _ _ h => h) (by rfl) ?_ (fun hcl2 => ?_)
    rotate_left
    · (intro w hSw; (try dsimp only at hSw); first | (go_simp; done) | (go_simp; with_reducible rfl))
    (try simp only [Act.put, List.setIfInBounds_toArray, List.set_cons_zero, List.set_cons_succ])
    clear hcl; have hcl := hcl2; clear hcl2
    refine wpAnyK_take (i := 2) (v := ?_) hcl hS rfl (by kernel_rfl) (fun _ _ _ h => h) (by rfl) ?_ (fun hcl2 => ?_)
    rotate_left
    · (intro w hSw; (try dsimp only at hSw); first | (go_simp; done) | (go_simp; with_reducible rfl))
    (try simp only [Act.put, List.setIfInBounds_toArray, List.set_cons_zero, List.set_cons_succ])
    clear hcl; have hcl := hcl2; clear hcl2
    refine wpAnyK_take (i := 3) (v := ?_) hcl hS rfl (by kernel_rfl) (fun _ _ _ h => h) (by rfl) ?_ (fun hcl2 => ?_)
    rotate_left
    · (intro w hSw; (try dsimp only at hSw); first | (go_simp; done) | (go_simp; with_reducible rfl))
    (try simp only [Act.put, List.setIfInBounds_toArray, List.set_cons_zero, List.set_cons_succ])
    clear hcl; have hcl := hcl2; clear hcl2
    refine wpAnyK_take (i := 4) (v := ?_) hcl hS rfl (by kernel_rfl) (fun _ _ _ h => h) (by rfl) ?_ (fun hcl2 => ?_)
    rotate_left
    · (intro w hSw; (try dsimp only at hSw); first | (go_simp; done) | (go_simp; with_reducible rfl))
    (try simp only [Act.put, List.setIfInBounds_toArray, List.set_cons_zero, List.set_cons_succ])
    clear hcl; have hcl := hcl2; clear hcl2
    refine wpAnyK_take (i := 5) (v := ?_) hcl hS rfl (by kernel_rfl) (fun _ _ _ h => h) (by rfl) ?_ (fun hcl2 => ?_)
    rotate_left
    · (intro w hSw; (try dsimp only at hSw); first | (go_simp; done) | (go_simp; with_reducible rfl))
    (try simp only [Act.put, List.setIfInBounds_toArray, List.set_cons_zero, List.set_cons_succ])
    clear hcl; have hcl := hcl2; clear hcl2
    refine wpAnyK_take (i := 6) (v := ?_) hcl hS rfl (by kernel_rfl) (fun _ _ _ h => h) (by rfl) ?_ (fun hcl2 => ?_)
    rotate_left
    · (intro w hSw; (try dsimp only at hSw); first | (go_simp; done) | (go_simp; with_reducible rfl))
    (try simp only [Act.put, List.setIfInBounds_toArray, List.set_cons_zero, List.set_cons_succ])
    clear hcl; have hcl := hcl2; clear hcl2
    refine wpAnyK_take (i := 7) (v := ?_) hcl hS rfl (by kernel_rfl) (fun _ _ _ h => h) (by rfl) ?_ (fun hcl2 => ?_)
    rotate_left
    · (intro w hSw; (try dsimp only at hSw); first | (go_simp; done) | (go_simp; with_reducible rfl))
    (try simp only [Act.put, List.setIfInBounds_toArray, List.set_cons_zero, List.set_cons_succ])
    clear hcl; have hcl := hcl2; clear hcl2
    refine wpAnyK_take (i := 8) (v := ?_) hcl hS rfl (by kernel_rfl) (fun _ _ _ h => h) (by rfl) ?_ (fun hcl2 => ?_)
    rotate_left
    · (intro w hSw; (try dsimp only at hSw); first | (go_simp; done) | (go_simp; with_reducible rfl))
    (try simp only [Act.put, List.setIfInBounds_toArray, List.set_cons_zero, List.set_cons_succ])
    clear hcl; have hcl := hcl2; clear hcl2
    refine wpAnyK_take (i := 9) (v := ?_) hcl hS rfl (by kernel_rfl) (fun _ _ _ h => h) (by rfl) ?_ (fun hcl2 => ?_)
    rotate_left
    · (intro w hSw; (try dsimp only at hSw); first | (go_simp; done) | (go_simp; with_reducible rfl))
    (try simp only [Act.put, List.setIfInBounds_toArray, List.set_cons_zero, List.set_cons_succ])
    clear hcl; have hcl := hcl2; clear hcl2
    refine wpAnyK_take (i := 10) (v := ?_) hcl hS rfl (by kernel_rfl) (fun _ _ _ h => h) (by rfl) ?_ (fun hcl2 => ?_)
    rotate_left
    · (intro w hSw; (try dsimp only at hSw); first | (go_simp; done) | (go_simp; with_reducible rfl))
    (try simp only [Act.put, List.setIfInBounds_toArray, List.set_cons_zero, List.set_cons_succ])
    clear hcl; have hcl := hcl2; clear hcl2
    refine wpAnyK_take (i := 11) (v := ?_) hcl hS rfl (by kernel_rfl) (fun _ _ _ h => h) (by rfl) ?_ (fun hcl2 => ?_)
    rotate_left
    · (intro w hSw; (try dsimp only at hSw); first | (go_simp; done) | (go_simp; with_reducible rfl))
    (try simp only [Act.put, List.setIfInBounds_toArray, List.set_cons_zero, List.set_cons_succ])
    clear hcl; have hcl := hcl2; clear hcl2
    refine wpAnyK_take (i := 12) (v := ?_) hcl hS rfl (by kernel_rfl) (fun _ _ _ h => h) (by rfl) ?_ (fun hcl2 => ?_)
    rotate_left
    · (intro w hSw; (try dsimp only at hSw); first | (go_simp; done) | (go_simp; with_reducible rfl))
    (try simp only [Act.put, List.setIfInBounds_toArray, List.set_cons_zero, List.set_cons_succ])
    clear hcl; have hcl := hcl2; clear hcl2
    refine wpAnyK_take (i := 13) (v := ?_) hcl hS rfl (by kernel_rfl) (fun _ _ _ h => h) (by rfl) ?_ (fun hcl2 => ?_)
    rotate_left
    · (intro w hSw; (try dsimp only at hSw); first | (go_simp; done) | (go_simp; with_reducible rfl))
    (try simp only [Act.put, List.setIfInBounds_toArray, List.set_cons_zero, List.set_cons_succ])
    clear hcl; have hcl := hcl2; clear hcl2
    refine wpAnyK_one (i := 14) hcl (by kernel_rfl) rfl (by rfl) (fun K hK => ?_)
    go_simp
    refine hK.out _ _ (Or.inl (by kernel_rfl)) (fun hcl2 => ?_)
    clear hK K hcl hcl2 hS
    refine wpAnyK_done (by kernel_rfl) ?_ _
    go_wp2_with fail
    go_end0
    exact ⟨rfl, by rw [HRES.out]; exact HFIN.out⟩
  have HRES : Hid (Sp.ndOf x ns = ns) := by show _ = _; unfold Sp.ndOf; rw [if_neg h33, if_neg h38, if_neg h124]
  have q33 : ((x.toNat : Int) == 33) = false := beq_eq_false_iff_ne.2 (fun e => h33 (UInt8.toNat_inj.1 (show x.toNat = 33 by omega)))
  have q38 : ((x.toNat : Int) == 38) = false := beq_eq_false_iff_ne.2 (fun e => h38 (UInt8.toNat_inj.1 (show x.toNat = 38 by omega)))
  have q124 : ((x.toNat : Int) == 124) = false := beq_eq_false_iff_ne.2 (fun e => h124 (UInt8.toNat_inj.1 (show x.toNat = 124 by omega)))
  clear h33 h38 h124
  · skip
    go_enter Tryz.func41, Tryz.ntmps41
    go_wp2_with fail
    refine HT.out.mono ?_
    rintro e w1 ⟨rfl, h1⟩
    obtain ⟨g, cap', c2, f2, b1, b2, hfin⟩ := FSt.popped h1
    have HFIN := Lib.hid hfin
    obtain ⟨k, hk⟩ : ∃ k, st.length = k := ⟨_, rfl⟩
    have hl := HL.out
    unfold maxLen at b2
    rw [hk] at c2 HFIN b1 hl
    have k1 : ((k + 1 : Nat) : Int) - 1 = k := by omega
    have k2 : (k : Int) ≤ (cap' : Int) := by omega
    have k3 : (0 : Int) ≤ (k : Int) := by omega
    have k4 : (k : Int) ≤ 1000000 := by omega
    have k5 : ((k + 1 : Nat) : Int) ≤ 1000001 := by omega
    have k6 : (k : Int).toNat = k := by omega
    have k7 : IntKind.i64.wrap (k : Int) = (k : Int) := by rw [IntKind.wrap_i64]; omega
    clear hfin hk hl b1 b2 h1
    go_wp2
    refine wp_region_K 14 (fun w' => w'.cell? ⟨N, 2, none⟩ = some (.slice (some ⟨g, 0, none⟩) (k + 1) cap')) (by kernel_rfl) (fun hcl => ?_)
    have hS : (fun w' : World => w'.cell? ⟨N, 2, none⟩ = some (.slice (some ⟨g, 0, none⟩) (k + 1) cap')) w1.drew := c2
    refine wpAnyK_take (i := 0) (v := ?_) hcl hS rfl (by kernel_rfl) (fun _ _ _ h => h) (by rfl) ?_ (fun hcl2 => ?_)
    rotate_left
    · (intro w hSw; (try dsimp only at hSw); first | (go_simp; done) | (go_simp; with_reducible rfl))
    (try simp only [Act.put, List.setIfInBounds_toArray, List.set_cons_zero, List.set_cons_succ])
    clear hcl; have hcl := hcl2; clear hcl2
    refine wpAnyK_take (i := 1) (v := ?_) hcl hS rfl (by kernel_rfl) (fun _ _ _ h => h) (by rfl) ?_ (fun hcl2 => ?_)
    rotate_left
    · (intro w hSw; (try dsimp only at hSw); first | (go_simp; done) | (go_simp; with_reducible rfl))
    (try simp only [Act.put, List.setIfInBounds_toArray, List.set_cons_zero, List.set_cons_succ])
    clear hcl; have hcl := hcl2; clear hcl2
    refine wpAnyK_take (i := 2) (v := ?_) hcl hS rfl (by kernel_rfl) (fun _ _ _ h => h) (by rfl) ?_ (fun hcl2 => ?_)
    rotate_left
    · (intro w hSw; (try dsimp only at hSw); first | (go_simp; done) | (go_simp; with_reducible rfl))
    (try simp only [Act.put, List.setIfInBounds_toArray, List.set_cons_zero, List.set_cons_succ])
    clear hcl; have hcl := hcl2; clear hcl2
    refine wpAnyK_take (i := 3) (v := ?_) hcl hS rfl (by kernel_rfl) (fun _ _ _ h => h) (by rfl) ?_ (fun hcl2 => ?_)
    rotate_left
    · (intro w hSw; (try dsimp only at hSw); first | (go_simp; done) | (go_simp; with_reducible rfl))
    (try simp only [Act.put, List.setIfInBounds_toArray, List.set_cons_zero, List.set_cons_succ])
    clear hcl; have hcl := hcl2; clear hcl2
    refine wpAnyK_take (i := 4) (v := ?_) hcl hS rfl (by kernel_rfl) (fun _ _ _ h => h) (by rfl) ?_ (fun hcl2 => ?_)
    rotate_left
    · (intro w hSw; (try dsimp only at hSw); first | (go_simp; done) | (go_simp; with_reducible rfl))
    (try simp only [Act.put, List.setIfInBounds_toArray, List.set_cons_zero, List.set_cons_succ])
    clear hcl; have hcl := hcl2; clear hcl2
    refine wpAnyK_take (i := 5) (v := ?_) hcl hS rfl (by kernel_rfl) (fun _ _ _ h => h) (by rfl) ?_ (fun hcl2 => ?_)
    rotate_left
    · (intro w hSw; (try dsimp only at hSw); first | (go_simp; done) | (go_simp; with_reducible rfl))
    (try simp only [Act.put, List.setIfInBounds_toArray, List.set_cons_zero, List.set_cons_succ])
    clear hcl; have hcl := hcl2; clear hcl2
    refine wpAnyK_take (i := 6) (v := ?_) hcl hS rfl (by kernel_rfl) (fun _ _ _ h => h) (by rfl) ?_ (fun hcl2 => ?_)
    rotate_left
    · (intro w hSw; (try dsimp only at hSw); first | (go_simp; done) | (go_simp; with_reducible rfl))
    (try simp only [Act.put, List.setIfInBounds_toArray, List.set_cons_zero, List.set_cons_succ])
    clear hcl; have hcl := hcl2; clear hcl2
    refine wpAnyK_take (i := 7) (v := ?_) hcl hS rfl (by kernel_rfl) (fun _ _ _ h => h) (by rfl) ?_ (fun hcl2 => ?_)
    rotate_left
    · (intro w hSw; (try dsimp only at hSw); first | (go_simp; done) | (go_simp; with_reducible rfl))
    (try simp only [Act.put, List.setIfInBounds_toArray, List.set_cons_zero, List.set_cons_succ])
    clear hcl; have hcl := hcl2; clear hcl2
    refine wpAnyK_take (i := 8) (v := ?_) hcl hS rfl (by kernel_rfl) (fun _ _ _ h => h) (by rfl) ?_ (fun hcl2 => ?_)
    rotate_left
    · (intro w hSw; (try dsimp only at hSw); first | (go_simp; done) | (go_simp; with_reducible rfl))
    (try simp only [Act.put, List.setIfInBounds_toArray, List.set_cons_zero, List.set_cons_succ])
    clear hcl; have hcl := hcl2; clear hcl2
    refine wpAnyK_take (i := 9) (v := ?_) hcl hS rfl (by kernel_rfl) (fun _ _ _ h => h) (by rfl) ?_ (fun hcl2 => ?_)
    rotate_left
    · (intro w hSw; (try dsimp only at hSw); first | (go_simp; done) | (go_simp; with_reducible rfl))
    (try simp only [Act.put, List.setIfInBounds_toArray, List.set_cons_zero, List.set_cons_succ])
    clear hcl; have hcl := hcl2; clear hcl2
    refine wpAnyK_take (i := 10) (v := ?_) hcl hS rfl (by kernel_rfl) (fun _ _ _ h => h) (by rfl) ?_ (fun hcl2 => ?_)
    rotate_left
    · (intro w hSw; (try dsimp only at hSw); first | (go_simp; done) | (go_simp; with_reducible rfl))
    (try simp only [Act.put, List.setIfInBounds_toArray, List.set_cons_zero, List.set_cons_succ])
    clear hcl; have hcl := hcl2; clear hcl2
    refine wpAnyK_take (i := 11) (v := ?_) hcl hS rfl (by kernel_rfl) (fun _ _ _ h => h) (by rfl) ?_ (fun hcl2 => ?_)
    rotate_left
    · (intro w hSw; (try dsimp only at hSw); first | (go_simp; done) | (go_simp; with_reducible rfl))
    (try simp only [Act.put, List.setIfInBounds_toArray, List.set_cons_zero, List.set_cons_succ])
    clear hcl; have hcl := hcl2; clear hcl2
    refine wpAnyK_take (i := 12) (v := ?_) hcl hS rfl (by kernel_rfl) (fun _ _ _ h => h) (by rfl) ?_ (fun hcl2 => ?_)
    rotate_left
    · (intro w hSw; (try dsimp only at hSw); first | (go_simp; done) | (go_simp; with_reducible rfl))
    (try simp only [Act.put, List.setIfInBounds_toArray, List.set_cons_zero, List.set_cons_succ])
    clear hcl; have hcl := hcl2; clear hcl2
    refine wpAnyK_take (i := 13) (v := ?_) hcl hS rfl (by kernel_rfl) (fun _ _ _ h => h) (by rfl) ?_ (fun hcl2 => ?_)
    rotate_left
    · (intro w hSw; (try dsimp only at hSw); first | (go_simp; done) | (go_simp; with_reducible rfl))
    (try simp only [Act.put, List.setIfInBounds_toArray, List.set_cons_zero, List.set_cons_succ])
    clear hcl; have hcl := hcl2; clear hcl2
    refine wpAnyK_one (i := 14) hcl (by kernel_rfl) rfl (by rfl) (fun K hK => ?_)
    go_simp
    refine hK.out _ _ (Or.inl (by kernel_rfl)) (fun hcl2 => ?_)
    clear hK K hcl hcl2 hS
    refine wpAnyK_done (by kernel_rfl) ?_ _
    go_wp2_with fail
    go_end0
    exact ⟨rfl, by rw [HRES.out]; exact HFIN.out⟩

theorem top_eq {st : List UInt8} {b : UInt8} (h : topB st = b) (hb : b ≠ 0) : ∃ r, st = b :: r := by
  cases st with
  | nil => exact absurd h.symm hb
  | cons x r => exact ⟨r, by rw [← h]; rfl⟩
theorem popW_top {q : UInt8 → Bool} {st : List UInt8} {ns : List Sp.Nd} (h : q (topB st) = false) : Sp.popW q st ns = (st, ns) := by
  cases st with
  | nil => rfl
  | cons x r => exact Sp.popW_no h r ns

theorem f_done (h : FSt W0 N A n cap p st ns m c w) (hl : st.length + ns.length ≤ 1000000) :
    Calls Tryz.prog 20 #[.pointer (some ⟨N, 0, none⟩)] w fun r w' => r = .returned (.tuple #[]) ∧ FSt W0 N A n cap p (Sp.popW Sp.isB st ns).1 (Sp.popW Sp.isB st ns).2 m c w' := by
  obtain ⟨R, hR⟩ : ∃ R, Sp.popW Sp.isB st ns = R := ⟨_, rfl⟩
  rw [hR]
  have H := Lib.hid h
  have HR := Lib.hid hR
  clear h hR
  go_enter Tryz.func20, Tryz.ntmps20
  go_wp2_with fail
  go_loopw [4] (fun _ wr => ∃ st' ns', FSt W0 N A n cap p st' ns' m c wr ∧ st'.length + ns'.length ≤ 1000000 ∧ Hid (Sp.popW Sp.isB st' ns' = R)) (fun _ wr => openLen wr N)
  case atStart => exact ⟨st, ns, H.out, hl, HR.out⟩
  case round =>
    obtain ⟨st', ns', h, hl', HF⟩ := hrel
    have HO := Lib.hid (openLen_eq h)
    have HT := Lib.hid (f_top h (by omega))
    obtain ⟨b, hb⟩ : ∃ b, topB st' = b := ⟨_, rfl⟩
    rw [hb] at HT
    by_cases h33 : b = 33
    · subst h33
      obtain ⟨r, rfl⟩ := top_eq hb (by decide)
      have hl3 : r.length + ns'.length ≤ 1000000 := by rw [List.length_cons] at hl'; omega
      have hf := HF.out
      rw [Sp.popW_yes (by rfl)] at hf
      have HF2 := Lib.hid hf
      have hnd := Sp.ndOf_len 33 ns'
      clear hf h hb
      go_wp2_with fail
      refine HT.out.mono ?_
      rintro e w1 ⟨rfl, h1⟩
      have HP := Lib.hid (f_pop h1 hl3)
      clear h1
      go_wp2_with fail
      refine HP.out.mono ?_
      rintro e w2 ⟨rfl, h2⟩
      go_wp2_with fail
      go_roundw
      case rel => exact ⟨r, _, h2, by rw [List.length_cons] at hl'; omega, HF2.out⟩
      case measure =>
        rw [openLen_eq h2, HO.out, List.length_cons]
        omega
    · have q1 : ((b.toNat : Int) == 33) = false := beq_eq_false_iff_ne.2 (fun e => h33 (UInt8.toNat_inj.1 (show b.toNat = 33 by omega)))
      have hf := HF.out
      rw [popW_top (by rw [hb]; exact beq_eq_false_iff_ne.2 h33)] at hf
      have HF2 := Lib.hid hf
      clear hf h hb h33
      go_wp2_with fail
      refine HT.out.mono ?_
      rintro e w1 ⟨rfl, h1⟩
      go_wp2_with fail
      go_end0
      refine ⟨rfl, ?_⟩
      rw [← HF2.out]
      exact h1
end
end Go.Proofs.YtdmpapoabeljfaaGreatDoor
