/-
  THE WALK of step.walk, which calls itself within a loop over the ways on and hands yield down (chapter 10).
-/
import Derived.Test.YtpknablklencdaaGreatDoorAf
set_option linter.unusedVariables false
set_option linter.unusedSimpArgs false
set_option maxRecDepth 100000
set_option maxHeartbeats 8000000
namespace Go.Proofs.YtpknablklencdaaGreatDoor
open Go.RowKit
attribute [local go_sem] Oper.semAt_some

theorem walk_held {cs : List Value} {Wb : World} {n : Sp.Net} {hops : Int} {N B mX l : Nat} {X : World → Nat → Prop} {w0 : World} {J Jx : List PathV → World → Prop} (env : WkEnv n hops N B mX l X w0 cs Wb J Jx) :
    ∀ (f : Nat) (p : PathV) (pre : List PathV) (W : World), Sp.needP n hops p.path ≤ f → Sp.POk n hops p.path → WkAt B X w0 Wb p W → J pre W → ∀ m,
      CallsIn Fence.wide m Tryz.prog 32 #[.pointer (some ⟨N, 0, none⟩), pvC p, .int .i64 hops, .func (.yield l) #[] #[]] W (WalkEnd n hops B X w0 J Jx f p pre W) := by
  intro f
  induction f with
  | zero =>
    intro p pre W hne
    exfalso
    unfold Sp.needP at hne
    split at hne <;> omega
  | succ f ih =>
    rintro ⟨v1, v2, ⟨P, E, h⟩⟩ pre W hne hok hat hj m
    refine callsIn_any (m := 12) ?_
    obtain ⟨A1, c1, rfl, hc1, hv1⟩ := in_view (show InR W B v1 P from hat.pv.1)
    obtain ⟨A2, c2, rfl, hc2, hv2⟩ := in_view (show InR W B v2 E from hat.pv.2)
    simp only [] at hne hok
    obtain ⟨np, hnp⟩ : ∃ np, P.length = np := ⟨_, rfl⟩
    obtain ⟨ne, hnE⟩ : ∃ ne, E.length = ne := ⟨_, rfl⟩
    obtain ⟨k, hk⟩ : ∃ k : Nat, P.getLastD 0 = k := ⟨(P.getLastD 0).toNat, by have := hok.st.port.1; unfold Sp.lastP at this; simp only [] at this; omega⟩
    have hlast : Sp.lastP ⟨P, E, h⟩ = (k : Int) := hk
    obtain ⟨q, hq, hqi⟩ := hok.port
    rw [hlast, Int.toNat_natCast] at hq hqi
    obtain ⟨M, hM⟩ : ∃ M, W.heap.size = M := ⟨_, rfl⟩
    obtain ⟨W5, hW5⟩ : ∃ W5, ((((W.alloc (.cells #[.pointer (some ⟨N, 0, none⟩)] 59)).alloc (.cells #[.slice A1 np c1, .slice A2 ne c2, .string h] 40)).alloc (.cells #[.int .i64 hops] 3)).alloc (.cells #[.func (.yield l) #[] #[]] 77)).alloc (.cells #[.bool false] 4) = W5 := ⟨_, rfl⟩
    have HOK := Lib.hid hok
    have HAT := Lib.hid hat
    have HJ := Lib.hid hj
    have HM := Lib.hid hM
    have HIH := Lib.hid ih
    have HENV := Lib.hid env
    have HNE := Lib.hid hne
    rw [pvC]
    simp only [hnp, hnE]
    refine callsIn_of_wp_marks Tryz.func32 rfl trivial ?_ rfl
    simp only [Tryz.ntmps32, List.size_toArray, List.length_cons, List.length_nil, Nat.reduceAdd, Nat.reduceSub, Array.replicate_succ, Array.replicate_zero, List.push_toArray, List.append_toArray, List.nil_append, List.cons_append]
    clear hok hat hj ih env hne
    have hb5 : Below M W W5 := by rw [← hW5, ← hM]; exact (((((Below.refl _ _).alloc (Nat.le_refl _) _).alloc (by simp) _).alloc (by simp; omega) _).alloc (by simp; omega) _).alloc (by simp; omega) _
    have hs5 : W5.heap.size = M + 5 := by rw [← hW5, ← hM]; simp
    have b4 : Blk W5 M 59 #[.pointer (some ⟨N, 0, none⟩)] := by rw [← hW5, ← hM]; exact ((((Blk.new W _ _).alloc _).alloc _).alloc _).alloc _
    have b5 : Blk W5 (M + 1) 40 #[.slice A1 np c1, .slice A2 ne c2, .string h] := by rw [← hW5]; exact (((blk_at (by rw [World.size_alloc]; omega)).alloc _).alloc _).alloc _
    have b6 : Blk W5 (M + 2) 3 #[.int .i64 hops] := by rw [← hW5]; exact ((blk_at (by rw [World.size_alloc, World.size_alloc]; omega)).alloc _).alloc _
    have b7 : Blk W5 (M + 3) 77 #[.func (.yield l) #[] #[]] := by rw [← hW5]; exact (blk_at (by rw [World.size_alloc, World.size_alloc, World.size_alloc]; omega)).alloc _
    have b8 : Blk W5 (M + 4) 4 #[.bool false] := by rw [← hW5]; exact blk_at (by rw [World.size_alloc, World.size_alloc, World.size_alloc, World.size_alloc]; omega)
    have HP5 := Lib.hid (show InR W5 B (.slice A1 np c1) P by have := in_below HAT.out.pv.1 (by rw [hM]; exact hb5); simpa only [hnp] using this)
    have HE5 := Lib.hid (show InR W5 B (.slice A2 ne c2) E by have := in_below HAT.out.pv.2 (by rw [hM]; exact hb5); simpa only [hnE] using this)
    have HB5 := Lib.hid hb5
    have HS5 := Lib.hid hs5
    have HB4 := Lib.hid b4
    have HBP := Lib.hid b5
    have HBH := Lib.hid b6
    have HBY := Lib.hid b7
    have HBR := Lib.hid b8
    have HNP := Lib.hid hnp
    have HNEL := Lib.hid hnE
    have HLA := Lib.hid hlast
    have HQ := Lib.hid hq
    have HQI := Lib.hid hqi
    have x5 : W5.cell? ⟨M + 1, 0, none⟩ = some (.slice A1 np c1) := b5.cell 0
    have x6 : W5.cell? ⟨M + 1, 1, none⟩ = some (.slice A2 ne c2) := b5.cell 1
    have x7 : W5.cell? ⟨M + 1, 2, none⟩ = some (.string h) := b5.cell 2
    have HKL : P.getLastD 0 = (k : Int) := hk
    have HKL2 := Lib.hid HKL
    clear hb5 hs5 b4 b5 b6 b7 b8 hnp hnE hlast hq hqi hk HKL hc1 hc2 hv1 hv2
    gi_wp2
    have HPL := Lib.hid (show P.length ≤ 130 by have h1 := HOK.out.len; have h2 := HOK.out.ents; have h3 := HENV.out.hops; simp only [] at h1 h2; omega)
    have HEL := Lib.hid (show E.length ≤ 64 by have h2 := HOK.out.ents; have h3 := HENV.out.hops; simp only [] at h2; omega)
    refine ⟨trivial, ?_⟩
    refine (callsIn_wide.2 (step_last h W5 HP5.out HOK.out.ne (by have := HPL.out; omega))).mono ?_
    rintro e W6 ⟨rfl, hb6⟩
    rw [HKL2.out]
    have HB6 := Lib.hid hb6
    obtain ⟨S, hS⟩ : ∃ S, W6.heap.size = S := ⟨_, rfl⟩
    have HS6 := Lib.hid hS
    clear x5 x6 x7 hb6
    gi_wp2
    obtain ⟨W8, hW8⟩ : ∃ W8, (W6.alloc (.cells #[.int .i64 (k : Int), .string h] 28)).alloc (.cells #[.bool true] 4) = W8 := ⟨_, rfl⟩
    rw [hW8]
    have hb8 : Below W6.heap.size W6 W8 := by rw [← hW8]; exact ((Below.refl _ _).alloc (Nat.le_refl _) _).alloc (by simp) _
    have hs8 : W8.heap.size = S + 2 := by rw [← hW8]; simp; omega
    have hbs : Blk W8 S 28 #[.int .i64 (k : Int), .string h] := by rw [← hW8]; exact (blk_at hS).alloc _
    have h10 : Blk W8 (S + 1) 4 #[.bool true] := by rw [← hW8]; exact blk_at (by rw [World.size_alloc]; omega)
    have hMS : M + 5 ≤ S := by have := HB6.out.size; have := HS5.out; omega
    have hb58 : Below W5.heap.size W5 W8 := HB6.out.trans (hb8.mono HB6.out.size)
    have HC8 : Hid (WkC N M S l hops (.slice A1 np c1) (.slice A2 ne c2) h false true W8) := Lib.hid ⟨HB4.out.below hb58 HB4.out.lt, HBP.out.below hb58 HBP.out.lt, HBH.out.below hb58 HBH.out.lt, HBY.out.below hb58 HBY.out.lt, HBR.out.below hb58 HBR.out.lt, h10⟩
    have HPV8 : Hid (InR W8 B (.slice A1 np c1) P ∧ InR W8 B (.slice A2 ne c2) E) := Lib.hid ⟨in_below HP5.out hb58, in_below HE5.out hb58⟩
    have HBW8 : Hid (Below M W W8) := Lib.hid (HB5.out.trans (hb58.mono (by have := HS5.out; omega)))
    have HBM : Hid (B ≤ M ∧ w0.heap.size ≤ B ∧ mX ≤ B) := Lib.hid ⟨by have := HAT.out.size; omega, HENV.out.base, HENV.out.mB⟩
    have HNX8 : Hid (NX X M S W8) := Lib.hid (by
      have := HBM.out
      have g : ∀ g, M ≤ g → ¬ X W8 g := fun g hg e => by
        have h1 := HAT.out.xin g (HENV.out.low _ _ _ (HBW8.out.mono (by omega)) e)
        omega
      exact ⟨g _ (by omega), g _ (by omega), g _ (by omega), g _ (by omega), g _ (by omega), g _ (by omega)⟩)
    have HXI8 : Hid (XIn X W8) := Lib.hid (xin_below HENV.out.low HAT.out.xin (HBW8.out.mono (by have := HBM.out; omega)))
    have HRX8 : Hid (∀ g, ((Value.slice A1 np c1).ownBlock = some g ∨ (Value.slice A2 ne c2).ownBlock = some g) → ¬ X W8 g) := Lib.hid (fun g hg e => by
      have h1 := HENV.out.low _ _ _ (HBW8.out.mono (by have := HBM.out; omega)) e
      refine HAT.out.nx g ?_ h1
      rw [← HNP.out, ← HNEL.out] at hg
      exact hg)
    have HMS := Lib.hid hMS
    have HS8 := Lib.hid hs8
    have HBS := Lib.hid hbs
    have HW0 : Hid (Below w0.heap.size w0 W8) := Lib.hid ((HENV.out.mb.trans HAT.out.kp0.below).trans (HBW8.out.mono (by have := HBM.out; omega)))
    have HKB8 : Hid (KpX w0.heap.size X Wb W8) := Lib.hid (kpx_below HENV.out.low HAT.out.kp0 (by rw [HM.out]; exact HBW8.out) (by have := HBM.out; have := HM.out; omega) (by have := HBM.out; have := HM.out; omega))
    obtain ⟨B1, d1, B2, d2, B3, d3, hcse, hpv, _⟩ := HENV.out.mem
    have n1 : Wb.cell? ⟨N, 1, none⟩ = some (.slice B1 n.ports.length d1) := (HENV.out.box.cell 1).trans (by rw [hcse]; rfl)
    obtain ⟨gq, oq, rfl, hgq, k0, k1, k2, k3⟩ := hpv.at HQ.out
    obtain ⟨npt, hnpt⟩ : ∃ npt, n.ports.length = npt := ⟨_, rfl⟩
    have hkn : k < npt := by rw [← hnpt]; exact (List.getElem?_eq_some_iff.1 HQ.out).1
    rw [hnpt] at n1
    have HN1 : Hid (W8.cell? ⟨N, 1, none⟩ = some (.slice (some ⟨gq, oq, none⟩) npt d1)) := Lib.hid (HKB8.out.cell (p := ⟨N, 1, none⟩) HENV.out.nN n1)
    have HK2 : Hid (W8.cell? ⟨gq, oq + k * 4 + 2, none⟩ = some (.bool q.inn)) := Lib.hid ((HW0.out.cell (p := ⟨gq, oq + k * 4 + 2, none⟩) hgq).trans k2)
    have p0 : (0 : Int) ≤ (k : Int) := by omega
    have p1 : (k : Int) < (npt : Int) := by omega
    have h48 : npt ≤ 48 := by have := HENV.out.net.nports; omega
    clear hb8 hs8 hbs h10 hMS hb58 hpv hcse k0 k1 k2 k3 n1 hgq hnpt hkn hS hW8 hW5 hM HB4 HBP HBH HBY HBR HP5 HE5 HB5 HB6 HS5 HS6
    obtain ⟨qn, qb, qi, qd⟩ := q
    simp only [] at HQI HK2
    cases qi with
    | true =>
      refine wpIn_noPanic ?_
      refine wpIn_region_K 16 (fun w' => w'.cell? ⟨M, 0, none⟩ = some (.pointer (some ⟨N, 0, none⟩)) ∧ w'.cell? ⟨N, 1, none⟩ = some (.slice (some ⟨gq, oq, none⟩) npt d1) ∧ w'.cell? ⟨S, 0, none⟩ = some (.int .i64 (k : Int)) ∧ w'.cell? ⟨gq, oq + k * 4 + 2, none⟩ = some (.bool true) ∧ w'.cell? ⟨M + 1, 1, none⟩ = some (.slice A2 ne c2) ∧ w'.cell? ⟨M + 1 + 1, 0, none⟩ = some (.int .i64 hops)) (by kernel_rfl) (fun hcl => ?_)
      have hS : (fun w' : World => w'.cell? ⟨M, 0, none⟩ = some (.pointer (some ⟨N, 0, none⟩)) ∧ w'.cell? ⟨N, 1, none⟩ = some (.slice (some ⟨gq, oq, none⟩) npt d1) ∧ w'.cell? ⟨S, 0, none⟩ = some (.int .i64 (k : Int)) ∧ w'.cell? ⟨gq, oq + k * 4 + 2, none⟩ = some (.bool true) ∧ w'.cell? ⟨M + 1, 1, none⟩ = some (.slice A2 ne c2) ∧ w'.cell? ⟨M + 1 + 1, 0, none⟩ = some (.int .i64 hops)) W8.drew := ⟨HC8.out.c4.cell 0, HN1.out, HBS.out.cell 0, HK2.out, HC8.out.c5.cell 1, HC8.out.c6.cell 0⟩
      refine wpAnyKIn_take (i := 0) (v := ?_) rfl hcl hS rfl (by kernel_rfl) (fun _ _ _ h => h) (by rfl) ?_ (fun _ => rfl) (fun hcl2 => ?_)
      rotate_left
      · (intro w hSw; (try dsimp only at hSw); first | (go_simp; done) | (go_simp; with_reducible rfl))
      (try simp only [List.getElem_toArray, List.getElem_cons_succ, List.getElem_cons_zero])
      (try simp only [Act.put, List.setIfInBounds_toArray, List.set_cons_zero, List.set_cons_succ])
      clear hcl; have hcl := hcl2; clear hcl2
      refine wpAnyKIn_take (i := 1) (v := ?_) rfl hcl hS rfl (by kernel_rfl) (fun _ _ _ h => h) (by rfl) ?_ (fun _ => rfl) (fun hcl2 => ?_)
      rotate_left
      · (intro w hSw; (try dsimp only at hSw); first | (go_simp; done) | (go_simp; with_reducible rfl))
      (try simp only [List.getElem_toArray, List.getElem_cons_succ, List.getElem_cons_zero])
      (try simp only [Act.put, List.setIfInBounds_toArray, List.set_cons_zero, List.set_cons_succ])
      clear hcl; have hcl := hcl2; clear hcl2
      refine wpAnyKIn_take (i := 2) (v := ?_) rfl hcl hS rfl (by kernel_rfl) (fun _ _ _ h => h) (by rfl) ?_ (fun _ => rfl) (fun hcl2 => ?_)
      rotate_left
      · (intro w hSw; (try dsimp only at hSw); first | (go_simp; done) | (go_simp; with_reducible rfl))
      (try simp only [List.getElem_toArray, List.getElem_cons_succ, List.getElem_cons_zero])
      (try simp only [Act.put, List.setIfInBounds_toArray, List.set_cons_zero, List.set_cons_succ])
      clear hcl; have hcl := hcl2; clear hcl2
      refine wpAnyKIn_take (i := 3) (v := ?_) rfl hcl hS rfl (by kernel_rfl) (fun _ _ _ h => h) (by rfl) ?_ (fun _ => rfl) (fun hcl2 => ?_)
      rotate_left
      · (intro w hSw; (try dsimp only at hSw); first | (go_simp; done) | (go_simp; with_reducible rfl))
      (try simp only [List.getElem_toArray, List.getElem_cons_succ, List.getElem_cons_zero])
      (try simp only [Act.put, List.setIfInBounds_toArray, List.set_cons_zero, List.set_cons_succ])
      clear hcl; have hcl := hcl2; clear hcl2
      refine wpAnyKIn_take (i := 4) (v := ?_) rfl hcl hS rfl (by kernel_rfl) (fun _ _ _ h => h) (by rfl) ?_ (fun _ => rfl) (fun hcl2 => ?_)
      rotate_left
      · (intro w hSw; (try dsimp only at hSw); first | (go_simp; done) | (go_simp; with_reducible rfl))
      (try simp only [List.getElem_toArray, List.getElem_cons_succ, List.getElem_cons_zero])
      (try simp only [Act.put, List.setIfInBounds_toArray, List.set_cons_zero, List.set_cons_succ])
      clear hcl; have hcl := hcl2; clear hcl2
      refine wpAnyKIn_take (i := 5) (v := ?_) rfl hcl hS rfl (by kernel_rfl) (fun _ _ _ h => h) (by rfl) ?_ (fun _ => rfl) (fun hcl2 => ?_)
      rotate_left
      · (intro w hSw; (try dsimp only at hSw); first | (go_simp; done) | (go_simp; with_reducible rfl))
      (try simp only [List.getElem_toArray, List.getElem_cons_succ, List.getElem_cons_zero])
      (try simp only [Act.put, List.setIfInBounds_toArray, List.set_cons_zero, List.set_cons_succ])
      clear hcl; have hcl := hcl2; clear hcl2
      refine wpAnyKIn_take (i := 6) (v := ?_) rfl hcl hS rfl (by kernel_rfl) (fun _ _ _ h => h) (by rfl) ?_ (fun _ => rfl) (fun hcl2 => ?_)
      rotate_left
      · (intro w hSw; (try dsimp only at hSw); first | (go_simp; done) | (go_simp; with_reducible rfl))
      (try simp only [List.getElem_toArray, List.getElem_cons_succ, List.getElem_cons_zero])
      (try simp only [Act.put, List.setIfInBounds_toArray, List.set_cons_zero, List.set_cons_succ])
      clear hcl; have hcl := hcl2; clear hcl2
      refine wpAnyKIn_take (i := 7) (v := ?_) rfl hcl hS rfl (by kernel_rfl) (fun _ _ _ h => h) (by rfl) ?_ (fun _ => rfl) (fun hcl2 => ?_)
      rotate_left
      · (intro w hSw; (try dsimp only at hSw); first | (go_simp; done) | (go_simp; with_reducible rfl))
      (try simp only [List.getElem_toArray, List.getElem_cons_succ, List.getElem_cons_zero])
      (try simp only [Act.put, List.setIfInBounds_toArray, List.set_cons_zero, List.set_cons_succ])
      clear hcl; have hcl := hcl2; clear hcl2
      refine wpAnyKIn_take (i := 8) (v := ?_) rfl hcl hS rfl (by kernel_rfl) (fun _ _ _ h => h) (by rfl) ?_ (fun _ => rfl) (fun hcl2 => ?_)
      rotate_left
      · (intro w hSw; (try dsimp only at hSw); first | (go_simp; done) | (go_simp; with_reducible rfl))
      (try simp only [List.getElem_toArray, List.getElem_cons_succ, List.getElem_cons_zero])
      (try simp only [Act.put, List.setIfInBounds_toArray, List.set_cons_zero, List.set_cons_succ])
      clear hcl; have hcl := hcl2; clear hcl2
      refine wpAnyKIn_take (i := 9) (v := ?_) rfl hcl hS rfl (by kernel_rfl) (fun _ _ _ h => h) (by rfl) ?_ (fun _ => rfl) (fun hcl2 => ?_)
      rotate_left
      · (intro w hSw; (try dsimp only at hSw); first | (go_simp; done) | (go_simp; with_reducible rfl))
      (try simp only [List.getElem_toArray, List.getElem_cons_succ, List.getElem_cons_zero])
      (try simp only [Act.put, List.setIfInBounds_toArray, List.set_cons_zero, List.set_cons_succ])
      clear hcl; have hcl := hcl2; clear hcl2
      refine wpAnyKIn_take (i := 10) (v := ?_) rfl hcl hS rfl (by kernel_rfl) (fun _ _ _ h => h) (by rfl) ?_ (fun _ => rfl) (fun hcl2 => ?_)
      rotate_left
      · (intro w hSw; (try dsimp only at hSw); first | (go_simp; done) | (go_simp; with_reducible rfl))
      (try simp only [List.getElem_toArray, List.getElem_cons_succ, List.getElem_cons_zero])
      (try simp only [Act.put, List.setIfInBounds_toArray, List.set_cons_zero, List.set_cons_succ])
      clear hcl; have hcl := hcl2; clear hcl2
      refine wpAnyKIn_take (i := 11) (v := ?_) rfl hcl hS rfl (by kernel_rfl) (fun _ _ _ h => h) (by rfl) ?_ (fun _ => rfl) (fun hcl2 => ?_)
      rotate_left
      · (intro w hSw; (try dsimp only at hSw); first | (go_simp; done) | (go_simp; with_reducible rfl))
      (try simp only [List.getElem_toArray, List.getElem_cons_succ, List.getElem_cons_zero])
      (try simp only [Act.put, List.setIfInBounds_toArray, List.set_cons_zero, List.set_cons_succ])
      clear hcl; have hcl := hcl2; clear hcl2
      refine wpAnyKIn_take (i := 12) (v := ?_) rfl hcl hS rfl (by kernel_rfl) (fun _ _ _ h => h) (by rfl) ?_ (fun _ => rfl) (fun hcl2 => ?_)
      rotate_left
      · (intro w hSw; (try dsimp only at hSw); first | (go_simp; done) | (go_simp; with_reducible rfl))
      (try simp only [List.getElem_toArray, List.getElem_cons_succ, List.getElem_cons_zero])
      (try simp only [Act.put, List.setIfInBounds_toArray, List.set_cons_zero, List.set_cons_succ])
      clear hcl; have hcl := hcl2; clear hcl2
      refine wpAnyKIn_take (i := 13) (v := ?_) rfl hcl hS rfl (by kernel_rfl) (fun _ _ _ h => h) (by rfl) ?_ (fun _ => rfl) (fun hcl2 => ?_)
      rotate_left
      · (intro w hSw; (try dsimp only at hSw); first | (go_simp; done) | (go_simp; with_reducible rfl))
      (try simp only [List.getElem_toArray, List.getElem_cons_succ, List.getElem_cons_zero])
      (try simp only [Act.put, List.setIfInBounds_toArray, List.set_cons_zero, List.set_cons_succ])
      clear hcl; have hcl := hcl2; clear hcl2
      refine wpAnyKIn_take (i := 14) (v := ?_) rfl hcl hS rfl (by kernel_rfl) (fun _ _ _ h => h) (by rfl) ?_ (fun _ => rfl) (fun hcl2 => ?_)
      rotate_left
      · (intro w hSw; (try dsimp only at hSw); first | (go_simp; done) | (go_simp; with_reducible rfl))
      (try simp only [List.getElem_toArray, List.getElem_cons_succ, List.getElem_cons_zero])
      (try simp only [Act.put, List.setIfInBounds_toArray, List.set_cons_zero, List.set_cons_succ])
      clear hcl; have hcl := hcl2; clear hcl2
      refine wpAnyKIn_take (i := 15) (v := ?_) rfl hcl hS rfl (by kernel_rfl) (fun _ _ _ h => h) (by rfl) ?_ (fun _ => rfl) (fun hcl2 => ?_)
      rotate_left
      · (intro w hSw; (try dsimp only at hSw); first | (go_simp; done) | (go_simp; with_reducible rfl))
      (try simp only [List.getElem_toArray, List.getElem_cons_succ, List.getElem_cons_zero])
      (try simp only [Act.put, List.setIfInBounds_toArray, List.set_cons_zero, List.set_cons_succ])
      clear hcl; have hcl := hcl2; clear hcl2
      clear hS
      refine wpAnyKIn_one (i := 16) hcl (by kernel_rfl) rfl (by rfl) (fun K hK => ?_)
      simp only [List.getElem_toArray, List.getElem_cons_succ, List.getElem_cons_zero]
      refine ⟨(fun f hf => by cases hf), ?_⟩
      rw [show Fence.wide.round = none from rfl, Oper.semAt_none]
      go_simp
      refine hK.out _ _ (Or.inl (by kernel_rfl)) (fun hcl2 => ?_)
      clear hK K hcl hcl2
      refine wpAnyKIn_done (by kernel_rfl) ?_ _
      refine NoPanic.normal ?_
      (try simp only [Act.put, List.setIfInBounds_toArray, List.set_cons_zero, List.set_cons_succ])
      by_cases hh : (ne : Int) < hops
      · have hh1 : decide ((ne : Int) < hops) = true := decide_eq_true hh
        have HLF : Hid (Sp.leafB n hops ⟨P, E, h⟩ = (Sp.movesV n k h).isEmpty) := Lib.hid (by
          unfold Sp.leafB
          rw [HLA.out, Int.toNat_natCast, HQI.out]
          have := HNEL.out
          simp only [Bool.true_eq_false, if_false]
          rw [decide_eq_false (show ¬ hops ≤ (E.length : Int) by omega), Bool.or_false])
        gi_wp2
        refine wpIn_noPanic ?_
        refine wpIn_region_K 15 (fun w' => w'.cell? ⟨M, 0, none⟩ = some (.pointer (some ⟨N, 0, none⟩)) ∧ w'.cell? ⟨N, 1, none⟩ = some (.slice (some ⟨gq, oq, none⟩) npt d1) ∧ w'.cell? ⟨S, 0, none⟩ = some (.int .i64 (k : Int)) ∧ w'.cell? ⟨gq, oq + k * 4 + 2, none⟩ = some (.bool true) ∧ w'.cell? ⟨M + 1, 0, none⟩ = some (.slice A1 np c1)) (by kernel_rfl) (fun hcl => ?_)
        have hS : (fun w' : World => w'.cell? ⟨M, 0, none⟩ = some (.pointer (some ⟨N, 0, none⟩)) ∧ w'.cell? ⟨N, 1, none⟩ = some (.slice (some ⟨gq, oq, none⟩) npt d1) ∧ w'.cell? ⟨S, 0, none⟩ = some (.int .i64 (k : Int)) ∧ w'.cell? ⟨gq, oq + k * 4 + 2, none⟩ = some (.bool true) ∧ w'.cell? ⟨M + 1, 0, none⟩ = some (.slice A1 np c1)) W8.drew.drew := ⟨HC8.out.c4.cell 0, HN1.out, HBS.out.cell 0, HK2.out, HC8.out.c5.cell 0⟩
        refine wpAnyKIn_take (i := 0) (v := ?_) rfl hcl hS rfl (by kernel_rfl) (fun _ _ _ h => h) (by rfl) ?_ (fun _ => rfl) (fun hcl2 => ?_)
        rotate_left
        · (intro w hSw; (try dsimp only at hSw); first | (go_simp; done) | (go_simp; with_reducible rfl))
        (try simp only [List.getElem_toArray, List.getElem_cons_succ, List.getElem_cons_zero])
        (try simp only [Act.put, List.setIfInBounds_toArray, List.set_cons_zero, List.set_cons_succ])
        clear hcl; have hcl := hcl2; clear hcl2
        refine wpAnyKIn_take (i := 1) (v := ?_) rfl hcl hS rfl (by kernel_rfl) (fun _ _ _ h => h) (by rfl) ?_ (fun _ => rfl) (fun hcl2 => ?_)
        rotate_left
        · (intro w hSw; (try dsimp only at hSw); first | (go_simp; done) | (go_simp; with_reducible rfl))
        (try simp only [List.getElem_toArray, List.getElem_cons_succ, List.getElem_cons_zero])
        (try simp only [Act.put, List.setIfInBounds_toArray, List.set_cons_zero, List.set_cons_succ])
        clear hcl; have hcl := hcl2; clear hcl2
        refine wpAnyKIn_take (i := 2) (v := ?_) rfl hcl hS rfl (by kernel_rfl) (fun _ _ _ h => h) (by rfl) ?_ (fun _ => rfl) (fun hcl2 => ?_)
        rotate_left
        · (intro w hSw; (try dsimp only at hSw); first | (go_simp; done) | (go_simp; with_reducible rfl))
        (try simp only [List.getElem_toArray, List.getElem_cons_succ, List.getElem_cons_zero])
        (try simp only [Act.put, List.setIfInBounds_toArray, List.set_cons_zero, List.set_cons_succ])
        clear hcl; have hcl := hcl2; clear hcl2
        refine wpAnyKIn_take (i := 3) (v := ?_) rfl hcl hS rfl (by kernel_rfl) (fun _ _ _ h => h) (by rfl) ?_ (fun _ => rfl) (fun hcl2 => ?_)
        rotate_left
        · (intro w hSw; (try dsimp only at hSw); first | (go_simp; done) | (go_simp; with_reducible rfl))
        (try simp only [List.getElem_toArray, List.getElem_cons_succ, List.getElem_cons_zero])
        (try simp only [Act.put, List.setIfInBounds_toArray, List.set_cons_zero, List.set_cons_succ])
        clear hcl; have hcl := hcl2; clear hcl2
        refine wpAnyKIn_take (i := 4) (v := ?_) rfl hcl hS rfl (by kernel_rfl) (fun _ _ _ h => h) (by rfl) ?_ (fun _ => rfl) (fun hcl2 => ?_)
        rotate_left
        · (intro w hSw; (try dsimp only at hSw); first | (go_simp; done) | (go_simp; with_reducible rfl))
        (try simp only [List.getElem_toArray, List.getElem_cons_succ, List.getElem_cons_zero])
        (try simp only [Act.put, List.setIfInBounds_toArray, List.set_cons_zero, List.set_cons_succ])
        clear hcl; have hcl := hcl2; clear hcl2
        refine wpAnyKIn_take (i := 5) (v := ?_) rfl hcl hS rfl (by kernel_rfl) (fun _ _ _ h => h) (by rfl) ?_ (fun _ => rfl) (fun hcl2 => ?_)
        rotate_left
        · (intro w hSw; (try dsimp only at hSw); first | (go_simp; done) | (go_simp; with_reducible rfl))
        (try simp only [List.getElem_toArray, List.getElem_cons_succ, List.getElem_cons_zero])
        (try simp only [Act.put, List.setIfInBounds_toArray, List.set_cons_zero, List.set_cons_succ])
        clear hcl; have hcl := hcl2; clear hcl2
        refine wpAnyKIn_take (i := 6) (v := ?_) rfl hcl hS rfl (by kernel_rfl) (fun _ _ _ h => h) (by rfl) ?_ (fun _ => rfl) (fun hcl2 => ?_)
        rotate_left
        · (intro w hSw; (try dsimp only at hSw); first | (go_simp; done) | (go_simp; with_reducible rfl))
        (try simp only [List.getElem_toArray, List.getElem_cons_succ, List.getElem_cons_zero])
        (try simp only [Act.put, List.setIfInBounds_toArray, List.set_cons_zero, List.set_cons_succ])
        clear hcl; have hcl := hcl2; clear hcl2
        refine wpAnyKIn_take (i := 7) (v := ?_) rfl hcl hS rfl (by kernel_rfl) (fun _ _ _ h => h) (by rfl) ?_ (fun _ => rfl) (fun hcl2 => ?_)
        rotate_left
        · (intro w hSw; (try dsimp only at hSw); first | (go_simp; done) | (go_simp; with_reducible rfl))
        (try simp only [List.getElem_toArray, List.getElem_cons_succ, List.getElem_cons_zero])
        (try simp only [Act.put, List.setIfInBounds_toArray, List.set_cons_zero, List.set_cons_succ])
        clear hcl; have hcl := hcl2; clear hcl2
        refine wpAnyKIn_take (i := 8) (v := ?_) rfl hcl hS rfl (by kernel_rfl) (fun _ _ _ h => h) (by rfl) ?_ (fun _ => rfl) (fun hcl2 => ?_)
        rotate_left
        · (intro w hSw; (try dsimp only at hSw); first | (go_simp; done) | (go_simp; with_reducible rfl))
        (try simp only [List.getElem_toArray, List.getElem_cons_succ, List.getElem_cons_zero])
        (try simp only [Act.put, List.setIfInBounds_toArray, List.set_cons_zero, List.set_cons_succ])
        clear hcl; have hcl := hcl2; clear hcl2
        refine wpAnyKIn_take (i := 9) (v := ?_) rfl hcl hS rfl (by kernel_rfl) (fun _ _ _ h => h) (by rfl) ?_ (fun _ => rfl) (fun hcl2 => ?_)
        rotate_left
        · (intro w hSw; (try dsimp only at hSw); first | (go_simp; done) | (go_simp; with_reducible rfl))
        (try simp only [List.getElem_toArray, List.getElem_cons_succ, List.getElem_cons_zero])
        (try simp only [Act.put, List.setIfInBounds_toArray, List.set_cons_zero, List.set_cons_succ])
        clear hcl; have hcl := hcl2; clear hcl2
        refine wpAnyKIn_take (i := 10) (v := ?_) rfl hcl hS rfl (by kernel_rfl) (fun _ _ _ h => h) (by rfl) ?_ (fun _ => rfl) (fun hcl2 => ?_)
        rotate_left
        · (intro w hSw; (try dsimp only at hSw); first | (go_simp; done) | (go_simp; with_reducible rfl))
        (try simp only [List.getElem_toArray, List.getElem_cons_succ, List.getElem_cons_zero])
        (try simp only [Act.put, List.setIfInBounds_toArray, List.set_cons_zero, List.set_cons_succ])
        clear hcl; have hcl := hcl2; clear hcl2
        refine wpAnyKIn_pass (i := 11) rfl hcl hS rfl (by kernel_rfl) (fun _ _ _ h => h) (by rfl) (fun _ => rfl) (fun hcl2 => ?_)
        (try simp only [List.getElem_toArray, List.getElem_cons_succ, List.getElem_cons_zero])
        (try simp only [Act.put, List.setIfInBounds_toArray, List.set_cons_zero, List.set_cons_succ])
        clear hcl; have hcl := hcl2; clear hcl2
        refine wpAnyKIn_pass (i := 12) rfl hcl hS rfl (by kernel_rfl) (fun _ _ _ h => h) (by rfl) (fun _ => rfl) (fun hcl2 => ?_)
        (try simp only [List.getElem_toArray, List.getElem_cons_succ, List.getElem_cons_zero])
        (try simp only [Act.put, List.setIfInBounds_toArray, List.set_cons_zero, List.set_cons_succ])
        clear hcl; have hcl := hcl2; clear hcl2
        refine wpAnyKIn_pass (i := 13) rfl hcl hS rfl (by kernel_rfl) (fun _ _ _ h => h) (by rfl) (fun _ => rfl) (fun hcl2 => ?_)
        (try simp only [List.getElem_toArray, List.getElem_cons_succ, List.getElem_cons_zero])
        (try simp only [Act.put, List.setIfInBounds_toArray, List.set_cons_zero, List.set_cons_succ])
        clear hcl; have hcl := hcl2; clear hcl2
        refine wpAnyKIn_pass (i := 14) rfl hcl hS rfl (by kernel_rfl) (fun _ _ _ h => h) (by rfl) (fun _ => rfl) (fun hcl2 => ?_)
        (try simp only [List.getElem_toArray, List.getElem_cons_succ, List.getElem_cons_zero])
        (try simp only [Act.put, List.setIfInBounds_toArray, List.set_cons_zero, List.set_cons_succ])
        clear hcl; have hcl := hcl2; clear hcl2
        clear hS
        refine wpAnyKIn_one (i := 15) hcl (by kernel_rfl) rfl (by rfl) (fun K hK => ?_)
        simp only [List.getElem_toArray, List.getElem_cons_succ, List.getElem_cons_zero]
        refine ⟨(fun f hf => by cases hf), ?_⟩
        rw [show Fence.wide.round = none from rfl, Oper.semAt_none]
        go_simp
        refine hK.out _ _ (Or.inl (by kernel_rfl)) (fun hcl2 => ?_)
        clear hK K hcl hcl2
        refine wpAnyKIn_done (by kernel_rfl) ?_ _
        refine NoPanic.normal ?_
        (try simp only [Act.put, List.setIfInBounds_toArray, List.set_cons_zero, List.set_cons_succ])
        have hbz : Below W8.heap.size W8 W8.drew.drew := (Below.refl _ _).drew.drew
        have HCz := Lib.hid (HC8.out.below hbz)
        have HPz := Lib.hid (show InR W8.drew.drew B (.slice A1 np c1) P ∧ InR W8.drew.drew B (.slice A2 ne c2) E from ⟨in_below HPV8.out.1 hbz, in_below HPV8.out.2 hbz⟩)
        have HBz := Lib.hid (show Below M W W8.drew.drew from HBW8.out.trans (hbz.mono (by have := HMS.out; have := HS8.out; omega)))
        have HNz := Lib.hid (show NX X M S W8.drew.drew from HNX8.out.low HENV.out.low (hbz.mono (by have := HMS.out; have := HS8.out; have := HBM.out; omega)))
        have HXz := Lib.hid (show XIn X W8.drew.drew from xin_below HENV.out.low HXI8.out (hbz.mono (by have := HMS.out; have := HS8.out; have := HBM.out; omega)))
        have HRz := Lib.hid (show ∀ g, ((Value.slice A1 np c1).ownBlock = some g ∨ (Value.slice A2 ne c2).ownBlock = some g) → ¬ X W8.drew.drew g from fun g hg => not_below HENV.out.low (hbz.mono (by have := HMS.out; have := HS8.out; have := HBM.out; omega)) (HRX8.out g hg))
        have y1 : W8.drew.drew.cell? ⟨M, 0, none⟩ = some (.pointer (some ⟨N, 0, none⟩)) := HCz.out.c4.cell 0
        have y2 : W8.drew.drew.cell? ⟨S, 0, none⟩ = some (.int .i64 (k : Int)) := HBS.out.cell 0
        have y3 : W8.drew.drew.cell? ⟨S, 1, none⟩ = some (.string h) := HBS.out.cell 1
        have HSz := Lib.hid (show S + 2 ≤ W8.drew.drew.heap.size by have := HS8.out; have := hbz.size; omega)
        have HWz := Lib.hid (show Below w0.heap.size w0 W8.drew.drew from HW0.out.trans (hbz.mono HW0.out.size))
        clear hbz
        obtain ⟨Wz, hWz⟩ : ∃ Wz, W8.drew.drew = Wz := ⟨_, rfl⟩
        rw [hWz] at HCz HPz HBz HNz HXz HRz y1 y2 y3 HSz HWz ⊢
        clear hWz
        gi_wp2
        clear y1 y2 y3
        refine ⟨trivial, ?_⟩
        refine (step_moves _ N k h _).mono ?_
        rintro e w' ⟨rfl, rfl⟩
        obtain ⟨A, hA⟩ : ∃ A, Wz.heap.size = A := ⟨_, rfl⟩
        obtain ⟨V, hV⟩ : ∃ V, (Wz.alloc (.cells #[.pointer (some ⟨N, 0, none⟩)] 59)).alloc (.cells #[.int .i64 (k : Int), .string h] 28) = V := ⟨_, rfl⟩
        have bN : Blk V A 59 #[.pointer (some ⟨N, 0, none⟩)] := by rw [← hV, ← hA]; exact (Blk.new _ _ _).alloc _
        have bS : Blk V (A + 1) 28 #[.int .i64 (k : Int), .string h] := by rw [← hV]; exact blk_at (by rw [World.size_alloc]; omega)
        have hvb : Below Wz.heap.size Wz V := by rw [← hV]; exact ((Below.refl _ _).alloc (Nat.le_refl _) _).alloc (by simp) _
        have hvs : V.heap.size = A + 2 := by rw [← hV]; simp; omega
        have HXV := Lib.hid (show ∀ W' b, Below V.heap.size V W' → X W' b → b < A from fun W' b hb hx => by
          have h1 := HXz.out b (HENV.out.low _ _ _ ((hvb.mono (by have := HSz.out; have := HMS.out; have := HBM.out; omega)).trans (hb.mono (by have := HSz.out; have := HMS.out; have := HBM.out; omega))) hx)
          omega)
        have hkv : KpX w0.heap.size X Wb V := kpx_below HENV.out.low HAT.out.kp0 (by rw [HM.out]; exact HBz.out.trans (hvb.mono (by have := HSz.out; have := HMS.out; omega))) (by have := HBM.out; have := HM.out; omega) (by have := HBM.out; have := HM.out; omega)
        have hbV : Blk V N 26 cs.toArray := kpx_blk hkv HENV.out.box HENV.out.nN
        have hncV : NetC cs N V := ⟨hbV.lt, fun f u hf => (hbV.cell f).trans (by simpa using hf)⟩
        have hxnV : ¬ orT 4 X V N := fun hx => by
          rcases hx with hx | ⟨cs2, fr, hx⟩
          · exact hkv.not HENV.out.box rfl HENV.out.nN hx
          · rw [show V.heap[N]? = _ from hbV] at hx
            injection hx with hx
            injection hx with _ hx
            exact absurd hx (by decide)
        have hst := moves_stopsX 11 N A (A + 1) mX (orT 4 X) (XOk.orT 4 (XLow.ok HENV.out.low)) n k h (Sp.mvOk_of HENV.out.net (by have := HOK.out.st; rw [HLA.out] at this; exact this)) w0 V (by omega) cs HENV.out.mem hncV hxnV (HWz.out.trans (hvb.mono HWz.out.size)) (by have := HSz.out; have := HMS.out; have := HBM.out; omega)
          (fun W' b cs hb hbv hk hx => by
            rcases hx with hx | ⟨cs2, fr, hx⟩
            · have := HXV.out W' b hb hx; omega
            · rw [show W'.heap[b]? = _ from hk] at hx
              injection hx with hx
              injection hx with _ hx
              exact absurd hx (by decide))
          (fun hx => by
            rcases hx with hx | ⟨cs2, fr, hx⟩
            · have := HXV.out V A (Below.refl _ _) hx; omega
            · rw [show V.heap[A]? = _ from bN] at hx
              injection hx with hx
              injection hx with _ hx
              exact absurd hx (by decide))
          (bN.cell 0) (bS.cell 0) (bS.cell 1)
        have hmx : mX ≤ V.heap.size ∧ w0.heap.size ≤ V.heap.size ∧ B ≤ V.heap.size ∧ W.heap.size ≤ V.heap.size ∧ S + 1 < V.heap.size := by have := HSz.out; have := HMS.out; have := HBM.out; have := HM.out; omega
        have HMX := Lib.hid hmx
        have HWV := Lib.hid (show Below w0.heap.size w0 V from HWz.out.trans (hvb.mono HWz.out.size))
        have h0 : WkI n hops N B M S l f X w0 W J ⟨.slice A1 np c1, .slice A2 ne c2, ⟨P, E, h⟩⟩ pre [] V :=
          ⟨HCz.out.below hvb, pvAt_below HPz.out hvb, ⟨[], rfl, by rw [List.append_nil]; exact own_grow HENV.out.jT HJ.out (by rw [HM.out]; exact HBz.out.trans (hvb.mono (by have := HSz.out; have := HMS.out; omega)))⟩,
            KpX.of_below (XLow.ok HENV.out.low) (by rw [HM.out]; exact HBz.out.trans (hvb.mono (by have := HSz.out; have := HMS.out; omega))) (by have := HBM.out; have := HM.out; omega) (by have := HBM.out; have := HM.out; omega),
            xin_below HENV.out.low HXz.out (hvb.mono (by have := HSz.out; have := HMS.out; have := HBM.out; omega)),
            keeps_below (by rw [HM.out]; exact HBz.out.trans (hvb.mono (by have := HSz.out; have := HMS.out; omega))),
            HNz.out.low HENV.out.low (hvb.mono (by have := HSz.out; have := HMS.out; have := HBM.out; omega)),
            fun g hg => not_below HENV.out.low (hvb.mono (by have := HSz.out; have := HMS.out; have := HBM.out; omega)) (HRz.out g hg)⟩
        have H0 := Lib.hid h0
        have HST := Lib.hid hst
        clear bN bS hvb hvs hst h0 hmx hkv hbV hncV hxnV
        gi_wp2
        clear hV
        refine wpIn_rangeFunc_ownH rfl (by omega) (gf := 38) (lb := #[.pointer (some ⟨A, 0, none⟩), .pointer (some ⟨A + 1, 0, none⟩)]) rfl trivial (enters_of Tryz.func38 (by kernel_rfl) rfl)
          HST.out KpX.trans (KpX.book (XOk.orT 4 (XLow.ok HENV.out.low)) HMX.out.2.1 HMX.out.1) (Below.refl _ _) (fun _ => rfl)
          (fun ms A => WkI n hops N B M S l f X w0 W J ⟨.slice A1 np c1, .slice A2 ne c2, ⟨P, E, h⟩⟩ pre (ms.map (·.1)) A ∧ V.heap.size ≤ A.heap.size)
          (fun c (ms : List { x : Sp.Mv // x ∈ Sp.movesV n k h }) A => c = .ret ∧ WkX B (M + 1 + 1 + 1 + 1) X w0 W Jx pre ((ms.map (·.1)).flatMap fun m => Sp.walkV n hops f (Sp.onP ⟨P, E, h⟩ m)) A ∧ V.heap.size ≤ A.heap.size)
          (fun ms A C row hs hg hr => wkI_own HENV.out HMX.out.2.2.1 HMX.out.2.2.2.1 (ms.map (·.1)) A C row hs hg hr)
          (fun c ms A C row hs hg hr => ⟨hs.1, wkX_own (L := (ms.map (·.1)).flatMap fun m => Sp.walkV n hops f (Sp.onP ⟨P, E, h⟩ m)) HENV.out HMX.out.2.2.1 HMX.out.2.2.2.1 () A C row hs.2 hg hr⟩)
          ⟨H0.out, Nat.le_refl _⟩
          (fun x a' A => ∃ Bx, V.heap.size ≤ Bx ∧ Blk A Bx 66 #[.int .i64 x.1.entry, .int .i64 x.1.out, .int .i64 x.1.inn, .string x.1.header] ∧ FWk M S Bx a')
          (fun x a' _ X' Y row hs hg hr => by
            obtain ⟨Bx, h1, h2, h3⟩ := hs
            exact ⟨Bx, h1, h2.grown hg (fun e => by obtain ⟨_, o, ho, hc⟩ := hr Bx e.symm; rw [show X'.heap[Bx]? = _ from h2] at ho; cases ho; cases hc), h3⟩)
          ?assign ?body ?done ?stop
        case assign =>
          rintro l2 ms ⟨⟨xe, xo, xi, xh⟩, hx⟩ C K ⟨hI, hVC⟩ hK
          dsimp only [mvC]
          have HH := Lib.hid HMX.out
          have HI2 := Lib.hid (wkI_own HENV.out HMX.out.2.2.1 HMX.out.2.2.2.1 (ms.map (·.1)) C _ none ⟨hI, hVC⟩ (World.grownBy_alloc C (.cells #[.int .i64 xe, .int .i64 xo, .int .i64 xi, .string xh] 66) none) (fun r e => by cases e))
          have HVC := Lib.hid hVC
          clear hI hVC
          gi_wp2
          exact hK _ _ ((KeepsOthers.alloc _ _).from _) (KpX.of_below (XOk.orT 4 (XLow.ok HENV.out.low)) ((Below.refl _ C).alloc (Nat.le_refl _) _) (by have := HVC.out; have := HMX.out; omega) (by have := HVC.out; have := HMX.out; omega)) HI2.out ⟨C.heap.size, HVC.out, Blk.new _ _ _, FWk.of _ _ _ _ _ _ _ _ _ _ _ _ _ _ _ _ _ _ _ _ _ _ _ _ _ _ _ _ _ _ _ _ _ _ _ _ _ _ _ _ _ _ _ _ _ _ _ _ _ _ _ _ _ _ _ _ _ _ _ _ _ _ _ _ _ _ _ _⟩
        case body =>
          rintro l2 ms ⟨⟨xe, xo, xi, xh⟩, hx⟩ a' C hl2 _ ⟨hI, hVC⟩ ⟨Bx, hBx, hkx, ⟨u2, rfl⟩⟩ hlen
          have hkx' : Blk C Bx 66 #[.int .i64 xe, .int .i64 xo, .int .i64 xi, .string xh] := hkx
          have hkind := mv_kind HENV.out.net HQ.out hx
          obtain ⟨C1, hC1⟩ : ∃ C1, C.setCell ⟨S + 1, 0, none⟩ (.bool false) = C1 := ⟨_, rfl⟩
          have hz0 : C.cell? ⟨S + 1, 0, none⟩ = some (.bool (ms.map (·.1)).isEmpty) := hI.cells.c10.cell 0
          have hz1 : C.frozen? ⟨S + 1, 0, none⟩ = false := hI.cells.c10.frozen 0
          have hc1 : WkC N M S l hops (.slice A1 np c1) (.slice A2 ne c2) h false false C1 := by rw [← hC1]; exact hI.cells.flag HMS.out false
          have hb1 : Blk C1 Bx 66 #[.int .i64 xe, .int .i64 xo, .int .i64 xi, .string xh] := by rw [← hC1]; exact hkx'.far (by have := HMX.out; show Bx ≠ S + 1; omega) _
          have hp1 : InR C1 B (.slice A1 np c1) P ∧ InR C1 B (.slice A2 ne c2) E := by rw [← hC1]; exact own_set (pvAt_own B B) (s := ⟨.slice A1 np c1, .slice A2 ne c2, ⟨P, E, h⟩⟩) hI.pv hI.cells.c10 (by have := HBM.out; have := HMS.out; omega) _
          have hs1 : C1.heap.size = C.heap.size := by rw [← hC1]; simp
          have hk1 : KpX w0.heap.size X W C1 := by rw [← hC1]; exact kpx_setNew HENV.out.low hI.kp (by have := HM.out; have := HMS.out; omega) (by have := HBM.out; have := HMS.out; omega) (by have := HBM.out; have := HMS.out; omega) _
          have hkx1 : KpX w0.heap.size (orT 4 X) C C1 := by rw [← hC1]; exact kpx_flag HENV.out.low hI.cells.c10 (by have := HBM.out; have := HMS.out; omega) (by have := HBM.out; have := HMS.out; omega) _
          have hxi1 : XIn X C1 := by rw [← hC1]; exact xin_set HENV.out.low hI.xin (by have := HBM.out; have := HMS.out; omega) _
          have hkf1 : KeepsFrom B W C1 ∧ KeepsFrom V.heap.size C C1 := by rw [← hC1]; exact ⟨hI.keeps.trans ((KeepsOthers.setCell _ _ _).from _), (KeepsOthers.setCell _ _ _).from _⟩
          have hnx1 : NX X M S C1 := by rw [← hC1]; exact hI.nx.low HENV.out.low ((Below.refl mX C).setCell (p := ⟨S + 1, 0, none⟩) (by have := HBM.out; have := HMS.out; show mX ≤ S + 1; omega) _)
          have hrx1 : ∀ g, ((Value.slice A1 np c1).ownBlock = some g ∨ (Value.slice A2 ne c2).ownBlock = some g) → ¬ X C1 g := by rw [← hC1]; exact fun g hg => not_set HENV.out.low (by have := HBM.out; have := HMS.out; omega) _ (hI.rx g hg)
          obtain ⟨xs, hxs, hjx⟩ := hI.come
          have hj1 : J (pre ++ xs) C1 := by rw [← hC1]; exact own_set HENV.out.jT hjx hI.cells.c10 (by have := HBM.out; have := HMS.out; omega) _
          have hsz1 : V.heap.size ≤ C1.heap.size := by rw [hs1]; exact hVC
          have q2 : C1.cell? ⟨M + 1, 0, none⟩ = some (.slice A1 np c1) := hc1.c5.cell 0
          have q3 : C1.cell? ⟨M + 1, 1, none⟩ = some (.slice A2 ne c2) := hc1.c5.cell 1
          have q4 : C1.cell? ⟨M + 1, 2, none⟩ = some (.string h) := hc1.c5.cell 2
          have q5 : C1.cell? ⟨Bx, 0, none⟩ = some (.int .i64 xe) := hb1.cell 0
          have q6 : C1.cell? ⟨Bx, 1, none⟩ = some (.int .i64 xo) := hb1.cell 1
          have q7 : C1.cell? ⟨Bx, 2, none⟩ = some (.int .i64 xi) := hb1.cell 2
          have q8 : C1.cell? ⟨Bx, 3, none⟩ = some (.string xh) := hb1.cell 3
          have HC1 := Lib.hid hc1
          have HP1 := Lib.hid hp1
          have HK1 := Lib.hid hk1
          have HKX1 := Lib.hid hkx1
          have HXI1 := Lib.hid hxi1
          have HKF1 := Lib.hid hkf1
          have HNX1 := Lib.hid hnx1
          have HRX1 := Lib.hid hrx1
          have HJ1 := Lib.hid hj1
          have HXS := Lib.hid hxs
          have HSZ1 := Lib.hid hsz1
          have HMK := Lib.hid hkind
          have HX := Lib.hid hx
          clear hI hkx hkx' hkind hc1 hb1 hp1 hs1 hk1 hkx1 hxi1 hkf1 hnx1 hrx1 hxs hjx hj1 hsz1 hlen hl2 hBx hVC HST H0
          gi_wp2
          clear hC1 hz0 hz1 q2 q3 q4 q5 q6 q7 q8
          refine ⟨trivial, ?_⟩
          refine (CallsIn.inRound l2 (callsIn_wide.2 (step_on h ⟨xe, xo, xi, xh⟩ C1 HP1.out.1 HP1.out.2 (by have := HPL.out; omega) (by have := HEL.out; omega) HMK.out))).mono ?_
          rintro e C2 ⟨s1, s2, q1, q2, rfl, hs1, hs2, hq1, hq2, hb2⟩
          obtain ⟨a1, a2, a3, rfl⟩ := in_slice hs1
          obtain ⟨b1, b2, b3, rfl⟩ := in_slice hs2
          obtain ⟨d1, d2, d3, rfl⟩ := in_slice hq1
          obtain ⟨e1, e2, e3, rfl⟩ := in_slice hq2
          have HQ1 := Lib.hid hq1
          have HQ2 := Lib.hid hq2
          have HB2 := Lib.hid hb2
          obtain ⟨C3, hC3⟩ : ∃ C3, (C2.alloc (.cells #[.slice a1 a2 a3, .slice b1 b2 b3, .string xh] 40)).alloc (.cells #[.slice d1 d2 d3, .slice e1 e2 e3, .string xh] 40) = C3 := ⟨_, rfl⟩
          have hb3 : Below C2.heap.size C2 C3 := by rw [← hC3]; exact ((Below.refl _ _).alloc (Nat.le_refl _) _).alloc (by simp) _
          have hbq : Blk C3 (C2.heap.size + 1) 40 #[.slice d1 d2 d3, .slice e1 e2 e3, .string xh] := by rw [← hC3]; exact blk_at (by rw [World.size_alloc])
          have hb13 : Below C1.heap.size C1 C3 := hb2.trans (hb3.mono hb2.size)
          have hc3 := HC1.out.below hb13
          have hle1 : B ≤ C1.heap.size ∧ mX ≤ C1.heap.size ∧ w0.heap.size ≤ C1.heap.size := by have := HSZ1.out; have := HMX.out; omega
          have r0 : C3.cell? ⟨M, 0, none⟩ = some (.pointer (some ⟨N, 0, none⟩)) := hc3.c4.cell 0
          have r1 : C3.cell? ⟨M + 1 + 1, 0, none⟩ = some (.int .i64 hops) := hc3.c6.cell 0
          have r2 : C3.cell? ⟨M + 1 + 1 + 1, 0, none⟩ = some (.func (.yield l) #[] #[]) := hc3.c7.cell 0
          have r3 : C3.cell? ⟨C2.heap.size + 1, 0, none⟩ = some (.slice d1 d2 d3) := hbq.cell 0
          have r4 : C3.cell? ⟨C2.heap.size + 1, 1, none⟩ = some (.slice e1 e2 e3) := hbq.cell 1
          have r5 : C3.cell? ⟨C2.heap.size + 1, 2, none⟩ = some (.string xh) := hbq.cell 2
          have HC3 := Lib.hid hc3
          have HB13 := Lib.hid hb13
          have HLE1 := Lib.hid hle1
          have HB3 := Lib.hid hb3
          have hqat : WkAt B X w0 Wb ⟨.slice d1 d2 d3, .slice e1 e2 e3, Sp.onP ⟨P, E, h⟩ ⟨xe, xo, xi, xh⟩⟩ C3 := by
            refine ⟨⟨in_mono (in_below hq1 hb3) hle1.1, in_mono (in_below hq2 hb3) hle1.1⟩, fun g hg hx3 => ?_, kpx_below HENV.out.low (HAT.out.kp0.trans HK1.out) hb13 hle1.2.2 hle1.2.1, xin_below HENV.out.low HXI1.out (hb13.mono hle1.2.1), Nat.le_trans hle1.1 hb13.size⟩
            have h1 := HXI1.out g (HENV.out.low _ _ _ (hb13.mono hle1.2.1) hx3)
            rcases hg with hg | hg
            · have := (World.ownsRow.lt hq1 g hg).1; omega
            · have := (World.ownsRow.lt hq2 g hg).1; omega
          have HQAT := Lib.hid hqat
          have hjq : J (pre ++ xs) C3 := own_grow HENV.out.jT HJ1.out hb13
          have HJQ := Lib.hid hjq
          have hnext := Sp.POk.next HENV.out.net HOK.out (m := ⟨xe, xo, xi, xh⟩) (by rw [HLF.out]; cases hmm : Sp.movesV n k h with | nil => rw [hmm] at hx; cases hx | cons _ _ => rfl) (by rw [HLA.out, Int.toNat_natCast]; exact hx)
          have hih := HIH.out ⟨.slice d1 d2 d3, .slice e1 e2 e3, Sp.onP ⟨P, E, h⟩ ⟨xe, xo, xi, xh⟩⟩ (pre ++ xs) C3 (by have := hnext.2; have := HNE.out; simp only [] at this ⊢; omega) hnext.1 hqat hjq 9
          have HIHC := Lib.hid hih
          clear hs1 hs2 hq1 hq2 hb2 hb3 hb13 hc3 hbq hqat hjq hnext hih hle1
          gi_wp2
          clear r0 r1 r2 r3 r4 r5 hC3
          refine ⟨trivial, ?_⟩
          refine (CallsIn.inRound l2 HIHC.out).mono ?_
          rintro e C4 ⟨hR4, hK4, hF4⟩
          have hnx3 : NX X M S C3 := HNX1.out.low HENV.out.low (HB13.out.mono HLE1.out.2.1)
          have hp3 : InR C3 B (.slice A1 np c1) P ∧ InR C3 B (.slice A2 ne c2) E := ⟨in_below HP1.out.1 HB13.out, in_below HP1.out.2 HB13.out⟩
          have hrx3 : ∀ g, ((Value.slice A1 np c1).ownBlock = some g ∨ (Value.slice A2 ne c2).ownBlock = some g) → ¬ X C3 g := fun g hg => not_below HENV.out.low (HB13.out.mono HLE1.out.2.1) (HRX1.out g hg)
          have hc4 := HC3.out.keep hK4.1 hnx3
          have HC4 := Lib.hid hc4
          have HNX4 := Lib.hid (HC3.out.nx hK4.1 hnx3)
          have HP4 := Lib.hid (show InR C4 B (.slice A1 np c1) P ∧ InR C4 B (.slice A2 ne c2) E from ⟨kpx_row hK4.1 hp3.1 (fun g hg => hrx3 g (.inl hg)), kpx_row hK4.1 hp3.2 (fun g hg => hrx3 g (.inr hg))⟩)
          have HRX4 := Lib.hid (show ∀ g, ((Value.slice A1 np c1).ownBlock = some g ∨ (Value.slice A2 ne c2).ownBlock = some g) → ¬ X C4 g from fun g hg => hg.elim (fun hg => row_not hK4.1 hp3.1 hg (hrx3 g (.inl hg))) (fun hg => row_not hK4.1 hp3.2 hg (hrx3 g (.inr hg))))
          have HKW := Lib.hid ((kpx_below HENV.out.low HK1.out HB13.out HLE1.out.2.2 HLE1.out.2.1).trans hK4.1)
          have HFW := Lib.hid ((HKF1.out.1.trans (keeps_below HB13.out)).trans hF4)
          have HFV := Lib.hid ((HKF1.out.2.trans (keeps_below HB13.out)).trans (keeps_later hF4 HMX.out.2.2.1))
          have HKX4 := Lib.hid ((HKX1.out.trans (KpX.of_below (XOk.orT 4 (XLow.ok HENV.out.low)) HB13.out HLE1.out.2.2 HLE1.out.2.1)).trans (kpx_or 4 hK4.1))
          have HXI4 := Lib.hid hK4.2
          have HSZ4 := Lib.hid (show V.heap.size ≤ C4.heap.size from Nat.le_trans (Nat.le_trans HSZ1.out HB13.out.size) hK4.1.below.size)
          have z0 : C4.cell? ⟨M + 1 + 1 + 1 + 1, 0, none⟩ = some (.bool false) := hc4.c8.cell 0
          have z1 : C4.frozen? ⟨M + 1 + 1 + 1 + 1, 0, none⟩ = false := hc4.c8.frozen 0
          clear hnx3 hp3 hrx3 hK4 hF4 hc4
          rcases hR4 with ⟨rfl, ys, hys, hJ4⟩ | ⟨rfl, ys, hys, hJ4⟩
          · have HYS := Lib.hid hys
            have HJ4 := Lib.hid hJ4
            clear hys hJ4
            gi_wp2
            refine ⟨HFV.out, HKX4.out, ⟨?_, HP4.out, ⟨xs ++ ys, ?_, by rw [← List.append_assoc]; exact HJ4.out⟩, HKW.out, HXI4.out, HFW.out, HNX4.out, HRX4.out⟩, HSZ4.out⟩
            · rw [show ((ms ++ [(⟨⟨xe, xo, xi, xh⟩, hx⟩ : { x : Sp.Mv // x ∈ Sp.movesV n k h })]).map (·.1)).isEmpty = false by simp]
              exact HC4.out
            · rw [List.map_append, HXS.out, HYS.out, List.map_append, List.flatMap_append]
              simp
          · have HYS := Lib.hid hys
            have HJ4 := Lib.hid hJ4
            clear hys hJ4
            gi_wp2
            refine ⟨HFV.out.trans ((KeepsOthers.setCell _ _ _).from _), rfl, ⟨⟨xs ++ ys, ?_, by rw [← List.append_assoc]; exact own_set HENV.out.jxT HJ4.out HC4.out.c8 (by have := HBM.out; omega) _⟩, HC4.out.c8.set_ 0 _, kpx_setNew HENV.out.low HKW.out (by have := HM.out; omega) (by have := HBM.out; omega) (by have := HBM.out; omega) _, xin_set HENV.out.low HXI4.out (by have := HBM.out; omega) _, HFW.out.trans ((KeepsOthers.setCell _ _ _).from _)⟩, by simpa using HSZ4.out⟩
            rw [List.map_append, HXS.out, List.map_append, List.flatMap_append]
            refine (List.prefix_append_right_inj _).2 ?_
            simpa using HYS.out
        case done =>
          rintro D ys C hD hS ⟨hI, hVC⟩ hK
          replace hS : ys.map (·.1) = Sp.movesV n k h := hS
          rw [hS] at hI
          have HK := Lib.hid hK
          have HD := Lib.hid hD
          have HVC := Lib.hid hVC
          clear HST H0
          have hDV : W.heap.size ≤ D := Nat.le_trans HMX.out.2.2.2.1 hD
          have HDV := Lib.hid hDV
          cases hmm : Sp.movesV n k h with
          | nil =>
            rw [hmm] at hI
            have HI := Lib.hid hI
            obtain ⟨xs, hxs, hjx⟩ := hI.come
            have hx0 : xs = [] := List.map_eq_nil_iff.1 hxs
            subst hx0
            rw [List.append_nil] at hjx
            have HLT : Hid (Sp.leafB n hops ⟨P, E, h⟩ = true) := Lib.hid (by rw [HLF.out, hmm]; rfl)
            have HCz2 : Hid (WkC N M S l hops (.slice A1 np c1) (.slice A2 ne c2) h false true C) := Lib.hid hI.cells
            have HPz2 : Hid (InR C B (.slice A1 np c1) P ∧ InR C B (.slice A2 ne c2) E) := Lib.hid hI.pv
            have HXz2 := Lib.hid hI.xin
            clear hI hD hVC hK hxs hDV hS
            obtain ⟨fn, tmps, assign, body, hy, hR⟩ := HENV.out.yield 11 pre ⟨.slice A1 np c1, .slice A2 ne c2, ⟨P, E, h⟩⟩ C hjx HPz2.out HXz2.out
            dsimp only [pvC] at hy
            have y0 : (C).cell? ⟨S + 1, 0, none⟩ = some (.bool true) := HCz2.out.c10.cell 0
            have y1 : (C).cell? ⟨M + 1 + 1 + 1, 0, none⟩ = some (.func (.yield l) #[] #[]) := HCz2.out.c7.cell 0
            have y2 : (C).cell? ⟨M + 1, 0, none⟩ = some (.slice A1 np c1) := HCz2.out.c5.cell 0
            have y3 : (C).cell? ⟨M + 1, 1, none⟩ = some (.slice A2 ne c2) := HCz2.out.c5.cell 1
            have y4 : (C).cell? ⟨M + 1, 2, none⟩ = some (.string h) := HCz2.out.c5.cell 2
            have HR := Lib.hid hR
            clear hjx hmm
            gi_wp2
            refine HR.out.mono ?_
            rintro e V ⟨hyV, hKV, hFV⟩
            have HCV := Lib.hid (HCz2.out.keep hKV.1 HI.out.nx)
            have z0 : V.cell? ⟨M + 1 + 1 + 1 + 1, 0, none⟩ = some (.bool false) := HCV.out.c8.cell 0
            have z1 : V.frozen? ⟨M + 1 + 1 + 1 + 1, 0, none⟩ = false := HCV.out.c8.frozen 0
            have HKV := Lib.hid hKV
            have HFV := Lib.hid hFV
            clear hy y0 y1 y2 y3 y4 hKV hFV HR hR
            rcases hyV with ⟨rfl, hyV⟩ | ⟨rfl, hyV⟩
            all_goals
              have HYV := Lib.hid hyV
              clear hyV
              gi_wp2
              have hd2 : ∀ v : Value, (V.setCell ⟨M + 1 + 1 + 1 + 1, 0, none⟩ v).heap[D]? = some (.deferred (some [])) := fun v => (KeepsOthers.setCell V _ v).same D _ (HFV.out.same D _ (by have := HMX.out; have := HD.out; omega) HK.out rfl) rfl
              refine ⟨by simp, .inl ⟨_, _, rfl, run_takeDeferred (hd2 _), ?_⟩⟩
              refine ⟨_, results_cell1 rfl _ _ (M + 1 + 1 + 1 + 1) _ rfl ((World.cell?_of_block (World.putObj_heap_other (by have := HMX.out; have := HMS.out; have := HD.out; show M + 1 + 1 + 1 + 1 ≠ D; omega))).trans ((HCV.out.c8.set_ 0 _).cell 0)) (by rfl), ?_⟩
              refine walkEnd_put HENV.out (by have := HBM.out; have := HM.out; omega) ?_ _ HDV.out (hd2 _) rfl rfl
              exact leaf_end HENV.out (by have := HBM.out; have := HM.out; omega) HLT.out HI.out.kp HI.out.keeps (by first | exact .inl ⟨rfl, HYV.out⟩ | exact .inr ⟨rfl, HYV.out⟩) HKV.out HFV.out HCV.out.c8 (by have := HM.out; omega)
          | cons m0 mr =>
            have hne : (m0 :: mr).isEmpty = false := rfl
            rw [hmm] at hI
            have HI := Lib.hid hI
            have y0 : C.cell? ⟨S + 1, 0, none⟩ = some (.bool false) := hI.cells.c10.cell 0
            have z0 : C.cell? ⟨M + 1 + 1 + 1 + 1, 0, none⟩ = some (.bool false) := hI.cells.c8.cell 0
            have z1 : C.frozen? ⟨M + 1 + 1 + 1 + 1, 0, none⟩ = false := hI.cells.c8.frozen 0
            have HMM := Lib.hid hmm
            clear hI hD hVC hK hDV hS hmm hne
            gi_wp2
            refine ⟨fun _ h => (by cases h), ?_⟩
            gi_wp2
            obtain ⟨xs, hxs, hjx⟩ := HI.out.come
            have hd2 : (C.setCell ⟨M + 1 + 1 + 1 + 1, 0, none⟩ (.bool true)).heap[D]? = some (.deferred (some [])) := (KeepsOthers.setCell C _ _).same D _ HK.out rfl
            refine ⟨by simp, .inl ⟨_, _, rfl, run_takeDeferred hd2, ?_⟩⟩
            refine ⟨_, results_cell1 rfl _ _ (M + 1 + 1 + 1 + 1) _ rfl ((World.cell?_of_block (World.putObj_heap_other (by have := HMX.out; have := HMS.out; have := HD.out; show M + 1 + 1 + 1 + 1 ≠ D; omega))).trans ((HI.out.cells.c8.set_ 0 _).cell 0)) (by rfl), ?_⟩
            refine walkEnd_put HENV.out (by have := HBM.out; have := HM.out; omega) ?_ _ HDV.out hd2 rfl rfl
            refine ⟨.inl ⟨rfl, xs, ?_, own_set HENV.out.jT hjx HI.out.cells.c8 (by have := HBM.out; omega) _⟩, ⟨kpx_setNew HENV.out.low HI.out.kp (by have := HM.out; omega) (by have := HBM.out; omega) (by have := HBM.out; omega) _, xin_set HENV.out.low HI.out.xin (by have := HBM.out; omega) _⟩, HI.out.keeps.trans ((KeepsOthers.setCell _ _ _).from _)⟩
            rw [hxs, Sp.walkV_on (by rw [HLF.out, HMM.out]; rfl), HLA.out, Int.toNat_natCast, HMM.out]
        case stop =>
          rintro D c ms C hD hpre ⟨rfl, hX, hVC⟩ hK
          replace hpre : ms.map (·.1) <+: Sp.movesV n k h := hpre
          have HX := Lib.hid hX
          have HK := Lib.hid hK
          have HD := Lib.hid hD
          have HPRE := Lib.hid hpre
          have z0 : C.cell? ⟨M + 1 + 1 + 1 + 1, 0, none⟩ = some (.bool false) := hX.c8.cell 0
          clear HST H0 hX hK hD hpre hVC
          gi_wp2
          refine ⟨by simp, .inl ⟨_, _, rfl, run_takeDeferred HK.out, ?_⟩⟩
          refine ⟨_, results_cell1 rfl _ _ (M + 1 + 1 + 1 + 1) _ rfl ((World.cell?_of_block (World.putObj_heap_other (by have := HMX.out; have := HMS.out; have := HD.out; show M + 1 + 1 + 1 + 1 ≠ D; omega))).trans (HX.out.c8.cell 0)) (by rfl), ?_⟩
          refine walkEnd_put HENV.out (by have := HBM.out; have := HM.out; omega) ?_ _ (Nat.le_trans HMX.out.2.2.2.1 HD.out) HK.out rfl rfl
          obtain ⟨xs, hxs, hjx⟩ := HX.out.come
          refine ⟨.inr ⟨rfl, xs, hxs.trans ?_, hjx⟩, ⟨HX.out.kp, HX.out.xin⟩, HX.out.keeps⟩
          have hpr := HPRE.out
          have hlf := HLF.out
          obtain ⟨L, hL⟩ : ∃ L : List Sp.Mv, ms.map (·.1) = L := ⟨_, rfl⟩
          rw [hL] at hpr ⊢
          clear hxs hL HX HPRE
          cases hbl : Sp.leafB n hops ⟨P, E, h⟩ with
          | false =>
            rw [Sp.walkV_on hbl, HLA.out, Int.toNat_natCast]
            obtain ⟨t, ht⟩ := hpr
            show _ <+: (Sp.movesV n k h).flatMap _
            rw [← ht, List.flatMap_append]
            exact List.prefix_append _ _
          | true =>
            rw [hbl] at hlf
            have hnil : Sp.movesV n k h = [] := List.isEmpty_iff.1 hlf.symm
            rw [hnil] at hpr
            rw [List.prefix_nil.1 hpr]
            exact List.nil_prefix
      · have hh1 : decide ((ne : Int) < hops) = false := decide_eq_false hh
        have HLF : Hid (Sp.leafB n hops ⟨P, E, h⟩ = true) := Lib.hid (by
          unfold Sp.leafB
          rw [HLA.out, Int.toNat_natCast, HQI.out]
          have := HNEL.out
          simp only [Bool.true_eq_false, if_false]
          rw [decide_eq_true (show hops ≤ (E.length : Int) by omega), Bool.or_true])
        have hbz : Below W8.heap.size W8 W8.drew := (Below.refl _ _).drew
        have HCz := Lib.hid (HC8.out.below hbz)
        have HPz := Lib.hid (show InR W8.drew B (.slice A1 np c1) P ∧ InR W8.drew B (.slice A2 ne c2) E from ⟨in_below HPV8.out.1 hbz, in_below HPV8.out.2 hbz⟩)
        have HBz := Lib.hid (show Below M W W8.drew from HBW8.out.trans (hbz.mono (by have := HMS.out; have := HS8.out; omega)))
        have HNz := Lib.hid (show NX X M S W8.drew from HNX8.out.low HENV.out.low (hbz.mono (by have := HMS.out; have := HS8.out; have := HBM.out; omega)))
        have HXz := Lib.hid (show XIn X W8.drew from xin_below HENV.out.low HXI8.out (hbz.mono (by have := HMS.out; have := HS8.out; have := HBM.out; omega)))
        obtain ⟨fn, tmps, assign, body, hy, hR⟩ := HENV.out.yield 11 pre ⟨.slice A1 np c1, .slice A2 ne c2, ⟨P, E, h⟩⟩ W8.drew (own_grow HENV.out.jT HJ.out (by rw [HM.out]; exact HBz.out)) HPz.out HXz.out
        dsimp only [pvC] at hy
        have y0 : (W8.drew).cell? ⟨S + 1, 0, none⟩ = some (.bool true) := HCz.out.c10.cell 0
        have y1 : (W8.drew).cell? ⟨M + 1 + 1 + 1, 0, none⟩ = some (.func (.yield l) #[] #[]) := HCz.out.c7.cell 0
        have y2 : (W8.drew).cell? ⟨M + 1, 0, none⟩ = some (.slice A1 np c1) := HCz.out.c5.cell 0
        have y3 : (W8.drew).cell? ⟨M + 1, 1, none⟩ = some (.slice A2 ne c2) := HCz.out.c5.cell 1
        have y4 : (W8.drew).cell? ⟨M + 1, 2, none⟩ = some (.string h) := HCz.out.c5.cell 2
        have HR := Lib.hid hR
        clear hbz
        gi_wp2
        refine HR.out.mono ?_
        rintro e V ⟨hyV, hKV, hFV⟩
        have HCV := Lib.hid (HCz.out.keep hKV.1 HNz.out)
        have z0 : V.cell? ⟨M + 1 + 1 + 1 + 1, 0, none⟩ = some (.bool false) := HCV.out.c8.cell 0
        have z1 : V.frozen? ⟨M + 1 + 1 + 1 + 1, 0, none⟩ = false := HCV.out.c8.frozen 0
        have HKV := Lib.hid hKV
        have HFV := Lib.hid hFV
        clear hy y0 y1 y2 y3 y4 hKV hFV HR hR
        rcases hyV with ⟨rfl, hyV⟩ | ⟨rfl, hyV⟩
        all_goals
          have HYV := Lib.hid hyV
          clear hyV
          gi_wp2
          refine ⟨_, results_cell1 rfl _ _ (M + 1 + 1 + 1 + 1) _ rfl ((HCV.out.c8.set_ 0 _).cell 0) (by rfl), ?_⟩
          exact leaf_end HENV.out (by have := HBM.out; have := HM.out; omega) HLF.out (KpX.of_below (XLow.ok HENV.out.low) (by rw [HM.out]; exact HBz.out) (by have := HBM.out; have := HM.out; omega) (by have := HBM.out; have := HM.out; omega)) (keeps_below (by rw [HM.out]; exact HBz.out)) (by first | exact .inl ⟨rfl, HYV.out⟩ | exact .inr ⟨rfl, HYV.out⟩) HKV.out HFV.out HCV.out.c8 (by have := HM.out; omega)
    | false =>
      refine wpIn_noPanic ?_
      refine wpIn_region_K 16 (fun w' => w'.cell? ⟨M, 0, none⟩ = some (.pointer (some ⟨N, 0, none⟩)) ∧ w'.cell? ⟨N, 1, none⟩ = some (.slice (some ⟨gq, oq, none⟩) npt d1) ∧ w'.cell? ⟨S, 0, none⟩ = some (.int .i64 (k : Int)) ∧ w'.cell? ⟨gq, oq + k * 4 + 2, none⟩ = some (.bool false) ∧ w'.cell? ⟨M + 1, 1, none⟩ = some (.slice A2 ne c2) ∧ w'.cell? ⟨M + 1 + 1, 0, none⟩ = some (.int .i64 hops)) (by kernel_rfl) (fun hcl => ?_)
      have hS : (fun w' : World => w'.cell? ⟨M, 0, none⟩ = some (.pointer (some ⟨N, 0, none⟩)) ∧ w'.cell? ⟨N, 1, none⟩ = some (.slice (some ⟨gq, oq, none⟩) npt d1) ∧ w'.cell? ⟨S, 0, none⟩ = some (.int .i64 (k : Int)) ∧ w'.cell? ⟨gq, oq + k * 4 + 2, none⟩ = some (.bool false) ∧ w'.cell? ⟨M + 1, 1, none⟩ = some (.slice A2 ne c2) ∧ w'.cell? ⟨M + 1 + 1, 0, none⟩ = some (.int .i64 hops)) W8.drew := ⟨HC8.out.c4.cell 0, HN1.out, HBS.out.cell 0, HK2.out, HC8.out.c5.cell 1, HC8.out.c6.cell 0⟩
      refine wpAnyKIn_take (i := 0) (v := ?_) rfl hcl hS rfl (by kernel_rfl) (fun _ _ _ h => h) (by rfl) ?_ (fun _ => rfl) (fun hcl2 => ?_)
      rotate_left
      · (intro w hSw; (try dsimp only at hSw); first | (go_simp; done) | (go_simp; with_reducible rfl))
      (try simp only [List.getElem_toArray, List.getElem_cons_succ, List.getElem_cons_zero])
      (try simp only [Act.put, List.setIfInBounds_toArray, List.set_cons_zero, List.set_cons_succ])
      clear hcl; have hcl := hcl2; clear hcl2
      refine wpAnyKIn_take (i := 1) (v := ?_) rfl hcl hS rfl (by kernel_rfl) (fun _ _ _ h => h) (by rfl) ?_ (fun _ => rfl) (fun hcl2 => ?_)
      rotate_left
      · (intro w hSw; (try dsimp only at hSw); first | (go_simp; done) | (go_simp; with_reducible rfl))
      (try simp only [List.getElem_toArray, List.getElem_cons_succ, List.getElem_cons_zero])
      (try simp only [Act.put, List.setIfInBounds_toArray, List.set_cons_zero, List.set_cons_succ])
      clear hcl; have hcl := hcl2; clear hcl2
      refine wpAnyKIn_take (i := 2) (v := ?_) rfl hcl hS rfl (by kernel_rfl) (fun _ _ _ h => h) (by rfl) ?_ (fun _ => rfl) (fun hcl2 => ?_)
      rotate_left
      · (intro w hSw; (try dsimp only at hSw); first | (go_simp; done) | (go_simp; with_reducible rfl))
      (try simp only [List.getElem_toArray, List.getElem_cons_succ, List.getElem_cons_zero])
      (try simp only [Act.put, List.setIfInBounds_toArray, List.set_cons_zero, List.set_cons_succ])
      clear hcl; have hcl := hcl2; clear hcl2
      refine wpAnyKIn_take (i := 3) (v := ?_) rfl hcl hS rfl (by kernel_rfl) (fun _ _ _ h => h) (by rfl) ?_ (fun _ => rfl) (fun hcl2 => ?_)
      rotate_left
      · (intro w hSw; (try dsimp only at hSw); first | (go_simp; done) | (go_simp; with_reducible rfl))
      (try simp only [List.getElem_toArray, List.getElem_cons_succ, List.getElem_cons_zero])
      (try simp only [Act.put, List.setIfInBounds_toArray, List.set_cons_zero, List.set_cons_succ])
      clear hcl; have hcl := hcl2; clear hcl2
      refine wpAnyKIn_take (i := 4) (v := ?_) rfl hcl hS rfl (by kernel_rfl) (fun _ _ _ h => h) (by rfl) ?_ (fun _ => rfl) (fun hcl2 => ?_)
      rotate_left
      · (intro w hSw; (try dsimp only at hSw); first | (go_simp; done) | (go_simp; with_reducible rfl))
      (try simp only [List.getElem_toArray, List.getElem_cons_succ, List.getElem_cons_zero])
      (try simp only [Act.put, List.setIfInBounds_toArray, List.set_cons_zero, List.set_cons_succ])
      clear hcl; have hcl := hcl2; clear hcl2
      refine wpAnyKIn_take (i := 5) (v := ?_) rfl hcl hS rfl (by kernel_rfl) (fun _ _ _ h => h) (by rfl) ?_ (fun _ => rfl) (fun hcl2 => ?_)
      rotate_left
      · (intro w hSw; (try dsimp only at hSw); first | (go_simp; done) | (go_simp; with_reducible rfl))
      (try simp only [List.getElem_toArray, List.getElem_cons_succ, List.getElem_cons_zero])
      (try simp only [Act.put, List.setIfInBounds_toArray, List.set_cons_zero, List.set_cons_succ])
      clear hcl; have hcl := hcl2; clear hcl2
      refine wpAnyKIn_take (i := 6) (v := ?_) rfl hcl hS rfl (by kernel_rfl) (fun _ _ _ h => h) (by rfl) ?_ (fun _ => rfl) (fun hcl2 => ?_)
      rotate_left
      · (intro w hSw; (try dsimp only at hSw); first | (go_simp; done) | (go_simp; with_reducible rfl))
      (try simp only [List.getElem_toArray, List.getElem_cons_succ, List.getElem_cons_zero])
      (try simp only [Act.put, List.setIfInBounds_toArray, List.set_cons_zero, List.set_cons_succ])
      clear hcl; have hcl := hcl2; clear hcl2
      refine wpAnyKIn_take (i := 7) (v := ?_) rfl hcl hS rfl (by kernel_rfl) (fun _ _ _ h => h) (by rfl) ?_ (fun _ => rfl) (fun hcl2 => ?_)
      rotate_left
      · (intro w hSw; (try dsimp only at hSw); first | (go_simp; done) | (go_simp; with_reducible rfl))
      (try simp only [List.getElem_toArray, List.getElem_cons_succ, List.getElem_cons_zero])
      (try simp only [Act.put, List.setIfInBounds_toArray, List.set_cons_zero, List.set_cons_succ])
      clear hcl; have hcl := hcl2; clear hcl2
      refine wpAnyKIn_take (i := 8) (v := ?_) rfl hcl hS rfl (by kernel_rfl) (fun _ _ _ h => h) (by rfl) ?_ (fun _ => rfl) (fun hcl2 => ?_)
      rotate_left
      · (intro w hSw; (try dsimp only at hSw); first | (go_simp; done) | (go_simp; with_reducible rfl))
      (try simp only [List.getElem_toArray, List.getElem_cons_succ, List.getElem_cons_zero])
      (try simp only [Act.put, List.setIfInBounds_toArray, List.set_cons_zero, List.set_cons_succ])
      clear hcl; have hcl := hcl2; clear hcl2
      refine wpAnyKIn_take (i := 9) (v := ?_) rfl hcl hS rfl (by kernel_rfl) (fun _ _ _ h => h) (by rfl) ?_ (fun _ => rfl) (fun hcl2 => ?_)
      rotate_left
      · (intro w hSw; (try dsimp only at hSw); first | (go_simp; done) | (go_simp; with_reducible rfl))
      (try simp only [List.getElem_toArray, List.getElem_cons_succ, List.getElem_cons_zero])
      (try simp only [Act.put, List.setIfInBounds_toArray, List.set_cons_zero, List.set_cons_succ])
      clear hcl; have hcl := hcl2; clear hcl2
      refine wpAnyKIn_take (i := 10) (v := ?_) rfl hcl hS rfl (by kernel_rfl) (fun _ _ _ h => h) (by rfl) ?_ (fun _ => rfl) (fun hcl2 => ?_)
      rotate_left
      · (intro w hSw; (try dsimp only at hSw); first | (go_simp; done) | (go_simp; with_reducible rfl))
      (try simp only [List.getElem_toArray, List.getElem_cons_succ, List.getElem_cons_zero])
      (try simp only [Act.put, List.setIfInBounds_toArray, List.set_cons_zero, List.set_cons_succ])
      clear hcl; have hcl := hcl2; clear hcl2
      refine wpAnyKIn_pass (i := 11) rfl hcl hS rfl (by kernel_rfl) (fun _ _ _ h => h) (by rfl) (fun _ => rfl) (fun hcl2 => ?_)
      (try simp only [List.getElem_toArray, List.getElem_cons_succ, List.getElem_cons_zero])
      (try simp only [Act.put, List.setIfInBounds_toArray, List.set_cons_zero, List.set_cons_succ])
      clear hcl; have hcl := hcl2; clear hcl2
      refine wpAnyKIn_pass (i := 12) rfl hcl hS rfl (by kernel_rfl) (fun _ _ _ h => h) (by rfl) (fun _ => rfl) (fun hcl2 => ?_)
      (try simp only [List.getElem_toArray, List.getElem_cons_succ, List.getElem_cons_zero])
      (try simp only [Act.put, List.setIfInBounds_toArray, List.set_cons_zero, List.set_cons_succ])
      clear hcl; have hcl := hcl2; clear hcl2
      refine wpAnyKIn_pass (i := 13) rfl hcl hS rfl (by kernel_rfl) (fun _ _ _ h => h) (by rfl) (fun _ => rfl) (fun hcl2 => ?_)
      (try simp only [List.getElem_toArray, List.getElem_cons_succ, List.getElem_cons_zero])
      (try simp only [Act.put, List.setIfInBounds_toArray, List.set_cons_zero, List.set_cons_succ])
      clear hcl; have hcl := hcl2; clear hcl2
      refine wpAnyKIn_pass (i := 14) rfl hcl hS rfl (by kernel_rfl) (fun _ _ _ h => h) (by rfl) (fun _ => rfl) (fun hcl2 => ?_)
      (try simp only [List.getElem_toArray, List.getElem_cons_succ, List.getElem_cons_zero])
      (try simp only [Act.put, List.setIfInBounds_toArray, List.set_cons_zero, List.set_cons_succ])
      clear hcl; have hcl := hcl2; clear hcl2
      refine wpAnyKIn_pass (i := 15) rfl hcl hS rfl (by kernel_rfl) (fun _ _ _ h => h) (by rfl) (fun _ => rfl) (fun hcl2 => ?_)
      (try simp only [List.getElem_toArray, List.getElem_cons_succ, List.getElem_cons_zero])
      (try simp only [Act.put, List.setIfInBounds_toArray, List.set_cons_zero, List.set_cons_succ])
      clear hcl; have hcl := hcl2; clear hcl2
      clear hS
      refine wpAnyKIn_one (i := 16) hcl (by kernel_rfl) rfl (by rfl) (fun K hK => ?_)
      simp only [List.getElem_toArray, List.getElem_cons_succ, List.getElem_cons_zero]
      refine ⟨(fun f hf => by cases hf), ?_⟩
      rw [show Fence.wide.round = none from rfl, Oper.semAt_none]
      go_simp
      refine hK.out _ _ (Or.inl (by kernel_rfl)) (fun hcl2 => ?_)
      clear hK K hcl hcl2
      refine wpAnyKIn_done (by kernel_rfl) ?_ _
      refine NoPanic.normal ?_
      (try simp only [Act.put, List.setIfInBounds_toArray, List.set_cons_zero, List.set_cons_succ])
      gi_wp2
      by_cases hh : 1 < np
      · have hh1 : decide ((np : Int) > 1) = true := decide_eq_true (by omega)
        have hh2 : decide (np > 1) = true := decide_eq_true hh
        have HLF : Hid (Sp.leafB n hops ⟨P, E, h⟩ = true) := Lib.hid (by
          unfold Sp.leafB
          rw [HLA.out, Int.toNat_natCast, HQI.out]
          have := HNP.out
          simp only [if_true]
          rw [decide_eq_true (show 1 < P.length by omega), Bool.or_true])
        refine wpIn_noPanic ?_
        refine wpIn_region_K 15 (fun w' => w'.cell? ⟨M, 0, none⟩ = some (.pointer (some ⟨N, 0, none⟩)) ∧ w'.cell? ⟨N, 1, none⟩ = some (.slice (some ⟨gq, oq, none⟩) npt d1) ∧ w'.cell? ⟨S, 0, none⟩ = some (.int .i64 (k : Int)) ∧ w'.cell? ⟨gq, oq + k * 4 + 2, none⟩ = some (.bool false) ∧ w'.cell? ⟨M + 1, 0, none⟩ = some (.slice A1 np c1)) (by kernel_rfl) (fun hcl => ?_)
        have hS : (fun w' : World => w'.cell? ⟨M, 0, none⟩ = some (.pointer (some ⟨N, 0, none⟩)) ∧ w'.cell? ⟨N, 1, none⟩ = some (.slice (some ⟨gq, oq, none⟩) npt d1) ∧ w'.cell? ⟨S, 0, none⟩ = some (.int .i64 (k : Int)) ∧ w'.cell? ⟨gq, oq + k * 4 + 2, none⟩ = some (.bool false) ∧ w'.cell? ⟨M + 1, 0, none⟩ = some (.slice A1 np c1)) W8.drew.drew := ⟨HC8.out.c4.cell 0, HN1.out, HBS.out.cell 0, HK2.out, HC8.out.c5.cell 0⟩
        refine wpAnyKIn_take (i := 0) (v := ?_) rfl hcl hS rfl (by kernel_rfl) (fun _ _ _ h => h) (by rfl) ?_ (fun _ => rfl) (fun hcl2 => ?_)
        rotate_left
        · (intro w hSw; (try dsimp only at hSw); first | (go_simp; done) | (go_simp; with_reducible rfl))
        (try simp only [List.getElem_toArray, List.getElem_cons_succ, List.getElem_cons_zero])
        (try simp only [Act.put, List.setIfInBounds_toArray, List.set_cons_zero, List.set_cons_succ])
        clear hcl; have hcl := hcl2; clear hcl2
        refine wpAnyKIn_take (i := 1) (v := ?_) rfl hcl hS rfl (by kernel_rfl) (fun _ _ _ h => h) (by rfl) ?_ (fun _ => rfl) (fun hcl2 => ?_)
        rotate_left
        · (intro w hSw; (try dsimp only at hSw); first | (go_simp; done) | (go_simp; with_reducible rfl))
        (try simp only [List.getElem_toArray, List.getElem_cons_succ, List.getElem_cons_zero])
        (try simp only [Act.put, List.setIfInBounds_toArray, List.set_cons_zero, List.set_cons_succ])
        clear hcl; have hcl := hcl2; clear hcl2
        refine wpAnyKIn_take (i := 2) (v := ?_) rfl hcl hS rfl (by kernel_rfl) (fun _ _ _ h => h) (by rfl) ?_ (fun _ => rfl) (fun hcl2 => ?_)
        rotate_left
        · (intro w hSw; (try dsimp only at hSw); first | (go_simp; done) | (go_simp; with_reducible rfl))
        (try simp only [List.getElem_toArray, List.getElem_cons_succ, List.getElem_cons_zero])
        (try simp only [Act.put, List.setIfInBounds_toArray, List.set_cons_zero, List.set_cons_succ])
        clear hcl; have hcl := hcl2; clear hcl2
        refine wpAnyKIn_take (i := 3) (v := ?_) rfl hcl hS rfl (by kernel_rfl) (fun _ _ _ h => h) (by rfl) ?_ (fun _ => rfl) (fun hcl2 => ?_)
        rotate_left
        · (intro w hSw; (try dsimp only at hSw); first | (go_simp; done) | (go_simp; with_reducible rfl))
        (try simp only [List.getElem_toArray, List.getElem_cons_succ, List.getElem_cons_zero])
        (try simp only [Act.put, List.setIfInBounds_toArray, List.set_cons_zero, List.set_cons_succ])
        clear hcl; have hcl := hcl2; clear hcl2
        refine wpAnyKIn_take (i := 4) (v := ?_) rfl hcl hS rfl (by kernel_rfl) (fun _ _ _ h => h) (by rfl) ?_ (fun _ => rfl) (fun hcl2 => ?_)
        rotate_left
        · (intro w hSw; (try dsimp only at hSw); first | (go_simp; done) | (go_simp; with_reducible rfl))
        (try simp only [List.getElem_toArray, List.getElem_cons_succ, List.getElem_cons_zero])
        (try simp only [Act.put, List.setIfInBounds_toArray, List.set_cons_zero, List.set_cons_succ])
        clear hcl; have hcl := hcl2; clear hcl2
        refine wpAnyKIn_take (i := 5) (v := ?_) rfl hcl hS rfl (by kernel_rfl) (fun _ _ _ h => h) (by rfl) ?_ (fun _ => rfl) (fun hcl2 => ?_)
        rotate_left
        · (intro w hSw; (try dsimp only at hSw); first | (go_simp; done) | (go_simp; with_reducible rfl))
        (try simp only [List.getElem_toArray, List.getElem_cons_succ, List.getElem_cons_zero])
        (try simp only [Act.put, List.setIfInBounds_toArray, List.set_cons_zero, List.set_cons_succ])
        clear hcl; have hcl := hcl2; clear hcl2
        refine wpAnyKIn_take (i := 6) (v := ?_) rfl hcl hS rfl (by kernel_rfl) (fun _ _ _ h => h) (by rfl) ?_ (fun _ => rfl) (fun hcl2 => ?_)
        rotate_left
        · (intro w hSw; (try dsimp only at hSw); first | (go_simp; done) | (go_simp; with_reducible rfl))
        (try simp only [List.getElem_toArray, List.getElem_cons_succ, List.getElem_cons_zero])
        (try simp only [Act.put, List.setIfInBounds_toArray, List.set_cons_zero, List.set_cons_succ])
        clear hcl; have hcl := hcl2; clear hcl2
        refine wpAnyKIn_take (i := 7) (v := ?_) rfl hcl hS rfl (by kernel_rfl) (fun _ _ _ h => h) (by rfl) ?_ (fun _ => rfl) (fun hcl2 => ?_)
        rotate_left
        · (intro w hSw; (try dsimp only at hSw); first | (go_simp; done) | (go_simp; with_reducible rfl))
        (try simp only [List.getElem_toArray, List.getElem_cons_succ, List.getElem_cons_zero])
        (try simp only [Act.put, List.setIfInBounds_toArray, List.set_cons_zero, List.set_cons_succ])
        clear hcl; have hcl := hcl2; clear hcl2
        refine wpAnyKIn_take (i := 8) (v := ?_) rfl hcl hS rfl (by kernel_rfl) (fun _ _ _ h => h) (by rfl) ?_ (fun _ => rfl) (fun hcl2 => ?_)
        rotate_left
        · (intro w hSw; (try dsimp only at hSw); first | (go_simp; done) | (go_simp; with_reducible rfl))
        (try simp only [List.getElem_toArray, List.getElem_cons_succ, List.getElem_cons_zero])
        (try simp only [Act.put, List.setIfInBounds_toArray, List.set_cons_zero, List.set_cons_succ])
        clear hcl; have hcl := hcl2; clear hcl2
        refine wpAnyKIn_take (i := 9) (v := ?_) rfl hcl hS rfl (by kernel_rfl) (fun _ _ _ h => h) (by rfl) ?_ (fun _ => rfl) (fun hcl2 => ?_)
        rotate_left
        · (intro w hSw; (try dsimp only at hSw); first | (go_simp; done) | (go_simp; with_reducible rfl))
        (try simp only [List.getElem_toArray, List.getElem_cons_succ, List.getElem_cons_zero])
        (try simp only [Act.put, List.setIfInBounds_toArray, List.set_cons_zero, List.set_cons_succ])
        clear hcl; have hcl := hcl2; clear hcl2
        refine wpAnyKIn_take (i := 10) (v := ?_) rfl hcl hS rfl (by kernel_rfl) (fun _ _ _ h => h) (by rfl) ?_ (fun _ => rfl) (fun hcl2 => ?_)
        rotate_left
        · (intro w hSw; (try dsimp only at hSw); first | (go_simp; done) | (go_simp; with_reducible rfl))
        (try simp only [List.getElem_toArray, List.getElem_cons_succ, List.getElem_cons_zero])
        (try simp only [Act.put, List.setIfInBounds_toArray, List.set_cons_zero, List.set_cons_succ])
        clear hcl; have hcl := hcl2; clear hcl2
        refine wpAnyKIn_take (i := 11) (v := ?_) rfl hcl hS rfl (by kernel_rfl) (fun _ _ _ h => h) (by rfl) ?_ (fun _ => rfl) (fun hcl2 => ?_)
        rotate_left
        · (intro w hSw; (try dsimp only at hSw); first | (go_simp; done) | (go_simp; with_reducible rfl))
        (try simp only [List.getElem_toArray, List.getElem_cons_succ, List.getElem_cons_zero])
        (try simp only [Act.put, List.setIfInBounds_toArray, List.set_cons_zero, List.set_cons_succ])
        clear hcl; have hcl := hcl2; clear hcl2
        refine wpAnyKIn_take (i := 12) (v := ?_) rfl hcl hS rfl (by kernel_rfl) (fun _ _ _ h => h) (by rfl) ?_ (fun _ => rfl) (fun hcl2 => ?_)
        rotate_left
        · (intro w hSw; (try dsimp only at hSw); first | (go_simp; done) | (go_simp; with_reducible rfl))
        (try simp only [List.getElem_toArray, List.getElem_cons_succ, List.getElem_cons_zero])
        (try simp only [Act.put, List.setIfInBounds_toArray, List.set_cons_zero, List.set_cons_succ])
        clear hcl; have hcl := hcl2; clear hcl2
        refine wpAnyKIn_take (i := 13) (v := ?_) rfl hcl hS rfl (by kernel_rfl) (fun _ _ _ h => h) (by rfl) ?_ (fun _ => rfl) (fun hcl2 => ?_)
        rotate_left
        · (intro w hSw; (try dsimp only at hSw); first | (go_simp; done) | (go_simp; with_reducible rfl))
        (try simp only [List.getElem_toArray, List.getElem_cons_succ, List.getElem_cons_zero])
        (try simp only [Act.put, List.setIfInBounds_toArray, List.set_cons_zero, List.set_cons_succ])
        clear hcl; have hcl := hcl2; clear hcl2
        refine wpAnyKIn_take (i := 14) (v := ?_) rfl hcl hS rfl (by kernel_rfl) (fun _ _ _ h => h) (by rfl) ?_ (fun _ => rfl) (fun hcl2 => ?_)
        rotate_left
        · (intro w hSw; (try dsimp only at hSw); first | (go_simp; done) | (go_simp; with_reducible rfl))
        (try simp only [List.getElem_toArray, List.getElem_cons_succ, List.getElem_cons_zero])
        (try simp only [Act.put, List.setIfInBounds_toArray, List.set_cons_zero, List.set_cons_succ])
        clear hcl; have hcl := hcl2; clear hcl2
        clear hS
        refine wpAnyKIn_one (i := 15) hcl (by kernel_rfl) rfl (by rfl) (fun K hK => ?_)
        simp only [List.getElem_toArray, List.getElem_cons_succ, List.getElem_cons_zero]
        refine ⟨(fun f hf => by cases hf), ?_⟩
        rw [show Fence.wide.round = none from rfl, Oper.semAt_none]
        go_simp
        refine hK.out _ _ (Or.inl (by kernel_rfl)) (fun hcl2 => ?_)
        clear hK K hcl hcl2
        refine wpAnyKIn_done (by kernel_rfl) ?_ _
        refine NoPanic.normal ?_
        (try simp only [Act.put, List.setIfInBounds_toArray, List.set_cons_zero, List.set_cons_succ])
        have hbz : Below W8.heap.size W8 W8.drew.drew := (Below.refl _ _).drew.drew
        have HCz := Lib.hid (HC8.out.below hbz)
        have HPz := Lib.hid (show InR W8.drew.drew B (.slice A1 np c1) P ∧ InR W8.drew.drew B (.slice A2 ne c2) E from ⟨in_below HPV8.out.1 hbz, in_below HPV8.out.2 hbz⟩)
        have HBz := Lib.hid (show Below M W W8.drew.drew from HBW8.out.trans (hbz.mono (by have := HMS.out; have := HS8.out; omega)))
        have HNz := Lib.hid (show NX X M S W8.drew.drew from HNX8.out.low HENV.out.low (hbz.mono (by have := HMS.out; have := HS8.out; have := HBM.out; omega)))
        have HXz := Lib.hid (show XIn X W8.drew.drew from xin_below HENV.out.low HXI8.out (hbz.mono (by have := HMS.out; have := HS8.out; have := HBM.out; omega)))
        obtain ⟨fn, tmps, assign, body, hy, hR⟩ := HENV.out.yield 11 pre ⟨.slice A1 np c1, .slice A2 ne c2, ⟨P, E, h⟩⟩ W8.drew.drew (own_grow HENV.out.jT HJ.out (by rw [HM.out]; exact HBz.out)) HPz.out HXz.out
        dsimp only [pvC] at hy
        have y0 : (W8.drew.drew).cell? ⟨S + 1, 0, none⟩ = some (.bool true) := HCz.out.c10.cell 0
        have y1 : (W8.drew.drew).cell? ⟨M + 1 + 1 + 1, 0, none⟩ = some (.func (.yield l) #[] #[]) := HCz.out.c7.cell 0
        have y2 : (W8.drew.drew).cell? ⟨M + 1, 0, none⟩ = some (.slice A1 np c1) := HCz.out.c5.cell 0
        have y3 : (W8.drew.drew).cell? ⟨M + 1, 1, none⟩ = some (.slice A2 ne c2) := HCz.out.c5.cell 1
        have y4 : (W8.drew.drew).cell? ⟨M + 1, 2, none⟩ = some (.string h) := HCz.out.c5.cell 2
        have HR := Lib.hid hR
        clear hbz
        gi_wp2
        refine HR.out.mono ?_
        rintro e V ⟨hyV, hKV, hFV⟩
        have HCV := Lib.hid (HCz.out.keep hKV.1 HNz.out)
        have z0 : V.cell? ⟨M + 1 + 1 + 1 + 1, 0, none⟩ = some (.bool false) := HCV.out.c8.cell 0
        have z1 : V.frozen? ⟨M + 1 + 1 + 1 + 1, 0, none⟩ = false := HCV.out.c8.frozen 0
        have HKV := Lib.hid hKV
        have HFV := Lib.hid hFV
        clear hy y0 y1 y2 y3 y4 hKV hFV HR hR
        rcases hyV with ⟨rfl, hyV⟩ | ⟨rfl, hyV⟩
        all_goals
          have HYV := Lib.hid hyV
          clear hyV
          gi_wp2
          refine ⟨_, results_cell1 rfl _ _ (M + 1 + 1 + 1 + 1) _ rfl ((HCV.out.c8.set_ 0 _).cell 0) (by rfl), ?_⟩
          exact leaf_end HENV.out (by have := HBM.out; have := HM.out; omega) HLF.out (KpX.of_below (XLow.ok HENV.out.low) (by rw [HM.out]; exact HBz.out) (by have := HBM.out; have := HM.out; omega) (by have := HBM.out; have := HM.out; omega)) (keeps_below (by rw [HM.out]; exact HBz.out)) (by first | exact .inl ⟨rfl, HYV.out⟩ | exact .inr ⟨rfl, HYV.out⟩) HKV.out HFV.out HCV.out.c8 (by have := HM.out; omega)
      · have hh1 : decide ((np : Int) > 1) = false := decide_eq_false (by omega)
        have hh2 : decide (np > 1) = false := decide_eq_false hh
        have HLF : Hid (Sp.leafB n hops ⟨P, E, h⟩ = (Sp.movesV n k h).isEmpty) := Lib.hid (by
          unfold Sp.leafB
          rw [HLA.out, Int.toNat_natCast, HQI.out]
          have := HNP.out
          simp only [if_true]
          rw [decide_eq_false (show ¬ 1 < P.length by omega), Bool.or_false])
        refine wpIn_noPanic ?_
        refine wpIn_region_K 15 (fun w' => w'.cell? ⟨M, 0, none⟩ = some (.pointer (some ⟨N, 0, none⟩)) ∧ w'.cell? ⟨N, 1, none⟩ = some (.slice (some ⟨gq, oq, none⟩) npt d1) ∧ w'.cell? ⟨S, 0, none⟩ = some (.int .i64 (k : Int)) ∧ w'.cell? ⟨gq, oq + k * 4 + 2, none⟩ = some (.bool false) ∧ w'.cell? ⟨M + 1, 0, none⟩ = some (.slice A1 np c1)) (by kernel_rfl) (fun hcl => ?_)
        have hS : (fun w' : World => w'.cell? ⟨M, 0, none⟩ = some (.pointer (some ⟨N, 0, none⟩)) ∧ w'.cell? ⟨N, 1, none⟩ = some (.slice (some ⟨gq, oq, none⟩) npt d1) ∧ w'.cell? ⟨S, 0, none⟩ = some (.int .i64 (k : Int)) ∧ w'.cell? ⟨gq, oq + k * 4 + 2, none⟩ = some (.bool false) ∧ w'.cell? ⟨M + 1, 0, none⟩ = some (.slice A1 np c1)) W8.drew.drew := ⟨HC8.out.c4.cell 0, HN1.out, HBS.out.cell 0, HK2.out, HC8.out.c5.cell 0⟩
        refine wpAnyKIn_take (i := 0) (v := ?_) rfl hcl hS rfl (by kernel_rfl) (fun _ _ _ h => h) (by rfl) ?_ (fun _ => rfl) (fun hcl2 => ?_)
        rotate_left
        · (intro w hSw; (try dsimp only at hSw); first | (go_simp; done) | (go_simp; with_reducible rfl))
        (try simp only [List.getElem_toArray, List.getElem_cons_succ, List.getElem_cons_zero])
        (try simp only [Act.put, List.setIfInBounds_toArray, List.set_cons_zero, List.set_cons_succ])
        clear hcl; have hcl := hcl2; clear hcl2
        refine wpAnyKIn_take (i := 1) (v := ?_) rfl hcl hS rfl (by kernel_rfl) (fun _ _ _ h => h) (by rfl) ?_ (fun _ => rfl) (fun hcl2 => ?_)
        rotate_left
        · (intro w hSw; (try dsimp only at hSw); first | (go_simp; done) | (go_simp; with_reducible rfl))
        (try simp only [List.getElem_toArray, List.getElem_cons_succ, List.getElem_cons_zero])
        (try simp only [Act.put, List.setIfInBounds_toArray, List.set_cons_zero, List.set_cons_succ])
        clear hcl; have hcl := hcl2; clear hcl2
        refine wpAnyKIn_take (i := 2) (v := ?_) rfl hcl hS rfl (by kernel_rfl) (fun _ _ _ h => h) (by rfl) ?_ (fun _ => rfl) (fun hcl2 => ?_)
        rotate_left
        · (intro w hSw; (try dsimp only at hSw); first | (go_simp; done) | (go_simp; with_reducible rfl))
        (try simp only [List.getElem_toArray, List.getElem_cons_succ, List.getElem_cons_zero])
        (try simp only [Act.put, List.setIfInBounds_toArray, List.set_cons_zero, List.set_cons_succ])
        clear hcl; have hcl := hcl2; clear hcl2
        refine wpAnyKIn_take (i := 3) (v := ?_) rfl hcl hS rfl (by kernel_rfl) (fun _ _ _ h => h) (by rfl) ?_ (fun _ => rfl) (fun hcl2 => ?_)
        rotate_left
        · (intro w hSw; (try dsimp only at hSw); first | (go_simp; done) | (go_simp; with_reducible rfl))
        (try simp only [List.getElem_toArray, List.getElem_cons_succ, List.getElem_cons_zero])
        (try simp only [Act.put, List.setIfInBounds_toArray, List.set_cons_zero, List.set_cons_succ])
        clear hcl; have hcl := hcl2; clear hcl2
        refine wpAnyKIn_take (i := 4) (v := ?_) rfl hcl hS rfl (by kernel_rfl) (fun _ _ _ h => h) (by rfl) ?_ (fun _ => rfl) (fun hcl2 => ?_)
        rotate_left
        · (intro w hSw; (try dsimp only at hSw); first | (go_simp; done) | (go_simp; with_reducible rfl))
        (try simp only [List.getElem_toArray, List.getElem_cons_succ, List.getElem_cons_zero])
        (try simp only [Act.put, List.setIfInBounds_toArray, List.set_cons_zero, List.set_cons_succ])
        clear hcl; have hcl := hcl2; clear hcl2
        refine wpAnyKIn_take (i := 5) (v := ?_) rfl hcl hS rfl (by kernel_rfl) (fun _ _ _ h => h) (by rfl) ?_ (fun _ => rfl) (fun hcl2 => ?_)
        rotate_left
        · (intro w hSw; (try dsimp only at hSw); first | (go_simp; done) | (go_simp; with_reducible rfl))
        (try simp only [List.getElem_toArray, List.getElem_cons_succ, List.getElem_cons_zero])
        (try simp only [Act.put, List.setIfInBounds_toArray, List.set_cons_zero, List.set_cons_succ])
        clear hcl; have hcl := hcl2; clear hcl2
        refine wpAnyKIn_take (i := 6) (v := ?_) rfl hcl hS rfl (by kernel_rfl) (fun _ _ _ h => h) (by rfl) ?_ (fun _ => rfl) (fun hcl2 => ?_)
        rotate_left
        · (intro w hSw; (try dsimp only at hSw); first | (go_simp; done) | (go_simp; with_reducible rfl))
        (try simp only [List.getElem_toArray, List.getElem_cons_succ, List.getElem_cons_zero])
        (try simp only [Act.put, List.setIfInBounds_toArray, List.set_cons_zero, List.set_cons_succ])
        clear hcl; have hcl := hcl2; clear hcl2
        refine wpAnyKIn_take (i := 7) (v := ?_) rfl hcl hS rfl (by kernel_rfl) (fun _ _ _ h => h) (by rfl) ?_ (fun _ => rfl) (fun hcl2 => ?_)
        rotate_left
        · (intro w hSw; (try dsimp only at hSw); first | (go_simp; done) | (go_simp; with_reducible rfl))
        (try simp only [List.getElem_toArray, List.getElem_cons_succ, List.getElem_cons_zero])
        (try simp only [Act.put, List.setIfInBounds_toArray, List.set_cons_zero, List.set_cons_succ])
        clear hcl; have hcl := hcl2; clear hcl2
        refine wpAnyKIn_take (i := 8) (v := ?_) rfl hcl hS rfl (by kernel_rfl) (fun _ _ _ h => h) (by rfl) ?_ (fun _ => rfl) (fun hcl2 => ?_)
        rotate_left
        · (intro w hSw; (try dsimp only at hSw); first | (go_simp; done) | (go_simp; with_reducible rfl))
        (try simp only [List.getElem_toArray, List.getElem_cons_succ, List.getElem_cons_zero])
        (try simp only [Act.put, List.setIfInBounds_toArray, List.set_cons_zero, List.set_cons_succ])
        clear hcl; have hcl := hcl2; clear hcl2
        refine wpAnyKIn_take (i := 9) (v := ?_) rfl hcl hS rfl (by kernel_rfl) (fun _ _ _ h => h) (by rfl) ?_ (fun _ => rfl) (fun hcl2 => ?_)
        rotate_left
        · (intro w hSw; (try dsimp only at hSw); first | (go_simp; done) | (go_simp; with_reducible rfl))
        (try simp only [List.getElem_toArray, List.getElem_cons_succ, List.getElem_cons_zero])
        (try simp only [Act.put, List.setIfInBounds_toArray, List.set_cons_zero, List.set_cons_succ])
        clear hcl; have hcl := hcl2; clear hcl2
        refine wpAnyKIn_take (i := 10) (v := ?_) rfl hcl hS rfl (by kernel_rfl) (fun _ _ _ h => h) (by rfl) ?_ (fun _ => rfl) (fun hcl2 => ?_)
        rotate_left
        · (intro w hSw; (try dsimp only at hSw); first | (go_simp; done) | (go_simp; with_reducible rfl))
        (try simp only [List.getElem_toArray, List.getElem_cons_succ, List.getElem_cons_zero])
        (try simp only [Act.put, List.setIfInBounds_toArray, List.set_cons_zero, List.set_cons_succ])
        clear hcl; have hcl := hcl2; clear hcl2
        refine wpAnyKIn_take (i := 11) (v := ?_) rfl hcl hS rfl (by kernel_rfl) (fun _ _ _ h => h) (by rfl) ?_ (fun _ => rfl) (fun hcl2 => ?_)
        rotate_left
        · (intro w hSw; (try dsimp only at hSw); first | (go_simp; done) | (go_simp; with_reducible rfl))
        (try simp only [List.getElem_toArray, List.getElem_cons_succ, List.getElem_cons_zero])
        (try simp only [Act.put, List.setIfInBounds_toArray, List.set_cons_zero, List.set_cons_succ])
        clear hcl; have hcl := hcl2; clear hcl2
        refine wpAnyKIn_take (i := 12) (v := ?_) rfl hcl hS rfl (by kernel_rfl) (fun _ _ _ h => h) (by rfl) ?_ (fun _ => rfl) (fun hcl2 => ?_)
        rotate_left
        · (intro w hSw; (try dsimp only at hSw); first | (go_simp; done) | (go_simp; with_reducible rfl))
        (try simp only [List.getElem_toArray, List.getElem_cons_succ, List.getElem_cons_zero])
        (try simp only [Act.put, List.setIfInBounds_toArray, List.set_cons_zero, List.set_cons_succ])
        clear hcl; have hcl := hcl2; clear hcl2
        refine wpAnyKIn_take (i := 13) (v := ?_) rfl hcl hS rfl (by kernel_rfl) (fun _ _ _ h => h) (by rfl) ?_ (fun _ => rfl) (fun hcl2 => ?_)
        rotate_left
        · (intro w hSw; (try dsimp only at hSw); first | (go_simp; done) | (go_simp; with_reducible rfl))
        (try simp only [List.getElem_toArray, List.getElem_cons_succ, List.getElem_cons_zero])
        (try simp only [Act.put, List.setIfInBounds_toArray, List.set_cons_zero, List.set_cons_succ])
        clear hcl; have hcl := hcl2; clear hcl2
        refine wpAnyKIn_take (i := 14) (v := ?_) rfl hcl hS rfl (by kernel_rfl) (fun _ _ _ h => h) (by rfl) ?_ (fun _ => rfl) (fun hcl2 => ?_)
        rotate_left
        · (intro w hSw; (try dsimp only at hSw); first | (go_simp; done) | (go_simp; with_reducible rfl))
        (try simp only [List.getElem_toArray, List.getElem_cons_succ, List.getElem_cons_zero])
        (try simp only [Act.put, List.setIfInBounds_toArray, List.set_cons_zero, List.set_cons_succ])
        clear hcl; have hcl := hcl2; clear hcl2
        clear hS
        refine wpAnyKIn_one (i := 15) hcl (by kernel_rfl) rfl (by rfl) (fun K hK => ?_)
        simp only [List.getElem_toArray, List.getElem_cons_succ, List.getElem_cons_zero]
        refine ⟨(fun f hf => by cases hf), ?_⟩
        rw [show Fence.wide.round = none from rfl, Oper.semAt_none]
        go_simp
        refine hK.out _ _ (Or.inl (by kernel_rfl)) (fun hcl2 => ?_)
        clear hK K hcl hcl2
        refine wpAnyKIn_done (by kernel_rfl) ?_ _
        refine NoPanic.normal ?_
        (try simp only [Act.put, List.setIfInBounds_toArray, List.set_cons_zero, List.set_cons_succ])
        have hbz : Below W8.heap.size W8 W8.drew.drew := (Below.refl _ _).drew.drew
        have HCz := Lib.hid (HC8.out.below hbz)
        have HPz := Lib.hid (show InR W8.drew.drew B (.slice A1 np c1) P ∧ InR W8.drew.drew B (.slice A2 ne c2) E from ⟨in_below HPV8.out.1 hbz, in_below HPV8.out.2 hbz⟩)
        have HBz := Lib.hid (show Below M W W8.drew.drew from HBW8.out.trans (hbz.mono (by have := HMS.out; have := HS8.out; omega)))
        have HNz := Lib.hid (show NX X M S W8.drew.drew from HNX8.out.low HENV.out.low (hbz.mono (by have := HMS.out; have := HS8.out; have := HBM.out; omega)))
        have HXz := Lib.hid (show XIn X W8.drew.drew from xin_below HENV.out.low HXI8.out (hbz.mono (by have := HMS.out; have := HS8.out; have := HBM.out; omega)))
        have HRz := Lib.hid (show ∀ g, ((Value.slice A1 np c1).ownBlock = some g ∨ (Value.slice A2 ne c2).ownBlock = some g) → ¬ X W8.drew.drew g from fun g hg => not_below HENV.out.low (hbz.mono (by have := HMS.out; have := HS8.out; have := HBM.out; omega)) (HRX8.out g hg))
        have y1 : W8.drew.drew.cell? ⟨M, 0, none⟩ = some (.pointer (some ⟨N, 0, none⟩)) := HCz.out.c4.cell 0
        have y2 : W8.drew.drew.cell? ⟨S, 0, none⟩ = some (.int .i64 (k : Int)) := HBS.out.cell 0
        have y3 : W8.drew.drew.cell? ⟨S, 1, none⟩ = some (.string h) := HBS.out.cell 1
        have HSz := Lib.hid (show S + 2 ≤ W8.drew.drew.heap.size by have := HS8.out; have := hbz.size; omega)
        have HWz := Lib.hid (show Below w0.heap.size w0 W8.drew.drew from HW0.out.trans (hbz.mono HW0.out.size))
        clear hbz
        obtain ⟨Wz, hWz⟩ : ∃ Wz, W8.drew.drew = Wz := ⟨_, rfl⟩
        rw [hWz] at HCz HPz HBz HNz HXz HRz y1 y2 y3 HSz HWz ⊢
        clear hWz
        gi_wp2
        clear y1 y2 y3
        refine ⟨trivial, ?_⟩
        refine (step_moves _ N k h _).mono ?_
        rintro e w' ⟨rfl, rfl⟩
        obtain ⟨A, hA⟩ : ∃ A, Wz.heap.size = A := ⟨_, rfl⟩
        obtain ⟨V, hV⟩ : ∃ V, (Wz.alloc (.cells #[.pointer (some ⟨N, 0, none⟩)] 59)).alloc (.cells #[.int .i64 (k : Int), .string h] 28) = V := ⟨_, rfl⟩
        have bN : Blk V A 59 #[.pointer (some ⟨N, 0, none⟩)] := by rw [← hV, ← hA]; exact (Blk.new _ _ _).alloc _
        have bS : Blk V (A + 1) 28 #[.int .i64 (k : Int), .string h] := by rw [← hV]; exact blk_at (by rw [World.size_alloc]; omega)
        have hvb : Below Wz.heap.size Wz V := by rw [← hV]; exact ((Below.refl _ _).alloc (Nat.le_refl _) _).alloc (by simp) _
        have hvs : V.heap.size = A + 2 := by rw [← hV]; simp; omega
        have HXV := Lib.hid (show ∀ W' b, Below V.heap.size V W' → X W' b → b < A from fun W' b hb hx => by
          have h1 := HXz.out b (HENV.out.low _ _ _ ((hvb.mono (by have := HSz.out; have := HMS.out; have := HBM.out; omega)).trans (hb.mono (by have := HSz.out; have := HMS.out; have := HBM.out; omega))) hx)
          omega)
        have hkv : KpX w0.heap.size X Wb V := kpx_below HENV.out.low HAT.out.kp0 (by rw [HM.out]; exact HBz.out.trans (hvb.mono (by have := HSz.out; have := HMS.out; omega))) (by have := HBM.out; have := HM.out; omega) (by have := HBM.out; have := HM.out; omega)
        have hbV : Blk V N 26 cs.toArray := kpx_blk hkv HENV.out.box HENV.out.nN
        have hncV : NetC cs N V := ⟨hbV.lt, fun f u hf => (hbV.cell f).trans (by simpa using hf)⟩
        have hxnV : ¬ orT 4 X V N := fun hx => by
          rcases hx with hx | ⟨cs2, fr, hx⟩
          · exact hkv.not HENV.out.box rfl HENV.out.nN hx
          · rw [show V.heap[N]? = _ from hbV] at hx
            injection hx with hx
            injection hx with _ hx
            exact absurd hx (by decide)
        have hst := moves_stopsX 11 N A (A + 1) mX (orT 4 X) (XOk.orT 4 (XLow.ok HENV.out.low)) n k h (Sp.mvOk_of HENV.out.net (by have := HOK.out.st; rw [HLA.out] at this; exact this)) w0 V (by omega) cs HENV.out.mem hncV hxnV (HWz.out.trans (hvb.mono HWz.out.size)) (by have := HSz.out; have := HMS.out; have := HBM.out; omega)
          (fun W' b cs hb hbv hk hx => by
            rcases hx with hx | ⟨cs2, fr, hx⟩
            · have := HXV.out W' b hb hx; omega
            · rw [show W'.heap[b]? = _ from hk] at hx
              injection hx with hx
              injection hx with _ hx
              exact absurd hx (by decide))
          (fun hx => by
            rcases hx with hx | ⟨cs2, fr, hx⟩
            · have := HXV.out V A (Below.refl _ _) hx; omega
            · rw [show V.heap[A]? = _ from bN] at hx
              injection hx with hx
              injection hx with _ hx
              exact absurd hx (by decide))
          (bN.cell 0) (bS.cell 0) (bS.cell 1)
        have hmx : mX ≤ V.heap.size ∧ w0.heap.size ≤ V.heap.size ∧ B ≤ V.heap.size ∧ W.heap.size ≤ V.heap.size ∧ S + 1 < V.heap.size := by have := HSz.out; have := HMS.out; have := HBM.out; have := HM.out; omega
        have HMX := Lib.hid hmx
        have HWV := Lib.hid (show Below w0.heap.size w0 V from HWz.out.trans (hvb.mono HWz.out.size))
        have h0 : WkI n hops N B M S l f X w0 W J ⟨.slice A1 np c1, .slice A2 ne c2, ⟨P, E, h⟩⟩ pre [] V :=
          ⟨HCz.out.below hvb, pvAt_below HPz.out hvb, ⟨[], rfl, by rw [List.append_nil]; exact own_grow HENV.out.jT HJ.out (by rw [HM.out]; exact HBz.out.trans (hvb.mono (by have := HSz.out; have := HMS.out; omega)))⟩,
            KpX.of_below (XLow.ok HENV.out.low) (by rw [HM.out]; exact HBz.out.trans (hvb.mono (by have := HSz.out; have := HMS.out; omega))) (by have := HBM.out; have := HM.out; omega) (by have := HBM.out; have := HM.out; omega),
            xin_below HENV.out.low HXz.out (hvb.mono (by have := HSz.out; have := HMS.out; have := HBM.out; omega)),
            keeps_below (by rw [HM.out]; exact HBz.out.trans (hvb.mono (by have := HSz.out; have := HMS.out; omega))),
            HNz.out.low HENV.out.low (hvb.mono (by have := HSz.out; have := HMS.out; have := HBM.out; omega)),
            fun g hg => not_below HENV.out.low (hvb.mono (by have := HSz.out; have := HMS.out; have := HBM.out; omega)) (HRz.out g hg)⟩
        have H0 := Lib.hid h0
        have HST := Lib.hid hst
        clear bN bS hvb hvs hst h0 hmx hkv hbV hncV hxnV
        gi_wp2
        clear hV
        refine wpIn_rangeFunc_ownH rfl (by omega) (gf := 38) (lb := #[.pointer (some ⟨A, 0, none⟩), .pointer (some ⟨A + 1, 0, none⟩)]) rfl trivial (enters_of Tryz.func38 (by kernel_rfl) rfl)
          HST.out KpX.trans (KpX.book (XOk.orT 4 (XLow.ok HENV.out.low)) HMX.out.2.1 HMX.out.1) (Below.refl _ _) (fun _ => rfl)
          (fun ms A => WkI n hops N B M S l f X w0 W J ⟨.slice A1 np c1, .slice A2 ne c2, ⟨P, E, h⟩⟩ pre (ms.map (·.1)) A ∧ V.heap.size ≤ A.heap.size)
          (fun c (ms : List { x : Sp.Mv // x ∈ Sp.movesV n k h }) A => c = .ret ∧ WkX B (M + 1 + 1 + 1 + 1) X w0 W Jx pre ((ms.map (·.1)).flatMap fun m => Sp.walkV n hops f (Sp.onP ⟨P, E, h⟩ m)) A ∧ V.heap.size ≤ A.heap.size)
          (fun ms A C row hs hg hr => wkI_own HENV.out HMX.out.2.2.1 HMX.out.2.2.2.1 (ms.map (·.1)) A C row hs hg hr)
          (fun c ms A C row hs hg hr => ⟨hs.1, wkX_own (L := (ms.map (·.1)).flatMap fun m => Sp.walkV n hops f (Sp.onP ⟨P, E, h⟩ m)) HENV.out HMX.out.2.2.1 HMX.out.2.2.2.1 () A C row hs.2 hg hr⟩)
          ⟨H0.out, Nat.le_refl _⟩
          (fun x a' A => ∃ Bx, V.heap.size ≤ Bx ∧ Blk A Bx 66 #[.int .i64 x.1.entry, .int .i64 x.1.out, .int .i64 x.1.inn, .string x.1.header] ∧ FWk M S Bx a')
          (fun x a' _ X' Y row hs hg hr => by
            obtain ⟨Bx, h1, h2, h3⟩ := hs
            exact ⟨Bx, h1, h2.grown hg (fun e => by obtain ⟨_, o, ho, hc⟩ := hr Bx e.symm; rw [show X'.heap[Bx]? = _ from h2] at ho; cases ho; cases hc), h3⟩)
          ?assign ?body ?done ?stop
        case assign =>
          rintro l2 ms ⟨⟨xe, xo, xi, xh⟩, hx⟩ C K ⟨hI, hVC⟩ hK
          dsimp only [mvC]
          have HH := Lib.hid HMX.out
          have HI2 := Lib.hid (wkI_own HENV.out HMX.out.2.2.1 HMX.out.2.2.2.1 (ms.map (·.1)) C _ none ⟨hI, hVC⟩ (World.grownBy_alloc C (.cells #[.int .i64 xe, .int .i64 xo, .int .i64 xi, .string xh] 66) none) (fun r e => by cases e))
          have HVC := Lib.hid hVC
          clear hI hVC
          gi_wp2
          exact hK _ _ ((KeepsOthers.alloc _ _).from _) (KpX.of_below (XOk.orT 4 (XLow.ok HENV.out.low)) ((Below.refl _ C).alloc (Nat.le_refl _) _) (by have := HVC.out; have := HMX.out; omega) (by have := HVC.out; have := HMX.out; omega)) HI2.out ⟨C.heap.size, HVC.out, Blk.new _ _ _, FWk.of _ _ _ _ _ _ _ _ _ _ _ _ _ _ _ _ _ _ _ _ _ _ _ _ _ _ _ _ _ _ _ _ _ _ _ _ _ _ _ _ _ _ _ _ _ _ _ _ _ _ _ _ _ _ _ _ _ _ _ _ _ _ _ _ _ _ _ _⟩
        case body =>
          rintro l2 ms ⟨⟨xe, xo, xi, xh⟩, hx⟩ a' C hl2 _ ⟨hI, hVC⟩ ⟨Bx, hBx, hkx, ⟨u2, rfl⟩⟩ hlen
          have hkx' : Blk C Bx 66 #[.int .i64 xe, .int .i64 xo, .int .i64 xi, .string xh] := hkx
          have hkind := mv_kind HENV.out.net HQ.out hx
          obtain ⟨C1, hC1⟩ : ∃ C1, C.setCell ⟨S + 1, 0, none⟩ (.bool false) = C1 := ⟨_, rfl⟩
          have hz0 : C.cell? ⟨S + 1, 0, none⟩ = some (.bool (ms.map (·.1)).isEmpty) := hI.cells.c10.cell 0
          have hz1 : C.frozen? ⟨S + 1, 0, none⟩ = false := hI.cells.c10.frozen 0
          have hc1 : WkC N M S l hops (.slice A1 np c1) (.slice A2 ne c2) h false false C1 := by rw [← hC1]; exact hI.cells.flag HMS.out false
          have hb1 : Blk C1 Bx 66 #[.int .i64 xe, .int .i64 xo, .int .i64 xi, .string xh] := by rw [← hC1]; exact hkx'.far (by have := HMX.out; show Bx ≠ S + 1; omega) _
          have hp1 : InR C1 B (.slice A1 np c1) P ∧ InR C1 B (.slice A2 ne c2) E := by rw [← hC1]; exact own_set (pvAt_own B B) (s := ⟨.slice A1 np c1, .slice A2 ne c2, ⟨P, E, h⟩⟩) hI.pv hI.cells.c10 (by have := HBM.out; have := HMS.out; omega) _
          have hs1 : C1.heap.size = C.heap.size := by rw [← hC1]; simp
          have hk1 : KpX w0.heap.size X W C1 := by rw [← hC1]; exact kpx_setNew HENV.out.low hI.kp (by have := HM.out; have := HMS.out; omega) (by have := HBM.out; have := HMS.out; omega) (by have := HBM.out; have := HMS.out; omega) _
          have hkx1 : KpX w0.heap.size (orT 4 X) C C1 := by rw [← hC1]; exact kpx_flag HENV.out.low hI.cells.c10 (by have := HBM.out; have := HMS.out; omega) (by have := HBM.out; have := HMS.out; omega) _
          have hxi1 : XIn X C1 := by rw [← hC1]; exact xin_set HENV.out.low hI.xin (by have := HBM.out; have := HMS.out; omega) _
          have hkf1 : KeepsFrom B W C1 ∧ KeepsFrom V.heap.size C C1 := by rw [← hC1]; exact ⟨hI.keeps.trans ((KeepsOthers.setCell _ _ _).from _), (KeepsOthers.setCell _ _ _).from _⟩
          have hnx1 : NX X M S C1 := by rw [← hC1]; exact hI.nx.low HENV.out.low ((Below.refl mX C).setCell (p := ⟨S + 1, 0, none⟩) (by have := HBM.out; have := HMS.out; show mX ≤ S + 1; omega) _)
          have hrx1 : ∀ g, ((Value.slice A1 np c1).ownBlock = some g ∨ (Value.slice A2 ne c2).ownBlock = some g) → ¬ X C1 g := by rw [← hC1]; exact fun g hg => not_set HENV.out.low (by have := HBM.out; have := HMS.out; omega) _ (hI.rx g hg)
          obtain ⟨xs, hxs, hjx⟩ := hI.come
          have hj1 : J (pre ++ xs) C1 := by rw [← hC1]; exact own_set HENV.out.jT hjx hI.cells.c10 (by have := HBM.out; have := HMS.out; omega) _
          have hsz1 : V.heap.size ≤ C1.heap.size := by rw [hs1]; exact hVC
          have q2 : C1.cell? ⟨M + 1, 0, none⟩ = some (.slice A1 np c1) := hc1.c5.cell 0
          have q3 : C1.cell? ⟨M + 1, 1, none⟩ = some (.slice A2 ne c2) := hc1.c5.cell 1
          have q4 : C1.cell? ⟨M + 1, 2, none⟩ = some (.string h) := hc1.c5.cell 2
          have q5 : C1.cell? ⟨Bx, 0, none⟩ = some (.int .i64 xe) := hb1.cell 0
          have q6 : C1.cell? ⟨Bx, 1, none⟩ = some (.int .i64 xo) := hb1.cell 1
          have q7 : C1.cell? ⟨Bx, 2, none⟩ = some (.int .i64 xi) := hb1.cell 2
          have q8 : C1.cell? ⟨Bx, 3, none⟩ = some (.string xh) := hb1.cell 3
          have HC1 := Lib.hid hc1
          have HP1 := Lib.hid hp1
          have HK1 := Lib.hid hk1
          have HKX1 := Lib.hid hkx1
          have HXI1 := Lib.hid hxi1
          have HKF1 := Lib.hid hkf1
          have HNX1 := Lib.hid hnx1
          have HRX1 := Lib.hid hrx1
          have HJ1 := Lib.hid hj1
          have HXS := Lib.hid hxs
          have HSZ1 := Lib.hid hsz1
          have HMK := Lib.hid hkind
          have HX := Lib.hid hx
          clear hI hkx hkx' hkind hc1 hb1 hp1 hs1 hk1 hkx1 hxi1 hkf1 hnx1 hrx1 hxs hjx hj1 hsz1 hlen hl2 hBx hVC HST H0
          gi_wp2
          clear hC1 hz0 hz1 q2 q3 q4 q5 q6 q7 q8
          refine ⟨trivial, ?_⟩
          refine (CallsIn.inRound l2 (callsIn_wide.2 (step_on h ⟨xe, xo, xi, xh⟩ C1 HP1.out.1 HP1.out.2 (by have := HPL.out; omega) (by have := HEL.out; omega) HMK.out))).mono ?_
          rintro e C2 ⟨s1, s2, q1, q2, rfl, hs1, hs2, hq1, hq2, hb2⟩
          obtain ⟨a1, a2, a3, rfl⟩ := in_slice hs1
          obtain ⟨b1, b2, b3, rfl⟩ := in_slice hs2
          obtain ⟨d1, d2, d3, rfl⟩ := in_slice hq1
          obtain ⟨e1, e2, e3, rfl⟩ := in_slice hq2
          have HQ1 := Lib.hid hq1
          have HQ2 := Lib.hid hq2
          have HB2 := Lib.hid hb2
          obtain ⟨C3, hC3⟩ : ∃ C3, (C2.alloc (.cells #[.slice a1 a2 a3, .slice b1 b2 b3, .string xh] 40)).alloc (.cells #[.slice d1 d2 d3, .slice e1 e2 e3, .string xh] 40) = C3 := ⟨_, rfl⟩
          have hb3 : Below C2.heap.size C2 C3 := by rw [← hC3]; exact ((Below.refl _ _).alloc (Nat.le_refl _) _).alloc (by simp) _
          have hbq : Blk C3 (C2.heap.size + 1) 40 #[.slice d1 d2 d3, .slice e1 e2 e3, .string xh] := by rw [← hC3]; exact blk_at (by rw [World.size_alloc])
          have hb13 : Below C1.heap.size C1 C3 := hb2.trans (hb3.mono hb2.size)
          have hc3 := HC1.out.below hb13
          have hle1 : B ≤ C1.heap.size ∧ mX ≤ C1.heap.size ∧ w0.heap.size ≤ C1.heap.size := by have := HSZ1.out; have := HMX.out; omega
          have r0 : C3.cell? ⟨M, 0, none⟩ = some (.pointer (some ⟨N, 0, none⟩)) := hc3.c4.cell 0
          have r1 : C3.cell? ⟨M + 1 + 1, 0, none⟩ = some (.int .i64 hops) := hc3.c6.cell 0
          have r2 : C3.cell? ⟨M + 1 + 1 + 1, 0, none⟩ = some (.func (.yield l) #[] #[]) := hc3.c7.cell 0
          have r3 : C3.cell? ⟨C2.heap.size + 1, 0, none⟩ = some (.slice d1 d2 d3) := hbq.cell 0
          have r4 : C3.cell? ⟨C2.heap.size + 1, 1, none⟩ = some (.slice e1 e2 e3) := hbq.cell 1
          have r5 : C3.cell? ⟨C2.heap.size + 1, 2, none⟩ = some (.string xh) := hbq.cell 2
          have HC3 := Lib.hid hc3
          have HB13 := Lib.hid hb13
          have HLE1 := Lib.hid hle1
          have HB3 := Lib.hid hb3
          have hqat : WkAt B X w0 Wb ⟨.slice d1 d2 d3, .slice e1 e2 e3, Sp.onP ⟨P, E, h⟩ ⟨xe, xo, xi, xh⟩⟩ C3 := by
            refine ⟨⟨in_mono (in_below hq1 hb3) hle1.1, in_mono (in_below hq2 hb3) hle1.1⟩, fun g hg hx3 => ?_, kpx_below HENV.out.low (HAT.out.kp0.trans HK1.out) hb13 hle1.2.2 hle1.2.1, xin_below HENV.out.low HXI1.out (hb13.mono hle1.2.1), Nat.le_trans hle1.1 hb13.size⟩
            have h1 := HXI1.out g (HENV.out.low _ _ _ (hb13.mono hle1.2.1) hx3)
            rcases hg with hg | hg
            · have := (World.ownsRow.lt hq1 g hg).1; omega
            · have := (World.ownsRow.lt hq2 g hg).1; omega
          have HQAT := Lib.hid hqat
          have hjq : J (pre ++ xs) C3 := own_grow HENV.out.jT HJ1.out hb13
          have HJQ := Lib.hid hjq
          have hnext := Sp.POk.next HENV.out.net HOK.out (m := ⟨xe, xo, xi, xh⟩) (by rw [HLF.out]; cases hmm : Sp.movesV n k h with | nil => rw [hmm] at hx; cases hx | cons _ _ => rfl) (by rw [HLA.out, Int.toNat_natCast]; exact hx)
          have hih := HIH.out ⟨.slice d1 d2 d3, .slice e1 e2 e3, Sp.onP ⟨P, E, h⟩ ⟨xe, xo, xi, xh⟩⟩ (pre ++ xs) C3 (by have := hnext.2; have := HNE.out; simp only [] at this ⊢; omega) hnext.1 hqat hjq 9
          have HIHC := Lib.hid hih
          clear hs1 hs2 hq1 hq2 hb2 hb3 hb13 hc3 hbq hqat hjq hnext hih hle1
          gi_wp2
          clear r0 r1 r2 r3 r4 r5 hC3
          refine ⟨trivial, ?_⟩
          refine (CallsIn.inRound l2 HIHC.out).mono ?_
          rintro e C4 ⟨hR4, hK4, hF4⟩
          have hnx3 : NX X M S C3 := HNX1.out.low HENV.out.low (HB13.out.mono HLE1.out.2.1)
          have hp3 : InR C3 B (.slice A1 np c1) P ∧ InR C3 B (.slice A2 ne c2) E := ⟨in_below HP1.out.1 HB13.out, in_below HP1.out.2 HB13.out⟩
          have hrx3 : ∀ g, ((Value.slice A1 np c1).ownBlock = some g ∨ (Value.slice A2 ne c2).ownBlock = some g) → ¬ X C3 g := fun g hg => not_below HENV.out.low (HB13.out.mono HLE1.out.2.1) (HRX1.out g hg)
          have hc4 := HC3.out.keep hK4.1 hnx3
          have HC4 := Lib.hid hc4
          have HNX4 := Lib.hid (HC3.out.nx hK4.1 hnx3)
          have HP4 := Lib.hid (show InR C4 B (.slice A1 np c1) P ∧ InR C4 B (.slice A2 ne c2) E from ⟨kpx_row hK4.1 hp3.1 (fun g hg => hrx3 g (.inl hg)), kpx_row hK4.1 hp3.2 (fun g hg => hrx3 g (.inr hg))⟩)
          have HRX4 := Lib.hid (show ∀ g, ((Value.slice A1 np c1).ownBlock = some g ∨ (Value.slice A2 ne c2).ownBlock = some g) → ¬ X C4 g from fun g hg => hg.elim (fun hg => row_not hK4.1 hp3.1 hg (hrx3 g (.inl hg))) (fun hg => row_not hK4.1 hp3.2 hg (hrx3 g (.inr hg))))
          have HKW := Lib.hid ((kpx_below HENV.out.low HK1.out HB13.out HLE1.out.2.2 HLE1.out.2.1).trans hK4.1)
          have HFW := Lib.hid ((HKF1.out.1.trans (keeps_below HB13.out)).trans hF4)
          have HFV := Lib.hid ((HKF1.out.2.trans (keeps_below HB13.out)).trans (keeps_later hF4 HMX.out.2.2.1))
          have HKX4 := Lib.hid ((HKX1.out.trans (KpX.of_below (XOk.orT 4 (XLow.ok HENV.out.low)) HB13.out HLE1.out.2.2 HLE1.out.2.1)).trans (kpx_or 4 hK4.1))
          have HXI4 := Lib.hid hK4.2
          have HSZ4 := Lib.hid (show V.heap.size ≤ C4.heap.size from Nat.le_trans (Nat.le_trans HSZ1.out HB13.out.size) hK4.1.below.size)
          have z0 : C4.cell? ⟨M + 1 + 1 + 1 + 1, 0, none⟩ = some (.bool false) := hc4.c8.cell 0
          have z1 : C4.frozen? ⟨M + 1 + 1 + 1 + 1, 0, none⟩ = false := hc4.c8.frozen 0
          clear hnx3 hp3 hrx3 hK4 hF4 hc4
          rcases hR4 with ⟨rfl, ys, hys, hJ4⟩ | ⟨rfl, ys, hys, hJ4⟩
          · have HYS := Lib.hid hys
            have HJ4 := Lib.hid hJ4
            clear hys hJ4
            gi_wp2
            refine ⟨HFV.out, HKX4.out, ⟨?_, HP4.out, ⟨xs ++ ys, ?_, by rw [← List.append_assoc]; exact HJ4.out⟩, HKW.out, HXI4.out, HFW.out, HNX4.out, HRX4.out⟩, HSZ4.out⟩
            · rw [show ((ms ++ [(⟨⟨xe, xo, xi, xh⟩, hx⟩ : { x : Sp.Mv // x ∈ Sp.movesV n k h })]).map (·.1)).isEmpty = false by simp]
              exact HC4.out
            · rw [List.map_append, HXS.out, HYS.out, List.map_append, List.flatMap_append]
              simp
          · have HYS := Lib.hid hys
            have HJ4 := Lib.hid hJ4
            clear hys hJ4
            gi_wp2
            refine ⟨HFV.out.trans ((KeepsOthers.setCell _ _ _).from _), rfl, ⟨⟨xs ++ ys, ?_, by rw [← List.append_assoc]; exact own_set HENV.out.jxT HJ4.out HC4.out.c8 (by have := HBM.out; omega) _⟩, HC4.out.c8.set_ 0 _, kpx_setNew HENV.out.low HKW.out (by have := HM.out; omega) (by have := HBM.out; omega) (by have := HBM.out; omega) _, xin_set HENV.out.low HXI4.out (by have := HBM.out; omega) _, HFW.out.trans ((KeepsOthers.setCell _ _ _).from _)⟩, by simpa using HSZ4.out⟩
            rw [List.map_append, HXS.out, List.map_append, List.flatMap_append]
            refine (List.prefix_append_right_inj _).2 ?_
            simpa using HYS.out
        case done =>
          rintro D ys C hD hS ⟨hI, hVC⟩ hK
          replace hS : ys.map (·.1) = Sp.movesV n k h := hS
          rw [hS] at hI
          have HK := Lib.hid hK
          have HD := Lib.hid hD
          have HVC := Lib.hid hVC
          clear HST H0
          have hDV : W.heap.size ≤ D := Nat.le_trans HMX.out.2.2.2.1 hD
          have HDV := Lib.hid hDV
          cases hmm : Sp.movesV n k h with
          | nil =>
            rw [hmm] at hI
            have HI := Lib.hid hI
            obtain ⟨xs, hxs, hjx⟩ := hI.come
            have hx0 : xs = [] := List.map_eq_nil_iff.1 hxs
            subst hx0
            rw [List.append_nil] at hjx
            have HLT : Hid (Sp.leafB n hops ⟨P, E, h⟩ = true) := Lib.hid (by rw [HLF.out, hmm]; rfl)
            have HCz2 : Hid (WkC N M S l hops (.slice A1 np c1) (.slice A2 ne c2) h false true C) := Lib.hid hI.cells
            have HPz2 : Hid (InR C B (.slice A1 np c1) P ∧ InR C B (.slice A2 ne c2) E) := Lib.hid hI.pv
            have HXz2 := Lib.hid hI.xin
            clear hI hD hVC hK hxs hDV hS
            obtain ⟨fn, tmps, assign, body, hy, hR⟩ := HENV.out.yield 11 pre ⟨.slice A1 np c1, .slice A2 ne c2, ⟨P, E, h⟩⟩ C hjx HPz2.out HXz2.out
            dsimp only [pvC] at hy
            have y0 : (C).cell? ⟨S + 1, 0, none⟩ = some (.bool true) := HCz2.out.c10.cell 0
            have y1 : (C).cell? ⟨M + 1 + 1 + 1, 0, none⟩ = some (.func (.yield l) #[] #[]) := HCz2.out.c7.cell 0
            have y2 : (C).cell? ⟨M + 1, 0, none⟩ = some (.slice A1 np c1) := HCz2.out.c5.cell 0
            have y3 : (C).cell? ⟨M + 1, 1, none⟩ = some (.slice A2 ne c2) := HCz2.out.c5.cell 1
            have y4 : (C).cell? ⟨M + 1, 2, none⟩ = some (.string h) := HCz2.out.c5.cell 2
            have HR := Lib.hid hR
            clear hjx hmm
            gi_wp2
            refine HR.out.mono ?_
            rintro e V ⟨hyV, hKV, hFV⟩
            have HCV := Lib.hid (HCz2.out.keep hKV.1 HI.out.nx)
            have z0 : V.cell? ⟨M + 1 + 1 + 1 + 1, 0, none⟩ = some (.bool false) := HCV.out.c8.cell 0
            have z1 : V.frozen? ⟨M + 1 + 1 + 1 + 1, 0, none⟩ = false := HCV.out.c8.frozen 0
            have HKV := Lib.hid hKV
            have HFV := Lib.hid hFV
            clear hy y0 y1 y2 y3 y4 hKV hFV HR hR
            rcases hyV with ⟨rfl, hyV⟩ | ⟨rfl, hyV⟩
            all_goals
              have HYV := Lib.hid hyV
              clear hyV
              gi_wp2
              have hd2 : ∀ v : Value, (V.setCell ⟨M + 1 + 1 + 1 + 1, 0, none⟩ v).heap[D]? = some (.deferred (some [])) := fun v => (KeepsOthers.setCell V _ v).same D _ (HFV.out.same D _ (by have := HMX.out; have := HD.out; omega) HK.out rfl) rfl
              refine ⟨by simp, .inl ⟨_, _, rfl, run_takeDeferred (hd2 _), ?_⟩⟩
              refine ⟨_, results_cell1 rfl _ _ (M + 1 + 1 + 1 + 1) _ rfl ((World.cell?_of_block (World.putObj_heap_other (by have := HMX.out; have := HMS.out; have := HD.out; show M + 1 + 1 + 1 + 1 ≠ D; omega))).trans ((HCV.out.c8.set_ 0 _).cell 0)) (by rfl), ?_⟩
              refine walkEnd_put HENV.out (by have := HBM.out; have := HM.out; omega) ?_ _ HDV.out (hd2 _) rfl rfl
              exact leaf_end HENV.out (by have := HBM.out; have := HM.out; omega) HLT.out HI.out.kp HI.out.keeps (by first | exact .inl ⟨rfl, HYV.out⟩ | exact .inr ⟨rfl, HYV.out⟩) HKV.out HFV.out HCV.out.c8 (by have := HM.out; omega)
          | cons m0 mr =>
            have hne : (m0 :: mr).isEmpty = false := rfl
            rw [hmm] at hI
            have HI := Lib.hid hI
            have y0 : C.cell? ⟨S + 1, 0, none⟩ = some (.bool false) := hI.cells.c10.cell 0
            have z0 : C.cell? ⟨M + 1 + 1 + 1 + 1, 0, none⟩ = some (.bool false) := hI.cells.c8.cell 0
            have z1 : C.frozen? ⟨M + 1 + 1 + 1 + 1, 0, none⟩ = false := hI.cells.c8.frozen 0
            have HMM := Lib.hid hmm
            clear hI hD hVC hK hDV hS hmm hne
            gi_wp2
            refine ⟨fun _ h => (by cases h), ?_⟩
            gi_wp2
            obtain ⟨xs, hxs, hjx⟩ := HI.out.come
            have hd2 : (C.setCell ⟨M + 1 + 1 + 1 + 1, 0, none⟩ (.bool true)).heap[D]? = some (.deferred (some [])) := (KeepsOthers.setCell C _ _).same D _ HK.out rfl
            refine ⟨by simp, .inl ⟨_, _, rfl, run_takeDeferred hd2, ?_⟩⟩
            refine ⟨_, results_cell1 rfl _ _ (M + 1 + 1 + 1 + 1) _ rfl ((World.cell?_of_block (World.putObj_heap_other (by have := HMX.out; have := HMS.out; have := HD.out; show M + 1 + 1 + 1 + 1 ≠ D; omega))).trans ((HI.out.cells.c8.set_ 0 _).cell 0)) (by rfl), ?_⟩
            refine walkEnd_put HENV.out (by have := HBM.out; have := HM.out; omega) ?_ _ HDV.out hd2 rfl rfl
            refine ⟨.inl ⟨rfl, xs, ?_, own_set HENV.out.jT hjx HI.out.cells.c8 (by have := HBM.out; omega) _⟩, ⟨kpx_setNew HENV.out.low HI.out.kp (by have := HM.out; omega) (by have := HBM.out; omega) (by have := HBM.out; omega) _, xin_set HENV.out.low HI.out.xin (by have := HBM.out; omega) _⟩, HI.out.keeps.trans ((KeepsOthers.setCell _ _ _).from _)⟩
            rw [hxs, Sp.walkV_on (by rw [HLF.out, HMM.out]; rfl), HLA.out, Int.toNat_natCast, HMM.out]
        case stop =>
          rintro D c ms C hD hpre ⟨rfl, hX, hVC⟩ hK
          replace hpre : ms.map (·.1) <+: Sp.movesV n k h := hpre
          have HX := Lib.hid hX
          have HK := Lib.hid hK
          have HD := Lib.hid hD
          have HPRE := Lib.hid hpre
          have z0 : C.cell? ⟨M + 1 + 1 + 1 + 1, 0, none⟩ = some (.bool false) := hX.c8.cell 0
          clear HST H0 hX hK hD hpre hVC
          gi_wp2
          refine ⟨by simp, .inl ⟨_, _, rfl, run_takeDeferred HK.out, ?_⟩⟩
          refine ⟨_, results_cell1 rfl _ _ (M + 1 + 1 + 1 + 1) _ rfl ((World.cell?_of_block (World.putObj_heap_other (by have := HMX.out; have := HMS.out; have := HD.out; show M + 1 + 1 + 1 + 1 ≠ D; omega))).trans (HX.out.c8.cell 0)) (by rfl), ?_⟩
          refine walkEnd_put HENV.out (by have := HBM.out; have := HM.out; omega) ?_ _ (Nat.le_trans HMX.out.2.2.2.1 HD.out) HK.out rfl rfl
          obtain ⟨xs, hxs, hjx⟩ := HX.out.come
          refine ⟨.inr ⟨rfl, xs, hxs.trans ?_, hjx⟩, ⟨HX.out.kp, HX.out.xin⟩, HX.out.keeps⟩
          have hpr := HPRE.out
          have hlf := HLF.out
          obtain ⟨L, hL⟩ : ∃ L : List Sp.Mv, ms.map (·.1) = L := ⟨_, rfl⟩
          rw [hL] at hpr ⊢
          clear hxs hL HX HPRE
          cases hbl : Sp.leafB n hops ⟨P, E, h⟩ with
          | false =>
            rw [Sp.walkV_on hbl, HLA.out, Int.toNat_natCast]
            obtain ⟨t, ht⟩ := hpr
            show _ <+: (Sp.movesV n k h).flatMap _
            rw [← ht, List.flatMap_append]
            exact List.prefix_append _ _
          | true =>
            rw [hbl] at hlf
            have hnil : Sp.movesV n k h = [] := List.isEmpty_iff.1 hlf.symm
            rw [hnil] at hpr
            rw [List.prefix_nil.1 hpr]
            exact List.nil_prefix
end Go.Proofs.YtpknablklencdaaGreatDoor
