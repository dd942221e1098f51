/-
  THE WALKS of reachlaw3.like and of the law ScanSettles (chapter 3).
-/
import Derived.Test.YtjedoipbllcfdaaGreatDoorSd
set_option linter.unusedVariables false
set_option linter.unusedSimpArgs false
set_option maxRecDepth 100000
set_option maxHeartbeats 8000000
namespace Go.Proofs.YtjedoipbllcfdaaGreatDoor
open Go.RowKit

theorem ba_ext2 {a b : ByteArray} (h : a.data.toList = b.data.toList) : a = b := by
  cases a
  cases b
  congr 1
  exact Array.toList_inj.1 h

theorem law3_like (A1 A2 : Option Addr) (cap1 cap2 n : Nat) (zs1 zs2 : List ZTok) (w : World) (hn1 : zs1.length = n) (hnb : n ≤ 4611686018427387904) (heq : zs1.map ptZ = zs2.map ptZ) (hv1 : ViewZ w w.heap.size A1 zs1) (hv2 : ViewZ w w.heap.size A2 zs2) :
    Calls Tryz.prog 14 #[.slice A1 n cap1, .slice A2 n cap2] w fun e w' => e = .returned (.bool true) ∧ Below w.heap.size w w' := by
  have hn2 : zs2.length = n := by
    have := congrArg List.length heq
    rw [List.length_map, List.length_map] at this
    omega
  have HN1 := Lib.hid hn1
  have HN2 := Lib.hid hn2
  have HEQ := Lib.hid heq
  have HV1 := Lib.hid hv1
  have HV2 := Lib.hid hv2
  have q0 : ((n : Int) != (n : Int)) = false := by rw [bne_eq_false_iff_eq]
  clear hn1 hn2 heq hv1 hv2
  go_enter Tryz.func14, Tryz.ntmps14
  go_wp2
  go_loopw [5] (fun v5 wr => Below w.heap.size w wr ∧ ∃ i : Nat, v5 = .int .i64 (i : Int) ∧ i ≤ n) (fun v5 _ => n - (intOf v5).toNat)
  case atStart => exact ⟨Below.refl _ _, 0, rfl, by omega⟩
  case round =>
    obtain ⟨hbr, i, rfl, hi⟩ := hrel
    have HBR := Lib.hid hbr
    by_cases hlt : i < n
    · have p1 : decide ((i : Int) < n) = true := decide_eq_true (by omega)
      have p2 : (i : Int) < n := by omega
      have p5 : (0 : Int) ≤ (i : Int) := by omega
      obtain ⟨z1, hz1⟩ : ∃ z, zs1[i]? = some z := ⟨_, List.getElem?_eq_getElem (by rw [HN1.out]; exact hlt)⟩
      obtain ⟨z2, hz2⟩ : ∃ z, zs2[i]? = some z := ⟨_, List.getElem?_eq_getElem (by rw [HN2.out]; exact hlt)⟩
      have he : ptZ z1 = ptZ z2 := by
        have h1 : (zs1.map ptZ)[i]? = some (ptZ z1) := by rw [List.getElem?_map, hz1]; rfl
        have h2 : (zs2.map ptZ)[i]? = some (ptZ z2) := by rw [List.getElem?_map, hz2]; rfl
        rw [HEQ.out, h2] at h1
        injection h1 with h1
        exact h1.symm
      obtain ⟨g1, o1, rfl, hg1, x1⟩ := HV1.out i z1 hz1
      obtain ⟨g2, o2, rfl, hg2, x2⟩ := HV2.out i z2 hz2
      obtain ⟨a0, a1, a2, a3⟩ := x1.below hbr hg1
      obtain ⟨b0, b1, b2, b3⟩ := x2.below hbr hg2
      obtain ⟨k, t, l, c⟩ := z1
      obtain ⟨k2, t2, l2, c2⟩ := z2
      unfold ptZ at he
      injection he with e1 e2
      simp only [] at e1 e2 a0 a1 a2 a3 b0 b1 b2 b3
      have e3 := ba_ext2 e2
      subst e1
      subst e3
      have q1 : ((k : Int) != k) = false := by rw [bne_eq_false_iff_eq]
      have q2 : (t.toList != t.toList) = false := by rw [bne_eq_false_iff_eq]
      clear x1 x2 hz1 hz2 e2 hbr a2 a3 b2 b3
      go_wp2_with fail
      go_quiet (fail)
      go_wp2_with fail
      go_roundw
      case rel => exact ⟨below_drewN' HBR.out _, i + 1, by rfl, by omega⟩
      case measure => simp [intOf]; omega
    · have p1 : decide ((i : Int) < n) = false := decide_eq_false (by omega)
      clear hbr
      go_wp2
      go_ret
      exact ⟨rfl, HBR.out⟩

/-- Print, of tokens that are read. -/
theorem print_says (ts : List Sp.Tok) (h : ∀ t ∈ ts, t.2.1.length ≤ 4000) (hl : ts.length ≤ 1073741824) {tx : List UInt8} {c : Nat} (hp : Sp.printV (ts.map Sp.ptOf) = (tx, c)) (W : World) (A : Option Addr) (cap : Nat) (hG : Gs W) (hv : View W W.heap.size A ts) :
    Calls Tryz.prog 9 #[.slice A ts.length cap] W fun e w' => e = .returned (.tuple #[.string ⟨tx.toArray⟩, .int .i64 c]) ∧ Below W.heap.size W w' := by
  have hm : (ts.map zOf).map ptZ = ts.map Sp.ptOf := by rw [List.map_map]; rfl
  have := scan_print A cap ts.length (ts.map zOf) W hG (List.length_map _) (by omega) hv.toZ (by
    intro z hz
    obtain ⟨t, ht, rfl⟩ := List.mem_map.1 hz
    have := h t ht
    show ByteArray.size ⟨t.2.1.toArray⟩ ≤ _
    rw [Lib.size_eq]
    simp only []
    omega)
  unfold PrintEnd at this
  rw [hm, hp] at this
  exact this

theorem short_of_valid {ts : List Sp.Tok} (h : Sp.validV Sp.p0 (ts.map Sp.ptOf) = true) : ∀ t ∈ ts, t.2.1.length ≤ 4000 := by
  intro t ht
  have := Sp.validV_append (ts.map Sp.ptOf) [] Sp.p0 (by rw [List.append_nil]; exact h) (Sp.ptOf t) (List.mem_map_of_mem ht)
  exact Sp.okT_short this

def TA : List Sp.Tok := [(2, [97], 1, 1), (7, [61], 1, 2), (4, [49], 1, 3), (1, [10], 1, 4)]
theorem ta_scan : Sp.scanV [97, 61, 49] = (TA, 0, 0, 0) := by decide +kernel
theorem ta_print : Sp.printV (TA.map Sp.ptOf) = ([97, 32, 61, 32, 49, 10], 0) := by decide +kernel

theorem law_settles (s : ByteArray) (w : World) (hG : Gs w) (hs : s.size ≤ 140737488351232) :
    Calls Tryz.prog 6 #[.string s] w fun e w' => e = .returned (.bool true) ∧ Below w.heap.size w w' := by
  have hsl := Lib.size_eq s
  have hS0 : ScanSays ⟨#[97, 61, 49]⟩ TA 0 0 0 := scan_says _ (by decide) ta_scan
  have hS0' : ∀ W, Gs W → Calls Tryz.prog 13 #[.string ⟨#[97, 61, 49]⟩] W fun e w' => ∃ A cap, e = .returned (.tuple #[.slice A 4 cap, .int .i64 0, .int .i64 0, .int .i64 0]) ∧ View w' w'.heap.size A TA ∧ Below W.heap.size W w' := hS0
  have hP0 : ∀ (W : World) (A : Option Addr) (cap : Nat), Gs W → View W W.heap.size A TA → Calls Tryz.prog 9 #[.slice A 4 cap] W fun e w' => e = .returned (.tuple #[.string ⟨#[97, 32, 61, 32, 49, 10]⟩, .int .i64 0]) ∧ Below W.heap.size W w' := fun W A cap hg hv =>
    print_says TA (by decide) (by decide) ta_print W A cap hg hv
  have HS0 := Lib.hid hS0'
  have HP0 := Lib.hid hP0
  have HG := Lib.hid hG
  have q0 : ((⟨#[97, 32, 61, 32, 49, 10]⟩ : ByteArray).toList != [97, 32, 61, 32, 49, 10]) = false := by kernel_rfl
  have tok1 : True := trivial
  clear hS0 hS0' hP0 hG
  obtain ⟨ts, c, n, m, hsc⟩ : ∃ ts c n m, Sp.scanV s.data.toList = (ts, c, n, m) := ⟨_, _, _, _, rfl⟩
  have hcode := Sp.scanV_code s.data.toList
  rw [hsc] at hcode
  simp only at hcode
  by_cases hc : c = 0
  · subst hc
    have h2 := hcode.1 rfl
    injection h2 with h3 h4
    subst h3 h4
    obtain ⟨hva, htl, hle, hnl⟩ := Sp.scan_valid hsc
    obtain ⟨nt, hnt⟩ : ∃ nt, ts.length = nt := ⟨_, rfl⟩
    have hS := scan_says s (by omega) hsc
    have hS' : ∀ W, Gs W → Calls Tryz.prog 13 #[.string s] W fun e w' => ∃ A cap, e = .returned (.tuple #[.slice A nt cap, .int .i64 0, .int .i64 0, .int .i64 0]) ∧ View w' w'.heap.size A ts ∧ Below W.heap.size W w' := by
      intro W hW
      have := hS W hW
      rw [hnt] at this
      exact this
    have HS := Lib.hid hS'
    have hsh := short_of_valid hva
    by_cases hbig : 16384 < nt ∨ 16384 < (Sp.textV Sp.p0 (ts.map Sp.ptOf)).length
    · have hpr : Sp.printV (ts.map Sp.ptOf) = ([], 2) := by
        unfold Sp.printV
        rw [List.length_map, hnt]
        by_cases h1 : 16384 < nt
        · rw [if_pos h1]
        · rw [if_neg h1, hva, if_neg (by simp), if_pos (by rcases hbig with h | h; exact absurd h h1; exact h)]
      have hP : ∀ (W : World) (A : Option Addr) (cap : Nat), Gs W → View W W.heap.size A ts → Calls Tryz.prog 9 #[.slice A nt cap] W fun e w' => e = .returned (.tuple #[.string ⟨#[]⟩, .int .i64 2]) ∧ Below W.heap.size W w' := by
        intro W A cap hg hv
        have := print_says ts hsh (by omega) hpr W A cap hg hv
        rw [hnt] at this
        exact this
      have q5 : decide ((s.size : Int) > 5461) = true := decide_eq_true (by omega)
      have HP := Lib.hid hP
      clear hS hS' hsc hcode hva htl hle hnl hnt hsh hbig hpr hP hsl
      go_enter Tryz.func6, Tryz.ntmps6
      go_wp2_with (first
        | (have _t := tok1; go_at_call 13; refine (HS0.out _ HG.out).mono ?_; clear tok1 _t; rintro e w1 ⟨A1, cap1, rfl, hv1, hb1⟩; have hg1 := HG.out.below hb1; have tok2 : True := trivial)
        | (have _t := tok2; go_at_call 9; refine (HP0.out _ _ _ hg1 hv1).mono ?_; clear tok2 _t; rintro e w2 ⟨rfl, hb2⟩; have hg2 := hg1.below hb2; have tok3 : True := trivial)
        | (have _t := tok3; go_at_call 13; refine (HS.out _ hg2).mono ?_; clear tok3 _t; rintro e w3 ⟨A3, cap3, rfl, hv3, hb3⟩; have hg3 := hg2.below hb3; have tok4 : True := trivial)
        | (have _t := tok4; go_at_call 9; refine (HP.out _ _ _ hg3 hv3).mono ?_; clear tok4 _t; rintro e w4 ⟨rfl, hb4⟩))
      go_ret
      exact ⟨rfl, (((hb1.trans (hb2.mono hb1.size)).trans (hb3.mono (by have := hb1.size; have := hb2.size; omega))).trans (hb4.mono (by have := hb1.size; have := hb2.size; have := hb3.size; omega)))⟩
    · have hnt2 : nt ≤ 16384 := by omega
      obtain ⟨tx, htx⟩ : ∃ tx, Sp.textV Sp.p0 (ts.map Sp.ptOf) = tx := ⟨_, rfl⟩
      rw [htx] at hbig
      have hpr : Sp.printV (ts.map Sp.ptOf) = (tx, 0) := by
        unfold Sp.printV
        rw [List.length_map, hnt, if_neg (by omega), hva, if_neg (by simp), htx, if_neg (by omega)]
      obtain ⟨ts', hsc', hmap⟩ := Sp.scan_text hva (by rw [htx]; omega)
      rw [htx] at hsc'
      obtain ⟨TX, hTX⟩ : ∃ TX : ByteArray, (⟨tx.toArray⟩ : ByteArray) = TX := ⟨_, rfl⟩
      have hTXl : TX.data.toList = tx := by rw [← hTX]
      have hTXs : TX.size ≤ 16384 := by rw [Lib.size_eq, hTXl]; omega
      have hnt' : ts'.length = nt := by
        have := congrArg List.length hmap
        rw [List.length_map, List.length_map] at this
        omega
      have hP : ∀ (W : World) (A : Option Addr) (cap : Nat), Gs W → View W W.heap.size A ts → Calls Tryz.prog 9 #[.slice A nt cap] W fun e w' => e = .returned (.tuple #[.string TX, .int .i64 0]) ∧ Below W.heap.size W w' := by
        intro W A cap hg hv
        have := print_says ts hsh (by omega) hpr W A cap hg hv
        rw [hnt, hTX] at this
        exact this
      have hP2 : ∀ (W : World) (A : Option Addr) (cap : Nat), Gs W → View W W.heap.size A ts' → Calls Tryz.prog 9 #[.slice A nt cap] W fun e w' => e = .returned (.tuple #[.string TX, .int .i64 0]) ∧ Below W.heap.size W w' := by
        intro W A cap hg hv
        have := print_says (tx := tx) (c := 0) ts' (short_of_valid (by rw [hmap]; exact hva)) (by omega) (by rw [hmap]; exact hpr) W A cap hg hv
        rw [hnt', hTX] at this
        exact this
      have hS2 : ∀ W, Gs W → Calls Tryz.prog 13 #[.string TX] W fun e w' => ∃ A cap, e = .returned (.tuple #[.slice A nt cap, .int .i64 0, .int .i64 0, .int .i64 0]) ∧ View w' w'.heap.size A ts' ∧ Below W.heap.size W w' := by
        intro W hW
        have := scan_says (ts := ts') (c := 0) (n := 0) (m := 0) TX (by omega) (by rw [hTXl]; exact hsc') W hW
        rw [hnt'] at this
        exact this
      have hL : ∀ (W : World) (A1 A2 : Option Addr) (c1 c2 : Nat), View W W.heap.size A1 ts → View W W.heap.size A2 ts' → Calls Tryz.prog 14 #[.slice A1 nt c1, .slice A2 nt c2] W fun e w' => e = .returned (.bool true) ∧ Below W.heap.size W w' := by
        intro W A1 A2 c1 c2 h1 h2
        exact law3_like A1 A2 c1 c2 nt (ts.map zOf) (ts'.map zOf) W (by rw [List.length_map, hnt]) (by omega) (by rw [List.map_map, List.map_map]; exact hmap.symm) h1.toZ h2.toZ
      have q5 : (TX.toList == TX.toList) = true := beq_self_eq_true _
      have HP := Lib.hid hP
      have HP2 := Lib.hid hP2
      have HS2 := Lib.hid hS2
      have HL := Lib.hid hL
      clear hS hS' hsc hcode hva htl hle hnl hnt hsh hbig hpr hP hsl hP2 hS2 hL hTX hTXl hnt' hmap hsc' htx
      go_enter Tryz.func6, Tryz.ntmps6
      go_wp2_with (first
        | (have _t := tok1; go_at_call 13; refine (HS0.out _ HG.out).mono ?_; clear tok1 _t; rintro e w1 ⟨A1, cap1, rfl, hv1, hb1⟩; have hg1 := HG.out.below hb1; have tok2 : True := trivial)
        | (have _t := tok2; go_at_call 9; refine (HP0.out _ _ _ hg1 hv1).mono ?_; clear tok2 _t; rintro e w2 ⟨rfl, hb2⟩; have hg2 := hg1.below hb2; have tok3 : True := trivial)
        | (have _t := tok3; go_at_call 13; refine (HS.out _ hg2).mono ?_; clear tok3 _t; rintro e w3 ⟨A3, cap3, rfl, hv3, hb3⟩; have hg3 := hg2.below hb3; have tok4 : True := trivial)
        | (have _t := tok4; go_at_call 9; refine (HP.out _ _ _ hg3 hv3).mono ?_; clear tok4 _t; rintro e w4 ⟨rfl, hb4⟩; have hg4 := hg3.below hb4; have tok5 : True := trivial)
        | (have _t := tok5; go_at_call 13; refine (HS2.out _ hg4).mono ?_; clear tok5 _t; rintro e w5 ⟨A5, cap5, rfl, hv5, hb5⟩; have hg5 := hg4.below hb5; have tok6 : True := trivial)
        | (have _t := tok6; go_at_call 9; refine (HP2.out _ _ _ hg5 hv5).mono ?_; clear tok6 _t; rintro e w6 ⟨rfl, hb6⟩; have hv36 : View w6 w6.heap.size A3 ts := (hv3.below ((hb4.trans (hb5.mono hb4.size)).trans (hb6.mono (by have := hb4.size; have := hb5.size; omega))) (Nat.le_refl _)).more (by have := hb4.size; have := hb5.size; have := hb6.size; omega); have hv56 : View w6 w6.heap.size A5 ts' := (hv5.below hb6 (Nat.le_refl _)).more hb6.size)
        | (go_at_call 14; refine (HL.out _ _ _ _ _ hv36 hv56).mono ?_; rintro e w7 ⟨rfl, hb7⟩))
      go_ret
      have s1 := hb1.size
      have s2 := hb2.size
      have s3 := hb3.size
      have s4 := hb4.size
      have s5 := hb5.size
      have s6 := hb6.size
      exact ⟨rfl, (((((hb1.trans (hb2.mono s1)).trans (hb3.mono (by omega))).trans (hb4.mono (by omega))).trans (hb5.mono (by omega))).trans (hb6.mono (by omega))).trans (hb7.mono (by omega))⟩
  · have h2 := hcode.2 hc
    subst h2
    have hS : ScanSays s [] c n m := scan_says s (by omega) hsc
    have HS := Lib.hid hS
    have q2 : ((c : Int) != 0) = true := by rw [bne_iff_ne]; omega
    clear hS hsc hcode hsl
    go_enter Tryz.func6, Tryz.ntmps6
    go_wp2_with (first
      | (have _t := tok1; go_at_call 13; refine (HS0.out _ HG.out).mono ?_; clear tok1 _t; rintro e w1 ⟨A1, cap1, rfl, hv1, hb1⟩; have hg1 := HG.out.below hb1; have tok2 : True := trivial)
      | (have _t := tok2; go_at_call 9; refine (HP0.out _ _ _ hg1 hv1).mono ?_; clear tok2 _t; rintro e w2 ⟨rfl, hb2⟩; have hg2 := hg1.below hb2; have tok3 : True := trivial)
      | (have _t := tok3; go_at_call 13; refine (HS.out _ hg2).mono ?_; clear tok3 _t; rintro e w3 ⟨A3, cap3, rfl, hv3, hb3⟩))
    go_ret
    exact ⟨rfl, (hb1.trans (hb2.mono hb1.size)).trans (hb3.mono (by have := hb1.size; have := hb2.size; omega))⟩
end Go.Proofs.YtjedoipbllcfdaaGreatDoor
