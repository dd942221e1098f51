/-
  THE WALK of the law ScanPrintsBack (chapter 3).
-/
import Derived.Test.YtjedoipbllcfdaaGreatDoorSe
import Derived.Test.YtjedoipbllcfdaaGreatDoorLe
set_option linter.unusedVariables false
set_option linter.unusedSimpArgs false
set_option maxRecDepth 100000
set_option maxHeartbeats 8000000
namespace Go.Proofs.YtjedoipbllcfdaaGreatDoor
open Go.RowKit

theorem printV_ok {ts : List Sp.Pt} {tx : List UInt8} (h : Sp.printV ts = (tx, 0)) : Sp.validV Sp.p0 ts = true ∧ tx = Sp.textV Sp.p0 ts ∧ tx.length ≤ 16384 ∧ ts.length ≤ 16384 := by
  unfold Sp.printV at h
  split at h
  · simp at h
  split at h
  · simp at h
  split at h
  · simp at h
  · rename_i h1 h2 h3
    injection h with h4 h5
    subst h4
    exact ⟨by simpa using h2, rfl, by omega, by omega⟩

def ZB : List ZTok := [(7, ⟨#[33]⟩, 0, 0), (2, ⟨#[97]⟩, 0, 0), (1, ⟨#[10]⟩, 0, 0)]
def TB : List Sp.Tok := [(7, [33], 1, 1), (2, [97], 1, 2), (1, [10], 1, 3)]
theorem tb_scan : Sp.scanV [33, 97, 10] = (TB, 0, 0, 0) := by decide +kernel
theorem zb_print : Sp.printV (ZB.map ptZ) = ([33, 97, 10], 0) := by decide +kernel
def HEADC : Array Value := #[.int .i64 7, .string ⟨#[33]⟩, .int .i64 0, .int .i64 0, .int .i64 2, .string ⟨#[97]⟩, .int .i64 0, .int .i64 0, .int .i64 1, .string ⟨#[10]⟩, .int .i64 0, .int .i64 0]
theorem zb_view (w : World) (t : TypeId) : ViewZ (w.alloc (.cells HEADC t)) (w.alloc (.cells HEADC t)).heap.size (some ⟨w.heap.size, 0, none⟩) ZB := by
  have hc : ∀ i, (w.alloc (.cells HEADC t)).cell? ⟨w.heap.size, i, none⟩ = HEADC[i]? := fun i => World.cell?_alloc_at _ _ _ _ rfl
  intro i z hz
  refine ⟨w.heap.size, 0, rfl, by simp, ?_⟩
  match i, hz with
  | 0, hz => injection hz with hz; subst hz; exact ⟨hc 0, hc 1, hc 2, hc 3⟩
  | 1, hz => injection hz with hz; subst hz; exact ⟨hc 4, hc 5, hc 6, hc 7⟩
  | 2, hz => injection hz with hz; subst hz; exact ⟨hc 8, hc 9, hc 10, hc 11⟩
  | n + 3, hz => cases hz

/-- placed, at what Scan hands back. -/
theorem placed_scan (s : ByteArray) {ts : List Sp.Tok} (hsc : Sp.scanV s.data.toList = (ts, 0, 0, 0)) (W : World) (A : Option Addr) (cap n : Nat) (hn : ts.length = n) (hv : View W W.heap.size A ts) :
    Calls Tryz.prog 15 #[.string s, .slice A n cap] W fun e w' => e = .returned (.bool true) ∧ Below W.heap.size W w' := by
  have hsl := Lib.size_eq s
  have hle : s.data.toList.length ≤ 16384 := by
    rcases Nat.lt_or_ge 16384 s.data.toList.length with h | h
    · unfold Sp.scanV at hsc
      rw [if_pos h] at hsc
      injection hsc with _ h2
      injection h2 with h3 _
      cases h3
    · exact h
  have hb := (Sp.scanV_bound _ hle).1
  have hp := Sp.scan_placed s.data.toList (by rw [hsc])
  rw [hsc] at hb hp
  simp only at hb hp
  exact law3_placed s A cap n ts W (by omega) hn (by omega) hv hp

theorem law_printsback (A : Option Addr) (cap n : Nat) (zs : List ZTok) (w : World) (hG : Gs w) (hn : zs.length = n) (hnb : n ≤ 1073741824) (hv : ViewZ w w.heap.size A zs) (hts : ∀ z ∈ zs, z.2.1.size ≤ 1073741824) :
    Calls Tryz.prog 5 #[.slice A n cap] w fun e w' => e = .returned (.bool true) ∧ Below w.heap.size w w' := by
  have hP := scan_print A cap n zs w hG hn (by omega) hv hts
  obtain ⟨tx, ec, hpr⟩ : ∃ tx ec, Sp.printV (zs.map ptZ) = (tx, ec) := ⟨_, _, rfl⟩
  unfold PrintEnd at hP
  rw [hpr] at hP
  simp only [] at hP
  obtain ⟨TX, hTX⟩ : ∃ TX : ByteArray, (⟨tx.toArray⟩ : ByteArray) = TX := ⟨_, rfl⟩
  rw [hTX] at hP
  have hTXl : TX.data.toList = tx := by rw [← hTX]
  -- the head
  have hP0 : ∀ W, Gs W → Calls Tryz.prog 9 #[.slice (some ⟨W.heap.size, 0, none⟩) 3 3] (W.alloc (.cells HEADC 25)) fun e w' => e = .returned (.tuple #[.string ⟨#[33, 97, 10]⟩, .int .i64 0]) ∧ Below (W.alloc (.cells HEADC 25)).heap.size (W.alloc (.cells HEADC 25)) w' := by
    intro W hW
    have hb : Below W.heap.size W (W.alloc (.cells HEADC 25)) := (Below.refl _ _).alloc (Nat.le_refl _) _
    have := scan_print (some ⟨W.heap.size, 0, none⟩) 3 3 ZB _ (hW.below hb) rfl (by omega) (zb_view W 25) (by
      intro z hz
      simp only [ZB, List.mem_cons, List.not_mem_nil, or_false] at hz
      rcases hz with rfl | rfl | rfl <;> decide)
    unfold PrintEnd at this
    rw [zb_print] at this
    exact this
  have hS0 : ∀ W, Gs W → Calls Tryz.prog 13 #[.string ⟨#[33, 97, 10]⟩] W fun e w' => ∃ A cap, e = .returned (.tuple #[.slice A 3 cap, .int .i64 0, .int .i64 0, .int .i64 0]) ∧ View w' w'.heap.size A TB ∧ Below W.heap.size W w' := by
    have h : ScanSays ⟨#[33, 97, 10]⟩ TB 0 0 0 := scan_says _ (by decide) tb_scan
    exact h
  have hL0 : ∀ (W : World) (A1 A2 : Option Addr) (c1 c2 : Nat), ViewZ W W.heap.size A1 ZB → View W W.heap.size A2 TB → Calls Tryz.prog 14 #[.slice A1 3 c1, .slice A2 3 c2] W fun e w' => e = .returned (.bool true) ∧ Below W.heap.size W w' :=
    fun W A1 A2 c1 c2 h1 h2 => law3_like A1 A2 c1 c2 3 ZB (TB.map zOf) W rfl (by omega) rfl h1 h2.toZ
  have q0 : ((⟨#[33, 97, 10]⟩ : ByteArray).toList == [33, 97, 10]) = true := by kernel_rfl
  have HP := Lib.hid hP
  have HP0 := Lib.hid hP0
  have HS0 := Lib.hid hS0
  have HL0 := Lib.hid hL0
  have HG := Lib.hid hG
  have HV := Lib.hid hv
  have tok1 : True := trivial
  clear hP hP0 hS0 hL0 hG hv
  by_cases hc : ec = 0
  · subst hc
    obtain ⟨hva, htx, hle, hnl⟩ := printV_ok hpr
    subst htx
    obtain ⟨ts', hsc', hmap⟩ := Sp.scan_text hva hle
    have hnt' : ts'.length = n := by
      have := congrArg List.length hmap
      rw [List.length_map, List.length_map] at this
      omega
    have hTXs : TX.size ≤ 16384 := by rw [Lib.size_eq, hTXl]; omega
    have hscX : Sp.scanV TX.data.toList = (ts', 0, 0, 0) := by rw [hTXl]; exact hsc'
    have hS : ∀ W, Gs W → Calls Tryz.prog 13 #[.string TX] W fun e w' => ∃ A cap, e = .returned (.tuple #[.slice A n cap, .int .i64 0, .int .i64 0, .int .i64 0]) ∧ View w' w'.heap.size A ts' ∧ Below W.heap.size W w' := by
      intro W hW
      have := scan_says (ts := ts') (c := 0) (n := 0) (m := 0) TX (by omega) hscX W hW
      rw [hnt'] at this
      exact this
    have hL : ∀ (W : World) (A2 : Option Addr) (c2 : Nat), ViewZ W W.heap.size A zs → View W W.heap.size A2 ts' → Calls Tryz.prog 14 #[.slice A n cap, .slice A2 n c2] W fun e w' => e = .returned (.bool true) ∧ Below W.heap.size W w' :=
      fun W A2 c2 h1 h2 => law3_like A A2 cap c2 n zs (ts'.map zOf) W hn (by omega) (by rw [List.map_map]; exact hmap.symm) h1 h2.toZ
    have hPL : ∀ (W : World) (A2 : Option Addr) (c2 : Nat), View W W.heap.size A2 ts' → Calls Tryz.prog 15 #[.string TX, .slice A2 n c2] W fun e w' => e = .returned (.bool true) ∧ Below W.heap.size W w' :=
      fun W A2 c2 h => placed_scan TX hscX W A2 c2 n hnt' h
    have HS := Lib.hid hS
    have HL := Lib.hid hL
    have HPL := Lib.hid hPL
    clear hS hL hPL hscX hsc' hmap hnt' hTXs hTXl hTX hva hle hnl hpr hn hts
    go_enter Tryz.func5, Tryz.ntmps5
    go_wp2_with (first
      | (have _t := tok1; go_at_call 9; refine HP.out.mono ?_; clear tok1 _t; rintro e w1 ⟨rfl, hb1⟩; have hg1 := HG.out.below hb1; have tok2 : True := trivial)
      | (have _t := tok2; go_at_call 13; refine (HS.out _ hg1).mono ?_; clear tok2 _t; rintro e w2 ⟨A2, cap2, rfl, hv2, hb2⟩; have hb12 := hb1.trans (hb2.mono hb1.size); have hg2 := hg1.below hb2; have hvl : ViewZ w2 w2.heap.size A zs := (HV.out.below hb12 (Nat.le_refl _)).more hb12.size; have tok3 : True := trivial)
      | (have _t := tok3; go_at_call 14; refine (HL.out _ _ _ hvl hv2).mono ?_; clear tok3 _t; rintro e w3 ⟨rfl, hb3⟩; have hg3 := hg2.below hb3; have hv23 : View w3 w3.heap.size A2 ts' := (hv2.below hb3 (Nat.le_refl _)).more hb3.size; have tok4 : True := trivial)
      | (have _t := tok4; go_at_call 15; refine (HPL.out _ _ _ hv23).mono ?_; clear tok4 _t; rintro e w4 ⟨rfl, hb4⟩; have hg4 := hg3.below hb4; have tok5 : True := trivial)
      | (have _t := tok5; go_at_call 9; refine (HP0.out _ hg4).mono ?_; clear tok5 _t; rintro e w5 ⟨rfl, hb5⟩; have hb45 := ((Below.refl w4.heap.size w4).alloc (Nat.le_refl _) (.cells HEADC 25)).trans (hb5.mono (by simp)); have hg5 := hg4.below hb45; have hzb := (zb_view w4 25).below hb5 (Nat.le_refl _); have tok6 : True := trivial)
      | (have _t := tok6; go_at_call 13; refine (HS0.out _ hg5).mono ?_; clear tok6 _t; rintro e w6 ⟨A6, cap6, rfl, hv6, hb6⟩; have hzb6 : ViewZ w6 w6.heap.size _ ZB := (hzb.below hb6 hb5.size).more (Nat.le_trans hb5.size hb6.size); have tok7 : True := trivial)
      | (have _t := tok7; go_at_call 14; refine (HL0.out _ _ _ _ _ hzb6 hv6).mono ?_; clear tok7 _t; rintro e w7 ⟨rfl, hb7⟩))
    go_ret
    have s1 := hb1.size
    have s2 := hb2.size
    have s3 := hb3.size
    have s4 := hb4.size
    have s5 := hb45.size
    have s6 := hb6.size
    exact ⟨rfl, (((((hb12.trans (hb3.mono (by omega))).trans (hb4.mono (by omega))).trans (hb45.mono (by omega))).trans (hb6.mono (by omega))).trans (hb7.mono (by omega)))⟩
  · have q1 : ((ec : Int) == 0) = false := beq_eq_false_iff_ne.2 (by omega)
    clear hTXl hTX hpr hn hts hc
    go_enter Tryz.func5, Tryz.ntmps5
    go_wp2_with (first
      | (have _t := tok1; go_at_call 9; refine HP.out.mono ?_; clear tok1 _t; rintro e w4 ⟨rfl, hb1⟩; have hg4 := HG.out.below hb1; have tok5 : True := trivial)
      | (have _t := tok5; go_at_call 9; refine (HP0.out _ hg4).mono ?_; clear tok5 _t; rintro e w5 ⟨rfl, hb5⟩; have hb45 := ((Below.refl w4.heap.size w4).alloc (Nat.le_refl _) (.cells HEADC 25)).trans (hb5.mono (by simp)); have hg5 := hg4.below hb45; have hzb := (zb_view w4 25).below hb5 (Nat.le_refl _); have tok6 : True := trivial)
      | (have _t := tok6; go_at_call 13; refine (HS0.out _ hg5).mono ?_; clear tok6 _t; rintro e w6 ⟨A6, cap6, rfl, hv6, hb6⟩; have hzb6 : ViewZ w6 w6.heap.size _ ZB := (hzb.below hb6 hb5.size).more (Nat.le_trans hb5.size hb6.size); have tok7 : True := trivial)
      | (have _t := tok7; go_at_call 14; refine (HL0.out _ _ _ _ _ hzb6 hv6).mono ?_; clear tok7 _t; rintro e w7 ⟨rfl, hb7⟩))
    go_ret
    have s1 := hb1.size
    have s5 := hb45.size
    have s6 := hb6.size
    exact ⟨rfl, ((hb1.trans (hb45.mono (by omega))).trans (hb6.mono (by omega))).trans (hb7.mono (by omega))⟩
end Go.Proofs.YtjedoipbllcfdaaGreatDoor
