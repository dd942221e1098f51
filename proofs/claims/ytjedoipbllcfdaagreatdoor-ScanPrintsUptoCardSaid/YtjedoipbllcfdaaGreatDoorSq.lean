/-
  THE WALK of the law ScanPrints (chapter 3).
-/
import Derived.Test.YtjedoipbllcfdaaGreatDoorSk
import Derived.Test.YtjedoipbllcfdaaGreatDoorSo
import Derived.Laws.MakeOwn
set_option linter.unusedVariables false
set_option linter.unusedSimpArgs false
set_option maxRecDepth 100000
set_option maxHeartbeats 8000000
namespace Go.Proofs.YtjedoipbllcfdaaGreatDoor
open Go.RowKit

theorem tokInfo : (Tryz.prog.info? 25).map (fun i => (i.zero, i.size, i.bytes)) = some (some (.agg #[.int .i64 0, .string ⟨#[]⟩, .int .i64 0, .int .i64 0]), 4, 40) := by kernel_rfl
def zeroCells : Array Value := #[.int .i64 0, .string ⟨#[]⟩, .int .i64 0, .int .i64 0]
theorem run_make_toks (kl kc : IntKind) (L : Int) (n : Nat) (hL : L = (n : Int)) (h : n ≤ 4398046511104) (w : World) :
    (Instr.makeSlice 23 (.int kl L) (.int kc L)).run Tryz.prog w = .ok (.slice (some ⟨w.heap.size, 0, none⟩) n n) (w.alloc (.cells (madeCells zeroCells (n * 4)) 25)) := by
  obtain ⟨i, hi, hz, h4, h40⟩ := info_parts tokInfo
  subst hL
  have hb : (i.bytes : Int) * (n : Int) ≤ 281474976710656 := by rw [h40]; omega
  have hr := run_make (P := Tryz.prog) w 23 25 i _ Tryz.underlying23 hi hz kl kc n n (by omega) (by omega) hb (by omega)
  simp only [Int.toNat_natCast, h4] at hr
  exact hr

theorem law3_mark1' (w : World) : Calls Tryz.prog 8 #[.int .i64 1] w fun e w' => e = .returned (.agg #[.int .i64 101, .string ⟨#[109, 97, 114, 107]⟩, .int .i64 1, .int .i64 (-1)]) ∧ Below w.heap.size w w' := law3_mark1 w
theorem law3_mark2' (w : World) : Calls Tryz.prog 8 #[.int .i64 2] w fun e w' => e = .returned (.agg #[.int .i64 102, .string ⟨#[109, 97, 114, 107]⟩, .int .i64 2, .int .i64 (-2)]) ∧ Below w.heap.size w w' := law3_mark2 w

def ZD : List ZTok := [(4, ⟨#[55]⟩, 0, 0), (1, ⟨#[10]⟩, 0, 0)]
theorem zd_print : Sp.printV (ZD.map ptZ) = ([55, 10], 0) := by decide +kernel
def HEADD : Array Value := #[.int .i64 4, .string ⟨#[55]⟩, .int .i64 0, .int .i64 0, .int .i64 1, .string ⟨#[10]⟩, .int .i64 0, .int .i64 0]
theorem zd_view (w : World) (t : TypeId) : ViewZ (w.alloc (.cells HEADD t)) (w.alloc (.cells HEADD t)).heap.size (some ⟨w.heap.size, 0, none⟩) ZD := by
  have hc : ∀ i, (w.alloc (.cells HEADD t)).cell? ⟨w.heap.size, i, none⟩ = HEADD[i]? := fun i => World.cell?_alloc_at _ _ _ _ rfl
  intro i z hz
  refine ⟨w.heap.size, 0, rfl, by simp, ?_⟩
  match i, hz with
  | 0, hz => injection hz with hz; subst hz; exact ⟨hc 0, hc 1, hc 2, hc 3⟩
  | 1, hz => injection hz with hz; subst hz; exact ⟨hc 4, hc 5, hc 6, hc 7⟩
  | n + 2, hz => cases hz

theorem ViewZ.pre {w : World} {H : Nat} {A : Option Addr} {zs r : List ZTok} (h : ViewZ w H A (zs ++ r)) : ViewZ w H A zs := by
  intro i z hz
  refine h i z ?_
  rw [List.getElem?_append_left (List.getElem?_eq_some_iff.1 hz).1]
  exact hz

theorem law_prints (A : Option Addr) (cap n : Nat) (zs : List ZTok) (w : World) (hG : Gr w) (hn : zs.length = n) (hnb : n ≤ 1048576) (hv : ViewZ w w.heap.size A zs) (hts : ∀ z ∈ zs, z.2.1.size ≤ 1073741824) :
    Calls Tryz.prog 4 #[.slice A n cap] w fun e w' => e = .returned (.bool true) ∧ Below w.heap.size w w' := by
  obtain ⟨tx, ec, hpr⟩ : ∃ tx ec, Sp.printV (zs.map ptZ) = (tx, ec) := ⟨_, _, rfl⟩
  obtain ⟨TX, hTX⟩ : ∃ TX : ByteArray, (⟨tx.toArray⟩ : ByteArray) = TX := ⟨_, rfl⟩
  have hP : ∀ (W : World) (g c : Nat), Gr W → ViewZ W W.heap.size (some ⟨g, 0, none⟩) zs → Calls Tryz.prog 9 #[.slice (some ⟨g, 0, none⟩) n c] W fun e w' => e = .returned (.tuple #[.string TX, .int .i64 (ec : Nat)]) ∧ Below W.heap.size W w' := by
    intro W g c hW hV
    have := scan_print (some ⟨g, 0, none⟩) c n zs W hW.toGs hn (by omega) hV hts
    unfold PrintEnd at this
    rw [hpr] at this
    simp only [] at this
    rw [hTX] at this
    exact this
  have hR : ∀ (W : World) (g c : Nat), Gr W → ViewZ W W.heap.size (some ⟨g, 0, none⟩) zs → Calls Tryz.prog 10 #[.slice (some ⟨g, 0, none⟩) n c] W fun e w' => e = .returned (.tuple #[.string TX, .int .i64 (ec : Nat)]) ∧ Below W.heap.size W w' := by
    intro W g c hW hV
    have := ref3_print (some ⟨g, 0, none⟩) c n zs W hW hn (by omega) hV hts
    unfold PrintEnd at this
    rw [hpr] at this
    simp only [] at this
    rw [hTX] at this
    exact this
  have hP0 : ∀ W, Gr W → Calls Tryz.prog 9 #[.slice (some ⟨W.heap.size, 0, none⟩) 2 2] (W.alloc (.cells HEADD 25)) fun e w' => e = .returned (.tuple #[.string ⟨#[55, 10]⟩, .int .i64 0]) ∧ Below (W.alloc (.cells HEADD 25)).heap.size (W.alloc (.cells HEADD 25)) w' := by
    intro W hW
    have hb : Below W.heap.size W (W.alloc (.cells HEADD 25)) := (Below.refl _ _).alloc (Nat.le_refl _) _
    have := scan_print (some ⟨W.heap.size, 0, none⟩) 2 2 ZD _ (hW.below hb).toGs rfl (by omega) (zd_view W 25) (by
      intro z hz
      simp only [ZD, List.mem_cons, List.not_mem_nil, or_false] at hz
      rcases hz with rfl | rfl <;> decide)
    unfold PrintEnd at this
    rw [zd_print] at this
    exact this
  have hA : ∀ (A1 A2 : Option Addr) (c1 c2 : Nat) (W : World), ViewZ W W.heap.size A1 zs → ViewZ W W.heap.size A2 zs → Calls Tryz.prog 11 #[.slice A1 n c1, .slice A2 n c2] W fun e w' => e = .returned (.bool true) ∧ Below W.heap.size W w' := fun A1 A2 c1 c2 W h1 h2 => law3_sameAllZ A1 A2 c1 c2 n zs W hn (by omega) h1 h2
  have hmk := run_make_toks .i64 .i64 (n : Int) n rfl (by omega)
  have hmk2 := run_make_toks .i64 .i64 ((n : Int) + 2) (n + 2) (by omega) (by omega)
  have HP := Lib.hid hP
  have HR := Lib.hid hR
  have HP0 := Lib.hid hP0
  have HA := Lib.hid hA
  have HG := Lib.hid hG
  have HV := Lib.hid hv
  have HN := Lib.hid hn
  have b1 : (n : Int) ≤ 1048576 := by omega
  clear hP hR hP0 hA hG hv hn hts hpr hTX
  go_enter Tryz.func4, Tryz.ntmps4
  go_wp2_with fail
  obtain ⟨W2, hW2⟩ : ∃ W2, ((w.alloc (.cells (madeCells zeroCells (n * 4)) 25)).alloc (.cells (madeCells zeroCells ((n + 2) * 4)) 25)) = W2 := ⟨_, rfl⟩
  have k1 : BlkZ W2 w.heap.size n [] := by
    rw [← hW2]
    exact (blkz_new w n _ (size_madeCells _ _)).below ((Below.refl _ _).alloc (Nat.le_refl _) _) (by simp)
  have k2 : BlkZ W2 (w.heap.size + 1) (n + 2) [] := by
    rw [← hW2]
    have := blkz_new (w.alloc (.cells (madeCells zeroCells (n * 4)) 25)) (n + 2) (madeCells zeroCells ((n + 2) * 4)) (size_madeCells _ _)
    rw [World.size_alloc] at this
    exact this
  have k3 : Below w.heap.size w W2 := by
    rw [← hW2]
    exact ((Below.refl _ _).alloc (Nat.le_refl _) _).alloc (by simp) _
  obtain ⟨g2, hg2⟩ : ∃ g2, w.heap.size + 1 = g2 := ⟨_, rfl⟩
  rw [hg2] at k2
  have hne2 : w.heap.size ≠ g2 := by omega
  have hne2' : g2 ≠ w.heap.size := by omega
  have hle2 : w.heap.size ≤ g2 := by omega
  have K1 := Lib.hid k1
  have K2 := Lib.hid k2
  have K3 := Lib.hid k3
  rw [hW2]
  rw [hg2]
  clear hW2 k1 k2 k3 hmk hmk2 hg2
  have HNE := Lib.hid hne2
  have HNE' := Lib.hid hne2'
  clear hne2 hne2'
  go_loopw [5] (fun v5 wr => ∃ i : Nat, v5 = .int .i64 (i : Int) ∧ i ≤ n ∧ BlkZ wr w.heap.size n (zs.take i) ∧ BlkZ wr g2 (n + 2) (zs.take i) ∧ Below w.heap.size w wr) (fun v5 _ => n - (intOf v5).toNat)
  case atStart => exact ⟨0, rfl, by omega, by rw [List.take_zero]; exact K1.out, by rw [List.take_zero]; exact K2.out, K3.out⟩
  case round =>
    obtain ⟨i, rfl, hi, h1, h2, hb⟩ := hrel
    have H1 := Lib.hid h1
    have H2 := Lib.hid h2
    have HB := Lib.hid hb
    by_cases hlt : i < n
    · have q2 : decide ((i : Int) < n) = true := decide_eq_true (by omega)
      have p1 : (i : Int) < n := by omega
      have p2 : (0 : Int) ≤ (i : Int) := by omega
      have p3 : (i : Int) < (n : Int) + 2 := by omega
      have p4 : i < n + 2 := by omega
      obtain ⟨z, hz⟩ : ∃ z, zs[i]? = some z := ⟨_, List.getElem?_eq_getElem (by rw [HN.out]; exact hlt)⟩
      obtain ⟨g, o, hA, hg, hza⟩ := HV.out i z hz
      obtain ⟨a0, a1, a2, a3⟩ := hza.below hb hg
      have hsn : zs.take (i + 1) = zs.take i ++ [z] := by
        have hil : i < zs.length := by rw [HN.out]; exact hlt
        rw [List.take_succ_eq_append_getElem hil, (List.getElem?_eq_some_iff.1 hz).2]
      have htl : (zs.take i).length = i := by rw [List.length_take, HN.out]; omega
      obtain ⟨k, t, l, c⟩ := z
      simp only [] at a0 a1 a2 a3
      obtain ⟨u0, c10⟩ := h1.cells i hlt 0 (by omega)
      obtain ⟨u1, c11⟩ := h1.cells i hlt 1 (by omega)
      obtain ⟨u2, c12⟩ := h1.cells i hlt 2 (by omega)
      obtain ⟨u3, c13⟩ := h1.cells i hlt 3 (by omega)
      rw [Nat.add_zero] at c10
      have f10 := h1.frozen (i * 4)
      have f11 := h1.frozen (i * 4 + 1)
      have f12 := h1.frozen (i * 4 + 2)
      have f13 := h1.frozen (i * 4 + 3)
      have HSN := Lib.hid hsn
      have HTL := Lib.hid htl
      have HZA := Lib.hid hza
      clear h1 h2 hb hz hza hsn htl
      rw [hA]
      clear hA
      go_upto_region 7 with (fail)
      obtain ⟨W3, hW3⟩ : ∃ W3, ((((wr.setCell ⟨w.heap.size, i * 4, none⟩ (.int .i64 k)).setCell ⟨w.heap.size, i * 4 + 1, none⟩ (.string t)).setCell ⟨w.heap.size, i * 4 + 2, none⟩ (.int .i64 l)).setCell ⟨w.heap.size, i * 4 + 3, none⟩ (.int .i64 c)) = W3 := ⟨_, rfl⟩
      have m1 : BlkZ W3 w.heap.size n (zs.take (i + 1)) := by rw [← hW3, HSN.out]; exact H1.out.push HTL.out hlt (k, t, l, c)
      have m2 : BlkZ W3 g2 (n + 2) (zs.take i) := by rw [← hW3]; exact H2.out.far HNE'.out _ _ _ _ _ _ _ _
      have m3 : Below w.heap.size w W3 := by rw [← hW3]; exact below_four HB.out (Nat.le_refl _) _ _ _ _ _ _ _ _
      rw [hW3]
      clear hW3 c10 c11 c12 c13 f10 f11 f12 f13 a0 a1 a2 a3
      obtain ⟨a0, a1, a2, a3⟩ := HZA.out.below m3 hg
      simp only [] at a0 a1 a2 a3
      obtain ⟨u0, c10⟩ := m2.cells i p4 0 (by omega)
      obtain ⟨u1, c11⟩ := m2.cells i p4 1 (by omega)
      obtain ⟨u2, c12⟩ := m2.cells i p4 2 (by omega)
      obtain ⟨u3, c13⟩ := m2.cells i p4 3 (by omega)
      rw [Nat.add_zero] at c10
      have f10 := m2.frozen (i * 4)
      have f11 := m2.frozen (i * 4 + 1)
      have f12 := m2.frozen (i * 4 + 2)
      have f13 := m2.frozen (i * 4 + 3)
      have M1 := Lib.hid m1
      have M2 := Lib.hid m2
      have M3 := Lib.hid m3
      clear m1 m2 m3
      go_wp2_with fail
      go_roundw
      case rel => exact ⟨i + 1, by rfl, by omega, M1.out.far HNE.out _ _ _ _ _ _ _ _, by rw [HSN.out]; exact M2.out.push HTL.out p4 (k, t, l, c), below_four M3.out hle2 _ _ _ _ _ _ _ _⟩
      case measure => simp [intOf]; omega
    · have q2 : decide ((i : Int) < n) = false := decide_eq_false (by omega)
      have hin : i = n := by omega
      have hall : zs.take i = zs := List.take_of_length_le (by rw [HN.out]; omega)
      rw [hall] at h1 h2
      have p3 : (n : Int) < (n : Int) + 2 := by omega
      have p5 : (n : Int) + 1 < (n : Int) + 2 := by omega
      have p4 : n < n + 2 := by omega
      have p6 : n + 1 < n + 2 := by omega
      have HG2 := Lib.hid (HG.out.below hb)
      clear H1 H2 HB hall hin
      have hbm := hb.size
      have H1 := Lib.hid h1
      have H2 := Lib.hid h2
      have HB := Lib.hid hb
      clear h1 h2 hb
      go_wp2_with fail
      refine (law3_mark1' _).mono ?_
      rintro e w5 ⟨rfl, hb5⟩
      have m5 := H2.out.below hb5 H2.out.lt
      have n5 := H1.out.below hb5 H1.out.lt
      have hb5' := HB.out.trans (hb5.mono hbm)
      obtain ⟨u0, c10⟩ := m5.cells n p4 0 (by omega)
      obtain ⟨u1, c11⟩ := m5.cells n p4 1 (by omega)
      obtain ⟨u2, c12⟩ := m5.cells n p4 2 (by omega)
      obtain ⟨u3, c13⟩ := m5.cells n p4 3 (by omega)
      rw [Nat.add_zero] at c10
      have f10 := m5.frozen (n * 4)
      have f11 := m5.frozen (n * 4 + 1)
      have f12 := m5.frozen (n * 4 + 2)
      have f13 := m5.frozen (n * 4 + 3)
      have M5 := Lib.hid m5
      have N5 := Lib.hid n5
      have HB5 := Lib.hid hb5'
      clear m5 n5 hb5' hb5 H1 H2 HB
      go_upto_region 9 with (fail)
      obtain ⟨W6, hW6⟩ : ∃ W6, ((((w5.setCell ⟨g2, n * 4, none⟩ (.int .i64 101)).setCell ⟨g2, n * 4 + 1, none⟩ (.string ⟨#[109, 97, 114, 107]⟩)).setCell ⟨g2, n * 4 + 2, none⟩ (.int .i64 1)).setCell ⟨g2, n * 4 + 3, none⟩ (.int .i64 (-1))) = W6 := ⟨_, rfl⟩
      have m6 : BlkZ W6 g2 (n + 2) (zs ++ [markZ 1]) := by rw [← hW6]; exact M5.out.push HN.out p4 (markZ 1)
      have n6 : BlkZ W6 w.heap.size n zs := by rw [← hW6]; exact N5.out.far HNE.out _ _ _ _ _ _ _ _
      have b6 : Below w.heap.size w W6 := by rw [← hW6]; exact below_four HB5.out hle2 _ _ _ _ _ _ _ _
      rw [hW6]
      clear hW6 c10 c11 c12 c13 f10 f11 f12 f13 M5 N5 HB5
      have M6 := Lib.hid m6
      have N6 := Lib.hid n6
      have HB6 := Lib.hid b6
      clear m6 n6 b6
      go_wp2_with fail
      refine (law3_mark2' _).mono ?_
      rintro e w7 ⟨rfl, hb7⟩
      have m7 := M6.out.below hb7 M6.out.lt
      have n7 := N6.out.below hb7 N6.out.lt
      have hb7' := HB6.out.trans (hb7.mono HB6.out.size)
      obtain ⟨u0, c10⟩ := m7.cells (n + 1) p6 0 (by omega)
      obtain ⟨u1, c11⟩ := m7.cells (n + 1) p6 1 (by omega)
      obtain ⟨u2, c12⟩ := m7.cells (n + 1) p6 2 (by omega)
      obtain ⟨u3, c13⟩ := m7.cells (n + 1) p6 3 (by omega)
      rw [Nat.add_zero] at c10
      have f10 := m7.frozen ((n + 1) * 4)
      have f11 := m7.frozen ((n + 1) * 4 + 1)
      have f12 := m7.frozen ((n + 1) * 4 + 2)
      have f13 := m7.frozen ((n + 1) * 4 + 3)
      have hnl : (zs ++ [markZ 1]).length = n + 1 := by rw [List.length_append, HN.out]; rfl
      have HNL := Lib.hid hnl
      have z5 : ((n : Int) + 1).toNat = n + 1 := by omega
      have z6 : (0 : Int) ≤ (n : Int) + 1 := by omega
      have M7 := Lib.hid m7
      have N7 := Lib.hid n7
      have HB7 := Lib.hid hb7'
      clear m7 n7 hb7' hb7 M6 N6 HB6 hnl
      go_upto_region 10 with (fail)
      obtain ⟨W8, hW8⟩ : ∃ W8, ((((w7.setCell ⟨g2, (n + 1) * 4, none⟩ (.int .i64 102)).setCell ⟨g2, (n + 1) * 4 + 1, none⟩ (.string ⟨#[109, 97, 114, 107]⟩)).setCell ⟨g2, (n + 1) * 4 + 2, none⟩ (.int .i64 2)).setCell ⟨g2, (n + 1) * 4 + 3, none⟩ (.int .i64 (-2))) = W8 := ⟨_, rfl⟩
      have m8 : BlkZ W8 g2 (n + 2) ((zs ++ [markZ 1]) ++ [markZ 2]) := by rw [← hW8]; exact M7.out.push HNL.out p6 (markZ 2)
      have n8 : BlkZ W8 w.heap.size n zs := by rw [← hW8]; exact N7.out.far HNE.out _ _ _ _ _ _ _ _
      have b8 : Below w.heap.size w W8 := by rw [← hW8]; exact below_four HB7.out hle2 _ _ _ _ _ _ _ _
      rw [hW8]
      clear hW8 c10 c11 c12 c13 f10 f11 f12 f13 M7 N7 HB7
      have hg8 := HG.out.below b8
      have v8 : ViewZ W8 W8.heap.size (some ⟨g2, 0, none⟩) zs := (m8.view.pre).pre
      have M8 := Lib.hid m8
      have N8 := Lib.hid n8
      have HB8 := Lib.hid b8
      have V8 := Lib.hid v8
      clear m8 n8 b8 v8
      go_wp2_with fail
      refine (HP.out _ g2 (n + 2) hg8 V8.out).mono ?_
      rintro e w9 ⟨rfl, hb9⟩
      have n9 := N8.out.below hb9 N8.out.lt
      have hg9 := hg8.below hb9
      go_wp2_with fail
      refine (HR.out _ w.heap.size n hg9 n9.view).mono ?_
      rintro e wa ⟨rfl, hba⟩
      have hb8a := hb9.trans (hba.mono hb9.size)
      have ma := M8.out.below hb8a M8.out.lt
      have na := N8.out.below hb8a N8.out.lt
      have hga := hg9.below hba
      have hBa := HB8.out.trans (hb8a.mono HB8.out.size)
      have va : ViewZ wa wa.heap.size (some ⟨g2, 0, none⟩) zs := (ma.view.pre).pre
      have nva := na.view
      have e1 : (((zs ++ [markZ 1]) ++ [markZ 2])[n]?) = some (markZ 1) := by
        rw [List.getElem?_append_left (by rw [HNL.out]; omega), List.getElem?_append_right (by rw [HN.out]; exact Nat.le_refl _), HN.out, Nat.sub_self]
        rfl
      have e2 : (((zs ++ [markZ 1]) ++ [markZ 2])[n + 1]?) = some (markZ 2) := by
        rw [List.getElem?_append_right (by rw [HNL.out]; exact Nat.le_refl _), HNL.out, Nat.sub_self]
        rfl
      obtain ⟨ga, oa, ea, hgl, hza⟩ := ma.view n _ e1
      injection ea with ea
      injection ea with ea1 ea2
      subst ea1 ea2
      obtain ⟨gb, ob, eb, _, hzb⟩ := ma.view (n + 1) _ e2
      injection eb with eb
      injection eb with eb1 eb2
      subst eb1 eb2
      unfold ZAt markZ at hza hzb
      simp only [Nat.zero_add] at hza hzb
      have hza' : wa.cell? ⟨g2, n * 4, none⟩ = some (.int .i64 101) ∧ wa.cell? ⟨g2, n * 4 + 1, none⟩ = some (.string ⟨#[109, 97, 114, 107]⟩) ∧ wa.cell? ⟨g2, n * 4 + 2, none⟩ = some (.int .i64 1) ∧ wa.cell? ⟨g2, n * 4 + 3, none⟩ = some (.int .i64 (-1)) := hza
      have hzb' : wa.cell? ⟨g2, (n + 1) * 4, none⟩ = some (.int .i64 102) ∧ wa.cell? ⟨g2, (n + 1) * 4 + 1, none⟩ = some (.string ⟨#[109, 97, 114, 107]⟩) ∧ wa.cell? ⟨g2, (n + 1) * 4 + 2, none⟩ = some (.int .i64 2) ∧ wa.cell? ⟨g2, (n + 1) * 4 + 3, none⟩ = some (.int .i64 (-2)) := hzb
      obtain ⟨a0, a1, a2, a3⟩ := hza'
      obtain ⟨b0, b1', b2, b3⟩ := hzb'
      have hS8 : wa.cell? ⟨g2, n * 4, none⟩ = some (.int .i64 101) ∧ wa.cell? ⟨g2, n * 4 + 1, none⟩ = some (.string ⟨#[109, 97, 114, 107]⟩) ∧ wa.cell? ⟨g2, n * 4 + 2, none⟩ = some (.int .i64 1) ∧ wa.cell? ⟨g2, n * 4 + 3, none⟩ = some (.int .i64 (-1)) ∧ wa.cell? ⟨g2, (n + 1) * 4, none⟩ = some (.int .i64 102) ∧ wa.cell? ⟨g2, (n + 1) * 4 + 1, none⟩ = some (.string ⟨#[109, 97, 114, 107]⟩) ∧ wa.cell? ⟨g2, (n + 1) * 4 + 2, none⟩ = some (.int .i64 2) ∧ wa.cell? ⟨g2, (n + 1) * 4 + 3, none⟩ = some (.int .i64 (-2)) := ⟨a0, a1, a2, a3, b0, b1', b2, b3⟩
      have hkeep : ∀ w5, Below wa.drew.heap.size wa.drew w5 → w5.cell? ⟨g2, n * 4, none⟩ = some (.int .i64 101) ∧ w5.cell? ⟨g2, n * 4 + 1, none⟩ = some (.string ⟨#[109, 97, 114, 107]⟩) ∧ w5.cell? ⟨g2, n * 4 + 2, none⟩ = some (.int .i64 1) ∧ w5.cell? ⟨g2, n * 4 + 3, none⟩ = some (.int .i64 (-1)) ∧ w5.cell? ⟨g2, (n + 1) * 4, none⟩ = some (.int .i64 102) ∧ w5.cell? ⟨g2, (n + 1) * 4 + 1, none⟩ = some (.string ⟨#[109, 97, 114, 107]⟩) ∧ w5.cell? ⟨g2, (n + 1) * 4 + 2, none⟩ = some (.int .i64 2) ∧ w5.cell? ⟨g2, (n + 1) * 4 + 3, none⟩ = some (.int .i64 (-2)) := fun w5 hb =>
        ⟨(hb.cell (p := ⟨g2, n * 4, none⟩) hgl).trans a0, (hb.cell (p := ⟨g2, n * 4 + 1, none⟩) hgl).trans a1, (hb.cell (p := ⟨g2, n * 4 + 2, none⟩) hgl).trans a2, (hb.cell (p := ⟨g2, n * 4 + 3, none⟩) hgl).trans a3,
          (hb.cell (p := ⟨g2, (n + 1) * 4, none⟩) hgl).trans b0, (hb.cell (p := ⟨g2, (n + 1) * 4 + 1, none⟩) hgl).trans b1', (hb.cell (p := ⟨g2, (n + 1) * 4 + 2, none⟩) hgl).trans b2, (hb.cell (p := ⟨g2, (n + 1) * 4 + 3, none⟩) hgl).trans b3⟩
      have HK := Lib.hid hkeep
      have r1 : (TX.toList != TX.toList) = false := by rw [bne_eq_false_iff_eq]
      have r2 : ((ec : Int) != (ec : Int)) = false := by rw [bne_eq_false_iff_eq]
      have hvd : ViewZ wa.drew wa.drew.heap.size (some ⟨g2, 0, none⟩) zs := va
      have hnd : ViewZ wa.drew wa.drew.heap.size (some ⟨w.heap.size, 0, none⟩) zs := nva
      have HSA := Lib.hid (HA.out _ _ (n + 2) n _ hvd hnd)
      have HBA := Lib.hid hBa
      have z4 : IntKind.i64.wrap ((n : Int) + 1) = (n : Int) + 1 := by rw [IntKind.wrap_i64]; omega
      have z0 : (0 : Int) ≤ (n : Int) := by omega
      have s1 : (n : Int) ≤ (n : Int) + 2 := by omega
      have s2 : n ≤ n + 2 := by omega
      have tok1 : True := trivial
      clear hkeep hza hzb hvd hnd va nva ma na hb9 hb8a hBa hg8 hg9 n9 e1 e2 M8 N8 HB8 V8 a0 a1 a2 a3 b0 b1' b2 b3 HP HR HV HN HNL
      go_wp2_with fail
      go_region_held3 (fun w' => w'.cell? ⟨g2, n * 4, none⟩ = some (.int .i64 101) ∧ w'.cell? ⟨g2, n * 4 + 1, none⟩ = some (.string ⟨#[109, 97, 114, 107]⟩) ∧ w'.cell? ⟨g2, n * 4 + 2, none⟩ = some (.int .i64 1) ∧ w'.cell? ⟨g2, n * 4 + 3, none⟩ = some (.int .i64 (-1)) ∧ w'.cell? ⟨g2, (n + 1) * 4, none⟩ = some (.int .i64 102) ∧ w'.cell? ⟨g2, (n + 1) * 4 + 1, none⟩ = some (.string ⟨#[109, 97, 114, 107]⟩) ∧ w'.cell? ⟨g2, (n + 1) * 4 + 2, none⟩ = some (.int .i64 2) ∧ w'.cell? ⟨g2, (n + 1) * 4 + 3, none⟩ = some (.int .i64 (-2)))
        (first | go_keep | exact hS8 | exact ks)
        ((first
          | (have _t := tok1; go_at_call 11; refine HSA.out.mono ?_; clear tok1 _t; rintro e wb ⟨rfl, hbb⟩; have ks := HK.out wb hbb; have tok2 : True := trivial)
          | (have _t := tok2; go_at_call 8; refine (law3_mark1' _).mono ?_; clear tok2 _t; rintro e wc ⟨rfl, hbc⟩; have hbc' := hbb.trans (hbc.mono hbb.size); have ks := HK.out wc hbc'; have tok3 : True := trivial)
          | (have _t := tok3; go_at_call 12; refine (same_refl _ _ _ _ _).mono ?_; clear tok3 _t; rintro e wd ⟨rfl, hbd⟩; have hbd' := hbc'.trans (hbd.mono hbc'.size); have ks := HK.out wd hbd'; have tok4 : True := trivial)
          | (have _t := tok4; go_at_call 8; refine (law3_mark2' _).mono ?_; clear tok4 _t; rintro e we ⟨rfl, hbe⟩; have hbe' := hbd'.trans (hbe.mono hbd'.size); have ks := HK.out we hbe'; have tok5 : True := trivial)
          | (have _t := tok5; go_at_call 12; refine (same_refl _ _ _ _ _).mono ?_; clear tok5 _t; rintro e wf ⟨rfl, hbf⟩; have hbf' := hbe'.trans (hbf.mono hbe'.size); have ks := HK.out wf hbf')))
      have hbd0 := HBA.out.drew
      have hsz0 := HBA.out.size
      have hBf : Below w.heap.size w wf := hbd0.trans (hbf'.mono (by show _ ≤ wa.heap.size; omega))
      have hgf := HG.out.below hBf
      have hszf := hBf.size
      have q0 : ((⟨#[55, 10]⟩ : ByteArray).toList == [55, 10]) = true := by kernel_rfl
      have HBF := Lib.hid hBf
      clear hbd0 hBf hbf' hbe' hbd' hbc' hbb ks hS8 r1 r2 HK HSA HA z4 z0 s1 s2
      go_wp2_with (go_at_call 9; refine (HP0.out _ hgf).mono ?_; rintro e wg ⟨rfl, hbg⟩)
      go_ret
      exact ⟨rfl, HBF.out.trans ((((Below.refl wf.heap.size wf).alloc (Nat.le_refl _) (.cells HEADD 25)).trans (hbg.mono (by simp))).mono hszf)⟩
end Go.Proofs.YtjedoipbllcfdaaGreatDoor
