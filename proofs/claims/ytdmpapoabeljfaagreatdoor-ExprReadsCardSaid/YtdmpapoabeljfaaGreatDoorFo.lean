/-
  THE WALK of the law ExprReads (chapter 5).
-/
import Derived.Test.YtdmpapoabeljfaaGreatDoorFl
import Derived.Test.YtdmpapoabeljfaaGreatDoorFn
set_option linter.unusedVariables false
set_option linter.unusedSimpArgs false
set_option maxRecDepth 100000
set_option maxHeartbeats 8000000
namespace Go.Proofs.YtdmpapoabeljfaaGreatDoor
open Go.RowKit

/-- A token more. -/
theorem wpList_zt {ops : Array Oper} {rest : List Oper} {o : Oper} {a : Act} {w : World} {Q : Exit → Act → World → Prop} (hgd : o.guard = none) (s x : Operand)
    (ho : o.op = .call { callee := .builtin .append, args := #[s, x], argTypes := #[22, 22] })
    (B : Nat) (v : Value) (zs : List ZTok) (hs : a.eval s = v) (ht : ZRow w B v zs) (ad : Addr) (c : Nat) (z : ZTok) (hx : a.eval x = .slice (some ad) 1 c)
    (hnews : ∀ j u, (zCell z)[j]? = some u → w.cell? (ad.add j) = some u) (hn : zs.length ≤ 1000000) (hB : B ≤ w.heap.size) (H : Nat) (hH : w.heap.size = H)
    (h : ∀ g cap w', ZRow w' B (.slice (some ⟨g, 0, none⟩) (zs.length + 1) cap) (zs ++ [z]) → w.grownBy w' v.ownBlock → wpList Tryz.prog ops Q rest (a.put o.dst (.slice (some ⟨g, 0, none⟩) (zs.length + 1) cap)) w') : wpList Tryz.prog ops Q (o :: rest) a w := by
  obtain ⟨i0, hi0, hz0, hz1, hz2⟩ := info_parts tinfo
  refine wpList_append_lies w hgd s x _ ho B 24 i0 _ 4 40 Tryz.underlying22 hi0 hz0 hz1 hz2 rfl (by omega) v zs.length (zs.flatMap zCell) hs ht ad 1 c (zCell z) hx (by rfl) hnews (by simp [Value.oneCell', zCell]) (by omega) (by unfold maxLen; omega) (by omega) hB H hH ?_
  intro g cap w' h1 h2 h3 h4
  refine h g cap w' ?_ h2
  unfold ZRow
  rw [List.length_append, List.length_singleton, List.flatMap_append, List.flatMap_singleton]
  exact h1

theorem zrow_cap {w : World} {B g k cap : Nat} {zs : List ZTok} (h : ZRow w B (.slice (some ⟨g, 0, none⟩) k cap) zs) (hz : zs.length = k) : k ≤ cap ∧ cap ≤ maxLen := by
  rcases h.2 with ⟨h, _⟩ | ⟨g', cap', cur, hv, hg, hh, hle, hcm, _⟩
  · cases h
  · injection hv with _ _ h3
    subst h3
    omega
theorem viewz_pre {w : World} {H : Nat} {A : Option Addr} {zs r : List ZTok} (h : ViewZ w H A (zs ++ r)) : ViewZ w H A zs := by
  intro i z hz
  refine h i z ?_
  rw [List.getElem?_append_left (List.getElem?_eq_some_iff.1 hz).1]
  exact hz
theorem zrow_at {w : World} {B g k cap : Nat} {zs : List ZTok} (h : ZRow w B (.slice (some ⟨g, 0, none⟩) k cap) zs) : ViewZ w w.heap.size (some ⟨g, 0, none⟩) zs := by
  obtain ⟨A, c, hv, h2, _⟩ := zrow_view h
  injection hv with hv _ _
  subst hv
  exact h2
def z91 : ZTok := (91, ⟨#[]⟩, 0, 0)
/-- A mark more, from a block that was just laid. -/
theorem wpList_mark {ops : Array Oper} {rest : List Oper} {o : Oper} {a : Act} {Q : Exit → Act → World → Prop} (hgd : o.guard = none) (s x : Operand)
    (ho : o.op = .call { callee := .builtin .append, args := #[s, x], argTypes := #[22, 22] })
    (B : Nat) (w0 w1 : World) (ty : TypeId) (A1 : Option Addr) (cap1 c : Nat) (zs : List ZTok) (hs : a.eval s = .slice A1 zs.length cap1) (hz : ZRow w1 B (.slice A1 zs.length cap1) zs)
    (hx : a.eval x = .slice (some ⟨w1.heap.size, 0, none⟩) 1 c) (hn : zs.length ≤ 1000000) (hB0 : B ≤ w0.heap.size) (hB : Below B w0 w1)
    (h : ∀ g cap w', ZRow w' B (.slice (some ⟨g, 0, none⟩) (zs.length + 1) cap) (zs ++ [z91]) → Below B w0 w' → zs.length + 1 ≤ cap → cap ≤ maxLen → wpList Tryz.prog ops Q rest (a.put o.dst (.slice (some ⟨g, 0, none⟩) (zs.length + 1) cap)) w') :
    wpList Tryz.prog ops Q (o :: rest) a (w1.alloc (.cells #[.int .i64 91, .string ⟨#[]⟩, .int .i64 0, .int .i64 0] ty)) := by
  have hsz := hB.size
  have hgr : w1.heap.size ≤ (w1.alloc (.cells #[.int .i64 91, .string ⟨#[]⟩, .int .i64 0, .int .i64 0] ty)).heap.size := by
    have := Below.size ((Below.refl w1.heap.size w1).alloc (Nat.le_refl _) (.cells #[.int .i64 91, .string ⟨#[]⟩, .int .i64 0, .int .i64 0] ty))
    exact this
  have hz2 : ZRow (w1.alloc (.cells #[.int .i64 91, .string ⟨#[]⟩, .int .i64 0, .int .i64 0] ty)) B (.slice A1 zs.length cap1) zs := World.ownsRow.alloc hz _
  refine wpList_zt hgd s x ho B (.slice A1 zs.length cap1) zs hs hz2 ⟨w1.heap.size, 0, none⟩ c z91 hx (World.news_of_block (cs := #[.int .i64 91, .string ⟨#[]⟩, .int .i64 0, .int .i64 0]) (t := ty) (fr := (0, 0)) (heap_alloc_new w1 _)) hn (by omega) _ rfl ?_
  intro g cap w' hz3 hg3
  obtain ⟨d1, d2⟩ := zrow_cap hz3 (by rw [List.length_append, List.length_singleton])
  exact h g cap w' hz3 ((hB.alloc (by omega) (.cells #[.int .i64 91, .string ⟨#[]⟩, .int .i64 0, .int .i64 0] ty)).grown hg3 (by omega) (fun g e => (World.ownsRow.lt hz g e).1)) d1 d2

theorem law_reads (A : Option Addr) (cap : Nat) (zs : List ZTok) (x : Int) (w : World) (hG : Gs w) (hnb : zs.length ≤ 4611686018427387904) (hv : ViewZ w w.heap.size A zs) (hts : ∀ z ∈ zs, z.2.1.size ≤ 9223372036854775807) :
    Calls Tryz.prog 3 #[.slice A zs.length cap, .int .i64 x] w fun e w' => e = .returned (.bool true) ∧ Below w.heap.size w w' := by
  by_cases hbig : 20000 < zs.length
  · have q1 : decide ((zs.length : Int) > 20000) = true := decide_eq_true (by omega)
    clear hv hts hG hbig hnb
    go_enter Tryz.func3, Tryz.ntmps3
    go_wp2_with fail
    go_ret
    exact ⟨rfl, Below.refl _ _⟩
  have q1 : decide ((zs.length : Int) > 20000) = false := decide_eq_false (by omega)
  have n1 : zs.length ≤ 20000 := by omega
  have n2 : (zs.length : Int) ≤ 20000 := by omega
  have n3 : (0 : Int) ≤ (zs.length : Int) := by omega
  have n4 : IntKind.i64.wrap (zs.length : Int) = (zs.length : Int) := by rw [IntKind.wrap_i64]; omega
  obtain ⟨R, hR⟩ : ∃ R, Sp.readE (zs.map ptZ) x = R := ⟨_, rfl⟩
  have HE := Lib.hid (fun (A' : Option Addr) (c : Nat) (W : World) (hW : Gs W) (hV : ViewZ W W.heap.size A' zs) => expr_read A' zs.length c zs x W hW rfl (by omega) hV hts)
  have HRF := Lib.hid (fun (A' : Option Addr) (c : Nat) (W : World) (hV : ViewZ W W.heap.size A' zs) => ref5_read A' zs.length c zs x W rfl (by omega) hV hts)
  rw [hR] at HE HRF
  have hnsl : ∀ q ns m, R = .ok q ns m → ns.length ≤ 1073741824 := by
    intro q ns m h
    have hTl : (zs.map ptZ).length = zs.length := List.length_map ..
    unfold Sp.readE at hR
    split at hR
    · rw [← hR] at h; cases h
    · rename_i hc
      have := Sp.read_bd (zs.map ptZ) x.toNat (by omega)
      rw [hR, h] at this
      obtain ⟨_, h2, _, h4⟩ := this
      simp at h4
      omega
  have HNS := Lib.hid hnsl
  have HG := Lib.hid hG
  have HV := Lib.hid hv
  clear hG hv hts hR hnsl hbig hnb
  cases R with
  | bad c q =>
    go_enter Tryz.func3, Tryz.ntmps3
    go_wp2_with (first
      | (at_builtin; go_loud (refine wpList_mark rfl _ _ rfl w.heap.size w w1 _ A1 cap1 1 zs rfl HZ1.out rfl (by omega) (Nat.le_refl _) HB1.out ?_); go_loud (intro g cap2 w2 hz2 hb2 d1 d2); go_loud (have d3 : (zs.length : Int) ≤ (cap2 : Int) := by omega); go_loud (have HZ2 := Lib.hid hz2; have HB2 := Lib.hid hb2; clear hz2))
      | (at_builtin; go_loud (refine wpList_all rfl _ _ rfl rfl A zs.length cap zs rfl rfl HV.out (by omega) ?_; intro v1 w1 hz1 hg1; have HB1 := Lib.hid ((Below.refl w.heap.size w).grown hg1 (Nat.le_refl _) (fun g e => by cases e)); obtain ⟨A1, cap1, rfl, _, _⟩ := zrow_view hz1; have HZ1 := Lib.hid hz1; clear hz1 hg1)))
    clear hb2
    have hb2 := HB2.out.size
    refine (HE.out (some ⟨g, 0, none⟩) cap2 w2 (HG.out.below HB2.out) (viewz_pre (zrow_at HZ2.out))).mono ?_
    rintro e w3 ⟨rfl, h3⟩
    have HB3 := Lib.hid (HB2.out.trans (h3.mono hb2))
    have HZ3 := Lib.hid (show ZRow w3 w.heap.size (.slice (some ⟨g, 0, none⟩) (zs.length + 1) cap2) (zs ++ [z91]) from ownsRow_below HZ2.out h3)
    clear h3 hb2
    go_wp2_with fail
    have hb3 := HB3.out.size
    refine (HRF.out A cap w3 ((HV.out.below HB3.out (Nat.le_refl _)).more hb3)).mono ?_
    rintro e w4 ⟨rfl, h4⟩
    have HB4 := Lib.hid (HB3.out.trans (h4.mono hb3))
    have HZ4 := Lib.hid (show ZRow w4 w.heap.size (.slice (some ⟨g, 0, none⟩) (zs.length + 1) cap2) (zs ++ [z91]) from ownsRow_below HZ3.out h4)
    have HAL := Lib.hid (fun W (h : w4 = W) => law5_alike (.slice none 0 0) (.slice none 0 0) 0 0 [] W (World.ownsRow_nil _ _ _ _) (World.ownsRow_nil _ _ _ _) (by simp))
    have q5 : ((q : Int) != (q : Int)) = false := by rw [bne_eq_false_iff_eq]
    have q6 : ((c : Int) != (c : Int)) = false := by rw [bne_eq_false_iff_eq]
    clear h4 hb3
    go_wp2_with fail
    refine (law5_num _ _).mono ?_
    rintro e w5 ⟨rfl, hw5⟩
    go_wp2_with fail
    refine (HAL.out _ hw5).mono ?_
    rintro e w6 ⟨rfl, h6⟩
    subst hw5
    have HB6 := Lib.hid (HB4.out.trans (h6.mono HB4.out.size))
    have HZ6 := Lib.hid (show ZRow w6 w.heap.size (.slice (some ⟨g, 0, none⟩) (zs.length + 1) cap2) (zs ++ [z91]) from ownsRow_below HZ4.out h6)
    clear h6 q5 q6
    go_wp2_with fail
    go_loopw [12] (fun v12 wr => ∃ i : Nat, v12 = .int .i64 (i : Int) ∧ i ≤ zs.length ∧ Below w6.heap.size w6 wr) (fun v12 _ => zs.length - (intOf v12).toNat)
    case atStart => exact ⟨0, rfl, by omega, Below.refl _ _⟩
    case round =>
      obtain ⟨i, rfl, hi, hb⟩ := hrel
      have HB := Lib.hid hb
      have hvr := (zrow_at HZ6.out).below hb (Nat.le_refl _)
      by_cases hlt : i < zs.length
      · have z1 : decide ((i : Int) < zs.length) = true := decide_eq_true (by omega)
        have z1b : decide (i < zs.length) = true := decide_eq_true hlt
        have z2 : (i : Int) < zs.length := by omega
        have z3 : (0 : Int) ≤ (i : Int) := by omega
        have z4 : (i : Int) < ((zs.length + 1 : Nat) : Int) := by omega
        have z5 : (i : Int) < (zs.length : Int) + 1 := by omega
        obtain ⟨z, hz⟩ : ∃ z, zs[i]? = some z := ⟨_, List.getElem?_eq_getElem hlt⟩
        obtain ⟨g0, o0, hA0, _, a0, a1, a2, a3⟩ := viewz_pre hvr i z hz
        injection hA0 with hA0
        injection hA0 with e1 e2 _
        subst e1 e2
        obtain ⟨g2, o2, rfl, hg2, y0, y1, y2, y3⟩ := HV.out i z hz
        have hbw := HB6.out.trans (hb.mono HB6.out.size)
        have x0 := (hbw.cell (p := ⟨g2, o2 + i * 4, none⟩) hg2).trans y0
        have x1 := (hbw.cell (p := ⟨g2, o2 + i * 4 + 1, none⟩) hg2).trans y1
        have x2 := (hbw.cell (p := ⟨g2, o2 + i * 4 + 2, none⟩) hg2).trans y2
        have x3 := (hbw.cell (p := ⟨g2, o2 + i * 4 + 3, none⟩) hg2).trans y3
        obtain ⟨k, t, l, c⟩ := z
        simp only [Nat.zero_add] at a0 a1 a2 a3 x0 x1 x2 x3
        clear y0 y1 y2 y3 hb hbw hvr hz hg2
        go_wp2_with fail
        go_quiet (fail)
        go_wp2_with fail
        go_roundw
        case rel => exact ⟨i + 1, by rfl, by omega, below_drewN' HB.out _⟩
        case measure => simp [intOf]; omega
      · have z1 : decide ((i : Int) < zs.length) = false := decide_eq_false (by omega)
        have z1b : decide (i < zs.length) = false := decide_eq_false hlt
        have z4 : (zs.length : Int) < ((zs.length + 1 : Nat) : Int) := by omega
        have z5 : (zs.length : Int) < (zs.length : Int) + 1 := by omega
        obtain ⟨g0, o0, hA0, _, a0, a1, a2, a3⟩ := hvr zs.length z91 (by simp)
        injection hA0 with hA0
        injection hA0 with e1 e2 _
        subst e1 e2
        simp only [Nat.zero_add, z91] at a0 a1 a2 a3
        have hfin := HB6.out.trans (hb.mono HB6.out.size)
        have HFIN := Lib.hid hfin
        clear hb hvr hlt hi hfin
        go_wp2_with fail
        go_ret
        exact ⟨by rfl, HFIN.out⟩
  | ok q ns m =>
    go_enter Tryz.func3, Tryz.ntmps3
    go_wp2_with (first
      | (at_builtin; go_loud (refine wpList_mark rfl _ _ rfl w.heap.size w w1 _ A1 cap1 1 zs rfl HZ1.out rfl (by omega) (Nat.le_refl _) HB1.out ?_); go_loud (intro g cap2 w2 hz2 hb2 d1 d2); go_loud (have d3 : (zs.length : Int) ≤ (cap2 : Int) := by omega); go_loud (have HZ2 := Lib.hid hz2; have HB2 := Lib.hid hb2; clear hz2))
      | (at_builtin; go_loud (refine wpList_all rfl _ _ rfl rfl A zs.length cap zs rfl rfl HV.out (by omega) ?_; intro v1 w1 hz1 hg1; have HB1 := Lib.hid ((Below.refl w.heap.size w).grown hg1 (Nat.le_refl _) (fun g e => by cases e)); obtain ⟨A1, cap1, rfl, _, _⟩ := zrow_view hz1; have HZ1 := Lib.hid hz1; clear hz1 hg1)))
    clear hb2
    have hb2 := HB2.out.size
    refine (HE.out (some ⟨g, 0, none⟩) cap2 w2 (HG.out.below HB2.out) (viewz_pre (zrow_at HZ2.out))).mono ?_
    rintro e w3 ⟨va, rfl, hna, h3⟩
    have HB3 := Lib.hid (HB2.out.trans (h3.mono hb2))
    have HZ3 := Lib.hid (show ZRow w3 w.heap.size (.slice (some ⟨g, 0, none⟩) (zs.length + 1) cap2) (zs ++ [z91]) from ownsRow_below HZ2.out h3)
    obtain ⟨Aa, ca, rfl, _⟩ := nds_form hna
    have HNA := Lib.hid hna
    clear hna
    clear h3 hb2
    go_wp2_with fail
    have hb3 := HB3.out.size
    refine (HRF.out A cap w3 ((HV.out.below HB3.out (Nat.le_refl _)).more hb3)).mono ?_
    rintro e w4 ⟨vb, rfl, hnb, h4⟩
    have HB4 := Lib.hid (HB3.out.trans (h4.mono hb3))
    have HZ4 := Lib.hid (show ZRow w4 w.heap.size (.slice (some ⟨g, 0, none⟩) (zs.length + 1) cap2) (zs ++ [z91]) from ownsRow_below HZ3.out h4)
    have HNA4 := Lib.hid (nds_below HNA.out h4)
    obtain ⟨Ab, cb, rfl, _⟩ := nds_form hnb
    have HNB := Lib.hid hnb
    clear hnb
    have HAL := Lib.hid (fun W (h : w4 = W) => law5_alike _ _ _ _ ns W (h ▸ HNA4.out) (h ▸ HNB.out) (HNS.out _ _ _ rfl))
    have q5 : ((q : Int) != (q : Int)) = false := by rw [bne_eq_false_iff_eq]
    clear h4 hb3
    go_wp2_with fail
    refine (law5_num _ _).mono ?_
    rintro e w5 ⟨rfl, hw5⟩
    go_wp2_with fail
    refine (HAL.out _ hw5).mono ?_
    rintro e w6 ⟨rfl, h6⟩
    subst hw5
    have HB6 := Lib.hid (HB4.out.trans (h6.mono HB4.out.size))
    have HZ6 := Lib.hid (show ZRow w6 w.heap.size (.slice (some ⟨g, 0, none⟩) (zs.length + 1) cap2) (zs ++ [z91]) from ownsRow_below HZ4.out h6)
    clear h6 q5
    go_wp2_with fail
    go_loopw [12] (fun v12 wr => ∃ i : Nat, v12 = .int .i64 (i : Int) ∧ i ≤ zs.length ∧ Below w6.heap.size w6 wr) (fun v12 _ => zs.length - (intOf v12).toNat)
    case atStart => exact ⟨0, rfl, by omega, Below.refl _ _⟩
    case round =>
      obtain ⟨i, rfl, hi, hb⟩ := hrel
      have HB := Lib.hid hb
      have hvr := (zrow_at HZ6.out).below hb (Nat.le_refl _)
      by_cases hlt : i < zs.length
      · have z1 : decide ((i : Int) < zs.length) = true := decide_eq_true (by omega)
        have z1b : decide (i < zs.length) = true := decide_eq_true hlt
        have z2 : (i : Int) < zs.length := by omega
        have z3 : (0 : Int) ≤ (i : Int) := by omega
        have z4 : (i : Int) < ((zs.length + 1 : Nat) : Int) := by omega
        have z5 : (i : Int) < (zs.length : Int) + 1 := by omega
        obtain ⟨z, hz⟩ : ∃ z, zs[i]? = some z := ⟨_, List.getElem?_eq_getElem hlt⟩
        obtain ⟨g0, o0, hA0, _, a0, a1, a2, a3⟩ := viewz_pre hvr i z hz
        injection hA0 with hA0
        injection hA0 with e1 e2 _
        subst e1 e2
        obtain ⟨g2, o2, rfl, hg2, y0, y1, y2, y3⟩ := HV.out i z hz
        have hbw := HB6.out.trans (hb.mono HB6.out.size)
        have x0 := (hbw.cell (p := ⟨g2, o2 + i * 4, none⟩) hg2).trans y0
        have x1 := (hbw.cell (p := ⟨g2, o2 + i * 4 + 1, none⟩) hg2).trans y1
        have x2 := (hbw.cell (p := ⟨g2, o2 + i * 4 + 2, none⟩) hg2).trans y2
        have x3 := (hbw.cell (p := ⟨g2, o2 + i * 4 + 3, none⟩) hg2).trans y3
        obtain ⟨k, t, l, c⟩ := z
        simp only [Nat.zero_add] at a0 a1 a2 a3 x0 x1 x2 x3
        clear y0 y1 y2 y3 hb hbw hvr hz hg2
        go_wp2_with fail
        go_quiet (fail)
        go_wp2_with fail
        go_roundw
        case rel => exact ⟨i + 1, by rfl, by omega, below_drewN' HB.out _⟩
        case measure => simp [intOf]; omega
      · have z1 : decide ((i : Int) < zs.length) = false := decide_eq_false (by omega)
        have z1b : decide (i < zs.length) = false := decide_eq_false hlt
        have z4 : (zs.length : Int) < ((zs.length + 1 : Nat) : Int) := by omega
        have z5 : (zs.length : Int) < (zs.length : Int) + 1 := by omega
        obtain ⟨g0, o0, hA0, _, a0, a1, a2, a3⟩ := hvr zs.length z91 (by simp)
        injection hA0 with hA0
        injection hA0 with e1 e2 _
        subst e1 e2
        simp only [Nat.zero_add, z91] at a0 a1 a2 a3
        have hfin := HB6.out.trans (hb.mono HB6.out.size)
        have HFIN := Lib.hid hfin
        clear hb hvr hlt hi hfin
        go_wp2_with fail
        go_ret
        exact ⟨by rfl, HFIN.out⟩
end Go.Proofs.YtdmpapoabeljfaaGreatDoor
