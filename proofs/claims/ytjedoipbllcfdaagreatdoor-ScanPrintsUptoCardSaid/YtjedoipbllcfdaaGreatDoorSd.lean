/-
  THE WALK of scan.Print (chapter 3).
-/
import Derived.Test.YtjedoipbllcfdaaGreatDoorSc
import Derived.Test.YtjedoipbllcfdaaGreatDoorRf
set_option linter.unusedVariables false
set_option linter.unusedSimpArgs false
set_option maxRecDepth 100000
set_option maxHeartbeats 8000000
namespace Go.Proofs.YtjedoipbllcfdaaGreatDoor
open Go.RowKit

/-- A token's four cells. -/
def ZAt (w : World) (g x : Nat) (z : ZTok) : Prop :=
  w.cell? ⟨g, x, none⟩ = some (.int .i64 z.1) ∧ w.cell? ⟨g, x + 1, none⟩ = some (.string z.2.1) ∧ w.cell? ⟨g, x + 2, none⟩ = some (.int .i64 z.2.2.1) ∧ w.cell? ⟨g, x + 3, none⟩ = some (.int .i64 z.2.2.2)
theorem ZAt.below {w w' : World} {B g x : Nat} {z : ZTok} (h : ZAt w g x z) (hb : Below B w w') (hg : g < B) : ZAt w' g x z :=
  ⟨(hb.cell (p := ⟨g, x, none⟩) hg).trans h.1, (hb.cell (p := ⟨g, x + 1, none⟩) hg).trans h.2.1, (hb.cell (p := ⟨g, x + 2, none⟩) hg).trans h.2.2.1, (hb.cell (p := ⟨g, x + 3, none⟩) hg).trans h.2.2.2⟩
/-- A slice, wherever it lies, that reads as these tokens. -/
def ViewZ (w : World) (H : Nat) (A : Option Addr) (zs : List ZTok) : Prop :=
  ∀ i z, zs[i]? = some z → ∃ g o, A = some ⟨g, o, none⟩ ∧ g < H ∧ ZAt w g (o + i * 4) z
theorem ViewZ.below {w w' : World} {H B : Nat} {A : Option Addr} {zs : List ZTok} (h : ViewZ w H A zs) (hb : Below B w w') (hH : H ≤ B) : ViewZ w' H A zs := by
  intro i z hz
  obtain ⟨g, o, h1, h2, h3⟩ := h i z hz
  exact ⟨g, o, h1, h2, h3.below hb (by omega)⟩
theorem ViewZ.more {w : World} {H H' : Nat} {A : Option Addr} {zs : List ZTok} (h : ViewZ w H A zs) (hH : H ≤ H') : ViewZ w H' A zs := by
  intro i z hz
  obtain ⟨g, o, h1, h2, h3⟩ := h i z hz
  exact ⟨g, o, h1, by omega, h3⟩
/-- A token of Scan, so read. -/
def zOf (t : Sp.Tok) : ZTok := ((t.1 : Nat), ⟨t.2.1.toArray⟩, (t.2.2.1 : Nat), (t.2.2.2 : Nat))
theorem View.toZ {w : World} {H : Nat} {A : Option Addr} {ts : List Sp.Tok} (h : View w H A ts) : ViewZ w H A (ts.map zOf) := by
  intro i z hz
  rw [List.getElem?_map] at hz
  obtain ⟨t, ht, rfl⟩ := Option.map_eq_some_iff.1 hz
  obtain ⟨g, h1, h2, h3⟩ := h i t ht
  refine ⟨g, 0, h1, h2, ?_⟩
  unfold ZAt
  rw [Nat.zero_add]
  exact h3
theorem ptZ_zOf (t : Sp.Tok) : ptZ (zOf t) = Sp.ptOf t := rfl

def zCells (z : ZTok) : Array Value := #[.int .i64 z.1, .string z.2.1, .int .i64 z.2.2.1, .int .i64 z.2.2.2]
theorem blk_z {w : World} {g : Nat} {t : TypeId} {z : ZTok} (h : Blk w g t (zCells z)) : ZAt w g 0 z := ⟨h.cell 0, h.cell 1, h.cell 2, h.cell 3⟩

theorem bld_below {w w' : World} {B b : Nat} {l : List UInt8} (h : Bld w B b l) (hb : Below w.heap.size w w') : Bld w' B b l := by
  have key : ∀ p, Lib.BuilderAt 44 5 B b p (Lib.byteCells l) w → Lib.BuilderAt 44 5 B b p (Lib.byteCells l) w' := by
    intro p hp
    have hlt := Lib.BuilderAt.lt hp
    obtain ⟨h1, v, h2, h3, h4⟩ := hp
    refine ⟨h1, v, (hb.block b hlt).trans h2, World.ownsRow.kept h3 (only_of_below hb none) ?_, h4⟩
    rcases hv : v.ownBlock with _ | g
    · exact Or.inl rfl
    · exact Or.inr (by simp)
  rcases h with h | h
  · exact Or.inl (key _ h)
  · exact Or.inr (key _ h)
theorem bld_lt {w : World} {B b : Nat} {l : List UInt8} (h : Bld w B b l) : B ≤ b ∧ b < w.heap.size := by
  rcases h with h | h
  · exact ⟨h.1, Lib.BuilderAt.lt h⟩
  · exact ⟨h.1, Lib.BuilderAt.lt h⟩
theorem bldU_bld {w : World} {B b : Nat} {l : List UInt8} (h : BldU w B b l) : Bld w B b l := Or.inr h
/-- A builder that has just been made. -/
theorem bld_new (w : World) {B : Nat} (hB : B ≤ w.heap.size) : Bld (w.alloc (.cells #[.pointer none, .slice none 0 0] 44)) B w.heap.size [] :=
  Or.inl ⟨hB, .slice none 0 0, heap_alloc_new w _, World.ownsRow_nil _ _ _ _, by show (none : Option Nat) ≠ _; simp⟩

def PrintEnd (ts : List Sp.Pt) (W : World) (e : Ending) (w' : World) : Prop :=
  e = .returned (.tuple #[.string ⟨(Sp.printV ts).1.toArray⟩, .int .i64 ((Sp.printV ts).2 : Nat)]) ∧ Below W.heap.size W w'
theorem PrintEnd_of {ts : List Sp.Pt} {W w' : World} {l : List UInt8} {c : Nat} (h : Sp.printV ts = (l, c)) {s : ByteArray} {x : Int} (hs : s = ⟨l.toArray⟩) (hx : x = c) (hb : Below W.heap.size W w') :
    PrintEnd ts W (.returned (.tuple #[.string s, .int .i64 x])) w' := by
  subst hs; subst hx
  unfold PrintEnd
  rw [h]
  exact ⟨rfl, hb⟩

theorem scan_print (A : Option Addr) (cap n : Nat) (zs : List ZTok) (w : World) (hG : Gs w) (hn : zs.length = n) (hnb : n ≤ 4611686018427387904) (hv : ViewZ w w.heap.size A zs) (hts : ∀ z ∈ zs, z.2.1.size ≤ 1073741824) :
    Calls Tryz.prog 9 #[.slice A n cap] w (PrintEnd (zs.map ptZ) w) := by
  obtain ⟨pts, hpts⟩ : ∃ pts, zs.map ptZ = pts := ⟨_, rfl⟩
  rw [hpts]
  have hpl : pts.length = n := by rw [← hpts, List.length_map, hn]
  by_cases h1 : 16384 < n
  · have hv2 : Sp.printV pts = ([], 2) := by unfold Sp.printV; rw [if_pos (by omega)]
    have HU := Lib.hid hv2
    have q1 : decide ((n : Int) > 16384) = true := decide_eq_true (by omega)
    clear hv2 hG hv hts hn hpts hpl
    go_enter Tryz.func9, Tryz.ntmps9
    go_wp2
    go_ret2
    exact PrintEnd_of HU.out rfl rfl (Below.refl _ _)
  have q1 : decide ((n : Int) > 16384) = false := decide_eq_false (by omega)
  have hn2 : n ≤ 16384 := by omega
  have hpz : ∀ (i : Nat) (z : ZTok), zs[i]? = some z → pts[i]? = some (ptZ z) := by
    intro i z hz
    rw [← hpts, List.getElem?_map, hz]
    rfl
  have hpd : ∀ (i : Nat) (z : ZTok), zs[i]? = some z → pts.drop i = ptZ z :: pts.drop (i + 1) := by
    intro i z hz
    have := hpz i z hz
    have hlt : i < pts.length := (List.getElem?_eq_some_iff.1 this).1
    rw [List.drop_eq_getElem_cons hlt, (List.getElem?_eq_some_iff.1 this).2]
  have hPV : Sp.printV pts = if Sp.validV Sp.p0 pts = false then ([], 35) else if 16384 < (Sp.textV Sp.p0 pts).length then ([], 2) else (Sp.textV Sp.p0 pts, 0) := by
    unfold Sp.printV
    rw [if_neg (by omega)]
  have HPV := Lib.hid hPV
  have HPZ := Lib.hid hpz
  have HPD := Lib.hid hpd
  have HN := Lib.hid hn
  have HPL := Lib.hid hpl
  have HV := Lib.hid hv
  have HG := Lib.hid hG
  have HTS := Lib.hid hts
  clear hPV hpz hpd hn hpl hv hG hts h1 hpts
  go_enter Tryz.func9, Tryz.ntmps9
  go_wp2_with fail
  go_loopw [5, 7, 17] (fun v5 _ v17 wr => ∃ (i sz : Nat) (last : ZTok), v5 = .int .i64 (sz : Int) ∧ v17 = .int .i64 (i : Int) ∧ i ≤ n ∧ sz ≤ i * (1073741824 + 1) ∧ Blk wr w.heap.size 25 (zCells last) ∧ Below w.heap.size w wr ∧ Hid (Sp.validV Sp.p0 pts = Sp.validV (ptZ last) (pts.drop i) ∧ sz + (Sp.textV (ptZ last) (pts.drop i)).length = (Sp.textV Sp.p0 pts).length)) (fun _ _ v17 _ => n - (intOf v17).toNat)
  case atStart => exact ⟨0, 0, (1, ⟨#[]⟩, 0, 0), rfl, rfl, by omega, by omega, Blk.new w _ _, (Below.refl _ _).alloc (Nat.le_refl _) _, by rw [List.drop_zero]; rfl, by rw [List.drop_zero, Nat.zero_add]; rfl⟩
  case round =>
    obtain ⟨i, sz, last, rfl, rfl, hi, hsz, hblk, hb, HF⟩ := hrel
    have HBLK := Lib.hid hblk
    have HB := Lib.hid hb
    have hBw := hb.size
    have hlt0 := hblk.lt
    clear hblk hb
    by_cases hlt : i < n
    · have q2 : decide ((i : Int) < n) = true := decide_eq_true (by omega)
      have p1 : (i : Int) < n := by omega
      have p2 : (0 : Int) ≤ (i : Int) := by omega
      obtain ⟨z, hz⟩ : ∃ z, zs[i]? = some z := ⟨_, List.getElem?_eq_getElem (by rw [HN.out]; exact hlt)⟩
      obtain ⟨g, o, rfl, hg, hza⟩ := HV.out i z hz
      obtain ⟨a0, a1, a2, a3⟩ := hza.below HB.out hg
      have hzs := HTS.out z (List.mem_of_getElem? hz)
      have hd := HPD.out i z hz
      have HD := Lib.hid hd
      obtain ⟨k, t, l, c⟩ := z
      obtain ⟨lk, lt, ll, lc⟩ := last
      simp only [] at a0 a1 a2 a3 hzs
      obtain ⟨W5, hW5⟩ : ∃ W5, wr.alloc (.cells #[.int .i64 k, .string t, .int .i64 l, .int .i64 c] 25) = W5 := ⟨_, rfl⟩
      have hB5 : Blk W5 wr.heap.size 25 (zCells (k, t, l, c)) := by rw [← hW5]; exact Blk.new wr _ _
      have hL5 : Blk W5 w.heap.size 25 (zCells (lk, lt, ll, lc)) := by rw [← hW5]; exact HBLK.out.alloc _
      have hb5 : Below w.heap.size w W5 := by rw [← hW5]; exact HB.out.alloc hBw _
      have hz5 : W5.heap.size = wr.heap.size + 1 := by rw [← hW5]; simp
      have hG5 : Gs W5 := HG.out.below hb5
      have hprt := scan_printable k l c t W5 hG5 hzs
      have hspc := fun W => scan_spaced lk ll lc lt k l c t W
      have hpt : ptZ (k, t, l, c) = (k, t.data.toList) := rfl
      have hlpt : ptZ (lk, lt, ll, lc) = (lk, lt.data.toList) := rfl
      rw [hpt] at hd
      have HW5 := Lib.hid hW5
      have HB5 := Lib.hid hB5
      have HL5 := Lib.hid hL5
      have Hb5 := Lib.hid hb5
      have HSP := Lib.hid hspc
      obtain ⟨ok, hok⟩ : ∃ ok, Sp.okT (k, t.data.toList) = ok := ⟨_, rfl⟩
      rw [hok] at hprt
      have HPR := Lib.hid hprt
      have HOK := Lib.hid hok
      have hf := HF.out
      rw [hd, hlpt, Sp.validV, Sp.textV, hok] at hf
      have HF1 := Lib.hid hf
      clear hz hza hd hW5 hB5 hL5 hb5 hG5 hprt hspc hpt hlpt hok hf HF
      have after : ∀ w6, Below W5.heap.size W5 w6 → w6.cell? ⟨wr.heap.size, 0, none⟩ = some (.int .i64 k) ∧ w6.cell? ⟨wr.heap.size, 1, none⟩ = some (.string t) ∧ w6.cell? ⟨wr.heap.size, 2, none⟩ = some (.int .i64 l) ∧ w6.cell? ⟨wr.heap.size, 3, none⟩ = some (.int .i64 c) ∧
          w6.cell? ⟨w.heap.size, 0, none⟩ = some (.int .i64 lk) ∧ w6.cell? ⟨w.heap.size, 1, none⟩ = some (.string lt) ∧ w6.cell? ⟨w.heap.size, 2, none⟩ = some (.int .i64 ll) ∧ w6.cell? ⟨w.heap.size, 3, none⟩ = some (.int .i64 lc) := by
        intro w6 hb6
        have x1 := HB5.out.below hb6 (by omega)
        have x2 := HL5.out.below hb6 (by omega)
        exact ⟨x1.cell 0, x1.cell 1, x1.cell 2, x1.cell 3, x2.cell 0, x2.cell 1, x2.cell 2, x2.cell 3⟩
      have HAF := Lib.hid after
      obtain ⟨d0, d1, d2, d3, l0, l1, l2, l3⟩ := after W5 (Below.refl _ _)
      clear after
      cases ok with
      | false =>
        have hR : Sp.printV pts = ([], 35) := by
          rw [HPV.out, HF1.out.1]
          simp
        have HRR := Lib.hid hR
        clear hR HF1
        go_wp2_with fail
        rw [HW5.out]
        go_wp2_with (go_at_call 17; refine HPR.out.mono ?_; rintro e w6 ⟨rfl, hb6⟩)
        go_ret2
        exact PrintEnd_of HRR.out rfl rfl (Hb5.out.trans (hb6.mono (by omega)))
      | true =>
        by_cases hbad : k = 1 ∧ lk = 1
        · have hR : Sp.printV pts = ([], 35) := by
            rw [HPV.out, HF1.out.1, hbad.1, hbad.2]
            simp
          have HRR := Lib.hid hR
          have q3 : ((k : Int) == 1) = true := beq_iff_eq.2 hbad.1
          have q4 : ((lk : Int) == 1) = true := beq_iff_eq.2 hbad.2
          clear hR HF1 hbad
          go_wp2_with fail
          rw [HW5.out]
          go_wp2_with (go_at_call 17; refine HPR.out.mono ?_; rintro e w6 ⟨rfl, hb6⟩; obtain ⟨d0, d1, d2, d3, l0, l1, l2, l3⟩ := HAF.out w6 hb6)
          go_ret2
          exact PrintEnd_of HRR.out rfl rfl (Hb5.out.trans (hb6.mono (by omega)))
        · have hnb : (k == 1 && lk == 1) = false := by
            rw [Bool.and_eq_false_iff, beq_eq_false_iff_ne, beq_eq_false_iff_ne]
            rcases Decidable.em (k = 1) with h | h
            · exact Or.inr (fun h2 => hbad ⟨h, h2⟩)
            · exact Or.inl h
          obtain ⟨spb, hspb⟩ : ∃ spb, Sp.spacedV (lk, lt.data.toList) (k, t.data.toList) = spb := ⟨_, rfl⟩
          have hspc := HSP.out
          simp only [hspb] at hspc
          have HSP2 := Lib.hid hspc
          have hf := HF1.out
          rw [hnb, hspb] at hf
          have hsl := Lib.size_eq t
          have HNX : Hid (∀ sz2, sz2 = sz + (if spb = true then 1 else 0) + t.size → Sp.validV Sp.p0 pts = Sp.validV (ptZ (k, t, l, c)) (pts.drop (i + 1)) ∧ sz2 + (Sp.textV (ptZ (k, t, l, c)) (pts.drop (i + 1))).length = (Sp.textV Sp.p0 pts).length) := by
            rintro sz2 rfl
            refine ⟨by rw [hf.1]; simp only [Bool.true_and, Bool.not_false]; rfl, ?_⟩
            rw [← hf.2]
            show sz + _ + t.size + (Sp.textV (k, t.data.toList) (pts.drop (i + 1))).length = sz + ((if spb = true then [(32 : UInt8)] else []) ++ t.data.toList ++ Sp.textV (k, t.data.toList) (pts.drop (i + 1))).length
            rw [List.length_append, List.length_append, hsl]
            cases spb
            · simp only [Bool.false_eq_true, if_false, List.length_nil]
              omega
            · simp only [if_true, List.length_singleton]
              omega
          clear hspc hf HF1 hsl HSP hspb
          by_cases hk1 : k = 1
          · have q3 : ((k : Int) == 1) = true := beq_iff_eq.2 hk1
            have q4 : ((lk : Int) == 1) = false := beq_eq_false_iff_ne.2 (fun h => hbad ⟨hk1, h⟩)
            clear hk1 hbad hnb
            cases spb with
            | true =>
              go_wp2_with fail
              rw [HW5.out]
              go_wp2_with (first
                | (go_at_call 17; refine HPR.out.mono ?_; rintro e w6 ⟨rfl, hb6⟩; have hsz6 := hb6.size; obtain ⟨d0, d1, d2, d3, l0, l1, l2, l3⟩ := HAF.out w6 hb6)
                | (go_at_call 18; refine (HSP2.out _).mono ?_; rintro e w7 ⟨rfl, hb7⟩; have hb57 := hb6.trans (hb7.mono hsz6); have Hb57 := Lib.hid hb57; have hsz7 := hb7.size; obtain ⟨d0, d1, d2, d3, l0, l1, l2, l3⟩ := HAF.out w7 hb57; have hL7 := HL5.out.below hb57 (by omega); have f0 := hL7.frozen 0; have f1 := hL7.frozen 1; have f2 := hL7.frozen 2; have f3 := hL7.frozen 3; have HL7 := Lib.hid hL7; clear hb57 hL7))
              go_roundw
              case rel => exact ⟨i + 1, sz + 1 + t.size, (k, t, l, c), by first | rfl | simp, by rfl, by omega, by omega, (((HL7.out.set_ 0 (.int .i64 k)).set_ 1 (.string t)).set_ 2 (.int .i64 l)).set_ 3 (.int .i64 c), ((((Hb5.out.trans (Hb57.out.mono (by omega))).setCell (p := ⟨w.heap.size, 0, none⟩) (Nat.le_refl _) (.int .i64 k)).setCell (p := ⟨w.heap.size, 1, none⟩) (Nat.le_refl _) (.string t)).setCell (p := ⟨w.heap.size, 2, none⟩) (Nat.le_refl _) (.int .i64 l)).setCell (p := ⟨w.heap.size, 3, none⟩) (Nat.le_refl _) (.int .i64 c), HNX.out _ (by simp)⟩
              case measure => simp [intOf]; omega
            | false =>
              go_wp2_with fail
              rw [HW5.out]
              go_wp2_with (first
                | (go_at_call 17; refine HPR.out.mono ?_; rintro e w6 ⟨rfl, hb6⟩; have hsz6 := hb6.size; obtain ⟨d0, d1, d2, d3, l0, l1, l2, l3⟩ := HAF.out w6 hb6)
                | (go_at_call 18; refine (HSP2.out _).mono ?_; rintro e w7 ⟨rfl, hb7⟩; have hb57 := hb6.trans (hb7.mono hsz6); have Hb57 := Lib.hid hb57; have hsz7 := hb7.size; obtain ⟨d0, d1, d2, d3, l0, l1, l2, l3⟩ := HAF.out w7 hb57; have hL7 := HL5.out.below hb57 (by omega); have f0 := hL7.frozen 0; have f1 := hL7.frozen 1; have f2 := hL7.frozen 2; have f3 := hL7.frozen 3; have HL7 := Lib.hid hL7; clear hb57 hL7))
              go_roundw
              case rel => exact ⟨i + 1, sz + t.size, (k, t, l, c), by first | rfl | simp, by rfl, by omega, by omega, (((HL7.out.set_ 0 (.int .i64 k)).set_ 1 (.string t)).set_ 2 (.int .i64 l)).set_ 3 (.int .i64 c), ((((Hb5.out.trans (Hb57.out.mono (by omega))).setCell (p := ⟨w.heap.size, 0, none⟩) (Nat.le_refl _) (.int .i64 k)).setCell (p := ⟨w.heap.size, 1, none⟩) (Nat.le_refl _) (.string t)).setCell (p := ⟨w.heap.size, 2, none⟩) (Nat.le_refl _) (.int .i64 l)).setCell (p := ⟨w.heap.size, 3, none⟩) (Nat.le_refl _) (.int .i64 c), HNX.out _ (by simp)⟩
              case measure => simp [intOf]; omega
          · have q3 : ((k : Int) == 1) = false := beq_eq_false_iff_ne.2 hk1
            clear hk1 hbad hnb
            cases spb with
            | true =>
              go_wp2_with fail
              rw [HW5.out]
              go_wp2_with (first
                | (go_at_call 17; refine HPR.out.mono ?_; rintro e w6 ⟨rfl, hb6⟩; have hsz6 := hb6.size; obtain ⟨d0, d1, d2, d3, l0, l1, l2, l3⟩ := HAF.out w6 hb6)
                | (go_at_call 18; refine (HSP2.out _).mono ?_; rintro e w7 ⟨rfl, hb7⟩; have hb57 := hb6.trans (hb7.mono hsz6); have Hb57 := Lib.hid hb57; have hsz7 := hb7.size; obtain ⟨d0, d1, d2, d3, l0, l1, l2, l3⟩ := HAF.out w7 hb57; have hL7 := HL5.out.below hb57 (by omega); have f0 := hL7.frozen 0; have f1 := hL7.frozen 1; have f2 := hL7.frozen 2; have f3 := hL7.frozen 3; have HL7 := Lib.hid hL7; clear hb57 hL7))
              go_roundw
              case rel => exact ⟨i + 1, sz + 1 + t.size, (k, t, l, c), by first | rfl | simp, by rfl, by omega, by omega, (((HL7.out.set_ 0 (.int .i64 k)).set_ 1 (.string t)).set_ 2 (.int .i64 l)).set_ 3 (.int .i64 c), ((((Hb5.out.trans (Hb57.out.mono (by omega))).setCell (p := ⟨w.heap.size, 0, none⟩) (Nat.le_refl _) (.int .i64 k)).setCell (p := ⟨w.heap.size, 1, none⟩) (Nat.le_refl _) (.string t)).setCell (p := ⟨w.heap.size, 2, none⟩) (Nat.le_refl _) (.int .i64 l)).setCell (p := ⟨w.heap.size, 3, none⟩) (Nat.le_refl _) (.int .i64 c), HNX.out _ (by simp)⟩
              case measure => simp [intOf]; omega
            | false =>
              go_wp2_with fail
              rw [HW5.out]
              go_wp2_with (first
                | (go_at_call 17; refine HPR.out.mono ?_; rintro e w6 ⟨rfl, hb6⟩; have hsz6 := hb6.size; obtain ⟨d0, d1, d2, d3, l0, l1, l2, l3⟩ := HAF.out w6 hb6)
                | (go_at_call 18; refine (HSP2.out _).mono ?_; rintro e w7 ⟨rfl, hb7⟩; have hb57 := hb6.trans (hb7.mono hsz6); have Hb57 := Lib.hid hb57; have hsz7 := hb7.size; obtain ⟨d0, d1, d2, d3, l0, l1, l2, l3⟩ := HAF.out w7 hb57; have hL7 := HL5.out.below hb57 (by omega); have f0 := hL7.frozen 0; have f1 := hL7.frozen 1; have f2 := hL7.frozen 2; have f3 := hL7.frozen 3; have HL7 := Lib.hid hL7; clear hb57 hL7))
              go_roundw
              case rel => exact ⟨i + 1, sz + t.size, (k, t, l, c), by first | rfl | simp, by rfl, by omega, by omega, (((HL7.out.set_ 0 (.int .i64 k)).set_ 1 (.string t)).set_ 2 (.int .i64 l)).set_ 3 (.int .i64 c), ((((Hb5.out.trans (Hb57.out.mono (by omega))).setCell (p := ⟨w.heap.size, 0, none⟩) (Nat.le_refl _) (.int .i64 k)).setCell (p := ⟨w.heap.size, 1, none⟩) (Nat.le_refl _) (.string t)).setCell (p := ⟨w.heap.size, 2, none⟩) (Nat.le_refl _) (.int .i64 l)).setCell (p := ⟨w.heap.size, 3, none⟩) (Nat.le_refl _) (.int .i64 c), HNX.out _ (by simp)⟩
              case measure => simp [intOf]; omega
    · have q2 : decide ((i : Int) < n) = false := decide_eq_false (by omega)
      have hin : i = n := by omega
      obtain ⟨hV, hT⟩ := HF.out
      rw [List.drop_eq_nil_of_le (by rw [HPL.out]; omega)] at hV hT
      simp only [Sp.validV, Sp.textV, List.length_nil, Nat.add_zero] at hV hT
      obtain ⟨lk, lt, ll, lc⟩ := last
      have l0 : wr.cell? ⟨w.heap.size, 0, none⟩ = some (.int .i64 lk) := HBLK.out.cell 0
      by_cases hl1 : lk = 1
      · have q3 : ((lk : Int) != 1) = false := by rw [bne_eq_false_iff_eq]; exact hl1
        have hVt : Sp.validV Sp.p0 pts = true := by rw [hV]; exact beq_iff_eq.2 hl1
        by_cases hbig : 16384 < sz
        · have hR : Sp.printV pts = ([], 2) := by
            rw [HPV.out, hVt, if_neg (by simp), if_pos (by omega)]
          have HRR := Lib.hid hR
          have q4 : decide ((sz : Int) > 16384) = true := decide_eq_true (by omega)
          clear hR hV hT hVt HF hl1 hin
          go_wp2_with fail
          go_ret2
          exact PrintEnd_of HRR.out rfl rfl HB.out
        · have q4 : decide ((sz : Int) > 16384) = false := decide_eq_false (by omega)
          have hR : Sp.printV pts = (Sp.textV Sp.p0 pts, 0) := by
            rw [HPV.out, hVt, if_neg (by simp), if_neg (by omega)]
          have hlen : (Sp.textV Sp.p0 pts).length ≤ 16384 := by omega
          have HRR := Lib.hid hR
          have HLEN := Lib.hid hlen
          have hBN := bld_new wr (B := w.heap.size) hBw
          have hb9 : Below w.heap.size w (wr.alloc (.cells #[.pointer none, .slice none 0 0] 44)) := HB.out.alloc hBw _
          have HBN := Lib.hid hBN
          have HB9 := Lib.hid hb9
          clear hR hV hT hVt HF hl1 hlen hBN hb9 hin
          obtain ⟨wo, rfl⟩ : ∃ wo : World, wo = wr := ⟨_, rfl⟩
          go_wp2_with fail
          go_loopw [9, 10, 53] (fun _ _ v53 wr2 => ∃ i : Nat, v53 = .int .i64 (i : Int) ∧ i ≤ n ∧ Bld wr2 w.heap.size wo.heap.size (Sp.textV Sp.p0 (pts.take i)) ∧ Below w.heap.size w wr2) (fun _ _ v53 _ => n - (intOf v53).toNat)
          case atStart => exact ⟨0, rfl, by omega, by rw [List.take_zero]; exact HBN.out, HB9.out⟩
          case round =>
            obtain ⟨i, rfl, hi, hbl, hb⟩ := hrel
            have HBL := Lib.hid hbl
            have HB2 := Lib.hid hb
            have hbw2 := hb.size
            have hlt9 := (bld_lt hbl).2
            clear hbl hb
            by_cases hlt : i < n
            · have q2 : decide ((i : Int) < n) = true := decide_eq_true (by omega)
              have p1 : (i : Int) < n := by omega
              have p2 : (0 : Int) ≤ (i : Int) := by omega
              obtain ⟨z, hz⟩ : ∃ z, zs[i]? = some z := ⟨_, List.getElem?_eq_getElem (by rw [HN.out]; exact hlt)⟩
              obtain ⟨g, o, hA, hg, hza⟩ := HV.out i z hz
              obtain ⟨a0, a1, a2, a3⟩ := hza.below HB2.out hg
              have hpi := HPZ.out i z hz
              have hil : i < pts.length := (List.getElem?_eq_some_iff.1 hpi).1
              have hpg : pts[i]'hil = ptZ z := (List.getElem?_eq_some_iff.1 hpi).2
              have hsn : Sp.textV Sp.p0 (pts.take (i + 1)) = Sp.textV Sp.p0 (pts.take i) ++ ((if Sp.spacedV (((pts.take i).getLast?).getD Sp.p0) (ptZ z) then [32] else []) ++ z.2.1.data.toList) := by
                rw [List.take_succ_eq_append_getElem hil, hpg, Sp.textV_snoc]
                rfl
              have hle : (Sp.textV Sp.p0 (pts.take (i + 1))).length ≤ 16384 := by
                have h1 := Sp.textV_append (pts.take (i + 1)) (pts.drop (i + 1)) Sp.p0
                rw [List.take_append_drop] at h1
                have h2 := congrArg List.length h1
                rw [List.length_append] at h2
                have h3 := HLEN.out
                omega
              obtain ⟨k, t, l, c⟩ := z
              simp only [] at a0 a1 a2 a3 hsn
              obtain ⟨W5, hW5⟩ : ∃ W5, wr.alloc (.cells #[.int .i64 k, .string t, .int .i64 l, .int .i64 c] 25) = W5 := ⟨_, rfl⟩
              have hB5 : Blk W5 wr.heap.size 25 (zCells (k, t, l, c)) := by rw [← hW5]; exact Blk.new wr _ _
              have hbl5 : Bld W5 w.heap.size wo.heap.size (Sp.textV Sp.p0 (pts.take i)) := by rw [← hW5]; exact bld_below HBL.out ((Below.refl _ _).alloc (Nat.le_refl _) _)
              have hb5 : Below w.heap.size w W5 := by rw [← hW5]; exact HB2.out.alloc hbw2 _
              have hz5 : W5.heap.size = wr.heap.size + 1 := by rw [← hW5]; simp
              have d0 : W5.cell? ⟨wr.heap.size, 0, none⟩ = some (.int .i64 k) := hB5.cell 0
              have d1 : W5.cell? ⟨wr.heap.size, 1, none⟩ = some (.string t) := hB5.cell 1
              have d2 : W5.cell? ⟨wr.heap.size, 2, none⟩ = some (.int .i64 l) := hB5.cell 2
              have d3 : W5.cell? ⟨wr.heap.size, 3, none⟩ = some (.int .i64 c) := hB5.cell 3
              have hw5sz : w.heap.size ≤ W5.heap.size := by omega
              have HW5 := Lib.hid hW5
              have HB5 := Lib.hid hB5
              have HBL5 := Lib.hid hbl5
              have Hb5 := Lib.hid hb5
              have HLE := Lib.hid hle
              by_cases hi0 : i = 0
              · subst hi0
                have hsn0 : Sp.textV Sp.p0 (pts.take (0 + 1)) = Sp.textV Sp.p0 (pts.take 0) ++ t.data.toList := by
                  rw [hsn]
                  rfl
                have hle2 := hle
                rw [hsn0, List.length_append, ← Lib.size_eq] at hle2
                have HS0 := Lib.hid hsn0
                subst hA
                simp only [Nat.zero_mul, Nat.add_zero] at a0 a1 a2 a3
                have HWS := Lib.hid (fun W (h : Bld W w.heap.size wo.heap.size (Sp.textV Sp.p0 (pts.take 0))) (hs : w.heap.size ≤ W.heap.size) => bld_string w.heap.size wo.heap.size _ t W h (by omega) hs)
                clear hz hza hpi hpg hsn hle hW5 hB5 hbl5 hb5 hsn0
                go_wp2_with fail
                rw [HW5.out]
                go_quiet (fail)
                go_wp2_with (go_at_call 20; refine (HWS.out _ (by exact HBL5.out) (by exact hw5sz)).mono ?_; rintro e w8 ⟨⟨v8, rfl⟩, hb8l, hb8, hk8⟩)
                go_roundw
                case rel => exact ⟨0 + 1, by rfl, by omega, by rw [HS0.out]; exact bldU_bld hb8l, (below_drewN' Hb5.out _).trans hb8⟩
                case measure => simp [intOf]; omega
              · obtain ⟨j, hij⟩ : ∃ j, i = j + 1 := ⟨i - 1, by omega⟩
                have q9 : decide ((i : Int) > 0) = true := decide_eq_true (by omega)
                have q9a : decide ((0 : Int) < (i : Int)) = true := decide_eq_true (by omega)
                have q9b : decide (0 < i) = true := decide_eq_true (by omega)
                have q9c : 0 < i := by omega
                have z6 : (1 : Int) ≤ (i : Int) := by omega
                have z7 : 1 ≤ i := by omega
                have z8 : (i : Int) ≤ (n : Int) := by omega
                have z2 : (0 : Int) ≤ (i : Int) - 1 := by omega
                have z3 : (i : Int) - 1 < (n : Int) := by omega
                have z4 : IntKind.i64.wrap ((i : Int) - 1) = (i : Int) - 1 := by rw [IntKind.wrap_i64]; omega
                have z5 : ((i : Int) - 1).toNat = j := by omega
                obtain ⟨zp, hzp⟩ : ∃ zp, zs[j]? = some zp := ⟨_, List.getElem?_eq_getElem (by rw [HN.out]; omega)⟩
                obtain ⟨g2, o2, hA2, hg2, hzp2⟩ := HV.out j zp hzp
                rw [hA] at hA2
                injection hA2 with hA2
                injection hA2 with e1 e2
                subst e1
                subst e2
                subst hA
                obtain ⟨b0, b1, b2, b3⟩ := hzp2.below Hb5.out hg
                have hlast : ((pts.take i).getLast?).getD Sp.p0 = ptZ zp := by
                  have hjl : j < pts.length := by omega
                  have h1 := (List.getElem?_eq_some_iff.1 (HPZ.out j zp hzp)).2
                  rw [hij, List.take_succ_eq_append_getElem hjl, List.getLast?_concat, h1]
                  rfl
                rw [hlast] at hsn
                obtain ⟨pk, pt, pl, pc⟩ := zp
                simp only [] at b0 b1 b2 b3
                have hspc := fun W => scan_spaced pk pl pc pt k l c t W
                have hsn1 : Sp.textV Sp.p0 (pts.take (i + 1)) = Sp.textV Sp.p0 (pts.take i) ++ ((if Sp.spacedV (pk, pt.data.toList) (k, t.data.toList) then [32] else []) ++ t.data.toList) := hsn
                obtain ⟨spb, hspb⟩ : ∃ spb, Sp.spacedV (pk, pt.data.toList) (k, t.data.toList) = spb := ⟨_, rfl⟩
                rw [hspb] at hsn1
                simp only [hspb] at hspc
                have HSP := Lib.hid hspc
                have hS8 : W5.cell? ⟨g, o + j * 4, none⟩ = some (.int .i64 pk) ∧ W5.cell? ⟨g, o + j * 4 + 1, none⟩ = some (.string pt) ∧ W5.cell? ⟨g, o + j * 4 + 2, none⟩ = some (.int .i64 pl) ∧ W5.cell? ⟨g, o + j * 4 + 3, none⟩ = some (.int .i64 pc) ∧ W5.cell? ⟨wr.heap.size, 0, none⟩ = some (.int .i64 k) ∧ W5.cell? ⟨wr.heap.size, 1, none⟩ = some (.string t) ∧ W5.cell? ⟨wr.heap.size, 2, none⟩ = some (.int .i64 l) ∧ W5.cell? ⟨wr.heap.size, 3, none⟩ = some (.int .i64 c) := ⟨b0, b1, b2, b3, d0, d1, d2, d3⟩
                have hkeep : ∀ w6, Below W5.drew.heap.size W5.drew w6 → w6.cell? ⟨g, o + j * 4, none⟩ = some (.int .i64 pk) ∧ w6.cell? ⟨g, o + j * 4 + 1, none⟩ = some (.string pt) ∧ w6.cell? ⟨g, o + j * 4 + 2, none⟩ = some (.int .i64 pl) ∧ w6.cell? ⟨g, o + j * 4 + 3, none⟩ = some (.int .i64 pc) ∧ w6.cell? ⟨wr.heap.size, 0, none⟩ = some (.int .i64 k) ∧ w6.cell? ⟨wr.heap.size, 1, none⟩ = some (.string t) ∧ w6.cell? ⟨wr.heap.size, 2, none⟩ = some (.int .i64 l) ∧ w6.cell? ⟨wr.heap.size, 3, none⟩ = some (.int .i64 c) := by
                  intro w6 hb6
                  have hg9 : g < W5.drew.heap.size := by show g < W5.heap.size; omega
                  have hr9 : wr.heap.size < W5.drew.heap.size := by show _ < W5.heap.size; omega
                  exact ⟨(hb6.cell (p := ⟨g, o + j * 4, none⟩) hg9).trans b0, (hb6.cell (p := ⟨g, o + j * 4 + 1, none⟩) hg9).trans b1, (hb6.cell (p := ⟨g, o + j * 4 + 2, none⟩) hg9).trans b2, (hb6.cell (p := ⟨g, o + j * 4 + 3, none⟩) hg9).trans b3, (hb6.cell (p := ⟨wr.heap.size, 0, none⟩) hr9).trans d0, (hb6.cell (p := ⟨wr.heap.size, 1, none⟩) hr9).trans d1, (hb6.cell (p := ⟨wr.heap.size, 2, none⟩) hr9).trans d2, (hb6.cell (p := ⟨wr.heap.size, 3, none⟩) hr9).trans d3⟩
                have HK8 := Lib.hid hkeep
                have HIJ := Lib.hid hij
                have hb5d := Hb5.out.drew
                have Hb5d := Lib.hid hb5d
                cases spb with
                | true =>
                  have hsn2 : Sp.textV Sp.p0 (pts.take (i + 1)) = (Sp.textV Sp.p0 (pts.take i) ++ [32]) ++ t.data.toList := by rw [hsn1, if_pos rfl, List.append_assoc]
                  have hle2 := hle
                  rw [hsn2, List.length_append, List.length_append, List.length_singleton, ← Lib.size_eq] at hle2
                  have HS2 := Lib.hid hsn2
                  have HWB : Hid (∀ W, Bld W w.heap.size wo.heap.size (Sp.textV Sp.p0 (pts.take i)) → w.heap.size ≤ W.heap.size → Calls Tryz.prog 19 #[.pointer (some ⟨wo.heap.size, 0, none⟩), .int .u8 32] W fun e w' => (∃ v, e = .returned v) ∧ BldU w' w.heap.size wo.heap.size (Sp.textV Sp.p0 (pts.take i) ++ [32]) ∧ Below w.heap.size W w' ∧ KeepT W w') := fun W h hs => bld_byte w.heap.size wo.heap.size _ 32 W h (by omega) hs
                  have HWS := Lib.hid (fun W (h : Bld W w.heap.size wo.heap.size (Sp.textV Sp.p0 (pts.take i) ++ [32])) (hs : w.heap.size ≤ W.heap.size) => bld_string w.heap.size wo.heap.size _ t W h (by rw [List.length_append, List.length_singleton]; omega) hs)
                  clear hz hza hpi hpg hsn hle hW5 hB5 hbl5 hb5 hsn1 hsn2 hspb hspc hlast hzp hzp2 hkeep b0 b1 b2 b3 d0 d1 d2 d3 hij hb5d
                  go_wp2_with fail
                  rw [HW5.out]
                  go_region_held3 (fun w' => w'.cell? ⟨g, o + j * 4, none⟩ = some (.int .i64 pk) ∧ w'.cell? ⟨g, o + j * 4 + 1, none⟩ = some (.string pt) ∧ w'.cell? ⟨g, o + j * 4 + 2, none⟩ = some (.int .i64 pl) ∧ w'.cell? ⟨g, o + j * 4 + 3, none⟩ = some (.int .i64 pc) ∧ w'.cell? ⟨wr.heap.size, 0, none⟩ = some (.int .i64 k) ∧ w'.cell? ⟨wr.heap.size, 1, none⟩ = some (.string t) ∧ w'.cell? ⟨wr.heap.size, 2, none⟩ = some (.int .i64 l) ∧ w'.cell? ⟨wr.heap.size, 3, none⟩ = some (.int .i64 c))
                    (first | go_keep | exact hS8 | exact ks)
                    ((go_at_call 18; refine (HSP.out _).mono ?_; rintro e w6 ⟨rfl, hb6⟩; have ks := HK8.out w6 hb6))
                  have hsz6 : w.heap.size ≤ w6.heap.size := by have h9 : W5.heap.size ≤ w6.heap.size := hb6.size; omega
                  have HT6 : Hid (Blk w6 wr.heap.size 25 (zCells (k, t, l, c))) := (show Blk W5.drew wr.heap.size 25 (zCells (k, t, l, c)) from HB5.out).below (B := W5.drew.heap.size) hb6 (by show _ < W5.heap.size; omega)
                  have HBL6 := Lib.hid (bld_below (w := W5.drew) (w' := w6) HBL5.out hb6)
                  obtain ⟨b0, b1, b2, b3, d0, d1, d2, d3⟩ := ks
                  go_wp2_with (first
                    | (go_at_call 19; refine (HWB.out _ HBL6.out hsz6).mono ?_; rintro e w7 ⟨⟨v7, rfl⟩, hb7l, hb7, hk7⟩; have hsz7 := hb7.size; have d1 : w7.cell? ⟨wr.heap.size, 1, none⟩ = some (.string t) := (hk7 _ _ HT6.out).cell 1)
                    | (go_at_call 20; refine (HWS.out _ (bldU_bld hb7l) (by omega)).mono ?_; rintro e w8 ⟨⟨v8, rfl⟩, hb8l, hb8, hk8⟩))
                  go_roundw
                  case rel => exact ⟨i + 1, by rfl, by omega, by rw [HS2.out]; exact bldU_bld hb8l, ((Hb5d.out.trans (hb6.mono (by show _ ≤ W5.heap.size; omega))).trans hb7).trans hb8⟩
                  case measure => simp [intOf]; omega
                | false =>
                  have hsn2 : Sp.textV Sp.p0 (pts.take (i + 1)) = Sp.textV Sp.p0 (pts.take i) ++ t.data.toList := by rw [hsn1, if_neg (by simp), List.nil_append]
                  have hle2 := hle
                  rw [hsn2, List.length_append, ← Lib.size_eq] at hle2
                  have HS2 := Lib.hid hsn2
                  have HWS := Lib.hid (fun W (h : Bld W w.heap.size wo.heap.size (Sp.textV Sp.p0 (pts.take i))) (hs : w.heap.size ≤ W.heap.size) => bld_string w.heap.size wo.heap.size _ t W h (by omega) hs)
                  clear hz hza hpi hpg hsn hle hW5 hB5 hbl5 hb5 hsn1 hsn2 hspb hspc hlast hzp hzp2 hkeep b0 b1 b2 b3 d0 d1 d2 d3 hij hb5d
                  go_wp2_with fail
                  rw [HW5.out]
                  go_region_held3 (fun w' => w'.cell? ⟨g, o + j * 4, none⟩ = some (.int .i64 pk) ∧ w'.cell? ⟨g, o + j * 4 + 1, none⟩ = some (.string pt) ∧ w'.cell? ⟨g, o + j * 4 + 2, none⟩ = some (.int .i64 pl) ∧ w'.cell? ⟨g, o + j * 4 + 3, none⟩ = some (.int .i64 pc) ∧ w'.cell? ⟨wr.heap.size, 0, none⟩ = some (.int .i64 k) ∧ w'.cell? ⟨wr.heap.size, 1, none⟩ = some (.string t) ∧ w'.cell? ⟨wr.heap.size, 2, none⟩ = some (.int .i64 l) ∧ w'.cell? ⟨wr.heap.size, 3, none⟩ = some (.int .i64 c))
                    (first | go_keep | exact hS8 | exact ks)
                    ((go_at_call 18; refine (HSP.out _).mono ?_; rintro e w6 ⟨rfl, hb6⟩; have ks := HK8.out w6 hb6))
                  have hsz6 : w.heap.size ≤ w6.heap.size := by have h9 : W5.heap.size ≤ w6.heap.size := hb6.size; omega
                  have HT6 : Hid (Blk w6 wr.heap.size 25 (zCells (k, t, l, c))) := (show Blk W5.drew wr.heap.size 25 (zCells (k, t, l, c)) from HB5.out).below (B := W5.drew.heap.size) hb6 (by show _ < W5.heap.size; omega)
                  have HBL6 := Lib.hid (bld_below (w := W5.drew) (w' := w6) HBL5.out hb6)
                  obtain ⟨b0, b1, b2, b3, d0, d1, d2, d3⟩ := ks
                  go_wp2_with (go_at_call 20; refine (HWS.out _ HBL6.out hsz6).mono ?_; rintro e w8 ⟨⟨v8, rfl⟩, hb8l, hb8, hk8⟩)
                  go_roundw
                  case rel => exact ⟨i + 1, by rfl, by omega, by rw [HS2.out]; exact bldU_bld hb8l, (Hb5d.out.trans (hb6.mono (by show _ ≤ W5.heap.size; omega))).trans hb8⟩
                  case measure => simp [intOf]; omega
            · have q2 : decide ((i : Int) < n) = false := decide_eq_false (by omega)
              have hbl := HBL.out
              rw [List.take_of_length_le (by rw [HPL.out]; omega)] at hbl
              have HST := Lib.hid (Tryz.Builder_String_any w.heap.size wo.heap.size _ wr hbl hbw2)
              clear hbl
              go_wp2_with (go_at_call 21; refine HST.out.mono ?_; rintro e w8 ⟨rfl, hb8⟩)
              go_ret2
              exact PrintEnd_of HRR.out rfl rfl (HB2.out.trans hb8)
      · have q3 : ((lk : Int) != 1) = true := by rw [bne_iff_ne]; exact hl1
        have hR : Sp.printV pts = ([], 35) := by
          rw [HPV.out, hV, if_pos (by exact beq_eq_false_iff_ne.2 hl1)]
        have HRR := Lib.hid hR
        clear hR hV hT HF hl1 hin
        go_wp2_with fail
        go_ret2
        exact PrintEnd_of HRR.out rfl rfl HB.out
end Go.Proofs.YtjedoipbllcfdaaGreatDoor
