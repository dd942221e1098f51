/-
  THE WALK of reachref3.Print (chapter 3).
-/
import Derived.Test.YtjedoipbllcfdaaGreatDoorSh
import Derived.Test.YtjedoipbllcfdaaGreatDoorSi
set_option linter.unusedVariables false
set_option linter.unusedSimpArgs false
set_option maxRecDepth 100000
set_option maxHeartbeats 8000000
namespace Go.Proofs.YtjedoipbllcfdaaGreatDoor
open Go.RowKit

/-- A row of bytes of the call's own. -/
def Own (w : World) (B : Nat) (v : Value) (acc : List UInt8) : Prop := w.ownsRow B 5 1 v acc.length (Lib.byteCells acc)
theorem byt_string {w : World} {B : Nat} {v : Value} {b : List UInt8} (h : Own w B v b) : (convert 42 9 v).run Tryz.prog w = .ok (.string ⟨b.toArray⟩) w := by
  rcases h.2 with ⟨rfl, hx⟩ | ⟨g, cap, cur, rfl, _⟩
  · have hb : b = [] := List.length_eq_zero_iff.1 hx
    subst hb
    exact run_convert_bytes_nil (P := Tryz.prog) (w := w) 42 5 Tryz.underlying42 Tryz.underlying5 0 0 9 Tryz.underlying9
  · refine run_convert_bytes_back w 42 9 5 ⟨g, 0, none⟩ cap b Tryz.underlying42 Tryz.underlying5 Tryz.underlying9 ?_
    intro j hj
    refine (World.ownsRow.cells h (g := g) rfl) j _ ?_
    simp [Lib.byteCells, hj]
theorem byt_slice {w : World} {B : Nat} {v : Value} {b : List UInt8} (h : Own w B v b) : ∃ A cap, v = .slice A b.length cap := by
  rcases h.2 with ⟨hv, h0⟩ | ⟨g, cap, cur, hv, _⟩
  · exact ⟨none, 0, by rw [hv, h0]⟩
  · exact ⟨_, _, hv⟩
theorem own_below {w w' : World} {B : Nat} {v : Value} {b : List UInt8} (h : Own w B v b) (hb : Below w.heap.size w w') : Own w' B v b :=
  World.ownsRow.kept h (only_of_below hb none) (by
    rcases hv : v.ownBlock with _ | g
    · exact Or.inl rfl
    · exact Or.inr (by simp))
theorem wpList_byte {ops : Array Oper} {rest : List Oper} {o : Oper} {a : Act} {w0 : World} {Q : Exit → Act → World → Prop} (hgd : o.guard = none) (s x : Operand)
    (ho : o.op = .call { callee := .builtin .append, args := #[s, x], argTypes := #[42, 42] })
    (B : Nat) (v : Value) (acc : List UInt8) (hs : a.eval s = v) (hown : Own w0 B v acc) (W : World) (hb : Below B W w0) (hB : B ≤ w0.heap.size) (c : UInt8) (hx : a.eval x = .slice (some ⟨w0.heap.size, 0, none⟩) 1 1) (hlen : acc.length ≤ 1000000)
    (h : ∀ v' w', Own w' B v' (acc ++ [c]) → Below B W w' → wpList Tryz.prog ops Q rest (a.put o.dst v') w') : wpList Tryz.prog ops Q (o :: rest) a (w0.alloc (.cells #[.int .u8 c.toNat] 5)) := by
  obtain ⟨i0, hi, hz0, hz1, hz2⟩ := info_parts byteInfo
  refine wpList_append_own _ hgd s x 42 ho B 5 i0 (.int .u8 0) 1 1 Tryz.underlying42 hi hz0 hz1 hz2 rfl (by decide) v acc.length (Lib.byteCells acc) hs (World.ownsRow.alloc hown _) ⟨w0.heap.size, 0, none⟩ 1 1 [.int .u8 c.toNat] hx rfl ?_ (by intro u hu; simp at hu; subst hu; rfl) (by unfold maxLen; omega) (by omega) (by simp; omega) ?_
  · intro j u hj
    match j, hj with
    | 0, hj => simp at hj; subst hj; simp [Addr.add]
  · intro v' w' ho' hg _
    refine h v' w' ?_ ((hb.alloc hB _).grown hg (by simp; omega) (fun k hk => (World.ownsRow.lt hown k hk).1))
    unfold Own
    rw [List.length_append, Lib.byteCells_append]
    exact ho'

def RPrintEnd (ts : List Sp.Pt) (W : World) (e : Ending) (w' : World) : Prop :=
  e = .returned (.tuple #[.string ⟨(Sp.printV ts).1.toArray⟩, .int .i64 ((Sp.printV ts).2 : Nat)]) ∧ Below W.heap.size W w'

theorem ref3_print (A : Option Addr) (cap n : Nat) (zs : List ZTok) (w : World) (hG : Gr w) (hn : zs.length = n) (hnb : n ≤ 4611686018427387904) (hv : ViewZ w w.heap.size A zs) (hts : ∀ z ∈ zs, z.2.1.size ≤ 1073741824) :
    Calls Tryz.prog 10 #[.slice A n cap] w (PrintEnd (zs.map ptZ) w) := by
  have hval := ref3_valid A cap n zs w hG hn hnb hv hts
  obtain ⟨pts, hpts⟩ : ∃ pts, zs.map ptZ = pts := ⟨_, rfl⟩
  rw [hpts]
  rw [hpts] at hval
  have hpl : pts.length = n := by rw [← hpts, List.length_map, hn]
  by_cases h1 : 16384 < n
  · have hv2 : Sp.printV pts = ([], 2) := by unfold Sp.printV; rw [if_pos (by omega)]
    have HU := Lib.hid hv2
    have q1 : decide ((n : Int) > 16384) = true := decide_eq_true (by omega)
    clear hv2 hG hv hts hn hpts hpl hval
    go_enter Tryz.func10, Tryz.ntmps10
    go_wp2
    go_ret2
    exact PrintEnd_of HU.out rfl rfl (Below.refl _ _)
  have q1 : decide ((n : Int) > 16384) = false := decide_eq_false (by omega)
  have hn2 : n ≤ 16384 := by omega
  have hPV : Sp.printV pts = if Sp.validV Sp.p0 pts = false then ([], 35) else if 16384 < (Sp.textV Sp.p0 pts).length then ([], 2) else (Sp.textV Sp.p0 pts, 0) := by
    unfold Sp.printV
    rw [if_neg (by omega)]
  obtain ⟨V, hV⟩ : ∃ V, Sp.validV Sp.p0 pts = V := ⟨_, rfl⟩
  rw [hV] at hval hPV
  have hpz : ∀ (i : Nat) (z : ZTok), zs[i]? = some z → pts[i]? = some (ptZ z) := by
    intro i z hz
    rw [← hpts, List.getElem?_map, hz]
    rfl
  have HVAL := Lib.hid hval
  cases V with
  | false =>
    rw [if_pos rfl] at hPV
    have HU := Lib.hid hPV
    clear hPV hG hv hts hn hpts hpl hval hV hpz h1
    go_enter Tryz.func10, Tryz.ntmps10
    go_wp2_with (go_at_call 22; refine HVAL.out.mono ?_; rintro e w1 ⟨rfl, hb1⟩)
    go_ret2
    exact PrintEnd_of HU.out rfl rfl hb1
  | true =>
    rw [if_neg (by simp)] at hPV
    have hsh : ∀ z ∈ zs, z.2.1.size ≤ 4000 := by
      intro z hz
      have := Sp.validV_append pts [] Sp.p0 (by rw [List.append_nil]; exact hV) (ptZ z) (by rw [← hpts]; exact List.mem_map_of_mem hz)
      have := Sp.okT_short this
      rw [Lib.size_eq]
      exact this
    have hpre : ∀ i, (Sp.textV Sp.p0 (pts.take i)).length ≤ (Sp.textV Sp.p0 pts).length := by
      intro i
      have h1 := Sp.textV_append (pts.take i) (pts.drop i) Sp.p0
      rw [List.take_append_drop] at h1
      rw [h1, List.length_append]
      omega
    have HPV := Lib.hid hPV
    have HPZ := Lib.hid hpz
    have HN := Lib.hid hn
    have HPL := Lib.hid hpl
    have HV := Lib.hid hv
    have HSH := Lib.hid hsh
    have HPRE := Lib.hid hpre
    clear hPV hG hv hts hn hpts hpl hval hV hpz h1 hsh hpre
    go_enter Tryz.func10, Tryz.ntmps10
    go_wp2_with (go_at_call 22; refine HVAL.out.mono ?_; rintro e w1 ⟨rfl, hb1⟩)
    have HB1 := Lib.hid hb1
    have hsz1 := hb1.size
    clear hb1
    go_loopw [4, 5, 6, 7] (fun _ v5 v6 _ wr => ∃ (i : Nat) (tv : Value), tv = v5 ∧ v6 = .int .i64 (i : Int) ∧ i ≤ n ∧ (Sp.textV Sp.p0 (pts.take i)).length ≤ 16384 ∧ Own wr w.heap.size tv (Sp.textV Sp.p0 (pts.take i)) ∧ Below w.heap.size w wr) (fun _ _ v6 _ _ => n - (intOf v6).toNat)
    case atStart => exact ⟨0, _, rfl, rfl, by omega, by rw [List.take_zero]; simp [Sp.textV], by rw [List.take_zero]; exact World.ownsRow_nil _ _ _ _, HB1.out⟩
    case round =>
      obtain ⟨i, tv, rfl, rfl, hi, hal, hown, hb⟩ := hrel
      have HO := Lib.hid hown
      have HB := Lib.hid hb
      have hBw := hb.size
      obtain ⟨acc, hacc⟩ : ∃ acc, Sp.textV Sp.p0 (pts.take i) = acc := ⟨_, rfl⟩
      by_cases hlt : i < n
      · have q2 : decide ((i : Int) < n) = true := decide_eq_true (by omega)
        have p1 : (i : Int) < n := by omega
        have p2 : (0 : Int) ≤ (i : Int) := by omega
        obtain ⟨z, hz⟩ : ∃ z, zs[i]? = some z := ⟨_, List.getElem?_eq_getElem (by rw [HN.out]; exact hlt)⟩
        obtain ⟨g, o, hA, hg, hza⟩ := HV.out i z hz
        obtain ⟨a0, a1, a2, a3⟩ := hza.below hb hg
        have hz4 := HSH.out z (List.mem_of_getElem? hz)
        have hpi := HPZ.out i z hz
        have hil : i < pts.length := (List.getElem?_eq_some_iff.1 hpi).1
        have hpg : pts[i]'hil = ptZ z := (List.getElem?_eq_some_iff.1 hpi).2
        have hsn : Sp.textV Sp.p0 (pts.take (i + 1)) = acc ++ ((if Sp.spacedV (((pts.take i).getLast?).getD Sp.p0) (ptZ z) then [32] else []) ++ z.2.1.data.toList) := by
          rw [List.take_succ_eq_append_getElem hil, hpg, Sp.textV_snoc, hacc]
          rfl
        have hle := HPRE.out (i + 1)
        obtain ⟨k, t, l, c⟩ := z
        simp only [] at a0 a1 a2 a3 hsn hz4
        have htx : ∀ wr, Below w.heap.size w wr → wr.cell? ⟨g, o + i * 4 + 1, none⟩ = some (.string t) := fun wr hbx => (hza.below hbx hg).2.1
        have HTX := Lib.hid htx
        rw [hacc] at hal hown
        have HO2 := Lib.hid hown
        have HLE := Lib.hid hle
        have HA := Lib.hid hA
        have HTL := Lib.hid (Lib.size_eq t)
        have hlg : g < wr.heap.size := by omega
        have HACC := Lib.hid hacc
        have HZ := Lib.hid hz
        clear hpi hpg hza htx hown hb HO hle hacc hz
        by_cases hi0 : i = 0
        · have hsn0 : Sp.textV Sp.p0 (pts.take (i + 1)) = acc ++ t.data.toList := by
            rw [hsn, hi0]
            rfl
          have HSN := Lib.hid hsn0
          have q9 : decide ((i : Int) > 0) = false := decide_eq_false (by omega)
          have q9b : decide (0 < i) = false := decide_eq_false (by omega)
          have q9c : ¬ 0 < i := by omega
          clear hsn hsn0 hi0
          rw [hA]
          clear hA
          go_wp2_with fail
          go_quiet (fail)
          have HBX : Hid (∀ nn, Below w.heap.size w (wr.drewN nn)) := fun nn => below_drewN' HB.out nn
          have HOX := Lib.hid (fun nn : Nat => (show Own (wr.drewN nn) w.heap.size tv acc from HO2.out))
          obtain ⟨pre, hprq⟩ : ∃ pre, acc = pre := ⟨_, rfl⟩
          have hpl4 : pre.length ≤ 16385 := by rw [← hprq]; omega
          rw [hprq] at HOX HSN
          go_wp2_with fail
          go_loopw [5, 7] (fun v5 v7 wr2 => ∃ (q : Nat) (tk : Value), tk = v5 ∧ v7 = .int .i64 (q : Int) ∧ q ≤ t.size ∧ Own wr2 w.heap.size tk (pre ++ t.data.toList.take q) ∧ Below w.heap.size w wr2) (fun _ v7 _ => t.size - (intOf v7).toNat)
          case atStart => exact ⟨0, _, rfl, rfl, by omega, by rw [List.take_zero, List.append_nil]; exact HOX.out _, HBX.out _⟩
          case round =>
            obtain ⟨q, tk, rfl, rfl, hq, hok, hbk⟩ := hrel
            have HBK := Lib.hid hbk
            have hbks := hbk.size
            have a1 := HTX.out wr hbk
            have hl5 : (pre ++ t.data.toList.take q).length ≤ 1000000 := by rw [List.length_append, List.length_take]; omega
            by_cases hqt : q < t.size
            · have p3 : decide ((q : Int) < t.size) = true := decide_eq_true (by omega)
              have p4 : (q : Int) < t.size := by omega
              have hqd : q < t.data.toList.length := by rw [← HTL.out]; exact hqt
              have hsnoc : pre ++ t.data.toList.take (q + 1) = (pre ++ t.data.toList.take q) ++ [t[q]'hqt] := by
                rw [List.take_succ_eq_append_getElem hqd, Sp.get_idx t q hqt hqd, List.append_assoc]
              have HSNO := Lib.hid hsnoc
              have HOK := Lib.hid hok
              clear hok hbk hsnoc
              go_wp2_with (at_builtin; refine wpList_byte rfl _ _ rfl w.heap.size tk _ rfl HOK.out w HBK.out hbks (t[q]'hqt) rfl hl5 ?_)
              intro tk2 w8 ho8 hb8
              have HO8 := Lib.hid ho8
              have HB8 := Lib.hid hb8
              clear ho8 hb8
              go_wp2_with fail
              go_roundw
              case rel => exact ⟨q + 1, _, rfl, by rfl, by omega, by rw [HSNO.out]; first | exact HO8.out | (rw [List.append_assoc]; exact HO8.out), HB8.out⟩
              case measure => simp [intOf]; omega
            · have p3 : decide ((q : Int) < t.size) = false := decide_eq_false (by omega)
              have hfin : pre ++ t.data.toList.take q = Sp.textV Sp.p0 (pts.take (i + 1)) := by rw [HSN.out, List.take_of_length_le (by rw [← HTL.out]; omega)]
              rw [hfin] at hok hl5
              obtain ⟨acc2, hacc2⟩ : ∃ acc2, Sp.textV Sp.p0 (pts.take (i + 1)) = acc2 := ⟨_, rfl⟩
              rw [hacc2] at hok hl5
              obtain ⟨A5, cap5, rfl⟩ := byt_slice hok
              have HOK := Lib.hid hok
              have HA2 := Lib.hid hacc2
              have hpre9 : acc2.length ≤ (Sp.textV Sp.p0 pts).length := by rw [← hacc2]; exact HLE.out
              by_cases hbig : 16384 < acc2.length
              · have q6 : decide ((acc2.length : Int) > 16384) = true := decide_eq_true (by omega)
                have hR : Sp.printV pts = ([], 2) := by rw [HPV.out, if_pos (by omega)]
                have HRR := Lib.hid hR
                clear hok hbk hfin hacc2 hR
                go_wp2_with fail
                go_ret2
                exact PrintEnd_of HRR.out rfl rfl HBK.out
              · have q6 : decide ((acc2.length : Int) > 16384) = false := decide_eq_false (by omega)
                clear hok hbk hfin hacc2
                go_wp2_with fail
                go_roundw
                case rel => exact ⟨i + 1, _, rfl, by rfl, by omega, by rw [HA2.out]; omega, by rw [HA2.out]; exact HOK.out, HBK.out⟩
                case measure => simp [intOf]; omega
        · obtain ⟨j, hij⟩ : ∃ j, i = j + 1 := ⟨i - 1, by omega⟩
          have q9 : decide ((i : Int) > 0) = true := decide_eq_true (by omega)
          have q9a : decide ((0 : Int) < (i : Int)) = true := decide_eq_true (by omega)
          have q9b : decide (0 < i) = true := decide_eq_true (by omega)
          have q9c : 0 < i := by omega
          have z2 : (0 : Int) ≤ (i : Int) - 1 := by omega
          have z3 : (i : Int) - 1 < (n : Int) := by omega
          have z4 : IntKind.i64.wrap ((i : Int) - 1) = (i : Int) - 1 := by rw [IntKind.wrap_i64]; omega
          have z5 : ((i : Int) - 1).toNat = j := by omega
          have z6 : (1 : Int) ≤ (i : Int) := by omega
          have z7 : 1 ≤ i := by omega
          have z8 : (i : Int) ≤ (n : Int) := by omega
          obtain ⟨zp, hzp⟩ : ∃ zp, zs[j]? = some zp := ⟨_, List.getElem?_eq_getElem (by rw [HN.out]; omega)⟩
          obtain ⟨g2, o2, hA2, hg2, hzp2⟩ := HV.out j zp hzp
          rw [hA] at hA2
          injection hA2 with hA2
          injection hA2 with e1 e2
          subst e1
          subst e2
          obtain ⟨b0, b1, b2, b3⟩ := hzp2.below HB.out hg
          have hlast : ((pts.take i).getLast?).getD Sp.p0 = ptZ zp := by
            have hjl : j < pts.length := by omega
            have h1 := (List.getElem?_eq_some_iff.1 (HPZ.out j zp hzp)).2
            rw [hij, List.take_succ_eq_append_getElem hjl, List.getLast?_concat, h1]
            rfl
          rw [hlast] at hsn
          obtain ⟨pk, pt, pl, pc⟩ := zp
          simp only [] at b0 b1 b2 b3
          have hspc := ref3_apart pk pl pc pt k l c t wr.drew
          have hsn1 : Sp.textV Sp.p0 (pts.take (i + 1)) = acc ++ ((if Sp.spacedV (pk, pt.data.toList) (k, t.data.toList) then [32] else []) ++ t.data.toList) := hsn
          obtain ⟨spb, hspb⟩ : ∃ spb, Sp.spacedV (pk, pt.data.toList) (k, t.data.toList) = spb := ⟨_, rfl⟩
          rw [hspb] at hsn1 hspc
          have HSP := Lib.hid hspc
          have hS8 : wr.cell? ⟨g, o + j * 4, none⟩ = some (.int .i64 pk) ∧ wr.cell? ⟨g, o + j * 4 + 1, none⟩ = some (.string pt) ∧ wr.cell? ⟨g, o + j * 4 + 2, none⟩ = some (.int .i64 pl) ∧ wr.cell? ⟨g, o + j * 4 + 3, none⟩ = some (.int .i64 pc) ∧ wr.cell? ⟨g, o + i * 4, none⟩ = some (.int .i64 k) ∧ wr.cell? ⟨g, o + i * 4 + 1, none⟩ = some (.string t) ∧ wr.cell? ⟨g, o + i * 4 + 2, none⟩ = some (.int .i64 l) ∧ wr.cell? ⟨g, o + i * 4 + 3, none⟩ = some (.int .i64 c) := ⟨b0, b1, b2, b3, a0, a1, a2, a3⟩
          have hkeep : ∀ w6, Below wr.drew.heap.size wr.drew w6 → w6.cell? ⟨g, o + j * 4, none⟩ = some (.int .i64 pk) ∧ w6.cell? ⟨g, o + j * 4 + 1, none⟩ = some (.string pt) ∧ w6.cell? ⟨g, o + j * 4 + 2, none⟩ = some (.int .i64 pl) ∧ w6.cell? ⟨g, o + j * 4 + 3, none⟩ = some (.int .i64 pc) ∧ w6.cell? ⟨g, o + i * 4, none⟩ = some (.int .i64 k) ∧ w6.cell? ⟨g, o + i * 4 + 1, none⟩ = some (.string t) ∧ w6.cell? ⟨g, o + i * 4 + 2, none⟩ = some (.int .i64 l) ∧ w6.cell? ⟨g, o + i * 4 + 3, none⟩ = some (.int .i64 c) := by
            intro w6 hb6
            have hg9 : g < wr.drew.heap.size := hlg
            exact ⟨(hb6.cell (p := ⟨g, o + j * 4, none⟩) hg9).trans b0, (hb6.cell (p := ⟨g, o + j * 4 + 1, none⟩) hg9).trans b1, (hb6.cell (p := ⟨g, o + j * 4 + 2, none⟩) hg9).trans b2, (hb6.cell (p := ⟨g, o + j * 4 + 3, none⟩) hg9).trans b3, (hb6.cell (p := ⟨g, o + i * 4, none⟩) hg9).trans a0, (hb6.cell (p := ⟨g, o + i * 4 + 1, none⟩) hg9).trans a1, (hb6.cell (p := ⟨g, o + i * 4 + 2, none⟩) hg9).trans a2, (hb6.cell (p := ⟨g, o + i * 4 + 3, none⟩) hg9).trans a3⟩
          have HK8 := Lib.hid hkeep
          cases spb with
          | true =>
            have hsn2 : Sp.textV Sp.p0 (pts.take (i + 1)) = (acc ++ [32]) ++ t.data.toList := by rw [hsn1, if_pos rfl, List.append_assoc]
            have HSN := Lib.hid hsn2
            clear hsn hsn1 hsn2 hspb hspc hlast hzp hzp2 hkeep b0 b1 b2 b3 a0 a1 a2 a3 hij hi0
            rw [hA]
            clear hA
            go_wp2_with fail
            go_region_held3 (fun w' => w'.cell? ⟨g, o + j * 4, none⟩ = some (.int .i64 pk) ∧ w'.cell? ⟨g, o + j * 4 + 1, none⟩ = some (.string pt) ∧ w'.cell? ⟨g, o + j * 4 + 2, none⟩ = some (.int .i64 pl) ∧ w'.cell? ⟨g, o + j * 4 + 3, none⟩ = some (.int .i64 pc) ∧ w'.cell? ⟨g, o + i * 4, none⟩ = some (.int .i64 k) ∧ w'.cell? ⟨g, o + i * 4 + 1, none⟩ = some (.string t) ∧ w'.cell? ⟨g, o + i * 4 + 2, none⟩ = some (.int .i64 l) ∧ w'.cell? ⟨g, o + i * 4 + 3, none⟩ = some (.int .i64 c))
              (first | go_keep | exact hS8 | exact ks)
              ((go_at_call 23; refine HSP.out.mono ?_; rintro e w6 ⟨rfl, hb6⟩; have ks := HK8.out w6 hb6))
            clear hS8
            have hbx : Below w.heap.size w w6 := HB.out.drew.trans (hb6.mono (by show _ ≤ wr.heap.size; omega))
            have hox : Own w6 w.heap.size tv acc := own_below (w := wr.drew) HO2.out hb6
            have hsz6 := hbx.size
            have HOX6 := Lib.hid hox
            have HBX6 := Lib.hid hbx
            clear hox hbx ks hb6
            go_wp2_with (at_builtin; refine wpList_byte rfl _ _ rfl w.heap.size tv acc rfl HOX6.out w HBX6.out hsz6 32 rfl (by omega) ?_)
            intro tv2 wx hox hbx
            have HOX := Lib.hid hox
            have HBX := Lib.hid hbx
            clear hox hbx
            obtain ⟨pre, hprq⟩ : ∃ pre, acc ++ [32] = pre := ⟨_, rfl⟩
            have hpl4 : pre.length ≤ 16385 := by rw [← hprq, List.length_append, List.length_singleton]; omega
            rw [hprq] at HOX HSN
            obtain ⟨tv, rfl⟩ : ∃ tv : Value, tv = tv2 := ⟨_, rfl⟩
            go_wp2_with fail
            go_loopw [5, 7] (fun v5 v7 wr2 => ∃ (q : Nat) (tk : Value), tk = v5 ∧ v7 = .int .i64 (q : Int) ∧ q ≤ t.size ∧ Own wr2 w.heap.size tk (pre ++ t.data.toList.take q) ∧ Below w.heap.size w wr2) (fun _ v7 _ => t.size - (intOf v7).toNat)
            case atStart => exact ⟨0, _, rfl, rfl, by omega, by rw [List.take_zero, List.append_nil]; exact HOX.out, HBX.out⟩
            case round =>
              obtain ⟨q, tk, rfl, rfl, hq, hok, hbk⟩ := hrel
              have HBK := Lib.hid hbk
              have hbks := hbk.size
              have a1 := HTX.out wr hbk
              have hl5 : (pre ++ t.data.toList.take q).length ≤ 1000000 := by rw [List.length_append, List.length_take]; omega
              by_cases hqt : q < t.size
              · have p3 : decide ((q : Int) < t.size) = true := decide_eq_true (by omega)
                have p4 : (q : Int) < t.size := by omega
                have hqd : q < t.data.toList.length := by rw [← HTL.out]; exact hqt
                have hsnoc : pre ++ t.data.toList.take (q + 1) = (pre ++ t.data.toList.take q) ++ [t[q]'hqt] := by
                  rw [List.take_succ_eq_append_getElem hqd, Sp.get_idx t q hqt hqd, List.append_assoc]
                have HSNO := Lib.hid hsnoc
                have HOK := Lib.hid hok
                clear hok hbk hsnoc
                go_wp2_with (at_builtin; refine wpList_byte rfl _ _ rfl w.heap.size tk _ rfl HOK.out w HBK.out hbks (t[q]'hqt) rfl hl5 ?_)
                intro tk2 w8 ho8 hb8
                have HO8 := Lib.hid ho8
                have HB8 := Lib.hid hb8
                clear ho8 hb8
                go_wp2_with fail
                go_roundw
                case rel => exact ⟨q + 1, _, rfl, by rfl, by omega, by rw [HSNO.out]; first | exact HO8.out | (rw [List.append_assoc]; exact HO8.out), HB8.out⟩
                case measure => simp [intOf]; omega
              · have p3 : decide ((q : Int) < t.size) = false := decide_eq_false (by omega)
                have hfin : pre ++ t.data.toList.take q = Sp.textV Sp.p0 (pts.take (i + 1)) := by rw [HSN.out, List.take_of_length_le (by rw [← HTL.out]; omega)]
                rw [hfin] at hok hl5
                obtain ⟨acc2, hacc2⟩ : ∃ acc2, Sp.textV Sp.p0 (pts.take (i + 1)) = acc2 := ⟨_, rfl⟩
                rw [hacc2] at hok hl5
                obtain ⟨A5, cap5, rfl⟩ := byt_slice hok
                have HOK := Lib.hid hok
                have HA2 := Lib.hid hacc2
                have hpre9 : acc2.length ≤ (Sp.textV Sp.p0 pts).length := by rw [← hacc2]; exact HLE.out
                by_cases hbig : 16384 < acc2.length
                · have q6 : decide ((acc2.length : Int) > 16384) = true := decide_eq_true (by omega)
                  have hR : Sp.printV pts = ([], 2) := by rw [HPV.out, if_pos (by omega)]
                  have HRR := Lib.hid hR
                  clear hok hbk hfin hacc2 hR
                  go_wp2_with fail
                  go_ret2
                  exact PrintEnd_of HRR.out rfl rfl HBK.out
                · have q6 : decide ((acc2.length : Int) > 16384) = false := decide_eq_false (by omega)
                  clear hok hbk hfin hacc2
                  go_wp2_with fail
                  go_roundw
                  case rel => exact ⟨i + 1, _, rfl, by rfl, by omega, by rw [HA2.out]; omega, by rw [HA2.out]; exact HOK.out, HBK.out⟩
                  case measure => simp [intOf]; omega
          | false =>
            have hsn2 : Sp.textV Sp.p0 (pts.take (i + 1)) = acc ++ t.data.toList := by rw [hsn1, if_neg (by simp), List.nil_append]
            have HSN := Lib.hid hsn2
            clear hsn hsn1 hsn2 hspb hspc hlast hzp hzp2 hkeep b0 b1 b2 b3 a0 a1 a2 a3 hij hi0
            rw [hA]
            clear hA
            go_wp2_with fail
            go_region_held3 (fun w' => w'.cell? ⟨g, o + j * 4, none⟩ = some (.int .i64 pk) ∧ w'.cell? ⟨g, o + j * 4 + 1, none⟩ = some (.string pt) ∧ w'.cell? ⟨g, o + j * 4 + 2, none⟩ = some (.int .i64 pl) ∧ w'.cell? ⟨g, o + j * 4 + 3, none⟩ = some (.int .i64 pc) ∧ w'.cell? ⟨g, o + i * 4, none⟩ = some (.int .i64 k) ∧ w'.cell? ⟨g, o + i * 4 + 1, none⟩ = some (.string t) ∧ w'.cell? ⟨g, o + i * 4 + 2, none⟩ = some (.int .i64 l) ∧ w'.cell? ⟨g, o + i * 4 + 3, none⟩ = some (.int .i64 c))
              (first | go_keep | exact hS8 | exact ks)
              ((go_at_call 23; refine HSP.out.mono ?_; rintro e w6 ⟨rfl, hb6⟩; have ks := HK8.out w6 hb6))
            clear hS8
            have hbx : Below w.heap.size w w6 := HB.out.drew.trans (hb6.mono (by show _ ≤ wr.heap.size; omega))
            have hox : Own w6 w.heap.size tv acc := own_below (w := wr.drew) HO2.out hb6
            have HOX := Lib.hid hox
            have HBX := Lib.hid hbx
            clear hox hbx ks hb6
            obtain ⟨wx, rfl⟩ : ∃ wx : World, wx = w6 := ⟨_, rfl⟩
            obtain ⟨pre, hprq⟩ : ∃ pre, acc = pre := ⟨_, rfl⟩
            have hpl4 : pre.length ≤ 16385 := by rw [← hprq]; omega
            rw [hprq] at HOX HSN
            go_wp2_with fail
            go_loopw [5, 7] (fun v5 v7 wr2 => ∃ (q : Nat) (tk : Value), tk = v5 ∧ v7 = .int .i64 (q : Int) ∧ q ≤ t.size ∧ Own wr2 w.heap.size tk (pre ++ t.data.toList.take q) ∧ Below w.heap.size w wr2) (fun _ v7 _ => t.size - (intOf v7).toNat)
            case atStart => exact ⟨0, _, rfl, rfl, by omega, by rw [List.take_zero, List.append_nil]; exact HOX.out, HBX.out⟩
            case round =>
              obtain ⟨q, tk, rfl, rfl, hq, hok, hbk⟩ := hrel
              have HBK := Lib.hid hbk
              have hbks := hbk.size
              have a1 := HTX.out wr hbk
              have hl5 : (pre ++ t.data.toList.take q).length ≤ 1000000 := by rw [List.length_append, List.length_take]; omega
              by_cases hqt : q < t.size
              · have p3 : decide ((q : Int) < t.size) = true := decide_eq_true (by omega)
                have p4 : (q : Int) < t.size := by omega
                have hqd : q < t.data.toList.length := by rw [← HTL.out]; exact hqt
                have hsnoc : pre ++ t.data.toList.take (q + 1) = (pre ++ t.data.toList.take q) ++ [t[q]'hqt] := by
                  rw [List.take_succ_eq_append_getElem hqd, Sp.get_idx t q hqt hqd, List.append_assoc]
                have HSNO := Lib.hid hsnoc
                have HOK := Lib.hid hok
                clear hok hbk hsnoc
                go_wp2_with (at_builtin; refine wpList_byte rfl _ _ rfl w.heap.size tk _ rfl HOK.out w HBK.out hbks (t[q]'hqt) rfl hl5 ?_)
                intro tk2 w8 ho8 hb8
                have HO8 := Lib.hid ho8
                have HB8 := Lib.hid hb8
                clear ho8 hb8
                go_wp2_with fail
                go_roundw
                case rel => exact ⟨q + 1, _, rfl, by rfl, by omega, by rw [HSNO.out]; first | exact HO8.out | (rw [List.append_assoc]; exact HO8.out), HB8.out⟩
                case measure => simp [intOf]; omega
              · have p3 : decide ((q : Int) < t.size) = false := decide_eq_false (by omega)
                have hfin : pre ++ t.data.toList.take q = Sp.textV Sp.p0 (pts.take (i + 1)) := by rw [HSN.out, List.take_of_length_le (by rw [← HTL.out]; omega)]
                rw [hfin] at hok hl5
                obtain ⟨acc2, hacc2⟩ : ∃ acc2, Sp.textV Sp.p0 (pts.take (i + 1)) = acc2 := ⟨_, rfl⟩
                rw [hacc2] at hok hl5
                obtain ⟨A5, cap5, rfl⟩ := byt_slice hok
                have HOK := Lib.hid hok
                have HA2 := Lib.hid hacc2
                have hpre9 : acc2.length ≤ (Sp.textV Sp.p0 pts).length := by rw [← hacc2]; exact HLE.out
                by_cases hbig : 16384 < acc2.length
                · have q6 : decide ((acc2.length : Int) > 16384) = true := decide_eq_true (by omega)
                  have hR : Sp.printV pts = ([], 2) := by rw [HPV.out, if_pos (by omega)]
                  have HRR := Lib.hid hR
                  clear hok hbk hfin hacc2 hR
                  go_wp2_with fail
                  go_ret2
                  exact PrintEnd_of HRR.out rfl rfl HBK.out
                · have q6 : decide ((acc2.length : Int) > 16384) = false := decide_eq_false (by omega)
                  clear hok hbk hfin hacc2
                  go_wp2_with fail
                  go_roundw
                  case rel => exact ⟨i + 1, _, rfl, by rfl, by omega, by rw [HA2.out]; omega, by rw [HA2.out]; exact HOK.out, HBK.out⟩
                  case measure => simp [intOf]; omega
      · have q2 : decide ((i : Int) < n) = false := decide_eq_false (by omega)
        have hown2 := HO.out
        rw [List.take_of_length_le (by rw [HPL.out]; omega)] at hown2 hal
        have hcv := byt_string hown2
        have hR : Sp.printV pts = (Sp.textV Sp.p0 pts, 0) := by rw [HPV.out, if_neg (by omega)]
        have HRR := Lib.hid hR
        clear hown hown2 hR hb hacc
        go_wp2_with fail
        go_ret2
        exact PrintEnd_of HRR.out rfl rfl HB.out
end Go.Proofs.YtjedoipbllcfdaaGreatDoor
