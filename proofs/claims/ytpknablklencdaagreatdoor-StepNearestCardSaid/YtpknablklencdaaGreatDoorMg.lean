/-
  What a network in numbers must be; THE WALKS of lower.validCube, validCubes (chapter 9).
-/
import Derived.Test.YtpknablklencdaaGreatDoorMf
import Derived.Test.YtpknablklencdaaGreatDoorLa
set_option linter.unusedVariables false
set_option linter.unusedSimpArgs false
set_option maxRecDepth 100000
set_option maxHeartbeats 4000000
namespace Go.Proofs.YtpknablklencdaaGreatDoor
open Go.RowKit

namespace Sp
/-- A proposition as a Bool. -/
noncomputable def tb (p : Prop) : Bool := @decide p (Classical.propDecidable p)
theorem tb_yes {p : Prop} (h : p) : tb p = true := by unfold tb; exact @decide_eq_true p (Classical.propDecidable p) h
theorem tb_no {p : Prop} (h : ¬ p) : tb p = false := by unfold tb; exact @decide_eq_false p (Classical.propDecidable p) h
def CubeOk (bits : Int) (s : ByteArray) : Prop := cubeE s.data.toList = 0 ∧ (s.size : Int) = bits
def CubesOk (bits : Int) (l : List ByteArray) : Prop := l.length ≤ 64 ∧ ∀ c ∈ l, CubeOk bits c
def PortIs (n : Net) (q box : Int) (inn : Bool) : Prop := 0 ≤ q ∧ ∃ p, n.ports[q.toNat]? = some p ∧ p.inn = inn ∧ p.box = box
structure EntryOk (n : Net) (box : Int) (e : Entry) : Prop where
  name : e.name.size ≤ 256
  nouts : e.outs.length ≤ 4
  cubes : CubesOk n.bits e.cubes
  word : CubeOk n.bits e.write
  ins : ∀ (i : Nat) (p : Int), e.ins[i]? = some p → PortIs n p box true ∧ ∀ p', 0 < i → e.ins[i - 1]? = some p' → p' < p
  outs : ∀ (i : Nat) (q : Int), e.outs[i]? = some q → PortIs n q box false ∧ ∀ (j : Nat), j < i → e.outs[j]? ≠ some q
def GuardOk (bits : Int) (g : List Guard) : Prop := (g.map fun l => l.cubes.length).sum ≤ 512 ∧ ∀ l ∈ g, CubesOk bits l.cubes
def GuardsOk (n : Net) : Prop := (n.guards.map List.length).sum ≤ 64 ∧ ∀ g ∈ n.guards, GuardOk n.bits g
def TableOk (n : Net) (box : Int) (t : List Entry) : Prop := (t.map fun e => e.cubes.length).sum ≤ 512 ∧ ∀ e ∈ t, EntryOk n box e
def TablesOk (n : Net) : Prop := (n.tables.map List.length).sum ≤ 256 ∧ ∀ (b : Nat) (t : List Entry), n.tables[b]? = some t → TableOk n b t
/-- A text is wholly one token of the kind 3. -/
def TokenOk (s : ByteArray) : Prop := s.size ≤ 49 ∧ Lib.trimSpaceD s.data.toList = s.data.toList ∧ ¬ 0 ≤ Lib.indexByte s.data.toList 35 ∧ (scanV s.data.toList).2.1 = 0 ∧ ∃ t ln cl, (scanV s.data.toList).1 = [(3, s.data.toList, ln, cl), t]
structure PortOk (n : Net) (i : Nat) (p : Port) : Prop where
  name : TokenOk p.name
  box : 0 ≤ p.box ∧ p.box < (n.tables.length : Int)
  dst : p.dst = -1 ∨ (p.inn = false ∧ 0 ≤ p.dst ∧ ∃ r, n.ports[p.dst.toNat]? = some r ∧ r.inn = true)
  other : ∀ (j : Nat) (r : Port), j < i → n.ports[j]? = some r → r.name ≠ p.name
def PortsOk (n : Net) : Prop := ∀ (i : Nat) (p : Port), n.ports[i]? = some p → PortOk n i p
structure NetOk (n : Net) : Prop where
  bits : 1 ≤ n.bits ∧ n.bits ≤ 256
  ntables : n.tables.length ≤ 16
  nports : n.ports.length ≤ 48
  nguards : n.guards.length = n.ports.length
  ports : PortsOk n
  guards : GuardsOk n
  tables : TablesOk n
end Sp
theorem net_box {w : World} {n : Sp.Net} {cs : List Value} (h : NetR w n cs) (T : TypeId) : NetAt (w.alloc (.cells cs.toArray T)) w.heap.size n := by
  have hb : Below w.heap.size w (w.alloc (.cells cs.toArray T)) := (Below.refl _ _).alloc (Nat.le_refl _) _
  refine ⟨cs, h.more hb, by rw [World.size_alloc]; omega, fun f u hf => ?_⟩
  have := World.news_of_block (heap_alloc_new w (.cells cs.toArray T)) f u (by simpa using hf)
  rw [xadd_plain, Nat.zero_add] at this
  exact this
theorem lower_validCube (b : Int) (A1 A2 A3 : Option Addr) (n1 c1 n2 c2 n3 c3 : Nat) (s : ByteArray) (w : World) (hs : s.size ≤ 9223372036854775807) :
    Calls Tryz.prog 51 #[.agg #[.int .i64 b, .slice A1 n1 c1, .slice A2 n2 c2, .slice A3 n3 c3], .string s] w fun e w' => e = .returned (.bool (Sp.tb (Sp.CubeOk b s))) ∧ Below w.heap.size w w' := by
  obtain ⟨E, hE⟩ : ∃ E, Sp.cubeE s.data.toList = E := ⟨_, rfl⟩
  obtain ⟨n, hn⟩ : ∃ n, s.size = n := ⟨_, rfl⟩
  have hal : Below w.heap.size w (w.alloc (.cells #[.int .i64 b, .slice A1 n1 c1, .slice A2 n2 c2, .slice A3 n3 c3] 26)) := (Below.refl _ _).alloc (Nat.le_refl _) _
  have HAL := Lib.hid hal
  have HP := Lib.hid (tern_parse s (w.alloc (.cells #[.int .i64 b, .slice A1 n1 c1, .slice A2 n2 c2, .slice A3 n3 c3] 26)) hs)
  rw [hE] at HP
  have hnew := World.news_of_block (heap_alloc_new w (.cells #[.int .i64 b, .slice A1 n1 c1, .slice A2 n2 c2, .slice A3 n3 c3] 26)) 0 _ rfl
  have hsz : w.heap.size < (w.alloc (.cells #[.int .i64 b, .slice A1 n1 c1, .slice A2 n2 c2, .slice A3 n3 c3] 26)).heap.size := by simp
  have HNEW := Lib.hid hnew
  have HSZ := Lib.hid hsz
  have HPOST : Hid ((E == 0) = true ∧ ((n : Int) == b) = true ∧ Sp.tb (Sp.CubeOk b s) = true ∨ (E == 0) = true ∧ ((n : Int) == b) = false ∧ Sp.tb (Sp.CubeOk b s) = false ∨ (E == 0) = false ∧ Sp.tb (Sp.CubeOk b s) = false) := by
    apply Lib.hid
    by_cases h1 : E = 0
    · by_cases h2 : (n : Int) = b
      · exact Or.inl ⟨beq_iff_eq.2 h1, beq_iff_eq.2 h2, Sp.tb_yes ⟨by rw [hE, h1], by rw [hn]; exact h2⟩⟩
      · exact Or.inr (Or.inl ⟨beq_iff_eq.2 h1, beq_eq_false_iff_ne.2 h2, Sp.tb_no (fun h => h2 (by rw [← hn]; exact h.2))⟩)
    · exact Or.inr (Or.inr ⟨beq_eq_false_iff_ne.2 h1, Sp.tb_no (fun h => h1 (by rw [← hE]; exact h.1))⟩)
  obtain ⟨R, hR⟩ : ∃ R, Sp.tb (Sp.CubeOk b s) = R := ⟨_, rfl⟩
  rw [hR] at HPOST ⊢
  clear hE hal hnew hsz hR hs
  rcases HPOST.out with ⟨q1, q2, rfl⟩ | ⟨q1, q2, rfl⟩ | ⟨q1, rfl⟩
  all_goals
    clear HPOST
    go_enter Tryz.func51, Tryz.ntmps51
    go_wp2_with fail
    refine HP.out.mono ?_
    rintro e w1 ⟨cs, ⟨a0, u1, u2, u3, u4, u5, u6, u7, u8, rfl⟩, rfl, hb1⟩
    have k0 : w1.cell? ⟨w.heap.size, 0, none⟩ = some (.int .i64 b) := (hb1.cell (p := ⟨w.heap.size, 0, none⟩) HSZ.out).trans HNEW.out
    have k1 : w.heap.size < w1.heap.size := Nat.lt_of_lt_of_le HSZ.out hb1.size
    have HB1 := Lib.hid (HAL.out.trans (hb1.mono HAL.out.size))
    clear hb1
    go_wp2_with fail
    go_ret
    exact ⟨rfl, HB1.out.alloc HB1.out.size _⟩

theorem lower_validCubes (b : Int) (A1 A2 A3 A : Option Addr) (n1 c1 n2 c2 n3 c3 cap : Nat) (l : List ByteArray) (w : World) (hv : SV w A l) (hs : ∀ s ∈ l, s.size ≤ 9223372036854775807) (hl : l.length ≤ 4611686018427387904) :
    Calls Tryz.prog 46 #[.agg #[.int .i64 b, .slice A1 n1 c1, .slice A2 n2 c2, .slice A3 n3 c3], .slice A l.length cap] w fun e w' => e = .returned (.bool (Sp.tb (Sp.CubesOk b l))) ∧ Below w.heap.size w w' := by
  obtain ⟨n, hn⟩ : ∃ n, l.length = n := ⟨_, rfl⟩
  rw [hn] at hl ⊢
  have HN := Lib.hid hn
  have HV := Lib.hid hv
  have HS := Lib.hid hs
  obtain ⟨W1, hW1⟩ : ∃ W1, w.alloc (.cells #[.int .i64 b, .slice A1 n1 c1, .slice A2 n2 c2, .slice A3 n3 c3] 26) = W1 := ⟨_, rfl⟩
  have hal : Below w.heap.size w W1 := by rw [← hW1]; exact (Below.refl _ _).alloc (Nat.le_refl _) _
  have hbk : Blk W1 w.heap.size 26 #[.int .i64 b, .slice A1 n1 c1, .slice A2 n2 c2, .slice A3 n3 c3] := by rw [← hW1]; exact Blk.new w _ _
  have HAL := Lib.hid hal
  have HBK := Lib.hid hbk
  obtain ⟨P, hP⟩ : ∃ P, Sp.tb (Sp.CubesOk b l) = P := ⟨_, rfl⟩
  rw [hP]
  have HP := Lib.hid hP
  clear hn hv hs hal hbk hP
  by_cases h64 : 64 < n
  · have p1 : decide ((n : Int) > 64) = true := decide_eq_true (by omega)
    have p2 : decide (64 < n) = true := decide_eq_true h64
    have hPf := HP.out
    rw [Sp.tb_no (fun h => by have := h.1; have := HN.out; omega)] at hPf
    subst hPf
    clear h64 HP
    go_enter Tryz.func46, Tryz.ntmps46
    go_wp2
    go_ret
    exact ⟨rfl, HAL.out⟩
  · have p1 : decide ((n : Int) > 64) = false := decide_eq_false (by omega)
    have p2 : decide (64 < n) = false := decide_eq_false h64
    have HN64 := Lib.hid (show n ≤ 64 by omega)
    clear h64
    go_enter Tryz.func46, Tryz.ntmps46
    go_wp2
    clear hW1
    go_loopw [12] (fun v12 wr => ∃ i : Nat, v12 = .int .i64 (i : Int) ∧ i ≤ n ∧ Below w.heap.size w wr ∧ Blk wr w.heap.size 26 #[.int .i64 b, .slice A1 n1 c1, .slice A2 n2 c2, .slice A3 n3 c3] ∧ Hid (∀ (j : Nat) (c : ByteArray), j < i → l[j]? = some c → Sp.CubeOk b c)) (fun v12 _ => n - (intOf v12).toNat)
    case atStart => exact ⟨0, rfl, Nat.zero_le _, HAL.out, HBK.out, Lib.hid (fun j c hj => by omega)⟩
    case round =>
      obtain ⟨i, rfl, hi, hb, hk, hok⟩ := hrel
      have HB := Lib.hid hb
      have HK := Lib.hid hk
      have i0 : (0 : Int) ≤ (i : Int) := by omega
      by_cases hlt : i < n
      · have q1 : decide ((i : Int) < (n : Int)) = true := decide_eq_true (by omega)
        have q2 : decide (i < n) = true := decide_eq_true hlt
        have q3 : (i : Int) < (n : Int) := by omega
        obtain ⟨c, hc⟩ : ∃ c, l[i]? = some c := ⟨_, List.getElem?_eq_getElem (by rw [HN.out]; exact hlt)⟩
        obtain ⟨g, o, rfl, hg, k0⟩ := (HV.out.more hb).at hc
        have m0 : wr.cell? ⟨w.heap.size, 0, none⟩ = some (.int .i64 b) := hk.cell 0
        have m1 : wr.cell? ⟨w.heap.size, 1, none⟩ = some (.slice A1 n1 c1) := hk.cell 1
        have m2 : wr.cell? ⟨w.heap.size, 2, none⟩ = some (.slice A2 n2 c2) := hk.cell 2
        have m3 : wr.cell? ⟨w.heap.size, 3, none⟩ = some (.slice A3 n3 c3) := hk.cell 3
        have z1 : IntKind.i64.wrap ((i : Int) + 1) = (i : Int) + 1 := by rw [IntKind.wrap_i64]; omega
        have HI := Lib.hid (show i + 1 ≤ n by omega)
        have hcall := lower_validCube b A1 A2 A3 n1 c1 n2 c2 n3 c3 c wr (HS.out c (List.mem_of_getElem? hc))
        have HLT := Lib.hid hk.lt
        by_cases hy : Sp.CubeOk b c
        · rw [Sp.tb_yes hy] at hcall
          have HCALL := Lib.hid hcall
          have HOK : Hid (∀ (j : Nat) (x : ByteArray), j < i + 1 → l[j]? = some x → Sp.CubeOk b x) := Lib.hid (by
            intro j x hj hx
            by_cases hji : j = i
            · subst hji
              rw [hc] at hx
              injection hx with hx
              rw [← hx]
              exact hy
            · exact hok.out j x (by omega) hx)
          clear hb hk hi hlt hc hcall hy hok
          go_wp2_with fail
          refine HCALL.out.mono ?_
          rintro e wb ⟨rfl, hbb⟩
          have HBB := Lib.hid (HB.out.trans (hbb.mono HB.out.size))
          have HKB := Lib.hid (HK.out.below hbb HLT.out)
          clear hbb
          go_wp2_with fail
          go_roundw
          case rel => exact ⟨i + 1, by rfl, HI.out, HBB.out, HKB.out, HOK⟩
          case measure => have := HI.out; simp [intOf]; omega
        · rw [Sp.tb_no hy] at hcall
          have HCALL := Lib.hid hcall
          have hPf := HP.out
          rw [Sp.tb_no (fun h => hy (h.2 c (List.mem_of_getElem? hc)))] at hPf
          have HPF := Lib.hid hPf
          clear hb hk hi hlt hc hcall hy hok hPf
          go_wp2_with fail
          refine HCALL.out.mono ?_
          rintro e wb ⟨rfl, hbb⟩
          have HBB := Lib.hid (HB.out.trans (hbb.mono HB.out.size))
          clear hbb
          go_wp2_with fail
          go_ret
          exact ⟨by rw [← HPF.out]; rfl, HBB.out⟩
      · have q1 : decide ((i : Int) < (n : Int)) = false := decide_eq_false (by omega)
        have q2 : decide (i < n) = false := decide_eq_false hlt
        have hPf := HP.out
        rw [Sp.tb_yes ⟨by rw [HN.out]; exact HN64.out, fun c hc => by
          obtain ⟨j, hj⟩ := List.mem_iff_getElem?.1 hc
          exact hok.out j c (by have := (List.getElem?_eq_some_iff.1 hj).1; rw [HN.out] at this; omega) hj⟩] at hPf
        have HPF := Lib.hid hPf
        clear hb hk hi hlt hok hPf
        go_wp2_with fail
        go_ret
        exact ⟨by rw [← HPF.out]; rfl, HB.out⟩
end Go.Proofs.YtpknablklencdaaGreatDoor
