/-
  THE LAW StepFits (chapter 10): what step.Next tells is what the network's own numbers say.
-/
import Derived.Test.YthjenkbgiomibaaGreatDoorUc
import Derived.Test.YthjenkbgiomibaaGreatDoorUp
import Derived.Deep.QuietTactic
import Derived.BigQuiet
set_option linter.unusedVariables false
set_option linter.unusedSimpArgs false
set_option maxRecDepth 100000
set_option maxHeartbeats 40000000
namespace Go.Proofs.YthjenkbgiomibaaGreatDoor
open Go.RowKit
theorem below_bt {N : Nat} {w W W' : World} (hN : w.heap.size = N) (h : Below N w W) (k : Below W.heap.size W W') : Below N w W' := by subst hN; exact h.trans (k.mono h.size)
/-- An operation whose guard is not met is passed by. -/
theorem wpAnyK_pass2 {P : Program} {md : Region.Mode} {ops : Array Oper} {S : World → Prop} {L : Nat} {Q : Exit → Act → World → Prop} {i : Nat} {oi : Oper} {fuel : Nat} {listed : Array Bool} {a : Act} {w : World} (hc : ClosedL md ops listed) (hS : S w) (hi : ops[i]? = some oi)
    (hs : (Region.noSelect ops && Region.free md ops listed i && (Region.ready md ops listed).contains i && waitsB md ops i 40 L && (L != i)) = true)
    (hQ : ∀ c a w, Q (.panic c) (a.put oi.dst undef) w → Q (.panic c) a w) (hw : Region.wanted oi (yielded ops a.tmps) = false)
    (h : ClosedL md ops (listed.setIfInBounds i true) → wpAnyK P md ops Q S L fuel (listed.setIfInBounds i true) (a.put oi.dst undef) w) : wpAnyK P md ops Q S L (fuel + 1) listed a w := by
  simp only [Bool.and_eq_true] at hs
  obtain ⟨⟨⟨⟨h1, h2⟩, h3⟩, h4⟩, h5⟩ := hs
  have hr : i ∈ Region.ready md ops listed := by simpa using h3
  exact wpAnyK_first hi (Region.noSelect_spec h1) (by simpa using h5) h4 hQ fuel listed a w hc (Region.free_spec hi h2) hr (Or.inr ⟨hw, rfl⟩) hS (h (closedL_set hc hr))
namespace Sp
theorem fitsE2_ok {n : Net} {p : Int} {h : ByteArray} (hn : NetOk n) (hs : StateOk n p h) {g : List Guard} (hg : g ∈ n.guards) (h' : ByteArray) (he : h'.size = h.size) : fitsE2 g h' := by
  have h1 := hn.guards.1
  have h2 := len_le_sum hg
  refine ⟨fun l hl => ?_, by omega⟩
  have h3 := (hn.guards.2 g hg).2 l hl
  exact ⟨by have := h3.1; omega, fun c hc => by rw [cubeOk_size hs (h3.2 c hc), he]⟩
theorem numB_le {n : Net} (hn : NetOk n) {b i : Nat} (hi : i ≤ 256) : numB n b i ≤ 512 := by
  have h1 := take_sum_le (l := n.tables) b
  have h2 := hn.tables.1
  unfold numB
  omega
theorem stV_append (a b : List Mv) : stV (a ++ b) = stV a ++ stV b := by unfold stV; rw [List.flatMap_append]
theorem outs_step {n : Net} {outs : List Int} {k : Nat} {o : Nat} {g : List Guard} {r : Port} {num : Int} {wd : ByteArray} (hk : outs[k]? = some (o : Int)) (hg : n.guards[o]? = some g) (hr : n.ports[o]? = some r) :
    stV ((outs.take (k + 1)).filterMap (outMv n num wd)) = stV ((outs.take k).filterMap (outMv n num wd)) ++ (if letsB g wd = true then ((o : Int), wd) :: (if 0 ≤ r.dst then [(r.dst, wd)] else []) else []) := by
  rw [List.take_add_one, hk, List.filterMap_append, stV_append, ← out_states (num := num) hg hr]
  rfl
theorem wordV_size (word h : ByteArray) : (wordV word h).size = h.size := by
  show (wrL word.data.toList h.data.toList).toArray.size = _
  rw [List.size_toArray, wrL_len, Array.length_toList]
  rfl
end Sp
theorem law_fits_bad (n : Sp.Net) (A1 A2 A3 : Option Addr) (c1 c2 c3 : Nat) (p : Int) (h : ByteArray) (w : World) (hG : Gn w)
    (hnr : NetR w n [.int .i64 n.bits, .slice A1 n.ports.length c1, .slice A2 n.tables.length c2, .slice A3 n.guards.length c3]) (hsz : Sp.Szd n) (hh : h.size ≤ 9223372036854775807) (hE0 : Sp.checkE n p h ≠ 0) :
    Calls Tryz.prog 4 #[.agg #[.int .i64 n.bits, .slice A1 n.ports.length c1, .slice A2 n.tables.length c2, .slice A3 n.guards.length c3], .agg #[.int .i64 p, .string h]] w fun e w' => e = .returned (.bool true) ∧ Below w.heap.size w w' := by
  obtain ⟨N, hN⟩ : ∃ N, w.heap.size = N := ⟨_, rfl⟩
  obtain ⟨W2, hW2⟩ : ∃ W2, (w.alloc (.cells #[.int .i64 n.bits, .slice A1 n.ports.length c1, .slice A2 n.tables.length c2, .slice A3 n.guards.length c3] 26)).alloc (.cells #[.int .i64 p, .string h] 28) = W2 := ⟨_, rfl⟩
  have hb2w : Below w.heap.size w W2 := by rw [← hW2]; exact ((Below.refl _ _).alloc (Nat.le_refl _) _).alloc (by simp) _
  have hs2 : W2.heap.size = N + 2 := by rw [← hW2, ← hN]; simp
  have hkN : Blk W2 N 26 #[.int .i64 n.bits, .slice A1 n.ports.length c1, .slice A2 n.tables.length c2, .slice A3 n.guards.length c3] := by rw [← hW2, ← hN]; exact (Blk.new _ _ _).alloc _
  have hkS : Blk W2 (N + 1) 28 #[.int .i64 p, .string h] := by rw [← hW2, ← hN]; exact blk_new_at (by simp)
  have hC := step_Next n A1 A2 A3 c1 c2 c3 p h W2 (hG.below hb2w) (hnr.more hb2w) hsz hh
  have hKNOWN := fun (W : World) (hb : Below w.heap.size w W) => law10_known W (hG.below hb)
  obtain ⟨hp1, ht1, hg1⟩ : PV w A1 n.ports ∧ TTV w A2 n.tables ∧ GGV w A3 n.guards := by
    obtain ⟨B1, d1, B2, d2, B3, d3, hx, hv1, hv2, hv3, _⟩ := hnr
    injection hx with _ hx
    injection hx with e1 hx
    injection hx with e2 hx
    injection hx with e3 hx
    injection e1 with e1 _ _
    injection e2 with e2 _ _
    injection e3 with e3 _ _
    subst e1 e2 e3
    exact ⟨hv1, hv2, hv3⟩
  have hPV := hp1.more hb2w
  have hTV := ht1.more hb2w
  have hGV := hg1.more hb2w
  obtain ⟨bt, hbt⟩ : ∃ b, n.bits = b := ⟨_, rfl⟩
  obtain ⟨np, hnp⟩ : ∃ np, n.ports.length = np := ⟨_, rfl⟩
  obtain ⟨nt, hnt⟩ : ∃ nt, n.tables.length = nt := ⟨_, rfl⟩
  obtain ⟨ng, hng⟩ : ∃ ng, n.guards.length = ng := ⟨_, rfl⟩
  rw [hbt, hnp, hnt, hng] at hW2 hkN hC ⊢
  obtain ⟨E, hE⟩ : ∃ E, Sp.checkE n p h = E := ⟨_, rfl⟩
  have x0 : W2.cell? ⟨N, 0, none⟩ = some (.int .i64 bt) := hkN.cell 0
  have x1 : W2.cell? ⟨N, 1, none⟩ = some (.slice A1 np c1) := hkN.cell 1
  have x2 : W2.cell? ⟨N, 2, none⟩ = some (.slice A2 nt c2) := hkN.cell 2
  have x3 : W2.cell? ⟨N, 3, none⟩ = some (.slice A3 ng c3) := hkN.cell 3
  have x4 : W2.cell? ⟨N + 1, 0, none⟩ = some (.int .i64 p) := hkS.cell 0
  have x5 : W2.cell? ⟨N + 1, 1, none⟩ = some (.string h) := hkS.cell 1
  have HN := Lib.hid hN
  have HB2 : Hid (Below N w W2) := Lib.hid (by rw [← hN]; exact hb2w)
  have HS2 := Lib.hid hs2
  have HKN := Lib.hid hkN
  have HKS := Lib.hid hkS
  have HC := Lib.hid hC
  have HKNOWN : Hid (∀ W, Below N w W → Calls Tryz.prog 12 #[] W fun e w' => e = .returned (.bool true) ∧ Below W.heap.size W w') := Lib.hid (by rw [← hN]; exact hKNOWN)
  have HPV := Lib.hid hPV
  have HTV := Lib.hid hTV
  have HGV := Lib.hid hGV
  have HNP := Lib.hid hnp
  have HNT := Lib.hid hnt
  have HNG := Lib.hid hng
  have HE := Lib.hid hE
  clear hb2w hs2 hkN hkS hC hKNOWN hp1 ht1 hg1 hPV hTV hGV hbt hnp hnt hng hE hG hnr hsz
  have hz : E ≠ 0 := fun e => hE0 (by rw [HE.out]; exact e)
  have te : (E != 0) = true := bne_iff_ne.2 hz
  have HZ := Lib.hid hz
  clear hz
  go_enter Tryz.func4, Tryz.ntmps4
  go_wp2_with fail
  refine HC.out.mono ?_
  rintro e W3 ⟨v, rfl, hst, hb3⟩
  rw [show Sp.nextE n p h = 0 by unfold Sp.nextE; rw [HE.out, if_neg HZ.out], HE.out]
  rw [show Sp.nextS n p h = [] by unfold Sp.nextS; rw [HE.out, if_neg HZ.out]] at hst
  obtain ⟨A, cap, rfl, _⟩ := st_view hst
  simp only [List.length_nil]
  have HB3 := Lib.hid (HB2.out.trans (hb3.mono (by have := HS2.out; omega)))
  clear hst hb3 x0 x1 x2 x3 x4 x5
  go_wp2_with (first
    | (go_at_call 9; refine (law10_num _ _).mono ?_; rintro e _ ⟨rfl, rfl⟩)
    | (go_at_call 12; refine (HKNOWN.out _ HB3.out).mono ?_; rintro e W4 ⟨rfl, hb4⟩; have HB4 := Lib.hid (below_bt HN.out HB3.out hb4); clear hb4))
  go_ret
  exact ⟨rfl, by rw [HN.out]; exact HB4.out⟩
end Go.Proofs.YthjenkbgiomibaaGreatDoor
