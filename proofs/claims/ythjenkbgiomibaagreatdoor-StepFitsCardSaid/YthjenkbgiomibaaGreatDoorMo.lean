/-
  THE WALK of the iterator that step.moves hands back (chapter 10).
-/
import Derived.Test.YthjenkbgiomibaaGreatDoorMn
set_option linter.unusedVariables false
set_option linter.unusedSimpArgs false
set_option maxRecDepth 100000
set_option maxHeartbeats 4000000
namespace Go.Proofs.YthjenkbgiomibaaGreatDoor
open Go.RowKit

namespace Sp
structure Mv where
  entry : Int
  out : Int
  inn : Int
  header : ByteArray
/-- The way on through an out-port, if its guard lets the header by. -/
def outMv (n : Net) (num : Int) (h : ByteArray) (o : Int) : Option Mv := match n.guards[o.toNat]?, n.ports[o.toNat]? with
  | some g, some q => if letsB g h = true then some ⟨num, o, q.dst, h⟩ else none
  | _, _ => none
/-- The ways on from a state, in their order. -/
def movesV (n : Net) (p : Nat) (h : ByteArray) : List Mv := match n.ports[p]? with
  | none => []
  | some q => if q.inn = false then (if 0 ≤ q.dst then [⟨-1, -1, q.dst, h⟩] else []) else
    if fitN n p h < 0 then [] else match (n.tables.getD q.box.toNat [])[(fitN n p h).toNat]? with
      | none => []
      | some e => e.outs.filterMap (outMv n (numB n q.box.toNat (fitN n p h).toNat) (wordV e.write h))
end Sp
def mvC (m : Sp.Mv) : Value := .agg #[.int .i64 m.entry, .int .i64 m.out, .int .i64 m.inn, .string m.header]
theorem grown_of_below {w w' : World} (h : Below w.heap.size w w') : w.grownBy w' none := ⟨h.os, h.tape, h.output, h.size, fun b hb _ => h.block b hb⟩
theorem moves1_link (m : Nat) (l Bn Bs N n0 : Nat) (n : Sp.Net) (p : Nat) (h : ByteArray) (q : Sp.Port) (hq : n.ports[p]? = some q) (hin : q.inn = false) (J Jx : List Sp.Mv → World → Prop) (W : World) (hJ : AbidesFrom W.heap.size J)
    (hY : ∀ pre x W1, J pre W1 → pre.length < (Sp.movesV n p h).length → YieldAt Fence.wide (m - 1) Tryz.prog l #[mvC x] W1 fun e W' =>
      (e = .returned (.bool true) ∧ J (pre ++ [x]) W' ∧ Below n0 W1 W') ∨ (e = .returned (.bool false) ∧ Jx (pre ++ [x]) W'))
    (hm : 1 ≤ m) (hn : NetAt W N n) (hbn : W.cell? ⟨Bn, 0, none⟩ = some (.pointer (some ⟨N, 0, none⟩))) (hs0 : W.cell? ⟨Bs, 0, none⟩ = some (.int .i64 (p : Int))) (hs1 : W.cell? ⟨Bs, 1, none⟩ = some (.string h)) (hlp : n.ports.length ≤ 1000000) (h0 : J [] W) :
    CallsIn Fence.wide m Tryz.prog 47 #[.func (.yield l) #[] #[], .pointer (some ⟨Bn, 0, none⟩), .pointer (some ⟨Bs, 0, none⟩)] W fun e W' => (∃ v, e = .returned v) ∧
      ((∃ xs, xs = Sp.movesV n p h ∧ J xs W') ∨ (∃ pre, pre <+: Sp.movesV n p h ∧ Jx pre W')) := by
  obtain ⟨A1, c1, A2, c2, A3, c3, hN, n0', n1, n2, n3, hpv, _⟩ := hn.at
  obtain ⟨gq, oq, rfl, hgq, k0, k1, k2, k3⟩ := hpv.at hq
  have hpl : p < n.ports.length := (List.getElem?_eq_some_iff.1 hq).1
  obtain ⟨np, hnp⟩ : ∃ np, n.ports.length = np := ⟨_, rfl⟩
  rw [hnp] at n1 hpl hlp
  obtain ⟨qn, qb, qi, qd⟩ := q
  simp only [] at k0 k1 k2 k3 hin
  subst hin
  have p0 : (0 : Int) ≤ (p : Int) := by omega
  have p1 : (p : Int) < (np : Int) := by omega
  have hS : W.cell? ⟨Bn, 0, none⟩ = some (.pointer (some ⟨N, 0, none⟩)) ∧ W.cell? ⟨N, 1, none⟩ = some (.slice (some ⟨gq, oq, none⟩) np c1) ∧ W.cell? ⟨Bs, 0, none⟩ = some (.int .i64 (p : Int)) ∧ W.cell? ⟨gq, oq + p * 4, none⟩ = some (.string qn) ∧ W.cell? ⟨gq, oq + p * 4 + 1, none⟩ = some (.int .i64 qb) ∧ W.cell? ⟨gq, oq + p * 4 + 2, none⟩ = some (.bool false) ∧ W.cell? ⟨gq, oq + p * 4 + 3, none⟩ = some (.int .i64 qd) := ⟨hbn, n1, hs0, k0, k1, k2, k3⟩
  have hlbn := xcell_lt hbn
  have hlbs := xcell_lt hs0
  have hkeep : ∀ w', Below W.heap.size W w' → w'.cell? ⟨Bn, 0, none⟩ = some (.pointer (some ⟨N, 0, none⟩)) ∧ w'.cell? ⟨N, 1, none⟩ = some (.slice (some ⟨gq, oq, none⟩) np c1) ∧ w'.cell? ⟨Bs, 0, none⟩ = some (.int .i64 (p : Int)) ∧ w'.cell? ⟨gq, oq + p * 4, none⟩ = some (.string qn) ∧ w'.cell? ⟨gq, oq + p * 4 + 1, none⟩ = some (.int .i64 qb) ∧ w'.cell? ⟨gq, oq + p * 4 + 2, none⟩ = some (.bool false) ∧ w'.cell? ⟨gq, oq + p * 4 + 3, none⟩ = some (.int .i64 qd) ∧ w'.cell? ⟨Bs, 1, none⟩ = some (.string h) := fun w' hb => ⟨(hb.cell (p := ⟨Bn, 0, none⟩) hlbn).trans hbn, (hb.cell (p := ⟨N, 1, none⟩) hN).trans n1, (hb.cell (p := ⟨Bs, 0, none⟩) hlbs).trans hs0, (hb.cell (p := ⟨gq, oq + p * 4, none⟩) hgq).trans k0, (hb.cell (p := ⟨gq, oq + p * 4 + 1, none⟩) hgq).trans k1, (hb.cell (p := ⟨gq, oq + p * 4 + 2, none⟩) hgq).trans k2, (hb.cell (p := ⟨gq, oq + p * 4 + 3, none⟩) hgq).trans k3, (hb.cell (p := ⟨Bs, 1, none⟩) hlbs).trans hs1⟩
  have HKEEP := Lib.hid hkeep
  clear hkeep hlbn hlbs
  have HM := Lib.hid (show Sp.movesV n p h = if 0 ≤ qd then [⟨-1, -1, qd, h⟩] else [] by unfold Sp.movesV; rw [hq]; rfl)
  have HY := Lib.hid hY
  have HJ := Lib.hid hJ
  have HS := Lib.hid hS
  have HS1 := Lib.hid hs1
  clear hY hJ hn hpv hq hnp hbn hs0 hs1 n0' n1 n2 n3 k0 k1 k2 k3
  refine callsIn_of_wp Tryz.func47 rfl trivial ?_ rfl
  simp only [Tryz.ntmps47, List.size_toArray, List.length_cons, List.length_nil, Nat.reduceAdd, Nat.reduceSub, Array.replicate_succ, Array.replicate_zero, List.push_toArray, List.append_toArray, List.nil_append, List.cons_append]
  gi_wp2
  refine wpIn_region_K 9 (fun w' => w'.cell? ⟨Bn, 0, none⟩ = some (.pointer (some ⟨N, 0, none⟩)) ∧ w'.cell? ⟨N, 1, none⟩ = some (.slice (some ⟨gq, oq, none⟩) np c1) ∧ w'.cell? ⟨Bs, 0, none⟩ = some (.int .i64 (p : Int)) ∧ w'.cell? ⟨gq, oq + p * 4, none⟩ = some (.string qn) ∧ w'.cell? ⟨gq, oq + p * 4 + 1, none⟩ = some (.int .i64 qb) ∧ w'.cell? ⟨gq, oq + p * 4 + 2, none⟩ = some (.bool false) ∧ w'.cell? ⟨gq, oq + p * 4 + 3, none⟩ = some (.int .i64 qd)) (by kernel_rfl) (fun hcl => ?_)
  have hS : (fun w' : World => w'.cell? ⟨Bn, 0, none⟩ = some (.pointer (some ⟨N, 0, none⟩)) ∧ w'.cell? ⟨N, 1, none⟩ = some (.slice (some ⟨gq, oq, none⟩) np c1) ∧ w'.cell? ⟨Bs, 0, none⟩ = some (.int .i64 (p : Int)) ∧ w'.cell? ⟨gq, oq + p * 4, none⟩ = some (.string qn) ∧ w'.cell? ⟨gq, oq + p * 4 + 1, none⟩ = some (.int .i64 qb) ∧ w'.cell? ⟨gq, oq + p * 4 + 2, none⟩ = some (.bool false) ∧ w'.cell? ⟨gq, oq + p * 4 + 3, none⟩ = some (.int .i64 qd)) W.drew := HS.out
  refine wpAnyKIn_take (i := 0) (v := ?_) rfl hcl hS rfl (by kernel_rfl) (fun _ _ _ h => h) (by rfl) ?_ (fun _ => rfl) (fun hcl2 => ?_)
  rotate_left
  · (intro w hSw; (try dsimp only at hSw); first | (go_simp; done) | (go_simp; with_reducible rfl))
  (try simp only [List.getElem_toArray, List.getElem_cons_succ, List.getElem_cons_zero])
  (try simp only [Act.put, List.setIfInBounds_toArray, List.set_cons_zero, List.set_cons_succ])
  clear hcl; have hcl := hcl2; clear hcl2
  refine wpAnyKIn_take (i := 1) (v := ?_) rfl hcl hS rfl (by kernel_rfl) (fun _ _ _ h => h) (by rfl) ?_ (fun _ => rfl) (fun hcl2 => ?_)
  rotate_left
  · (intro w hSw; (try dsimp only at hSw); first | (go_simp; done) | (go_simp; with_reducible rfl))
  (try simp only [List.getElem_toArray, List.getElem_cons_succ, List.getElem_cons_zero])
  (try simp only [Act.put, List.setIfInBounds_toArray, List.set_cons_zero, List.set_cons_succ])
  clear hcl; have hcl := hcl2; clear hcl2
  refine wpAnyKIn_take (i := 2) (v := ?_) rfl hcl hS rfl (by kernel_rfl) (fun _ _ _ h => h) (by rfl) ?_ (fun _ => rfl) (fun hcl2 => ?_)
  rotate_left
  · (intro w hSw; (try dsimp only at hSw); first | (go_simp; done) | (go_simp; with_reducible rfl))
  (try simp only [List.getElem_toArray, List.getElem_cons_succ, List.getElem_cons_zero])
  (try simp only [Act.put, List.setIfInBounds_toArray, List.set_cons_zero, List.set_cons_succ])
  clear hcl; have hcl := hcl2; clear hcl2
  refine wpAnyKIn_take (i := 3) (v := ?_) rfl hcl hS rfl (by kernel_rfl) (fun _ _ _ h => h) (by rfl) ?_ (fun _ => rfl) (fun hcl2 => ?_)
  rotate_left
  · (intro w hSw; (try dsimp only at hSw); first | (go_simp; done) | (go_simp; with_reducible rfl))
  (try simp only [List.getElem_toArray, List.getElem_cons_succ, List.getElem_cons_zero])
  (try simp only [Act.put, List.setIfInBounds_toArray, List.set_cons_zero, List.set_cons_succ])
  clear hcl; have hcl := hcl2; clear hcl2
  refine wpAnyKIn_take (i := 4) (v := ?_) rfl hcl hS rfl (by kernel_rfl) (fun _ _ _ h => h) (by rfl) ?_ (fun _ => rfl) (fun hcl2 => ?_)
  rotate_left
  · (intro w hSw; (try dsimp only at hSw); first | (go_simp; done) | (go_simp; with_reducible rfl))
  (try simp only [List.getElem_toArray, List.getElem_cons_succ, List.getElem_cons_zero])
  (try simp only [Act.put, List.setIfInBounds_toArray, List.set_cons_zero, List.set_cons_succ])
  clear hcl; have hcl := hcl2; clear hcl2
  refine wpAnyKIn_take (i := 5) (v := ?_) rfl hcl hS rfl (by kernel_rfl) (fun _ _ _ h => h) (by rfl) ?_ (fun _ => rfl) (fun hcl2 => ?_)
  rotate_left
  · (intro w hSw; (try dsimp only at hSw); first | (go_simp; done) | (go_simp; with_reducible rfl))
  (try simp only [List.getElem_toArray, List.getElem_cons_succ, List.getElem_cons_zero])
  (try simp only [Act.put, List.setIfInBounds_toArray, List.set_cons_zero, List.set_cons_succ])
  clear hcl; have hcl := hcl2; clear hcl2
  refine wpAnyKIn_take (i := 6) (v := ?_) rfl hcl hS rfl (by kernel_rfl) (fun _ _ _ h => h) (by rfl) ?_ (fun _ => rfl) (fun hcl2 => ?_)
  rotate_left
  · (intro w hSw; (try dsimp only at hSw); first | (go_simp; done) | (go_simp; with_reducible rfl))
  (try simp only [List.getElem_toArray, List.getElem_cons_succ, List.getElem_cons_zero])
  (try simp only [Act.put, List.setIfInBounds_toArray, List.set_cons_zero, List.set_cons_succ])
  clear hcl; have hcl := hcl2; clear hcl2
  refine wpAnyKIn_take (i := 7) (v := ?_) rfl hcl hS rfl (by kernel_rfl) (fun _ _ _ h => h) (by rfl) ?_ (fun _ => rfl) (fun hcl2 => ?_)
  rotate_left
  · (intro w hSw; (try dsimp only at hSw); first | (go_simp; done) | (go_simp; with_reducible rfl))
  (try simp only [List.getElem_toArray, List.getElem_cons_succ, List.getElem_cons_zero])
  (try simp only [Act.put, List.setIfInBounds_toArray, List.set_cons_zero, List.set_cons_succ])
  clear hcl; have hcl := hcl2; clear hcl2
  clear hS
  refine wpAnyKIn_one (i := 8) hcl (by kernel_rfl) rfl (by rfl) (fun K hK => ?_)
  simp only [List.getElem_toArray, List.getElem_cons_succ, List.getElem_cons_zero]
  refine ⟨(fun f hf => by cases hf), ?_⟩
  rw [show Fence.wide.round = none from rfl, Oper.semAt_none]
  go_simp
  have hb8 : Below W.heap.size W (W.alloc (.cells #[.string ⟨#[]⟩, .int .i64 0, .bool false, .int .i64 0] 43)).drew := ((Below.refl _ _).alloc (Nat.le_refl _) _).drew
  obtain ⟨s0, s1, s2, s3, s4, s5, s6, _⟩ := HKEEP.out _ hb8
  refine hK.out _ _ (Or.inr ⟨s0, s1, s2, s3, s4, s5, s6⟩) (fun hcl2 => ?_)
  clear hK K hcl s0 s1 s2 s3 s4 s5 s6 hb8
  have hcl := hcl2
  clear hcl2
  refine wpAnyKIn_one (i := 9) hcl (by kernel_rfl) rfl (by rfl) (fun K hK => ?_)
  simp only [List.getElem_toArray, List.getElem_cons_succ, List.getElem_cons_zero]
  refine ⟨(fun f hf => by cases hf), ?_⟩
  rw [show Fence.wide.round = none from rfl, Oper.semAt_none]
  go_simp
  refine hK.out _ _ (Or.inl (by kernel_rfl)) (fun hcl2 => ?_)
  clear hK K hcl hcl2
  refine wpAnyKIn_done (by kernel_rfl) ?_ _
  have hb9 : Below W.heap.size W (W.alloc (.cells #[.string qn, .int .i64 qb, .bool false, .int .i64 qd] 43)).drew := ((Below.refl _ _).alloc (Nat.le_refl _) _).drew
  obtain ⟨_, _, _, _, _, _, _, s7⟩ := HKEEP.out _ hb9
  have hg9 := grown_of_below hb9
  by_cases hd : 0 ≤ qd
  · have t1 : decide (qd ≥ 0) = true := decide_eq_true hd
    have hM : Sp.movesV n p h = [⟨-1, -1, qd, h⟩] := by rw [HM.out, if_pos hd]
    obtain ⟨fn, tmps, assign, body, hy, hR⟩ := HY.out [] ⟨-1, -1, qd, h⟩ _ (HJ.out [] W _ none h0 hg9 (fun r e => by cases e)) (by rw [hM]; exact Nat.zero_lt_one)
    dsimp only [mvC] at hy
    gi_wp2
    refine hR.mono ?_
    rintro e W3 (⟨rfl, hJ3, hk3⟩ | ⟨rfl, hJx3⟩)
    · gi_wp2
      refine bodyPost_ret (results_none rfl _ _ _) rfl ?_
      exact ⟨⟨_, rfl⟩, .inl ⟨_, hM.symm, hJ3⟩⟩
    · gi_wp2
      refine bodyPost_ret (results_none rfl _ _ _) rfl ?_
      exact ⟨⟨_, rfl⟩, .inr ⟨_, by rw [hM]; exact List.prefix_refl _, hJx3⟩⟩
  · have t1 : decide (qd ≥ 0) = false := decide_eq_false hd
    have hM : Sp.movesV n p h = [] := by rw [HM.out, if_neg hd]
    gi_wp2
    refine bodyPost_ret (results_none rfl _ _ _) rfl ?_
    exact ⟨⟨_, rfl⟩, .inl (HJ.out [] W _ none h0 hg9 (fun r e => by cases e))⟩
end Go.Proofs.YthjenkbgiomibaaGreatDoor
