/-
 The document's own Follow picks the last state of Next's list that stands at the port: the same as step.Follow's move (chapter 10; no program in sight).
-/
import Derived.Test.YthnamoedpnknmaaGreatDoorAe
set_option linter.unusedVariables false
set_option linter.unusedSimpArgs false
namespace Go.Proofs.YthnamoedpnknmaaGreatDoor
open Go.RowKit
namespace Sp
def stLast (n : Net) (kin : Bool) (x : Int) (l : List (Int × ByteArray)) : Option (Int × ByteArray) := (l.filter (fun q => q.1 == x && portIn n q.1.toNat != kin)).getLast?
theorem mem_stV {l : List Mv} {q : Int × ByteArray} : q ∈ stV l ↔ ∃ m ∈ l, (0 ≤ m.out ∧ q = (m.out, m.header)) ∨ (0 ≤ m.inn ∧ q = (m.inn, m.header)) := by
 unfold stV
 rw [List.mem_flatMap]
 constructor
 ·rintro ⟨m, hm, hq⟩
  unfold stM at hq
  refine ⟨m, hm, ?_⟩
  rcases List.mem_append.1 hq with h | h
  ·split at h
   ·exact .inl ⟨by assumption, List.mem_singleton.1 h⟩
   ·cases h
  ·split at h
   ·exact .inr ⟨by assumption, List.mem_singleton.1 h⟩
   ·cases h
 ·rintro ⟨m, hm, h | h⟩
  ·exact ⟨m, hm, by unfold stM; rw [if_pos h.1]; exact List.mem_append_left _ (List.mem_singleton.2 h.2)⟩
  ·exact ⟨m, hm, by unfold stM; rw [if_pos h.1]; exact List.mem_append_right _ (List.mem_singleton.2 h.2)⟩
theorem inn_in {n : Net} (hn : NetOk n) {k : Nat} {h : ByteArray} {q : Port} (hq : n.ports[k]? = some q) {m : Mv} (hm : m ∈ movesV n k h) (h0 : 0 ≤ m.inn) : portIn n m.inn.toNat = true := by
 cases hin : q.inn with
 | false =>
  rw [movesV_link hq hin] at hm
  split at hm
  ·obtain rfl := List.mem_singleton.1 hm
   rcases (hn.ports _ q hq).dst with e | ⟨_, _, r, hr, hri⟩
   ·have h0 : 0 ≤ q.dst := h0
    omega
   ·unfold portIn; rw [hr]; exact hri
  ·cases hm
 | true =>
  have hM := mvIn_of hn hq hin hm
  obtain ⟨s, hs, hsi, hdst⟩ := hM.port
  rcases (hn.ports _ s hs).dst with e | ⟨_, _, r, hr, hri⟩
  ·omega
  ·rw [← hdst] at hr
   unfold portIn; rw [hr]; exact hri
theorem stLast_some {n : Net} (hn : NetOk n) {k : Nat} {h : ByteArray} {q : Port} (hq : n.ports[k]? = some q) {x : Int} {c : Int × ByteArray} (hc : stLast n q.inn x (stV (movesV n k h)) = some c) : ∃ m, m ∈ movesV n k h ∧ (movesV n k h).find? (hitM x) = some m ∧ c = (x, m.header) ∧ stepA x m = fun a => if q.inn = true then a + 1 else a := by
 have hmem : c ∈ (stV (movesV n k h)).filter (fun q' => q'.1 == x && portIn n q'.1.toNat != q.inn) := List.mem_of_getLast? hc
 rw [List.mem_filter] at hmem
 obtain ⟨h1, h2⟩ := hmem
 rw [Bool.and_eq_true, beq_iff_eq] at h2
 obtain ⟨m, hm, h3⟩ := mem_stV.1 h1
 cases hin : q.inn with
 | false =>
  have hmv := movesV_link (h := h) hq hin
  rw [hmv] at hm ⊢
  split at hm
  ·rename_i hd
   obtain rfl := List.mem_singleton.1 hm
   rcases h3 with ⟨h4, _⟩ | ⟨_, h5⟩
   ·exact absurd h4 (by show ¬ (0 : Int) ≤ -1; omega)
   ·have hx : q.dst = x := by rw [← h2.1, h5]
    refine ⟨⟨-1, -1, q.dst, h⟩, by rw [if_pos hd]; exact List.mem_singleton.2 rfl, ?_, by rw [h5, hx], ?_⟩
    ·rw [if_pos hd, List.find?_cons]
     have : hitM x ⟨-1, -1, q.dst, h⟩ = true := by unfold hitM; simp [hx]
     rw [this]
    ·funext a
     unfold stepA
     simp
  ·cases hm
 | true =>
  have hM := mvIn_of hn hq hin hm
  rcases h3 with ⟨h4, h5⟩ | ⟨h4, h5⟩
  ·have hx : m.out = x := by rw [← h2.1, h5]
   refine ⟨m, hm, find_uniq hm ?_ (fun y hy hh => ?_), by rw [h5, hx], ?_⟩
   ·unfold hitM
    simp [hx, hM.entry]
   ·have hY := mvIn_of hn hq hin hy
    have e1 := hY.out
    have e2 := hM.out
    unfold hitM at hh
    simp only [Bool.or_eq_true, Bool.and_eq_true, beq_iff_eq, decide_eq_true_eq] at hh
    rcases hh with ⟨e, _⟩ | ⟨e, _⟩
    ·exact hM.uniq y hy (by omega)
    ·omega
   ·funext a
    unfold stepA
    rw [if_pos (by simp [hx, hM.entry])]
    rfl
  ·exfalso
   have := inn_in hn hq hm h4
   rw [h5] at h2
   rw [this, hin] at h2
   exact absurd h2.2 (by decide)
theorem stLast_none {n : Net} (hn : NetOk n) {k : Nat} {h : ByteArray} {q : Port} (hq : n.ports[k]? = some q) {x : Int} (hx0 : 0 ≤ x ∨ True) (hc : stLast n q.inn x (stV (movesV n k h)) = none) : ∀ m ∈ movesV n k h, hitM x m = false := by
 intro m hm
 unfold stLast at hc
 rw [List.getLast?_eq_none_iff, List.filter_eq_nil_iff] at hc
 cases hh : hitM x m with
 | false => rfl
 | true =>
  exfalso
  unfold hitM at hh
  simp only [Bool.or_eq_true, Bool.and_eq_true, beq_iff_eq, decide_eq_true_eq] at hh
  cases hin : q.inn with
  | false =>
   have hmv := movesV_link (h := h) hq hin
   have hm' := hm
   rw [hmv] at hm'
   split at hm'
   ·rename_i hd
    obtain rfl := List.mem_singleton.1 hm'
    rcases hh with ⟨_, e⟩ | ⟨_, e⟩
    ·exact absurd e (by show ¬ (0 : Int) ≤ -1; omega)
    ·have e : q.dst = x := e
     have h9 := hc (q.dst, h) (mem_stV.2 ⟨_, hm, .inr ⟨hd, rfl⟩⟩)
     have hi := inn_in hn hq hm hd
     have hi : portIn n q.dst.toNat = true := hi
     simp [e ▸ hi, hin, e] at h9
   ·cases hm'
  | true =>
   have hM := mvIn_of hn hq hin hm
   obtain ⟨s, hs, hsi, _⟩ := hM.port
   rcases hh with ⟨e, _⟩ | ⟨e, _⟩
   ·have h9 := hc (m.out, m.header) (mem_stV.2 ⟨m, hm, .inl ⟨hM.out, rfl⟩⟩)
    have hi : portIn n m.out.toNat = false := by unfold portIn; rw [hs]; exact hsi
    rw [e] at hi h9
    simp [hi, hin] at h9
   ·have := hM.out
    omega
theorem follow_hit {n : Net} (hn : NetOk n) {k : Nat} {h : ByteArray} (hs : StateOk n (k : Int) h) {q : Port} (hq : n.ports[k]? = some q) {x : Int} {c : Int × ByteArray} (hc : stLast n q.inn x (stV (movesV n k h)) = some c) (r : List Int) (i a : Int) :
  ∃ k' : Nat, c.1 = (k' : Int) ∧ x = (k' : Int) ∧ StateOk n (k' : Int) c.2 ∧ followV n k h (x :: r) i a = followV n k' c.2 r (i + 1) (if q.inn = true then a + 1 else a) := by
 obtain ⟨m, hm, hf, rfl, hst⟩ := stLast_some hn hq hc
 have hfi := movesV_fine hn hm
 have hx : 0 ≤ x ∧ x < (n.ports.length : Int) ∧ StateOk n x m.header := by
  have hit := List.find?_some hf
  unfold hitM at hit
  simp only [Bool.or_eq_true, Bool.and_eq_true, beq_iff_eq, decide_eq_true_eq] at hit
  cases hin : q.inn with
  | false =>
   have hmv := movesV_link (h := h) hq hin
   rw [hmv] at hm
   split at hm
   ·rename_i hd
    obtain rfl := List.mem_singleton.1 hm
    rcases hit with ⟨_, e⟩ | ⟨_, e⟩
    ·exact absurd e (by show ¬ (0 : Int) ≤ -1; omega)
    ·have e : q.dst = x := e
     have h2 := hfi.inn hd
     have h2 : q.dst < (n.ports.length : Int) := h2
     exact ⟨by omega, by omega, ⟨by omega, by omega⟩, hs.bits, hs.digits⟩
   ·cases hm
  | true =>
   have hM := mvIn_of hn hq hin hm
   obtain ⟨s, hss, _, _⟩ := hM.port
   have hlt := (List.getElem?_eq_some_iff.1 hss).1
   have ho := hM.out
   rcases hit with ⟨e, _⟩ | ⟨e, _⟩
   ·refine ⟨by omega, by omega, ⟨by omega, by omega⟩, ?_, hM.digits hs.digits⟩
    rw [show ((m.header.size : Nat) : Int) = ((h.size : Nat) : Int) by rw [hM.size]]
    exact hs.bits
   ·omega
 refine ⟨x.toNat, by show x = _; omega, by omega, ?_, ?_⟩
 ·rw [Int.toNat_of_nonneg hx.1]
  exact hx.2.2
 ·rw [followV_hit hf, hst]
theorem follow_miss {n : Net} (hn : NetOk n) {k : Nat} {h : ByteArray} {q : Port} (hq : n.ports[k]? = some q) {x : Int} (hc : stLast n q.inn x (stV (movesV n k h)) = none) (r : List Int) (i a : Int) : followV n k h (x :: r) i a = (⟨#[]⟩, i, 101) :=
 followV_none (stLast_none hn hq (.inr trivial) hc)
end Sp
end Go.Proofs.YthnamoedpnknmaaGreatDoor
