/-
  A packet along ports, as a plain function (chapter 10; no program in sight).
-/
import Derived.Test.YtpknablklencdaaGreatDoorMs
set_option linter.unusedVariables false
set_option linter.unusedSimpArgs false
namespace Go.Proofs.YtpknablklencdaaGreatDoor
open Go.RowKit
namespace Sp
def hitM (x : Int) (m : Mv) : Bool := (m.out == x && decide (0 ≤ m.entry)) || (decide (m.out < 0) && m.inn == x)
def stepA (x : Int) (m : Mv) (a : Int) : Int := if (m.out == x && decide (0 ≤ m.entry)) = true then a + 1 else a
def followV (n : Net) : Nat → ByteArray → List Int → Int → Int → ByteArray × Int × Int
  | _, h, [], _, a => (h, a, 0)
  | p, h, x :: r, i, a => match (movesV n p h).find? (hitM x) with
    | none => (⟨#[]⟩, i, 101)
    | some m => followV n x.toNat m.header r (i + 1) (stepA x m a)
noncomputable def followT (n : Net) (p : Int) (h : ByteArray) (l : List Int) : ByteArray × Int × Int :=
  if 130 < l.length then (⟨#[]⟩, 0, 2) else if checkE n p h = 0 then (match l with
    | [] => (⟨#[]⟩, 0, 101)
    | x :: r => if p = x then followV n p.toNat h r 1 0 else (⟨#[]⟩, 0, 101)) else (⟨#[]⟩, 0, checkE n p h)
theorem followV_none {n : Net} {p : Nat} {h : ByteArray} {x : Int} {r : List Int} {i a : Int} (hn : ∀ m ∈ movesV n p h, hitM x m = false) : followV n p h (x :: r) i a = (⟨#[]⟩, i, 101) := by
  unfold followV
  rw [List.find?_eq_none.2 (fun m hm => by rw [hn m hm]; decide)]
theorem followV_some {n : Net} {p : Nat} {h : ByteArray} {x : Int} {r : List Int} {i a : Int} {pre : List Mv} {m : Mv} (hp : pre ++ [m] <+: movesV n p h) (hn : ∀ y ∈ pre, hitM x y = false) (hm : hitM x m = true) : followV n p h (x :: r) i a = followV n x.toNat m.header r (i + 1) (stepA x m a) := by
  obtain ⟨s, hs⟩ := hp
  have hf : (movesV n p h).find? (hitM x) = some m := by
    rw [← hs, List.find?_append, List.find?_append, List.find?_eq_none.2 (fun y hy => by rw [hn y hy]; decide)]
    simp [hm]
  conv => lhs; unfold followV
  rw [hf]
structure MvFine (n : Net) (h : ByteArray) (m : Mv) : Prop where
  size : m.header.size = h.size
  out : 0 ≤ m.out → m.out < (n.ports.length : Int)
  inn : 0 ≤ m.inn → m.inn < (n.ports.length : Int)
  entry : 0 ≤ m.entry → 0 ≤ m.out
  link : m.out < 0 → 0 ≤ m.inn
theorem dst_lt {n : Net} (hn : NetOk n) {p : Nat} {q : Port} (hq : n.ports[p]? = some q) (h0 : 0 ≤ q.dst) : q.dst < (n.ports.length : Int) := by
  rcases (hn.ports p q hq).dst with hd | ⟨_, _, r, hr, _⟩
  · omega
  · have := (List.getElem?_eq_some_iff.1 hr).1
    omega
theorem wordV_sz (word h : ByteArray) : (wordV word h).size = h.size := by
  show (wrL word.data.toList h.data.toList).toArray.size = _
  rw [List.size_toArray, wrL_len, Array.length_toList]
  rfl
theorem movesV_fine {n : Net} (hn : NetOk n) {p : Nat} {h : ByteArray} {m : Mv} (hm : m ∈ movesV n p h) : MvFine n h m := by
  unfold movesV at hm
  split at hm
  · cases hm
  · rename_i q hq
    split at hm
    · split at hm
      · rename_i hd
        obtain rfl : m = ⟨-1, -1, q.dst, h⟩ := by simpa using hm
        exact ⟨rfl, fun h0 => absurd h0 (by show ¬ (0 : Int) ≤ -1; decide), fun h0 => dst_lt hn hq h0, fun h0 => absurd h0 (by show ¬ (0 : Int) ≤ -1; decide), fun _ => hd⟩
      · cases hm
    · split at hm
      · cases hm
      · split at hm
        · cases hm
        · rename_i e he
          have hbx := (hn.ports p q hq).box
          have hbl : q.box.toNat < n.tables.length := by omega
          have ht : n.tables[q.box.toNat]? = some (n.tables[q.box.toNat]) := List.getElem?_eq_getElem hbl
          rw [List.getD_eq_getElem?_getD, ht] at he
          obtain ⟨o, ho, hmo⟩ := List.mem_filterMap.1 hm
          obtain ⟨i, hi⟩ := List.mem_iff_getElem?.1 ho
          obtain ⟨h1, q', h2, _⟩ := ((table_at hn ht (List.mem_of_getElem? he)).outs i o hi).1
          have h3 := (List.getElem?_eq_some_iff.1 h2).1
          unfold outMv at hmo
          split at hmo
          · rename_i g r hg hr
            split at hmo
            · injection hmo with hmo
              subst hmo
              exact ⟨wordV_sz _ _, fun _ => by show o < _; omega, fun h0 => dst_lt hn hr h0, fun _ => h1, fun h0 => absurd h1 (by have : o < 0 := h0; omega)⟩
            · cases hmo
          · cases hmo
theorem hit_lt {n : Net} {h : ByteArray} {m : Mv} {x : Int} (hf : MvFine n h m) (hm : hitM x m = true) : 0 ≤ x ∧ x < (n.ports.length : Int) := by
  unfold hitM at hm
  rw [Bool.or_eq_true, Bool.and_eq_true, Bool.and_eq_true, beq_iff_eq, beq_iff_eq, decide_eq_true_eq, decide_eq_true_eq] at hm
  rcases hm with ⟨h1, h2⟩ | ⟨h1, h2⟩
  · have := hf.entry h2
    have := hf.out this
    omega
  · have := hf.link h1
    have := hf.inn this
    omega
theorem fitsG_sz {g : List Guard} {h h' : ByteArray} (he : h'.size = h.size) (hf : fitsG g h) : fitsG g h' := ⟨fun l hl => ⟨(hf.1 l hl).1, fun c hc => by rw [he]; exact (hf.1 l hl).2 c hc⟩, hf.2⟩
theorem mvOk_sz {n : Net} {p : Nat} {h h' : ByteArray} (he : h'.size = h.size) (hm : MvOk n p h) : MvOk n p h' := by
  rcases hm with hx | ⟨q, g, t, ok⟩
  · exact Or.inl hx
  · refine Or.inr ⟨q, g, t, ok.hq, ok.hin, ok.hg, ok.hb, ok.ht, fitsG_sz he ok.hf, ?_, ok.htl, ok.hp, ok.hpp, ok.htt, by rw [he]; exact ok.hh, ok.hs, fun e hx => by rw [he]; exact ok.hw e hx, fun e hx => ?_⟩
    · intro e hx
      obtain ⟨h1, h2, h3⟩ := ok.hft e hx
      exact ⟨h1, h2, fun c hc => by rw [he]; exact h3 c hc⟩
    · obtain ⟨h1, h2⟩ := ok.ho e hx
      refine ⟨h1, fun o ho => ?_⟩
      obtain ⟨h3, g', q', h4, h5, h6⟩ := h2 o ho
      exact ⟨h3, g', q', h4, h5, fun k hk => h6 k (by rw [hk, he])⟩
structure StAt (n : Net) (h0 : ByteArray) (p : Nat) (h : ByteArray) : Prop where
  port : p < n.ports.length
  size : h.size = h0.size
theorem StAt.mvOk {n : Net} {p0 : Int} {h0 h : ByteArray} {p : Nat} (hn : NetOk n) (hs : StateOk n p0 h0) (h1 : StAt n h0 p h) : MvOk n p h :=
  mvOk_sz h1.size (mvOk_of (p := p) hn ⟨⟨by omega, by have := h1.port; omega⟩, hs.bits, hs.digits⟩)
theorem StAt.next {n : Net} {h0 h : ByteArray} {p : Nat} {x : Int} {m : Mv} (hn : NetOk n) (h1 : StAt n h0 p h) (hm : m ∈ movesV n p h) (hx : hitM x m = true) : StAt n h0 x.toNat m.header := by
  have hf := movesV_fine hn hm
  have := hit_lt hf hx
  exact ⟨by omega, by rw [hf.size, h1.size]⟩
theorem StAt.first {n : Net} {p : Nat} {h : ByteArray} (hs : StateOk n p h) : StAt n h p h := ⟨by have := hs.port; omega, rfl⟩
end Sp
end Go.Proofs.YtpknablklencdaaGreatDoor
