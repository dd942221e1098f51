/-
  A slice of tokens that came in, read as a list of tokens; what the form's own reach says of it.
-/
import Derived.Test.YtdmpapoabeljfaaGreatDoorZt
import Derived.Test.YtdmpapoabeljfaaGreatDoorGm
import Derived.Carry
import Derived.ChangeArms
import Derived.Deep.Slices
import Derived.SizedLaws
set_option linter.unusedVariables false
set_option linter.unusedSimpArgs false
set_option maxRecDepth 100000
set_option maxHeartbeats 2000000
namespace Go.Proofs.YtdmpapoabeljfaaGreatDoor
open Go.ChangeShapes Go.WideShapes Go.ChangeAt Go.RowKit

section
variable {H : Type} {enc : TypeId × Value → H} {w : World} {base : Nat} {spare : Nat → Bool} {held : Bool}

/-- The datum of a token. -/
def zDat (H : Type) (z : ZTok) : DataW H := .agg [.lit (.int .i64 z.1), .lit (.string z.2.1.data.toList), .lit (.int .i64 z.2.2.1), .lit (.int .i64 z.2.2.2)]

theorem tok_open {fuel : Nat} {cs : List Value} {x : DataW H × List MemPlace} (h : DataW.trod enc Tryz.prog w base spare held fuel 24 cs = some x) :
    ∃ z : ZTok, cs = [.int .i64 z.1, .string z.2.1, .int .i64 z.2.2.1, .int .i64 z.2.2.2] ∧ x.1 = zDat H z := by
  obtain ⟨xs, n, _, hx, hl, hxl, hf⟩ := DataW.trod_struct Tryz.underlying24 h
  have hc4 : Tryz.prog.cellsOf 24 = 4 := by kernel_rfl
  have hci : Tryz.prog.cellsOf 3 = 1 := by kernel_rfl
  have hcs : Tryz.prog.cellsOf 9 = 1 := by kernel_rfl
  rw [hc4] at hl
  match cs, hl, xs, hxl with
  | [c0, c1, c2, c3], _, [x0, x1, x2, x3], _ =>
    have e0 : DataW.trod enc Tryz.prog w base spare held n 3 (([c0, c1, c2, c3].drop 0).take (Tryz.prog.cellsOf 3)) = some x0 := hf 0 _ rfl
    have e1 : DataW.trod enc Tryz.prog w base spare held n 9 (([c0, c1, c2, c3].drop 1).take (Tryz.prog.cellsOf 9)) = some x1 := hf 1 _ rfl
    have e2 : DataW.trod enc Tryz.prog w base spare held n 3 (([c0, c1, c2, c3].drop 2).take (Tryz.prog.cellsOf 3)) = some x2 := hf 2 _ rfl
    have e3 : DataW.trod enc Tryz.prog w base spare held n 3 (([c0, c1, c2, c3].drop 3).take (Tryz.prog.cellsOf 3)) = some x3 := hf 3 _ rfl
    rw [hci] at e0 e2 e3
    rw [hcs] at e1
    obtain ⟨k, hk, hk2, _⟩ := DataW.trod_int Tryz.underlying3 (x := x0) e0
    obtain ⟨t, ht, ht2, _⟩ := DataW.trod_string Tryz.underlying9 (x := x1) e1
    obtain ⟨l, hl, hl2, _⟩ := DataW.trod_int Tryz.underlying3 (x := x2) e2
    obtain ⟨c, hc, hc2, _⟩ := DataW.trod_int Tryz.underlying3 (x := x3) e3
    refine ⟨(k, t, l, c), ?_, ?_⟩
    · injection hk with hk
      injection ht with ht
      injection hl with hl
      injection hc with hc
      rw [hk, ht, hl, hc]
    · rw [hx]
      unfold zDat
      simp only [List.map_cons, List.map_nil, hk2, ht2, hl2, hc2]

theorem cell_lt {w : World} {a : Addr} {v : Value} (h : w.cell? a = some v) : a.block < w.heap.size := by
  rcases Nat.lt_or_ge a.block w.heap.size with hlt | hge
  · exact hlt
  · unfold World.cell? at h
    rw [Array.getElem?_eq_none hge] at h
    cases h
theorem add_plain (g o n : Nat) : (⟨g, o, none⟩ : Addr).add n = ⟨g, o + n, none⟩ := by
  unfold Addr.add
  split
  · rename_i h
    rw [h, Nat.add_zero]
  · rfl

/-- A list by its elements. -/
theorem list_of {α : Type} {p : Nat → α → Prop} : ∀ n : Nat, (∀ i, i < n → ∃ a, p i a) → ∃ l : List α, l.length = n ∧ ∀ i a, l[i]? = some a → p i a
  | 0, _ => ⟨[], rfl, fun i a h => by simp at h⟩
  | n + 1, h => by
    obtain ⟨l, hl, hp⟩ := list_of n (fun i hi => h i (by omega))
    obtain ⟨a, ha⟩ := h n (by omega)
    refine ⟨l ++ [a], by simp [hl], fun i b hb => ?_⟩
    rcases Nat.lt_or_ge i n with hi | hi
    · rw [List.getElem?_append_left (by omega)] at hb
      exact hp i b hb
    · rw [List.getElem?_append_right (by omega)] at hb
      have : i - l.length = 0 := by
        rcases Nat.eq_zero_or_pos (i - l.length) with h0 | h0
        · exact h0
        · rw [List.getElem?_eq_none (by simp; omega)] at hb
          cases hb
      rw [this] at hb
      injection hb with hb
      subst hb
      rw [show i = n by omega]
      exact ha

/-- A slice of tokens that came in. -/
theorem toks_open {v : Value} {d : DataW H} {ps : List MemPlace} (h : DataW.Trod enc Tryz.prog w base spare held 22 v d ps) :
    ∃ (A : Option Addr) (cap : Nat) (zs : List ZTok), v.cells.toList = [.slice A zs.length cap] ∧ zs.length ≤ maxLen ∧ ViewZ w w.heap.size A zs ∧ ((zs = [] ∧ d = .nil) ∨ ∃ spr, d = .slice (zs.map (zDat H)) spr) := by
  obtain ⟨fuel, h⟩ := h
  have hc4 : Tryz.prog.cellsOf 24 = 4 := by kernel_rfl
  rcases DataW.trod_slice Tryz.underlying22 h with ⟨h1, h2⟩ | ⟨a, len, cap, elems, rest, n, _, h1, h2, hb, hlc, hcm, hel, hat, _, _⟩
  · injection h2 with h2 h3
    exact ⟨none, 0, [], h1, by simp, fun i z hz => by simp at hz, Or.inl ⟨rfl, h2⟩⟩
  · rw [hc4] at hat
    have key : ∀ i, i < len → ∃ z : ZTok, (w.cell? (a.add (i * 4)) = some (.int .i64 z.1) ∧ w.cell? ((a.add (i * 4)).add 1) = some (.string z.2.1) ∧ w.cell? ((a.add (i * 4)).add 2) = some (.int .i64 z.2.2.1) ∧ w.cell? ((a.add (i * 4)).add 3) = some (.int .i64 z.2.2.2)) ∧ (elems[i]?).map (·.1) = some (zDat H z) := by
      intro i hi
      have e := hat i hi
      have hil : i < elems.length := by omega
      rw [List.getElem?_eq_getElem hil] at e
      obtain ⟨cs, hcs, ht⟩ := Option.bind_eq_some_iff.1 e
      obtain ⟨z, hz, hz2⟩ := tok_open ht
      obtain ⟨_, _, hc⟩ := World.cells?_some hcs
      subst hz
      refine ⟨z, ⟨?_, hc 1 (by omega), hc 2 (by omega), hc 3 (by omega)⟩, ?_⟩
      · have := hc 0 (by omega)
        rw [show (a.add (i * 4)).add 0 = a.add (i * 4) from rfl] at this
        exact this
      · rw [List.getElem?_eq_getElem hil]
        exact congrArg some hz2
    obtain ⟨zs, hzl, hzs⟩ := list_of len key
    refine ⟨some a, cap, zs, by rw [hzl]; exact h1, by omega, ?_, Or.inr ⟨rest.map (·.1), ?_⟩⟩
    · intro i z hz
      obtain ⟨⟨c0, c1, c2, c3⟩, _⟩ := hzs i z hz
      have hlen : 0 < len := by
        have := (List.getElem?_eq_some_iff.1 hz).1
        omega
      obtain ⟨z0, ⟨k0, _⟩, _⟩ := key 0 hlen
      have hsp : a.spot = none := World.cell?_spot (a := a) k0
      obtain ⟨g, o, sp⟩ := a
      simp only at hsp
      subst hsp
      rw [add_plain] at c0 c1 c2 c3
      rw [add_plain] at c1 c2 c3
      exact ⟨g, o, rfl, cell_lt c0, c0, c1, c2, c3⟩
    · injection h2 with h2 h3
      rw [h2]
      congr 1
      apply List.ext_getElem?
      intro i
      rcases Nat.lt_or_ge i len with hi | hi
      · have hil : i < zs.length := by omega
        have := (hzs i (zs[i]'hil) (List.getElem?_eq_getElem hil)).2
        rw [List.getElem?_map, this, List.getElem?_map, List.getElem?_eq_getElem hil]
        rfl
      · rw [List.getElem?_eq_none (by rw [List.length_map]; omega), List.getElem?_eq_none (by rw [List.length_map]; omega)]

theorem mem_weightsAll {P : Program} {e : TypeId} : ∀ {l : List (DataW H)} {d : DataW H}, d ∈ l → ∀ n ∈ d.weights P e, n ∈ DataW.weightsAll P e l
  | x :: r, d, hd, n, hn => by
    rw [DataW.weightsAll, List.mem_append]
    rcases List.mem_cons.1 hd with rfl | hd
    · exact Or.inl hn
    · exact Or.inr (mem_weightsAll hd n hn)
theorem mem_zDat (z : ZTok) : z.2.1.data.toList.length ∈ (zDat H z).weights Tryz.prog 24 := by
  unfold zDat
  rw [DataW.weights, Tryz.underlying24]
  simp only [List.map_cons, List.map_nil, DataW.weightsEach, DataW.weights]
  simp
/-- What the reach says of a slice of tokens. -/
theorem toks_sized {ts : List TypeId} {ds : List (DataW H)} (h : (DataW.weightsEach Tryz.prog ts ds).all (· ≤ reachBytes) = true) {j : Nat} {d : DataW H} {zs : List ZTok} (ht : ts[j]? = some 22) (hj : ds[j]? = some d) (hd : (zs = [] ∧ d = .nil) ∨ ∃ spr, d = .slice (zs.map (zDat H)) spr) :
    ∀ z ∈ zs, z.2.1.size ≤ reachBytes := by
  rcases hd with ⟨rfl, _⟩ | ⟨spr, rfl⟩
  · intro z hz
    cases hz
  · intro z hz
    have h1 : z.2.1.data.toList.length ∈ (DataW.slice (zs.map (zDat H)) spr).weights Tryz.prog 22 := by
      rw [DataW.weights, Tryz.underlying22]
      simp only []
      refine List.mem_cons_of_mem _ (List.mem_append_left _ ?_)
      exact mem_weightsAll (List.mem_map_of_mem hz) _ (mem_zDat z)
    have h2 := List.all_eq_true.1 h _ (DataW.weights_mem_each ht hj _ h1)
    rw [Lib.size_eq]
    simpa using h2
theorem toks_count {ts : List TypeId} {ds : List (DataW H)} (h : (DataW.weightsEach Tryz.prog ts ds).all (· ≤ reachBytes) = true) {j : Nat} {d : DataW H} {zs : List ZTok} (ht : ts[j]? = some 22) (hj : ds[j]? = some d) (hd : (zs = [] ∧ d = .nil) ∨ ∃ spr, d = .slice (zs.map (zDat H)) spr) :
    zs.length ≤ reachBytes := by
  rcases hd with ⟨rfl, _⟩ | ⟨spr, rfl⟩
  · exact Nat.zero_le _
  · have h1 := sized_slice h ht hj Tryz.underlying22
    have hb : Tryz.prog.bytesOf 24 = 40 := by kernel_rfl
    rw [hb, List.length_map] at h1
    omega
end
end Go.Proofs.YtdmpapoabeljfaaGreatDoor
