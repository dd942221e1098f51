/-
  A slice of nodes that came in, read as a list of nodes; what the form's own reach says of it.
-/
import Derived.Test.YtdmpapoabeljfaaGreatDoorKg
import Derived.Test.YtdmpapoabeljfaaGreatDoorGm
import Derived.Carry
import Derived.ChangeArms
import Derived.Deep.Slices
import Derived.SizedLaws
set_option linter.unusedVariables false
set_option linter.unusedSimpArgs false
set_option maxRecDepth 100000
set_option maxHeartbeats 4000000
namespace Go.Proofs.YtdmpapoabeljfaaGreatDoor
open Go.ChangeShapes Go.WideShapes Go.ChangeAt Go.RowKit

section
variable {H : Type} {enc : TypeId × Value → H} {w : World} {base : Nat} {spare : Nat → Bool} {held : Bool}

/-- The datum of a test, of a node. -/
def tDat (H : Type) (d : Sp.Nd) : DataW H := .agg [.lit (.string d.field), .lit (.int .i64 d.op), .lit (.int .i64 d.form), .lit (.int .i64 d.lo), .lit (.int .i64 d.hi), .lit (.int .i64 d.len), .lit (.string d.pat)]
def nDat (H : Type) (d : Sp.Nd) : DataW H := .agg [.lit (.int .i64 d.kind), tDat H d]

theorem str_list (s : ByteArray) : (⟨s.data.toList.toArray⟩ : ByteArray) = s := by cases s; simp
theorem test_open {fuel : Nat} {cs : List Value} {x : DataW H × List MemPlace} (h : DataW.trod enc Tryz.prog w base spare held fuel 54 cs = some x) :
    ∃ d : Sp.Nd, cs = [.string ⟨d.field.toArray⟩, .int .i64 d.op, .int .i64 d.form, .int .i64 d.lo, .int .i64 d.hi, .int .i64 d.len, .string ⟨d.pat.toArray⟩] ∧ x.1 = tDat H d := by
  obtain ⟨xs, n, _, hx, hl, hxl, hf⟩ := DataW.trod_struct Tryz.underlying54 h
  have hc7 : Tryz.prog.cellsOf 54 = 7 := by kernel_rfl
  have hci : Tryz.prog.cellsOf 3 = 1 := by kernel_rfl
  have hcs : Tryz.prog.cellsOf 9 = 1 := by kernel_rfl
  rw [hc7] at hl
  match cs, hl, xs, hxl with
  | [c0, c1, c2, c3, c4, c5, c6], _, [x0, x1, x2, x3, x4, x5, x6], _ =>
    have e0 : DataW.trod enc Tryz.prog w base spare held n 9 (([c0, c1, c2, c3, c4, c5, c6].drop 0).take (Tryz.prog.cellsOf 9)) = some x0 := hf 0 _ rfl
    have e1 : DataW.trod enc Tryz.prog w base spare held n 3 (([c0, c1, c2, c3, c4, c5, c6].drop 1).take (Tryz.prog.cellsOf 3)) = some x1 := hf 1 _ rfl
    have e2 : DataW.trod enc Tryz.prog w base spare held n 3 (([c0, c1, c2, c3, c4, c5, c6].drop 2).take (Tryz.prog.cellsOf 3)) = some x2 := hf 2 _ rfl
    have e3 : DataW.trod enc Tryz.prog w base spare held n 3 (([c0, c1, c2, c3, c4, c5, c6].drop 3).take (Tryz.prog.cellsOf 3)) = some x3 := hf 3 _ rfl
    have e4 : DataW.trod enc Tryz.prog w base spare held n 3 (([c0, c1, c2, c3, c4, c5, c6].drop 4).take (Tryz.prog.cellsOf 3)) = some x4 := hf 4 _ rfl
    have e5 : DataW.trod enc Tryz.prog w base spare held n 3 (([c0, c1, c2, c3, c4, c5, c6].drop 5).take (Tryz.prog.cellsOf 3)) = some x5 := hf 5 _ rfl
    have e6 : DataW.trod enc Tryz.prog w base spare held n 9 (([c0, c1, c2, c3, c4, c5, c6].drop 6).take (Tryz.prog.cellsOf 9)) = some x6 := hf 6 _ rfl
    rw [hci] at e1 e2 e3 e4 e5
    rw [hcs] at e0 e6
    obtain ⟨f, hf0, hf1, _⟩ := DataW.trod_string Tryz.underlying9 (x := x0) e0
    obtain ⟨op, ho0, ho1, _⟩ := DataW.trod_int Tryz.underlying3 (x := x1) e1
    obtain ⟨fo, hq0, hq1, _⟩ := DataW.trod_int Tryz.underlying3 (x := x2) e2
    obtain ⟨lo, hl0, hl1, _⟩ := DataW.trod_int Tryz.underlying3 (x := x3) e3
    obtain ⟨hi, hh0, hh1, _⟩ := DataW.trod_int Tryz.underlying3 (x := x4) e4
    obtain ⟨le, he0, he1, _⟩ := DataW.trod_int Tryz.underlying3 (x := x5) e5
    obtain ⟨pa, hp0, hp1, _⟩ := DataW.trod_string Tryz.underlying9 (x := x6) e6
    refine ⟨⟨0, f.data.toList, op, fo, lo, hi, le, pa.data.toList⟩, ?_, ?_⟩
    · simp only [str_list]
      injection hf0 with hf0
      injection ho0 with ho0
      injection hq0 with hq0
      injection hl0 with hl0
      injection hh0 with hh0
      injection he0 with he0
      injection hp0 with hp0
      rw [hf0, ho0, hq0, hl0, hh0, he0, hp0]
    · rw [hx]
      unfold tDat
      simp only [List.map_cons, List.map_nil, hf1, ho1, hq1, hl1, hh1, he1, hp1]
theorem node_open {fuel : Nat} {cs : List Value} {x : DataW H × List MemPlace} (h : DataW.trod enc Tryz.prog w base spare held fuel 56 cs = some x) :
    ∃ d : Sp.Nd, cs = ndCell d ∧ x.1 = nDat H d := by
  obtain ⟨xs, n, _, hx, hl, hxl, hf⟩ := DataW.trod_struct Tryz.underlying56 h
  have hc8 : Tryz.prog.cellsOf 56 = 8 := by kernel_rfl
  have hc7 : Tryz.prog.cellsOf 54 = 7 := by kernel_rfl
  have hci : Tryz.prog.cellsOf 3 = 1 := by kernel_rfl
  rw [hc8] at hl
  match cs, hl, xs, hxl with
  | [c0, c1, c2, c3, c4, c5, c6, c7], _, [x0, x1], _ =>
    have e0 : DataW.trod enc Tryz.prog w base spare held n 3 (([c0, c1, c2, c3, c4, c5, c6, c7].drop 0).take (Tryz.prog.cellsOf 3)) = some x0 := hf 0 _ rfl
    have e1 : DataW.trod enc Tryz.prog w base spare held n 54 (([c0, c1, c2, c3, c4, c5, c6, c7].drop 1).take (Tryz.prog.cellsOf 54)) = some x1 := hf 1 _ rfl
    rw [hci] at e0
    rw [hc7] at e1
    obtain ⟨k, hk0, hk1, _⟩ := DataW.trod_int Tryz.underlying3 (x := x0) e0
    obtain ⟨d, hd0, hd1⟩ := test_open e1
    refine ⟨{ d with kind := k }, ?_, ?_⟩
    · unfold ndCell
      injection hk0 with hk0
      rw [hk0]
      congr 1
    · rw [hx]
      unfold nDat
      simp only [List.map_cons, List.map_nil, hk1, hd1]
      rfl

theorem ncell_lt {w : World} {a : Addr} {v : Value} (h : w.cell? a = some v) : a.block < w.heap.size := by
  rcases Nat.lt_or_ge a.block w.heap.size with hlt | hge
  · exact hlt
  · unfold World.cell? at h
    rw [Array.getElem?_eq_none hge] at h
    cases h
theorem nadd_plain (g o n : Nat) : (⟨g, o, none⟩ : Addr).add n = ⟨g, o + n, none⟩ := by
  unfold Addr.add
  split
  · rename_i h
    rw [h, Nat.add_zero]
  · rfl
/-- A list by its elements. -/
theorem nlist_of {α : Type} {p : Nat → α → Prop} : ∀ n : Nat, (∀ i, i < n → ∃ a, p i a) → ∃ l : List α, l.length = n ∧ ∀ i a, l[i]? = some a → p i a
  | 0, _ => ⟨[], rfl, fun i a h => by simp at h⟩
  | n + 1, h => by
    obtain ⟨l, hl, hp⟩ := nlist_of n (fun i hi => h i (by omega))
    obtain ⟨a, ha⟩ := h n (by omega)
    refine ⟨l ++ [a], by simp [hl], fun i b hb => ?_⟩
    rcases Nat.lt_or_ge i n with hi | hi
    · rw [List.getElem?_append_left (by omega)] at hb
      exact hp i b hb
    · rw [List.getElem?_append_right (by omega)] at hb
      have : i - l.length = 0 := by
        rcases Nat.eq_zero_or_pos (i - l.length) with h0 | h0
        · exact h0
        · rw [List.getElem?_eq_none (by simp; omega)] at hb
          cases hb
      rw [this] at hb
      injection hb with hb
      subst hb
      rw [show i = n by omega]
      exact ha

/-- A slice of nodes that came in. -/
theorem nodes_open {v : Value} {d : DataW H} {ps : List MemPlace} (h : DataW.Trod enc Tryz.prog w base spare held 25 v d ps) :
    ∃ (A : Option Addr) (cap : Nat) (ns : List Sp.Nd), v.cells.toList = [.slice A ns.length cap] ∧ ns.length ≤ maxLen ∧ NView w w.heap.size A ns ∧ ((ns = [] ∧ d = .nil) ∨ ∃ spr, d = .slice (ns.map (nDat H)) spr) := by
  obtain ⟨fuel, h⟩ := h
  have hc8 : Tryz.prog.cellsOf 56 = 8 := by kernel_rfl
  rcases DataW.trod_slice Tryz.underlying25 h with ⟨h1, h2⟩ | ⟨a, len, cap, elems, rest, n, _, h1, h2, hb, hlc, hcm, hel, hat, _, _⟩
  · injection h2 with h2 h3
    exact ⟨none, 0, [], h1, by simp, fun i z hz => by simp at hz, Or.inl ⟨rfl, h2⟩⟩
  · rw [hc8] at hat
    have key : ∀ i, i < len → ∃ d : Sp.Nd, (∀ f u, (ndCell d)[f]? = some u → w.cell? ((a.add (i * 8)).add f) = some u) ∧ (elems[i]?).map (·.1) = some (nDat H d) := by
      intro i hi
      have e := hat i hi
      have hil : i < elems.length := by omega
      rw [List.getElem?_eq_getElem hil] at e
      obtain ⟨cs, hcs, ht⟩ := Option.bind_eq_some_iff.1 e
      obtain ⟨z, hz, hz2⟩ := node_open ht
      obtain ⟨_, hsz, hc⟩ := World.cells?_some hcs
      refine ⟨z, ?_, ?_⟩
      · intro f u hf
        have hfl : f < 8 := (List.getElem?_eq_some_iff.1 hf).1
        have h1 := hc f hfl
        rw [h1, ← hf, ← hz]
      · rw [List.getElem?_eq_getElem hil]
        exact congrArg some hz2
    obtain ⟨ns, hzl, hzs⟩ := nlist_of len key
    refine ⟨some a, cap, ns, by rw [hzl]; exact h1, by omega, ?_, Or.inr ⟨rest.map (·.1), ?_⟩⟩
    · intro i z hz
      obtain ⟨hcz, _⟩ := hzs i z hz
      have c0 := hcz 0 _ rfl
      have c1 := hcz 1 _ rfl
      have c2 := hcz 2 _ rfl
      have c3 := hcz 3 _ rfl
      have c4 := hcz 4 _ rfl
      have c5 := hcz 5 _ rfl
      have c6 := hcz 6 _ rfl
      have c7 := hcz 7 _ rfl
      have hlen : 0 < len := by
        have := (List.getElem?_eq_some_iff.1 hz).1
        omega
      obtain ⟨z0, hz0, _⟩ := key 0 hlen
      have k0 := hz0 0 _ rfl
      rw [show (a.add (0 * 8)).add 0 = a from rfl] at k0
      have hsp : a.spot = none := World.cell?_spot (a := a) k0
      obtain ⟨g, o, sp⟩ := a
      simp only at hsp
      subst hsp
      rw [nadd_plain, nadd_plain] at c0 c1 c2 c3 c4 c5 c6 c7
      exact ⟨g, o, rfl, ncell_lt c0, c0, c1, c2, c3, c4, c5, c6, c7⟩
    · injection h2 with h2 h3
      rw [h2]
      congr 1
      apply List.ext_getElem?
      intro i
      rcases Nat.lt_or_ge i len with hi | hi
      · have hil : i < ns.length := by omega
        have := (hzs i (ns[i]'hil) (List.getElem?_eq_getElem hil)).2
        rw [List.getElem?_map, this, List.getElem?_map, List.getElem?_eq_getElem hil]
        rfl
      · rw [List.getElem?_eq_none (by rw [List.length_map]; omega), List.getElem?_eq_none (by rw [List.length_map]; omega)]

theorem mem_weightsAlln {P : Program} {e : TypeId} : ∀ {l : List (DataW H)} {d : DataW H}, d ∈ l → ∀ n ∈ d.weights P e, n ∈ DataW.weightsAll P e l
  | x :: r, d, hd, n, hn => by
    rw [DataW.weightsAll, List.mem_append]
    rcases List.mem_cons.1 hd with rfl | hd
    · exact Or.inl hn
    · exact Or.inr (mem_weightsAlln hd n hn)
theorem mem_tDat (d : Sp.Nd) : d.field.length ∈ (tDat H d).weights Tryz.prog 54 ∧ d.pat.length ∈ (tDat H d).weights Tryz.prog 54 := by
  unfold tDat
  rw [DataW.weights, Tryz.underlying54]
  simp only [List.map_cons, List.map_nil, DataW.weightsEach, DataW.weights]
  simp
theorem mem_nDat (d : Sp.Nd) : d.field.length ∈ (nDat H d).weights Tryz.prog 56 ∧ d.pat.length ∈ (nDat H d).weights Tryz.prog 56 := by
  have h := mem_tDat (H := H) d
  unfold nDat
  rw [DataW.weights, Tryz.underlying56]
  simp only [List.map_cons, List.map_nil, DataW.weightsEach]
  exact ⟨List.mem_append_right _ (List.mem_append_left _ h.1), List.mem_append_right _ (List.mem_append_left _ h.2)⟩
/-- What the reach says of a slice of nodes. -/
theorem nodes_sized {ts : List TypeId} {ds : List (DataW H)} (h : (DataW.weightsEach Tryz.prog ts ds).all (· ≤ reachBytes) = true) {j : Nat} {d : DataW H} {ns : List Sp.Nd} (ht : ts[j]? = some 25) (hj : ds[j]? = some d) (hd : (ns = [] ∧ d = .nil) ∨ ∃ spr, d = .slice (ns.map (nDat H)) spr) :
    ∀ z ∈ ns, z.field.length ≤ reachBytes ∧ z.pat.length ≤ reachBytes := by
  rcases hd with ⟨rfl, _⟩ | ⟨spr, rfl⟩
  · intro z hz
    cases hz
  · intro z hz
    have hw : ∀ n ∈ (nDat H z).weights Tryz.prog 56, n ∈ (DataW.slice (ns.map (nDat H)) spr).weights Tryz.prog 25 := by
      intro n hn
      rw [DataW.weights, Tryz.underlying25]
      simp only []
      exact List.mem_cons_of_mem _ (List.mem_append_left _ (mem_weightsAlln (List.mem_map_of_mem hz) _ hn))
    have h2 := fun n hn => List.all_eq_true.1 h _ (DataW.weights_mem_each ht hj n (hw n hn))
    exact ⟨by simpa using h2 _ (mem_nDat z).1, by simpa using h2 _ (mem_nDat z).2⟩
theorem nodes_count {ts : List TypeId} {ds : List (DataW H)} (h : (DataW.weightsEach Tryz.prog ts ds).all (· ≤ reachBytes) = true) {j : Nat} {d : DataW H} {ns : List Sp.Nd} (ht : ts[j]? = some 25) (hj : ds[j]? = some d) (hd : (ns = [] ∧ d = .nil) ∨ ∃ spr, d = .slice (ns.map (nDat H)) spr) :
    ns.length ≤ reachBytes := by
  rcases hd with ⟨rfl, _⟩ | ⟨spr, rfl⟩
  · exact Nat.zero_le _
  · have h1 := sized_slice h ht hj Tryz.underlying25
    have hb : Tryz.prog.bytesOf 56 = 80 := by kernel_rfl
    rw [hb, List.length_map] at h1
    omega
end
end Go.Proofs.YtdmpapoabeljfaaGreatDoor
