/-
  A well-formed network and a state of it have what the iterator of moves wants (chapter 10; no program in sight).
-/
import Derived.Test.YtpknablklencdaaGreatDoorMu
set_option linter.unusedVariables false
set_option linter.unusedSimpArgs false
namespace Go.Proofs.YtpknablklencdaaGreatDoor
open Go.RowKit

namespace Sp
theorem len_le_sum {α : Type} : ∀ {l : List (List α)} {x : List α}, x ∈ l → x.length ≤ (l.map List.length).sum
  | [], _, h => by cases h
  | y :: l, x, h => by
    rw [List.map_cons, List.sum_cons]
    rcases List.mem_cons.1 h with rfl | h
    · omega
    · have := len_le_sum h; omega
theorem cubeOk_size {n : Net} {p : Int} {h c : ByteArray} (hs : StateOk n p h) (hc : CubeOk n.bits c) : c.size = h.size := by
  have h1 := hs.bits
  have h2 := hc.2
  omega
theorem fitsG_ok {n : Net} {p : Int} {h : ByteArray} (hn : NetOk n) (hs : StateOk n p h) {g : List Guard} (hg : g ∈ n.guards) (h' : ByteArray) (he : h'.size = h.size) : fitsG g h' := by
  have h1 := hn.guards.1
  have h2 := len_le_sum hg
  refine ⟨fun l hl => ?_, by omega⟩
  have h3 := (hn.guards.2 g hg).2 l hl
  exact ⟨by have := h3.1; omega, fun c hc => by rw [cubeOk_size hs (h3.2 c hc), he]; exact Nat.le_refl _⟩
theorem ins_len {n : Net} {box : Int} {e : Entry} (hn : NetOk n) (he : EntryOk n box e) : e.ins.length ≤ 48 := by
  have key : ∀ (i : Nat) (p : Int), e.ins[i]? = some p → (i : Int) ≤ p := by
    intro i
    induction i with
    | zero => intro p hp; exact (he.ins 0 p hp).1.1
    | succ i ih =>
      intro p hp
      have hlt : i < e.ins.length := by have := (List.getElem?_eq_some_iff.1 hp).1; omega
      have h1 : e.ins[i]? = some e.ins[i] := List.getElem?_eq_getElem hlt
      have h2 := ih _ h1
      have h3 := (he.ins (i + 1) p hp).2 e.ins[i] (by omega) (by rw [Nat.add_sub_cancel]; exact h1)
      omega
  rcases Nat.lt_or_ge 48 e.ins.length with hlt | hge
  · exfalso
    have h1 : e.ins[48]? = some e.ins[48] := List.getElem?_eq_getElem hlt
    have h2 := key 48 _ h1
    obtain ⟨h3, q, h4, _⟩ := (he.ins 48 _ h1).1
    have h5 := (List.getElem?_eq_some_iff.1 h4).1
    have h6 := hn.nports
    omega
  · exact hge
theorem table_at {n : Net} (hn : NetOk n) {b : Nat} {t : List Entry} (ht : n.tables[b]? = some t) {e : Entry} (he : e ∈ t) : EntryOk n b e := (hn.tables.2 b t ht).2 e he
theorem fitsT_ok {n : Net} {p : Int} {h : ByteArray} (hn : NetOk n) (hs : StateOk n p h) {b : Nat} {t : List Entry} (ht : n.tables[b]? = some t) : fitsT t h := by
  intro e he
  have ho := table_at hn ht he
  exact ⟨by have := ins_len hn ho; omega, by have := ho.cubes.1; omega, fun c hc => by rw [cubeOk_size hs (ho.cubes.2 c hc)]; exact Nat.le_refl _⟩
theorem port_at {n : Net} {p : Int} {h : ByteArray} (hs : StateOk n p h) : ∃ q, n.ports[p.toNat]? = some q := ⟨_, List.getElem?_eq_getElem (show p.toNat < n.ports.length by have := hs.port; omega)⟩
theorem guard_at {n : Net} (hn : NetOk n) {i : Nat} (hi : i < n.ports.length) : ∃ g, n.guards[i]? = some g := ⟨_, List.getElem?_eq_getElem (by rw [hn.nguards]; exact hi)⟩
theorem inOk_of {n : Net} {p : Nat} {h : ByteArray} (hn : NetOk n) (hs : StateOk n p h) {q : Port} (hq : n.ports[p]? = some q) (hin : q.inn = true) : ∃ g t, InOk n p h q g t := by
  have hpl := (List.getElem?_eq_some_iff.1 hq).1
  obtain ⟨g, hg⟩ := guard_at hn hpl
  have hbx := (hn.ports p q hq).box
  have hbl : q.box.toNat < n.tables.length := by omega
  have ht : n.tables[q.box.toNat]? = some (n.tables[q.box.toNat]) := List.getElem?_eq_getElem hbl
  have h48 := hn.nports
  have h16 := hn.ntables
  have hgs := hn.nguards
  have hsum := hn.tables.1
  have hbits := hn.bits
  have hhb := hs.bits
  refine ⟨g, n.tables[q.box.toNat], hq, hin, hg, hbx.1, ht, fitsG_ok hn hs (List.mem_of_getElem? hg) h rfl, fitsT_ok hn hs ht, ?_, by omega, by omega, by omega, by omega, by omega, ?_, ?_⟩
  · have := len_le_sum (List.mem_of_getElem? ht); omega
  · intro e he
    exact cubeOk_size hs (table_at hn ht he).word
  · intro e he
    have ho := table_at hn ht he
    refine ⟨by have := ho.nouts; omega, fun o hoo => ?_⟩
    obtain ⟨i, hi⟩ := List.mem_iff_getElem?.1 hoo
    obtain ⟨h1, q', h2, _⟩ := (ho.outs i o hi).1
    obtain ⟨g', hg'⟩ := guard_at hn (List.getElem?_eq_some_iff.1 h2).1
    exact ⟨h1, g', q', hg', h2, fun h' he' => fitsG_ok hn hs (List.mem_of_getElem? hg') h' he'⟩
theorem mvOk_of {n : Net} {p : Nat} {h : ByteArray} (hn : NetOk n) (hs : StateOk n p h) : MvOk n p h := by
  obtain ⟨q, hq⟩ := port_at hs
  rw [Int.toNat_natCast] at hq
  by_cases hin : q.inn = false
  · exact Or.inl ⟨q, hq, hin, by have := hn.nports; omega⟩
  · obtain ⟨g, t, hok⟩ := inOk_of hn hs hq (by simpa using hin)
    exact Or.inr ⟨q, g, t, hok⟩
theorem filterMap_len {α β : Type} (f : α → Option β) : ∀ l : List α, (l.filterMap f).length ≤ l.length
  | [] => Nat.le_refl _
  | x :: l => by
    rw [List.filterMap_cons]
    have := filterMap_len f l
    cases f x <;> simp <;> omega
theorem movesV_len {n : Net} {p : Nat} {h : ByteArray} (hn : NetOk n) (hs : StateOk n p h) : (movesV n p h).length ≤ 4 := by
  obtain ⟨q, hq⟩ := port_at hs
  rw [Int.toNat_natCast] at hq
  unfold movesV
  rw [hq]
  simp only []
  split
  · split <;> simp
  · split
    · simp
    · split
      · simp
      · rename_i e he
        have hbx := (hn.ports p q hq).box
        have hbl : q.box.toNat < n.tables.length := by omega
        have ht : n.tables[q.box.toNat]? = some (n.tables[q.box.toNat]) := List.getElem?_eq_getElem hbl
        rw [List.getD_eq_getElem?_getD, ht] at he
        have := (table_at hn ht (List.mem_of_getElem? he)).nouts
        exact Nat.le_trans (filterMap_len _ _) this
def stM (m : Mv) : List (Int × ByteArray) := (if 0 ≤ m.out then [(m.out, m.header)] else []) ++ (if 0 ≤ m.inn then [(m.inn, m.header)] else [])
def stV (l : List Mv) : List (Int × ByteArray) := l.flatMap stM
theorem stM_len (m : Mv) : (stM m).length ≤ 2 := by unfold stM; split <;> split <;> simp
theorem stV_len : ∀ l : List Mv, (stV l).length ≤ 2 * l.length
  | [] => Nat.le_refl _
  | m :: l => by
    have h1 := stV_len l
    have h2 := stM_len m
    unfold stV at h1 ⊢
    rw [List.flatMap_cons, List.length_append, List.length_cons]
    omega
theorem stV_snoc (l : List Mv) (m : Mv) : stV (l ++ [m]) = stV l ++ stM m := by unfold stV; rw [List.flatMap_append]; simp
def entryV (n : Net) (p : Nat) (h : ByteArray) : Int := match n.ports[p]? with
  | none => -1
  | some q => if q.inn = false then -1 else if fitN n p h < 0 then -1 else (numB n q.box.toNat (fitN n p h).toNat : Int)
end Sp
def stC (x : Int × ByteArray) : List Value := [.int .i64 x.1, .string x.2]
def StR (W : World) (B : Nat) (v : Value) (l : List (Int × ByteArray)) : Prop := W.ownsRow B 28 2 v l.length (l.flatMap stC)
theorem rowAt_box {W : World} {Bo : Nat} {t : TypeId} {v : Value} (h : Boxed W Bo t v) : rowAt W Bo = v.ownBlock := by
  unfold rowAt
  rw [h.cell]
  cases v <;> try rfl
  rename_i a _ _
  cases a <;> rfl
end Go.Proofs.YtpknablklencdaaGreatDoor
