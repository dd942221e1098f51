/-
  Lists of tokens of the call's own, side by side in memory (chapter 3's law ScanIsNew).
-/
import Derived.Test.YtgikgppblkpojaaDoorLs
import Derived.Test.YtgikgppblkpojaaDoorZt
import Derived.Lib.OwnKind
set_option linter.unusedVariables false
set_option linter.unusedSimpArgs false
set_option maxRecDepth 100000
set_option maxHeartbeats 4000000
namespace Go.Proofs.YtgikgppblkpojaaDoor
open Go.RowKit

/-- A token's four cells. -/
def tc (z : ZTok) : List Value := [.int .i64 z.1, .string z.2.1, .int .i64 z.2.2.1, .int .i64 z.2.2.2]
/-- A row of tokens of the call's own. -/
def TRow (w : World) (B : Nat) (v : Value) (zs : List ZTok) : Prop := w.ownsRow B 29 4 v zs.length (zs.flatMap tc)
theorem tcs_len : ∀ zs : List ZTok, (zs.flatMap tc).length = zs.length * 4
  | [] => rfl
  | z :: r => by
    rw [List.flatMap_cons, List.length_append, List.length_cons, tcs_len r]
    show 4 + _ = _
    omega
theorem tcs_get : ∀ (zs : List ZTok) (i : Nat) (z : ZTok) (f : Nat), zs[i]? = some z → f < 4 → (zs.flatMap tc)[i * 4 + f]? = (tc z)[f]?
  | [], i, d, f, h, _ => by simp at h
  | x :: r, 0, d, f, h, hf => by
    simp at h
    subst h
    rw [List.flatMap_cons, List.getElem?_append_left (show 0 * 4 + f < (tc x).length by show _ < 4; omega)]
    simp
  | x :: r, i + 1, d, f, h, hf => by
    have ih := tcs_get r i d f (by simpa using h) hf
    rw [List.flatMap_cons, List.getElem?_append_right (show (tc x).length ≤ (i + 1) * 4 + f by show 4 ≤ _; omega)]
    have : (i + 1) * 4 + f - (tc x).length = i * 4 + f := by show (i + 1) * 4 + f - 4 = _; omega
    rw [this]
    exact ih
theorem tcs_one (zs : List ZTok) : ∀ u ∈ zs.flatMap tc, u.oneCell' = true := by
  intro u hu
  obtain ⟨z, _, hz⟩ := List.mem_flatMap.1 hu
  simp only [tc, List.mem_cons, List.not_mem_nil, or_false] at hz
  rcases hz with rfl | rfl | rfl | rfl <;> rfl
theorem trow_of_toks {w : World} {B : Nat} {v : Value} {ts : List Sp.Tok} (h : Toks w B v ts) : TRow w B v (ts.map zOf) := by
  unfold TRow
  rw [List.length_map, List.flatMap_map]
  exact h
theorem trow_form {w : World} {B : Nat} {v : Value} {zs : List ZTok} (h : TRow w B v zs) : ∃ A cap, v = .slice A zs.length cap ∧ (∀ a, A = some a → ∃ g, a = ⟨g, 0, none⟩) ∧ (A = none → zs = []) := by
  rcases h.2 with ⟨rfl, h0⟩ | ⟨g, cap, cur, rfl, _⟩
  · exact ⟨none, 0, by rw [h0], (fun a e => by cases e), fun _ => List.length_eq_zero_iff.1 h0⟩
  · exact ⟨_, cap, rfl, fun a e => ⟨g, by injection e with e; exact e.symm⟩, fun e => by cases e⟩
theorem trow_tok {w : World} {B g n cap : Nat} {zs : List ZTok} (h : TRow w B (.slice (some ⟨g, 0, none⟩) n cap) zs) {i : Nat} {z : ZTok} (hz : zs[i]? = some z) : ZAt w g (i * 4) z := by
  have hn : n = zs.length := by
    rcases h.2 with ⟨hv, _⟩ | ⟨g', cap', cur, hv, _⟩
    · cases hv
    · injection hv
  subst hn
  have hlt := (List.getElem?_eq_some_iff.1 hz).1
  have key : ∀ f u, f < 4 → (tc z)[f]? = some u → w.cell? ⟨g, i * 4 + f, none⟩ = some u := by
    intro f u hf hu
    rw [World.ownsRow.cellAt h (i * 4 + f) (by omega), tcs_get zs i z f hz hf, hu]
  exact ⟨key 0 _ (by omega) rfl, key 1 _ (by omega) rfl, key 2 _ (by omega) rfl, key 3 _ (by omega) rfl⟩
theorem trow_view {w : World} {B : Nat} {A : Option Addr} {n cap : Nat} {zs : List ZTok} (h : TRow w B (.slice A n cap) zs) : ViewZ w w.heap.size A zs := by
  intro i z hz
  obtain ⟨A', cap', hv, h1, h2⟩ := trow_form h
  injection hv with hA hn _
  subst hA
  cases A with
  | none => rw [h2 rfl] at hz; simp at hz
  | some a =>
    obtain ⟨g, rfl⟩ := h1 a rfl
    refine ⟨g, 0, rfl, (World.ownsRow.lt h g rfl).2, ?_⟩
    rw [Nat.zero_add]
    exact trow_tok h hz
theorem trow_cap {w : World} {B g n cap : Nat} {zs : List ZTok} (h : TRow w B (.slice (some ⟨g, 0, none⟩) n cap) zs) : n = zs.length ∧ n ≤ cap ∧ cap ≤ maxLen ∧ B ≤ g ∧ g < w.heap.size := by
  have hl := World.ownsRow.lt h g rfl
  rcases h.2 with ⟨h, _⟩ | ⟨g', cap', cur, hv, hg, hh, hle, hcm, _⟩
  · cases h
  · injection hv with _ h2 h3
    subst h3
    subst h2
    exact ⟨rfl, hle, hcm, hl⟩
theorem trow_fz {w : World} {B g n cap : Nat} {zs : List ZTok} (h : TRow w B (.slice (some ⟨g, 0, none⟩) n cap) zs) (j : Nat) : w.frozen? ⟨g, j, none⟩ = false := by
  obtain ⟨rfl, _⟩ := trow_cap h
  exact World.ownsRow.frozenAt h j
theorem tset4 {pre post : List Value} {x0 x1 x2 x3 c0 c1 c2 c3 : Value} {n : Nat} (h : pre.length = n) :
    ((((pre ++ x0 :: x1 :: x2 :: x3 :: post).set n c0).set (n + 1) c1).set (n + 2) c2).set (n + 3) c3 = pre ++ c0 :: c1 :: c2 :: c3 :: post := by
  subst h
  simp [List.set_append]
/-- A token of a row is another one. -/
theorem trow_set {w : World} {B g n cap : Nat} {zs : List ZTok} (h : TRow w B (.slice (some ⟨g, 0, none⟩) n cap) zs) {i : Nat} (hi : i < n) (z : ZTok) :
    TRow ((((w.setCell ⟨g, i * 4, none⟩ (.int .i64 z.1)).setCell ⟨g, i * 4 + 1, none⟩ (.string z.2.1)).setCell ⟨g, i * 4 + 2, none⟩ (.int .i64 z.2.2.1)).setCell ⟨g, i * 4 + 3, none⟩ (.int .i64 z.2.2.2)) B (.slice (some ⟨g, 0, none⟩) n cap) (zs.set i z) := by
  obtain ⟨rfl, _⟩ := trow_cap h
  obtain ⟨x, hx⟩ : ∃ x, zs[i]? = some x := ⟨_, List.getElem?_eq_getElem hi⟩
  have hs : zs = zs.take i ++ x :: zs.drop (i + 1) := by
    have h2 := (List.getElem?_eq_some_iff.1 hx).2
    rw [← h2, ← List.drop_eq_getElem_cons hi, List.take_append_drop]
  have hl : (zs.take i).length = i := by rw [List.length_take]; omega
  have hs2 : zs.set i z = zs.take i ++ z :: zs.drop (i + 1) := by
    rw [List.set_eq_take_append_cons_drop, if_pos hi]
  have h0 := (World.ownsRow.stored h (i * 4) (.int .i64 z.1)).1
  have h1 := (World.ownsRow.stored h0 (i * 4 + 1) (.string z.2.1)).1
  have h2 := (World.ownsRow.stored h1 (i * 4 + 2) (.int .i64 z.2.2.1)).1
  have h3 := (World.ownsRow.stored h2 (i * 4 + 3) (.int .i64 z.2.2.2)).1
  have e : ∀ y : ZTok, (zs.take i ++ y :: zs.drop (i + 1)).flatMap tc = (zs.take i).flatMap tc ++ .int .i64 y.1 :: .string y.2.1 :: .int .i64 y.2.2.1 :: .int .i64 y.2.2.2 :: (zs.drop (i + 1)).flatMap tc := by
    intro y
    rw [List.flatMap_append, List.flatMap_cons]
    rfl
  have e0 : zs.flatMap tc = (zs.take i).flatMap tc ++ .int .i64 x.1 :: .string x.2.1 :: .int .i64 x.2.2.1 :: .int .i64 x.2.2.2 :: (zs.drop (i + 1)).flatMap tc := (congrArg (List.flatMap tc) hs).trans (e x)
  rw [e0, tset4 (by rw [tcs_len, hl]), ← e z, ← hs2] at h3
  unfold TRow
  rw [List.length_set]
  exact h3
/-- A row where its block is as it was. -/
theorem trow_agree {w w' : World} {B : Nat} {v : Value} {zs : List ZTok} (h : TRow w B v zs) (hb : ∀ g, v.ownBlock = some g → w'.heap[g]? = w.heap[g]?) : TRow w' B v zs := by
  refine ⟨h.1, ?_⟩
  rcases h.2 with h1 | ⟨g, cap, cur, hv, h1, h2, h3⟩
  · exact Or.inl h1
  · exact Or.inr ⟨g, cap, cur, hv, h1, (hb g (by rw [hv]; rfl)).trans h2, h3⟩
/-- Tokens to be read, in a block of tokens. -/
def TView (w : World) (B : Nat) (A : Option Addr) (zs : List ZTok) : Prop :=
  ViewZ w w.heap.size A zs ∧ ∀ a, A = some a → B ≤ a.block ∧ a.block < w.heap.size
theorem tview_of {w : World} {B : Nat} {A : Option Addr} {n cap : Nat} {zs : List ZTok} (h : TRow w B (.slice A n cap) zs) : TView w B A zs := by
  refine ⟨trow_view h, fun a e => ?_⟩
  obtain ⟨A', cap', hv, h1, _⟩ := trow_form h
  injection hv with hA _ _
  subst hA
  obtain ⟨g, rfl⟩ := h1 a e
  subst e
  exact World.ownsRow.lt h g rfl
theorem tview_agree {w w' : World} {B : Nat} {A : Option Addr} {zs : List ZTok} (h : TView w B A zs) (hb : ∀ a, A = some a → w'.heap[a.block]? = w.heap[a.block]?) (hs : w.heap.size ≤ w'.heap.size) : TView w' B A zs := by
  refine ⟨?_, fun a e => ?_⟩
  · intro i z hz
    obtain ⟨g, o, h1, h2, c0, c1, c2, c3⟩ := h.1 i z hz
    have hbg := hb _ h1
    have key : ∀ j, w'.cell? ⟨g, j, none⟩ = w.cell? ⟨g, j, none⟩ := fun j => World.cell?_of_block (a := ⟨g, j, none⟩) hbg
    exact ⟨g, o, h1, by omega, (key _).trans c0, (key _).trans c1, (key _).trans c2, (key _).trans c3⟩
  · obtain ⟨h1, h2⟩ := h.2 a e
    exact ⟨h1, by omega⟩
/-- A row of lists. -/
def VRow (w : World) (B : Nat) (v : Value) (vs : List Value) : Prop := w.ownsRow B 23 1 v vs.length vs
theorem vrow_agree {w w' : World} {B : Nat} {v : Value} {vs : List Value} (h : VRow w B v vs) (hb : ∀ g, v.ownBlock = some g → w'.heap[g]? = w.heap[g]?) : VRow w' B v vs := by
  refine ⟨h.1, ?_⟩
  rcases h.2 with h1 | ⟨g, cap, cur, hv, h1, h2, h3⟩
  · exact Or.inl h1
  · exact Or.inr ⟨g, cap, cur, hv, h1, (hb g (by rw [hv]; rfl)).trans h2, h3⟩

/-- A list that is kept; a list, and what it has grown to. -/
inductive It where
  | one (v : Value) (zs : List ZTok)
  | two (A : Option Addr) (zs : List ZTok) (v : Value) (gs : List ZTok)
  | vals (v : Value) (vs : List Value)
def It.bl : It → Nat → Prop
  | .one v _, b => v.ownBlock = some b
  | .two A _ v _, b => (∃ a, A = some a ∧ a.block = b) ∨ v.ownBlock = some b
  | .vals v _, b => v.ownBlock = some b
def It.ok (w : World) (B : Nat) : It → Prop
  | .one v zs => TRow w B v zs
  | .two A zs v gs => TView w B A zs ∧ TRow w B v gs
  | .vals v vs => VRow w B v vs
theorem It.ok.agree {w w' : World} {B : Nat} {x : It} (h : x.ok w B) (hb : ∀ b, x.bl b → w'.heap[b]? = w.heap[b]?) (hs : w.heap.size ≤ w'.heap.size) : x.ok w' B := by
  cases x with
  | one v zs => exact trow_agree h hb
  | two A zs v gs => exact ⟨tview_agree h.1 (fun a e => hb _ (Or.inl ⟨a, e, rfl⟩)) hs, trow_agree h.2 (fun g e => hb g (Or.inr e))⟩
  | vals v vs => exact vrow_agree h hb
theorem It.ok.lt {w : World} {B : Nat} {x : It} (h : x.ok w B) {b : Nat} (hb : x.bl b) : B ≤ b ∧ b < w.heap.size := by
  cases x with
  | one v zs => exact World.ownsRow.lt h b hb
  | two A zs v gs =>
    rcases hb with ⟨a, e, rfl⟩ | e
    · exact h.1.2 a e
    · exact World.ownsRow.lt h.2 b e
  | vals v vs => exact World.ownsRow.lt h b hb
/-- Lists side by side: no block is shared. -/
def Fam (w : World) (B : Nat) (l : List It) : Prop :=
  (∀ (i : Nat) (x : It), l[i]? = some x → x.ok w B) ∧ ∀ (i j : Nat) (x y : It), l[i]? = some x → l[j]? = some y → i ≠ j → ∀ b, x.bl b → ¬ y.bl b
theorem fam_nil (w : World) (B : Nat) : Fam w B [] := ⟨fun i x h => by simp at h, fun i j x y h => by simp at h⟩
theorem Fam.agree {w w' : World} {B : Nat} {l : List It} (h : Fam w B l) (hb : ∀ (i : Nat) (x : It), l[i]? = some x → ∀ b, x.bl b → w'.heap[b]? = w.heap[b]?) (hs : w.heap.size ≤ w'.heap.size) : Fam w' B l :=
  ⟨fun i x hx => (h.1 i x hx).agree (hb i x hx) hs, h.2⟩
theorem Fam.below {w w' : World} {B : Nat} {l : List It} (h : Fam w B l) (hb : Below w.heap.size w w') : Fam w' B l :=
  h.agree (fun i x hx b hxb => hb.block b ((h.1 i x hx).lt hxb).2) hb.size
theorem Fam.push {w w' : World} {B : Nat} {l : List It} (h : Fam w B l) (hb : Below w.heap.size w w') {x : It} (hx : x.ok w' B) (hn : ∀ b, x.bl b → w.heap.size ≤ b) : Fam w' B (l ++ [x]) := by
  have h2 := h.below hb
  have hat : ∀ i y, (l ++ [x])[i]? = some y → (l[i]? = some y ∧ i < l.length) ∨ (y = x ∧ i = l.length) := by
    intro i y hy
    rcases Nat.lt_or_ge i l.length with hi | hi
    · rw [List.getElem?_append_left hi] at hy
      exact Or.inl ⟨hy, hi⟩
    · rw [List.getElem?_append_right hi] at hy
      rcases Nat.eq_zero_or_pos (i - l.length) with h0 | h0
      · rw [h0] at hy
        injection hy with hy
        exact Or.inr ⟨hy.symm, by omega⟩
      · rw [List.getElem?_eq_none (by simp; omega)] at hy
        cases hy
  refine ⟨fun i y hy => ?_, fun i j y z hy hz hij b hyb hzb => ?_⟩
  · rcases hat i y hy with ⟨h3, _⟩ | ⟨rfl, _⟩
    · exact h2.1 i y h3
    · exact hx
  · rcases hat i y hy with ⟨h3, _⟩ | ⟨rfl, h3⟩ <;> rcases hat j z hz with ⟨h4, _⟩ | ⟨rfl, h4⟩
    · exact h.2 i j y z h3 h4 hij b hyb hzb
    · have h5 := ((h.1 i y h3).lt hyb).2
      have h6 := hn b hzb
      omega
    · have h5 := ((h.1 j z h4).lt hzb).2
      have h6 := hn b hyb
      omega
    · omega
/-- One of the lists turns. -/
theorem Fam.upd {w w' : World} {B : Nat} {l : List It} (h : Fam w B l) {i : Nat} {x y : It} (hi : l[i]? = some x) (hs : w.heap.size ≤ w'.heap.size) (hb : ∀ b, b < w.heap.size → ¬ x.bl b → w'.heap[b]? = w.heap[b]?)
    (hy : y.ok w' B) (hn : ∀ b, y.bl b → x.bl b ∨ w.heap.size ≤ b) : Fam w' B (l.set i y) := by
  have hil := (List.getElem?_eq_some_iff.1 hi).1
  have hat : ∀ j z, (l.set i y)[j]? = some z → (j ≠ i ∧ l[j]? = some z) ∨ (j = i ∧ z = y) := by
    intro j z hz
    by_cases hj : j = i
    · subst hj
      rw [List.getElem?_set_self hil] at hz
      injection hz with hz
      exact Or.inr ⟨rfl, hz.symm⟩
    · rw [List.getElem?_set_ne (Ne.symm hj)] at hz
      exact Or.inl ⟨hj, hz⟩
  refine ⟨fun j z hz => ?_, fun j k u z hu hz hjk b hub hzb => ?_⟩
  · rcases hat j z hz with ⟨hj, h1⟩ | ⟨_, rfl⟩
    · exact (h.1 j z h1).agree (fun b hb2 => hb b ((h.1 j z h1).lt hb2).2 (fun hx => h.2 j i z x h1 hi hj b hb2 hx)) hs
    · exact hy
  · rcases hat j u hu with ⟨hj, h1⟩ | ⟨hj, rfl⟩ <;> rcases hat k z hz with ⟨hk, h2⟩ | ⟨hk, rfl⟩
    · exact h.2 j k u z h1 h2 hjk b hub hzb
    · rcases hn b hzb with h3 | h3
      · exact h.2 j i u x h1 hi hj b hub h3
      · have := ((h.1 j u h1).lt hub).2
        omega
    · rcases hn b hub with h3 | h3
      · exact h.2 k i z x h2 hi hk b hzb h3
      · have := ((h.1 k z h2).lt hzb).2
        omega
    · omega
end Go.Proofs.YtgikgppblkpojaaDoor
