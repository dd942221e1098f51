/-
  A token more, in place or in a new block; rows of lists; mark; make (chapter 3's law ScanIsNew).
-/
import Derived.Test.YtgikgppblkpojaaDoorIa
set_option linter.unusedVariables false
set_option linter.unusedSimpArgs false
set_option maxRecDepth 100000
set_option maxHeartbeats 4000000
namespace Go.Proofs.YtgikgppblkpojaaDoor
open Go.RowKit

/-- Where a token more goes: into the row's own block, or into a new one, and then no old block turns. -/
theorem append_parts (w : World) (ty : TypeId) (B : Nat) (v : Value) (n : Nat) (zs : List ZTok) (hn : zs.length = n) (hz : TRow w B v zs) (ad : Addr) (c : Nat) (z : ZTok) (hnews : ∀ j u, (tc z)[j]? = some u → w.cell? (ad.add j) = some u) (hnb : n ≤ 1000000) (hB : B ≤ w.heap.size) :
    ∃ g cap w', (Builtin.append_ #[23, 23] ty #[v, .slice (some ad) 1 c]).run Tryd.prog w = .ok (.slice (some ⟨g, 0, none⟩) (n + 1) cap) w' ∧ TRow w' B (.slice (some ⟨g, 0, none⟩) (n + 1) cap) (zs ++ [z]) ∧
      ((v.ownBlock = some g ∧ w.grownBy w' (some g)) ∨ (g = w.heap.size ∧ w.grownBy w' none)) := by
  subst hn
  obtain ⟨i0, hi0, hz0, hz1, hz2⟩ := info_parts tinfo
  have h1 : ∀ u ∈ tc z, u.oneCell' = true := fun u hu => tcs_one [z] u (by simpa using hu)
  obtain ⟨g, cap, w', hr, h2, h3, h4, h5⟩ := run_append_lies (P := Tryd.prog) w 23 ty B 29 i0 _ 4 40 Tryd.underlying23 hi0 hz0 hz1 hz2 rfl (by omega) v zs.length (zs.flatMap tc) hz ad 1 c (tc z) rfl hnews h1 (by omega) (by unfold maxLen; omega) (by omega) hB _ rfl
  refine ⟨g, cap, w', hr, ?_, ?_⟩
  · unfold TRow
    rw [List.length_append, List.flatMap_append, List.flatMap_singleton]
    exact h2
  rcases h4 with h4 | h4
  · rw [h4] at h3
    exact Or.inl ⟨h4, h3⟩
  refine Or.inr ⟨h4, ?_⟩
  have hz' := hz
  rcases hz.2 with ⟨rfl, h0⟩ | ⟨g0, cap0, cur, rfl, hbg, hg, hnc, hcm, hcs, htake⟩
  · exact h3
  have hlt := (World.ownsRow.lt hz' g0 rfl).2
  by_cases hroom : zs.length + 1 ≤ cap0
  · exfalso
    have hr2 := run_append_room (P := Tryd.prog) w 23 ty 29 i0 Tryd.underlying23 hi0 g0 zs.length cap0 cur hg ad 1 c (tc z) (by rw [hz1]; rfl) hnews h1 hroom (by rw [hz1, hcs]; show _ + 4 ≤ _; omega)
    rw [hr] at hr2
    injection hr2 with hr2 _
    injection hr2 with hr2 _ _
    injection hr2 with hr2
    injection hr2 with hr2 _ _
    omega
  · have holds : ∀ j u, (zs.flatMap tc)[j]? = some u → w.cell? ((⟨g0, 0, none⟩ : Addr).add j) = some u := World.ownsRow.cells hz' (g := g0) rfl
    have hr2 := run_append_grow (P := Tryd.prog) w 23 ty 29 i0 _ Tryd.underlying23 hi0 hz0 ⟨g0, 0, none⟩ zs.length cap0 (zs.flatMap tc) (by rw [hz1, tcs_len]) holds ad 1 c (tc z) (by rw [hz1]; rfl) hnews (by omega) (by omega) (growslice_fits (by omega) (by rw [hz2]; omega))
    rw [hr] at hr2
    injection hr2 with _ hw
    subst hw
    exact only_alloc (only_drew (World.grownBy.refl w none)) _
/-- A token more, from a block that was just laid. -/
theorem wpList_tok {ops : Array Oper} {rest : List Oper} {o : Oper} {a : Act} {Q : Exit → Act → World → Prop} (hgd : o.guard = none) (s x : Operand)
    (ho : o.op = .call { callee := .builtin .append, args := #[s, x], argTypes := #[23, 23] })
    (B : Nat) (w1 : World) (ty : TypeId) (v : Value) (c : Nat) (zs : List ZTok) (n : Nat) (hn : zs.length = n) (z : ZTok) (cs : Array Value) (hcs : cs = (tc z).toArray) (hs : a.eval s = v) (hz : TRow w1 B v zs)
    (M : Nat) (hM : w1.heap.size = M) (hx : a.eval x = .slice (some ⟨M, 0, none⟩) 1 c) (hnb : n ≤ 1000000) (hB : B ≤ M)
    (h : ∀ g cap w', TRow w' B (.slice (some ⟨g, 0, none⟩) (n + 1) cap) (zs ++ [z]) → ((v.ownBlock = some g ∧ w1.grownBy w' (some g)) ∨ (M ≤ g ∧ w1.grownBy w' none)) → wpList Tryd.prog ops Q rest (a.put o.dst (.slice (some ⟨g, 0, none⟩) (n + 1) cap)) w') :
    wpList Tryd.prog ops Q (o :: rest) a (w1.alloc (.cells cs ty)) := by
  subst hcs hM
  have hgr : (w1.alloc (.cells (tc z).toArray ty)).heap.size = w1.heap.size + 1 := by simp
  obtain ⟨g, cap, w', hr, h2, h3⟩ := append_parts (w1.alloc (.cells (tc z).toArray ty)) o.type B v n zs hn (World.ownsRow.alloc hz _) ⟨w1.heap.size, 0, none⟩ c z (World.news_of_block (cs := (tc z).toArray) (t := ty) (fr := (0, 0)) (heap_alloc_new w1 _)) hnb (by omega)
  refine wpList_plain hgd fun K hK => ?_
  unfold Oper.wp execOp
  simp only [ho, resolve, invoke, builtin, Sem.run_bind, Sem.run_pure, Result.andThen_ok, List.map_toArray, List.map_cons, List.map_nil, hs, hx, hr]
  refine hK _ _ (h g cap w' h2 ?_)
  rcases h3 with ⟨h4, h5⟩ | ⟨h4, h5⟩
  · exact Or.inl ⟨h4, only_trans (only_alloc (World.grownBy.refl w1 _) _) h5⟩
  · exact Or.inr ⟨by omega, only_trans (only_alloc (World.grownBy.refl w1 _) _) h5⟩

theorem vinfo : (Tryd.prog.info? 23).map (fun i => (i.zero, i.size, i.bytes)) = some (some (.slice none 0 0), 1, 24) := by kernel_rfl
theorem vrow_at {w : World} {B g n cap : Nat} {vs : List Value} (h : VRow w B (.slice (some ⟨g, 0, none⟩) n cap) vs) {i : Nat} {u : Value} (hu : vs[i]? = some u) : w.cell? ⟨g, i, none⟩ = some u := by
  have hn : n = vs.length := by
    rcases h.2 with ⟨hv, _⟩ | ⟨g', cap', cur, hv, _⟩
    · cases hv
    · injection hv
  subst hn
  rw [World.ownsRow.cellAt h i (by have := (List.getElem?_eq_some_iff.1 hu).1; omega), hu]
theorem vrow_form {w : World} {B : Nat} {v : Value} {vs : List Value} (h : VRow w B v vs) (hp : 0 < vs.length) : ∃ g cap, v = .slice (some ⟨g, 0, none⟩) vs.length cap := by
  rcases h.2 with ⟨_, h0⟩ | ⟨g, cap, cur, rfl, _⟩
  · omega
  · exact ⟨g, cap, rfl⟩
theorem vrow_len {w : World} {B : Nat} {v : Value} {vs : List Value} (h : VRow w B v vs) : ∃ A cap, v = .slice A vs.length cap := by
  rcases h.2 with ⟨rfl, h0⟩ | ⟨g, cap, cur, rfl, _⟩
  · exact ⟨none, 0, by rw [h0]⟩
  · exact ⟨_, cap, rfl⟩
/-- A list more, from a block that was just laid. -/
theorem wpList_val {ops : Array Oper} {rest : List Oper} {o : Oper} {a : Act} {Q : Exit → Act → World → Prop} (hgd : o.guard = none) (s x : Operand)
    (ho : o.op = .call { callee := .builtin .append, args := #[s, x], argTypes := #[27, 27] })
    (B : Nat) (w1 : World) (ty : TypeId) (v : Value) (c : Nat) (vs : List Value) (n : Nat) (hn : vs.length = n) (A' : Option Addr) (n' c' : Nat) (hs : a.eval s = v) (hz : VRow w1 B v vs)
    (hx : a.eval x = .slice (some ⟨w1.heap.size, 0, none⟩) 1 c) (hnb : n ≤ 1000000) (hB : B ≤ w1.heap.size)
    (h : ∀ g cap w', VRow w' B (.slice (some ⟨g, 0, none⟩) (n + 1) cap) (vs ++ [.slice A' n' c']) → w1.grownBy w' v.ownBlock → (v.ownBlock = some g ∨ w1.heap.size ≤ g) → wpList Tryd.prog ops Q rest (a.put o.dst (.slice (some ⟨g, 0, none⟩) (n + 1) cap)) w') :
    wpList Tryd.prog ops Q (o :: rest) a (w1.alloc (.cells #[.slice A' n' c'] ty)) := by
  subst hn
  obtain ⟨i0, hi0, hz0, hz1, hz2⟩ := info_parts vinfo
  have hgr : (w1.alloc (.cells #[.slice A' n' c'] ty)).heap.size = w1.heap.size + 1 := by simp
  refine wpList_append_lies (w1.alloc (.cells #[.slice A' n' c'] ty)) hgd s x _ ho B 23 i0 _ 1 24 Tryd.underlying27 hi0 hz0 hz1 hz2 rfl (by omega) v vs.length vs hs (World.ownsRow.alloc hz _) ⟨w1.heap.size, 0, none⟩ 1 c [.slice A' n' c'] hx (by rfl)
    (World.news_of_block (cs := #[.slice A' n' c']) (t := ty) (fr := (0, 0)) (heap_alloc_new w1 _)) (by intro u hu; simp at hu; subst hu; rfl) (by omega) (by unfold maxLen; omega) (by omega) (by omega) _ rfl ?_
  intro g cap w' h1 h2 h3 h4
  refine h g cap w' ?_ (only_trans (only_alloc (World.grownBy.refl w1 _) _) h2) (h3.imp id (fun e => by omega))
  unfold VRow
  rw [List.length_append]
  exact h1

/-- A mark. -/
def markT (n : Int) : ZTok := (100 + n, ⟨#[109, 97, 114, 107]⟩, n, -n)
theorem law3_mark (n : Int) (w : World) (h1 : -1000000000 ≤ n) (h2 : n ≤ 1000000000) : Calls Tryd.prog 6 #[.int .i64 n] w fun e w' => e = .returned (.agg (tc (markT n)).toArray) ∧ Below w.heap.size w w' := by
  go_enter Tryd.func6, Tryd.ntmps6
  go_wp2
  refine bodyPost_ret (results_cell_row rfl _ _ w.heap.size 29 (tc (markT n)).toArray (0, 0) _ rfl (heap_alloc_new w _) Tryd.underlying29 rfl (by kernel_rfl)) rfl ?_
  exact ⟨rfl, (Below.refl _ _).alloc (Nat.le_refl _) _⟩
end Go.Proofs.YtgikgppblkpojaaDoor
