/-
  THE WALK of step.Loop (chapter 10).
-/
import Derived.Test.YtpknablklencdaaGreatDoorAv
set_option linter.unusedVariables false
set_option linter.unusedSimpArgs false
set_option maxRecDepth 100000
set_option maxHeartbeats 8000000
namespace Go.Proofs.YtpknablklencdaaGreatDoor
open Go.RowKit
attribute [local go_sem] Oper.semAt_some
theorem Sp.bounds_ok {n : Sp.Net} {p : Int} {h : ByteArray} {tp hops : Int} (hb : Sp.boundsE n p h tp hops = 0) : Sp.checkE n p h = 0 ∧ 0 ≤ hops ∧ hops ≤ 64 := by
  unfold Sp.boundsE at hb
  by_cases h1 : Sp.checkE n p h = 0
  · rw [if_neg (fun e => e h1)] at hb
    by_cases h2 : tp < 0
    · rw [if_pos h2] at hb; omega
    · rw [if_neg h2] at hb
      by_cases h3 : (n.ports.length : Int) ≤ tp
      · rw [if_pos h3] at hb; omega
      · rw [if_neg h3] at hb
        by_cases h4 : hops < 0
        · rw [if_pos h4] at hb; omega
        · rw [if_neg h4] at hb
          by_cases h5 : 64 < hops
          · rw [if_pos h5] at hb; omega
          · exact ⟨h1, by omega, by omega⟩
  · rw [if_pos h1] at hb
    exact absurd hb h1
/-- The three results stand in cells. -/
structure LpC (M : Nat) (v1 v2 v3 : Value) (ok : Bool) (e : Int) (W : World) : Prop where
  c2 : Blk W (M + 1 + 1) 40 #[v1, v2, v3]
  c3 : Blk W (M + 1 + 1 + 1) 4 #[.bool ok]
  c4 : Blk W (M + 1 + 1 + 1 + 1) 33 #[.int .i64 e]
theorem LpC.below {M : Nat} {v1 v2 v3 : Value} {ok : Bool} {e : Int} {W W' : World} (k : LpC M v1 v2 v3 ok e W) (hb : Below W.heap.size W W') : LpC M v1 v2 v3 ok e W' := ⟨k.c2.below hb k.c2.lt, k.c3.below hb k.c3.lt, k.c4.below hb k.c4.lt⟩
def lpSet (M : Nat) (u1 u2 u3 : Value) (ok : Bool) (e : Int) (W : World) : World := ((((W.setCell ⟨M + 1 + 1, 0, none⟩ u1).setCell ⟨M + 1 + 1, 1, none⟩ u2).setCell ⟨M + 1 + 1, 2, none⟩ u3).setCell ⟨M + 1 + 1 + 1, 0, none⟩ (.bool ok)).setCell ⟨M + 1 + 1 + 1 + 1, 0, none⟩ (.int .i64 e)
theorem LpC.set {M : Nat} {v1 v2 v3 : Value} {ok : Bool} {e : Int} {W : World} (k : LpC M v1 v2 v3 ok e W) (u1 u2 u3 : Value) (ok' : Bool) (e' : Int) : LpC M u1 u2 u3 ok' e' (lpSet M u1 u2 u3 ok' e' W) :=
  ⟨((((k.c2.set_ 0 u1).set_ 1 u2).set_ 2 u3).far (by show M + 1 + 1 ≠ M + 1 + 1 + 1; omega) _).far (by show M + 1 + 1 ≠ M + 1 + 1 + 1 + 1; omega) _,
    ((((k.c3.far (by show M + 1 + 1 + 1 ≠ M + 1 + 1; omega) _).far (by show M + 1 + 1 + 1 ≠ M + 1 + 1; omega) _).far (by show M + 1 + 1 + 1 ≠ M + 1 + 1; omega) _).set_ 0 _).far (by show M + 1 + 1 + 1 ≠ M + 1 + 1 + 1 + 1; omega) _,
    ((((k.c4.far (by show M + 1 + 1 + 1 + 1 ≠ M + 1 + 1; omega) _).far (by show M + 1 + 1 + 1 + 1 ≠ M + 1 + 1; omega) _).far (by show M + 1 + 1 + 1 + 1 ≠ M + 1 + 1; omega) _).far (by show M + 1 + 1 + 1 + 1 ≠ M + 1 + 1 + 1; omega) _).set_ 0 _⟩
theorem lpSet_below {M N : Nat} {u1 u2 u3 : Value} {ok : Bool} {e : Int} {A W : World} (hb : Below N A W) (hN : N ≤ M) : Below N A (lpSet M u1 u2 u3 ok e W) :=
  ((((hb.setCell (p := ⟨M + 1 + 1, 0, none⟩) (by show N ≤ M + 1 + 1; omega) _).setCell (p := ⟨M + 1 + 1, 1, none⟩) (by show N ≤ M + 1 + 1; omega) _).setCell (p := ⟨M + 1 + 1, 2, none⟩) (by show N ≤ M + 1 + 1; omega) _).setCell (p := ⟨M + 1 + 1 + 1, 0, none⟩) (by show N ≤ M + 1 + 1 + 1; omega) _).setCell (p := ⟨M + 1 + 1 + 1 + 1, 0, none⟩) (by show N ≤ M + 1 + 1 + 1 + 1; omega) _
/-- All that stands in cells stays. -/
def KC (W W' : World) : Prop := ∀ (b : Nat) (o : Obj), W.heap[b]? = some o → o.isCells = true → W'.heap[b]? = some o
theorem KC.trans {A B C : World} (h : KC A B) (k : KC B C) : KC A C := fun b o ho hc => k b o (h b o ho hc) hc
theorem kc_put {W : World} {D : Nat} {o : Obj} (o' : Obj) (h : W.heap[D]? = some o) (hc : o.isCells = false) : KC W (W.putObj D o') := fun b ob hb hob => by
  have hne : b ≠ D := by rintro rfl; rw [h] at hb; cases hb; rw [hc] at hob; cases hob
  exact (World.putObj_heap_other hne).trans hb
theorem Blk.kc {W W' : World} {g : Nat} {t : TypeId} {cs : Array Value} (h : Blk W g t cs) (k : KC W W') : Blk W' g t cs := k g _ h rfl
theorem LpC.kc {M : Nat} {v1 v2 v3 : Value} {ok : Bool} {e : Int} {W W' : World} (h : LpC M v1 v2 v3 ok e W) (k : KC W W') : LpC M v1 v2 v3 ok e W' := ⟨h.c2.kc k, h.c3.kc k, h.c4.kc k⟩
theorem in_kc {W W' : World} {b : Nat} {v : Value} {l : List Int} (h : InR W b v l) (k : KC W W') : InR W' b v l := by
  refine ⟨h.1, ?_⟩
  rcases h.2 with e | ⟨g, cap, cur, hv, hb, hg, r⟩
  · exact .inl e
  · exact .inr ⟨g, cap, cur, hv, hb, k g _ hg rfl, r⟩
theorem leaves_keep {F : Fence} {nf : Nat} {P : Program} {fn : Func} {tmps : Array Value} {R : Ending → World → Prop} {N : Nat} {w : World} (hw : w.heap.size = N) : ∀ (Ds : List Nat) (W : World), (∀ D ∈ Ds, N ≤ D ∧ W.heap[D]? = some (.deferred (some []))) → Ds.Nodup →
    (∀ W', Below N W W' → KC W W' → LeavesInM F nf P fn tmps R [] .returning W') → LeavesInM F nf P fn tmps R (Ds.map fun D => { target := .collected D, args := #[] }) .returning W
  | [], W, _, _, hR => hR W (Below.refl _ _) (fun _ _ h _ => h)
  | D :: Ds, W, hD, hn, hR => by
    obtain ⟨h1, h2⟩ := hD D List.mem_cons_self
    rw [List.nodup_cons] at hn
    have hb : Below N W (W.putObj D (.deferred none)) := belowK_b (w := w) (by omega) W D _ _ (by omega) h2 rfl rfl
    refine ⟨by simp, .inl ⟨_, _, rfl, run_takeDeferred h2, ?_⟩⟩
    refine leaves_keep hw Ds _ (fun D' hD' => ?_) hn.2 (fun W' hW' hk => hR W' (hb.trans hW') ((kc_put _ h2 rfl).trans hk))
    obtain ⟨h3, h4⟩ := hD D' (List.mem_cons_of_mem _ hD')
    exact ⟨h3, (World.putObj_heap_other (fun e => hn.1 (by rw [← e]; exact hD'))).trans h4⟩
theorem ptr_slice {W : World} {B : Nat} {v : Value} {xs : List PathV} (h : PtR W B v xs) : ∃ A c, v = .slice A xs.length c := by
  rcases h.2 with ⟨rfl, h0⟩ | ⟨g, cap, cur, rfl, _⟩
  · exact ⟨none, 0, by rw [h0]⟩
  · exact ⟨_, _, rfl⟩
/-- The frame in the loop over what is gathered. -/
def LFr (M S cur : Nat) (hops : Int) (ds : List Deferred) (a : Act) : Prop := ∃ u : Nat → Value, a = { tmps := #[u 0, u 1, .int .i64 hops, .pointer (some ⟨M, 0, none⟩), u 4, u 5, .pointer (some ⟨M + 1 + 1, 0, none⟩), .pointer (some ⟨M + 1 + 1 + 1, 0, none⟩), .pointer (some ⟨M + 1 + 1 + 1 + 1, 0, none⟩), u 9, .pointer (some ⟨S, 0, none⟩), u 11, .pointer (some ⟨S + 1 + 1, 0, none⟩), .int .i64 (cur : Int), u 14, u 15, u 16, u 17, u 18, u 19, u 20, u 21, u 22, u 23, u 24, u 25, u 26, u 27, u 28, u 29, u 30, u 31, u 32, u 33, u 34, u 35, u 36, u 37, u 38, u 39, u 40, u 41, u 42, u 43, u 44, u 45, u 46, u 47, u 48, u 49, u 50, u 51, u 52, u 53, u 54, u 55, u 56, u 57, u 58, u 59, u 60, u 61, u 62, u 63, u 64, u 65, u 66, u 67, u 68, u 69, u 70, u 71, u 72, u 73, u 74, u 75, u 76, u 77, u 78, u 79, u 80, u 81, u 82], defers := ds }
theorem LFr.of {M S cur : Nat} {hops : Int} {ds : List Deferred} (v0 v1 v4 v5 v9 v11 v14 v15 v16 v17 v18 v19 v20 v21 v22 v23 v24 v25 v26 v27 v28 v29 v30 v31 v32 v33 v34 v35 v36 v37 v38 v39 v40 v41 v42 v43 v44 v45 v46 v47 v48 v49 v50 v51 v52 v53 v54 v55 v56 v57 v58 v59 v60 v61 v62 v63 v64 v65 v66 v67 v68 v69 v70 v71 v72 v73 v74 v75 v76 v77 v78 v79 v80 v81 v82 : Value) : LFr M S cur hops ds { tmps := #[v0, v1, .int .i64 hops, .pointer (some ⟨M, 0, none⟩), v4, v5, .pointer (some ⟨M + 1 + 1, 0, none⟩), .pointer (some ⟨M + 1 + 1 + 1, 0, none⟩), .pointer (some ⟨M + 1 + 1 + 1 + 1, 0, none⟩), v9, .pointer (some ⟨S, 0, none⟩), v11, .pointer (some ⟨S + 1 + 1, 0, none⟩), .int .i64 (cur : Int), v14, v15, v16, v17, v18, v19, v20, v21, v22, v23, v24, v25, v26, v27, v28, v29, v30, v31, v32, v33, v34, v35, v36, v37, v38, v39, v40, v41, v42, v43, v44, v45, v46, v47, v48, v49, v50, v51, v52, v53, v54, v55, v56, v57, v58, v59, v60, v61, v62, v63, v64, v65, v66, v67, v68, v69, v70, v71, v72, v73, v74, v75, v76, v77, v78, v79, v80, v81, v82], defers := ds } :=
  ⟨fun i => ([v0, v1, undef, undef, v4, v5, undef, undef, undef, v9, undef, v11, undef, undef, v14, v15, v16, v17, v18, v19, v20, v21, v22, v23, v24, v25, v26, v27, v28, v29, v30, v31, v32, v33, v34, v35, v36, v37, v38, v39, v40, v41, v42, v43, v44, v45, v46, v47, v48, v49, v50, v51, v52, v53, v54, v55, v56, v57, v58, v59, v60, v61, v62, v63, v64, v65, v66, v67, v68, v69, v70, v71, v72, v73, v74, v75, v76, v77, v78, v79, v80, v81, v82] : List Value).getD i undef, rfl⟩
/-- Between two rounds. -/
structure LoI (n : Sp.Net) (s : Nat) (h : ByteArray) (hops : Int) (q : Sp.Path) (M S : Nat) (cn : Array Value) (w : World) (Ds : List Nat) (xs : List PathV) (cur : Nat) (W : World) : Prop where
  net : Blk W M 26 cn
  res : LpC M (.slice none 0 0) (.slice none 0 0) (.string ⟨#[]⟩) false 0 W
  px : ∃ u1 u2 u3, Blk W S 40 #[u1, u2, u3]
  row : ∃ v, Boxed W (S + 1 + 1) 29 v ∧ PtR W (S + 1) v xs
  each : ∀ x ∈ xs, PvAt M x W
  inv : Sp.LInv n s h hops q (xs.map PathV.path) cur
  few : xs.length ≤ 4096
  cur : cur ≤ xs.length
  below : Below M w W
  ds : DsOk M Ds W
  once : Ds.Nodup
theorem in_far {W : World} {b g : Nat} {v : Value} {l : List Int} {t : TypeId} {cs : Array Value} (h : InR W b v l) (hk : Blk W g t cs) (ht : t ≠ 3) : ∀ k, v.ownBlock = some k → g ≠ k := by
  rintro k hk2 rfl
  rcases h.2 with ⟨rfl, _⟩ | ⟨g', cap, cur, rfl, _, h3, _⟩
  · cases hk2
  · have hk2 : some g' = some g := hk2
    injection hk2 with hk2
    subst hk2
    rw [show W.heap[g']? = _ from hk] at h3
    injection h3 with h3
    injection h3 with _ h3
    exact ht h3
theorem LoI.put {n : Sp.Net} {s : Nat} {h : ByteArray} {hops : Int} {q : Sp.Path} {M S : Nat} {cn : Array Value} {w : World} {Ds : List Nat} {xs : List PathV} {cur : Nat} {W : World} (hI : LoI n s h hops q M S cn w Ds xs cur W) (hMS : M + 5 ≤ S) (i : Nat) (u : Value) : LoI n s h hops q M S cn w Ds xs cur (W.setCell ⟨S, i, none⟩ u) := by
  obtain ⟨u1, u2, u3, hp⟩ := hI.px
  obtain ⟨v, hb, hr⟩ := hI.row
  refine ⟨hI.net.far (by show M ≠ S; omega) _, ⟨hI.res.c2.far (by show M + 1 + 1 ≠ S; omega) _, hI.res.c3.far (by show M + 1 + 1 + 1 ≠ S; omega) _, hI.res.c4.far (by show M + 1 + 1 + 1 + 1 ≠ S; omega) _⟩, ?_, ⟨v, Blk.far hb (by show S + 1 + 1 ≠ S; omega) _, ownsRow_setCell_below hr (by show S < S + 1; omega) _⟩, fun x hx => ?_, hI.inv, hI.few, hI.cur, hI.below.setCell (p := ⟨S, i, none⟩) (by show M ≤ S; omega) _, fun D hD => ⟨(hI.ds D hD).1, (KeepsOthers.setCell _ _ _).same D _ (hI.ds D hD).2 rfl⟩, hI.once⟩
  · have hs := hp.set_ i u
    rcases i with _ | _ | _ | i
    · exact ⟨_, _, _, hs⟩
    · exact ⟨_, _, _, hs⟩
    · exact ⟨_, _, _, hs⟩
    · exact ⟨_, _, _, by simpa using hs⟩
  · obtain ⟨h1, h2⟩ := hI.each x hx
    exact ⟨in_put h1 (in_far h1 hp (by decide)) u, in_put h2 (in_far h2 hp (by decide)) u⟩
theorem LoI.on {n : Sp.Net} {s : Nat} {h : ByteArray} {hops : Int} {q : Sp.Path} {M S : Nat} {cn : Array Value} {w : World} {Ds : List Nat} {xs : List PathV} {cur : Nat} {W : World} (hI : LoI n s h hops q M S cn w Ds xs cur W) (hl : cur < xs.length) (hv : Sp.LInv n s h hops q (xs.map PathV.path) (cur + 1)) : LoI n s h hops q M S cn w Ds xs (cur + 1) W :=
  ⟨hI.net, hI.res, hI.px, hI.row, hI.each, hv, hI.few, hl, hI.below, hI.ds, hI.once⟩
theorem LoI.later {n : Sp.Net} {s : Nat} {h : ByteArray} {hops : Int} {q : Sp.Path} {M S : Nat} {cn : Array Value} {w : World} {Ds : List Nat} {xs : List PathV} {cur : Nat} {W W' : World} (hI : LoI n s h hops q M S cn w Ds xs cur W) (hb : Below W.heap.size W W') : LoI n s h hops q M S cn w Ds xs cur W' := by
  obtain ⟨u1, u2, u3, hp⟩ := hI.px
  obtain ⟨v, hbx, hr⟩ := hI.row
  refine ⟨hI.net.below hb hI.net.lt, hI.res.below hb, ⟨u1, u2, u3, hp.below hb hp.lt⟩, ⟨v, Blk.below hbx hb (Blk.lt hbx), ?_⟩, fun x hx => ⟨in_below (hI.each x hx).1 hb, in_below (hI.each x hx).2 hb⟩, hI.inv, hI.few, hI.cur, hI.below.trans (hb.mono (by have := hI.net.lt; omega)), fun D hD => ⟨(hI.ds D hD).1, (hb.block D (heap_lt (hI.ds D hD).2)).trans (hI.ds D hD).2⟩, hI.once⟩
  refine World.ownsRow.kept hr (grown_of_below hb) ?_
  cases hv : v.ownBlock with
  | none => exact .inl rfl
  | some g => exact .inr (fun e => by cases e)
theorem LoI.own {β : Type} {n : Sp.Net} {s : Nat} {h : ByteArray} {hops : Int} {q : Sp.Path} {M S B : Nat} {cn : Array Value} {w : World} {Ds : List Nat} {xs : List PathV} {cur : Nat} (hM : M ≤ w.heap.size) (hMB : M ≤ B) (hB : ∀ D ∈ Ds, D < B) : OwnFrom B (fun (_ : β) W => LoI n s h hops q M S cn w Ds xs cur W) := fun x A C row hs hg hr => by
  obtain ⟨u1, u2, u3, hp⟩ := hs.px
  obtain ⟨v, hbx, hrw⟩ := hs.row
  have hr2 : ∀ r, row = some r → ∃ o : Obj, A.heap[r]? = some o ∧ TurnOk o := fun r e => by obtain ⟨_, o, h1, h2⟩ := hr r e; exact ⟨o, h1, .inl h2⟩
  exact ⟨own_blk B _ _ _ x A C row hs.net hg hr, ⟨own_blk B _ _ _ x A C row hs.res.c2 hg hr, own_blk B _ _ _ x A C row hs.res.c3 hg hr, own_blk B _ _ _ x A C row hs.res.c4 hg hr⟩, ⟨u1, u2, u3, own_blk B _ _ _ x A C row hp hg hr⟩, ⟨v, own_blk B _ _ _ x A C row hbx hg hr, ptR_turn hrw hg hr2⟩,
    fun y hy => ⟨row_turn (hs.each y hy).1 hg hr2, row_turn (hs.each y hy).2 hg hr2⟩, hs.inv, hs.few, hs.cur, ownFrom_below hM hMB x A C row hs.below hg hr, own_ds hB x A C row hs.ds hg hr, hs.once⟩
/-- The frame in a round of the moves. -/
def LGr (M S cur Bx : Nat) (hops : Int) (a : Act) : Prop := ∃ u : Nat → Value, a = { tmps := #[u 0, u 1, .int .i64 hops, .pointer (some ⟨M, 0, none⟩), u 4, u 5, .pointer (some ⟨M + 1 + 1, 0, none⟩), .pointer (some ⟨M + 1 + 1 + 1, 0, none⟩), .pointer (some ⟨M + 1 + 1 + 1 + 1, 0, none⟩), u 9, .pointer (some ⟨S, 0, none⟩), u 11, .pointer (some ⟨S + 1 + 1, 0, none⟩), .int .i64 (cur : Int), .pointer (some ⟨Bx, 0, none⟩), u 15, u 16, u 17, u 18, u 19, u 20, u 21, u 22, u 23, u 24, u 25, u 26, u 27, u 28, u 29, u 30, u 31, u 32, u 33, u 34, u 35, u 36, u 37, u 38, u 39, u 40, u 41, u 42, u 43, u 44, u 45, u 46, u 47, u 48, u 49, u 50, u 51, u 52, u 53, u 54, u 55, u 56, u 57, u 58, u 59, u 60, u 61, u 62, u 63, u 64, u 65, u 66, u 67, u 68, u 69, u 70, u 71, u 72, u 73, u 74, u 75, u 76, u 77, u 78, u 79, u 80, u 81, u 82], defers := [] }
theorem LGr.of {M S cur Bx : Nat} {hops : Int} (v0 v1 v4 v5 v9 v11 v15 v16 v17 v18 v19 v20 v21 v22 v23 v24 v25 v26 v27 v28 v29 v30 v31 v32 v33 v34 v35 v36 v37 v38 v39 v40 v41 v42 v43 v44 v45 v46 v47 v48 v49 v50 v51 v52 v53 v54 v55 v56 v57 v58 v59 v60 v61 v62 v63 v64 v65 v66 v67 v68 v69 v70 v71 v72 v73 v74 v75 v76 v77 v78 v79 v80 v81 v82 : Value) : LGr M S cur Bx hops { tmps := #[v0, v1, .int .i64 hops, .pointer (some ⟨M, 0, none⟩), v4, v5, .pointer (some ⟨M + 1 + 1, 0, none⟩), .pointer (some ⟨M + 1 + 1 + 1, 0, none⟩), .pointer (some ⟨M + 1 + 1 + 1 + 1, 0, none⟩), v9, .pointer (some ⟨S, 0, none⟩), v11, .pointer (some ⟨S + 1 + 1, 0, none⟩), .int .i64 (cur : Int), .pointer (some ⟨Bx, 0, none⟩), v15, v16, v17, v18, v19, v20, v21, v22, v23, v24, v25, v26, v27, v28, v29, v30, v31, v32, v33, v34, v35, v36, v37, v38, v39, v40, v41, v42, v43, v44, v45, v46, v47, v48, v49, v50, v51, v52, v53, v54, v55, v56, v57, v58, v59, v60, v61, v62, v63, v64, v65, v66, v67, v68, v69, v70, v71, v72, v73, v74, v75, v76, v77, v78, v79, v80, v81, v82], defers := [] } :=
  ⟨fun i => ([v0, v1, undef, undef, v4, v5, undef, undef, undef, v9, undef, v11, undef, undef, undef, v15, v16, v17, v18, v19, v20, v21, v22, v23, v24, v25, v26, v27, v28, v29, v30, v31, v32, v33, v34, v35, v36, v37, v38, v39, v40, v41, v42, v43, v44, v45, v46, v47, v48, v49, v50, v51, v52, v53, v54, v55, v56, v57, v58, v59, v60, v61, v62, v63, v64, v65, v66, v67, v68, v69, v70, v71, v72, v73, v74, v75, v76, v77, v78, v79, v80, v81, v82] : List Value).getD i undef, rfl⟩
/-- The results stand. -/
def LoX (n : Sp.Net) (s : Nat) (h : ByteArray) (hops : Int) (M : Nat) (w : World) (Ds : List Nat) (W : World) : Prop :=
  ∃ v1 v2 p ok e, LpC M v1 v2 (.string p.header) ok e W ∧ InR W M v1 p.ports ∧ InR W M v2 p.entries ∧ Below M w W ∧ DsOk M Ds W ∧ Sp.LpR n (s : Int) h hops p ok e
theorem LoX.own {β : Type} {n : Sp.Net} {s : Nat} {h : ByteArray} {hops : Int} {M B : Nat} {w : World} {Ds : List Nat} (hM : M ≤ w.heap.size) (hMB : M ≤ B) (hB : ∀ D ∈ Ds, D < B) : OwnFrom B (fun (_ : β) W => LoX n s h hops M w Ds W) := fun x A C row hs hg hr => by
  obtain ⟨v1, v2, p, ok, e, h1, h2, h3, h4, h5, h6⟩ := hs
  have hr2 : ∀ r, row = some r → ∃ o : Obj, A.heap[r]? = some o ∧ TurnOk o := fun r e => by obtain ⟨_, o, h1, h2⟩ := hr r e; exact ⟨o, h1, .inl h2⟩
  exact ⟨v1, v2, p, ok, e, ⟨own_blk B _ _ _ x A C row h1.c2 hg hr, own_blk B _ _ _ x A C row h1.c3 hg hr, own_blk B _ _ _ x A C row h1.c4 hg hr⟩, row_turn h2 hg hr2, row_turn h3 hg hr2, ownFrom_below hM hMB x A C row h4 hg hr, own_ds hB x A C row h5 hg hr, h6⟩
theorem in_lpSet {M b : Nat} {u1 u2 u3 : Value} {ok : Bool} {e : Int} {W : World} {v : Value} {l : List Int} (h : InR W b v l) (hb : M + 5 ≤ b) : InR (lpSet M u1 u2 u3 ok e W) M v l :=
  in_mono (in_set (in_set (in_set (in_set (in_set h (p := ⟨M + 1 + 1, 0, none⟩) (by show M + 1 + 1 < b; omega) _) (p := ⟨M + 1 + 1, 1, none⟩) (by show M + 1 + 1 < b; omega) _) (p := ⟨M + 1 + 1, 2, none⟩) (by show M + 1 + 1 < b; omega) _) (p := ⟨M + 1 + 1 + 1, 0, none⟩) (by show M + 1 + 1 + 1 < b; omega) _) (p := ⟨M + 1 + 1 + 1 + 1, 0, none⟩) (by show M + 1 + 1 + 1 + 1 < b; omega) _) (by omega)
theorem lpSet_others {M : Nat} {u1 u2 u3 : Value} {ok : Bool} {e : Int} (W : World) : KeepsOthers W (lpSet M u1 u2 u3 ok e W) :=
  ((((KeepsOthers.setCell _ _ _).trans (KeepsOthers.setCell _ _ _)).trans (KeepsOthers.setCell _ _ _)).trans (KeepsOthers.setCell _ _ _)).trans (KeepsOthers.setCell _ _ _)
theorem lox_of {n : Sp.Net} {s : Nat} {h : ByteArray} {hops : Int} {M : Nat} {w W : World} {Ds : List Nat} {v1 v2 a1 a2 a3 : Value} {o0 : Bool} {e0 : Int} {b : Nat} {p : Sp.Path} {ok : Bool} {e : Int} (hc : LpC M a1 a2 a3 o0 e0 W) (h1 : InR W b v1 p.ports) (h2 : InR W b v2 p.entries) (hb : M + 5 ≤ b) (hw : Below M w W) (hd : DsOk M Ds W) (hR : Sp.LpR n (s : Int) h hops p ok e) : LoX n s h hops M w Ds (lpSet M v1 v2 (.string p.header) ok e W) :=
  ⟨v1, v2, p, ok, e, hc.set _ _ _ _ _, in_lpSet h1 hb, in_lpSet h2 hb, lpSet_below hw (Nat.le_refl _), fun D hD => ⟨(hd D hD).1, (lpSet_others W).same D _ (hd D hD).2 rfl⟩, hR⟩
def LInvA (n : Sp.Net) (s : Nat) (h : ByteArray) (hops : Int) (q : Sp.Path) (M S : Nat) (cn : Array Value) (w : World) (a : Act) (W : World) : Prop :=
  ∃ Ds xs cur, LFr M S cur hops (dsOf Ds) a ∧ LoI n s h hops q M S cn w Ds xs cur W
theorem step_Loop (n : Sp.Net) (A1 A2 A3 : Option Addr) (c1 c2 c3 : Nat) (p : Int) (h : ByteArray) (hops : Int) (w : World) (hG : Gn w)
    (hnr : NetR w n [.int .i64 n.bits, .slice A1 n.ports.length c1, .slice A2 n.tables.length c2, .slice A3 n.guards.length c3]) (hsz : Sp.Szd n) (hh : h.size ≤ 9223372036854775807) :
    Calls Tryz.prog 14 #[.agg #[.int .i64 n.bits, .slice A1 n.ports.length c1, .slice A2 n.tables.length c2, .slice A3 n.guards.length c3], .agg #[.int .i64 p, .string h], .int .i64 hops] w (LpRes n p h hops w) := by
  obtain ⟨M, hM⟩ : ∃ M, w.heap.size = M := ⟨_, rfl⟩
  obtain ⟨W5, hW5⟩ : ∃ W5, ((((w.alloc (.cells #[.int .i64 n.bits, .slice A1 n.ports.length c1, .slice A2 n.tables.length c2, .slice A3 n.guards.length c3] 26)).alloc (.cells #[.int .i64 p, .string h] 28)).alloc (.cells #[.slice none 0 0, .slice none 0 0, .string ⟨#[]⟩] 40)).alloc (.cells #[.bool false] 4)).alloc (.cells #[.int .i64 0] 33) = W5 := ⟨_, rfl⟩
  have hb5 : Below M w W5 := by rw [← hW5, ← hM]; exact (((((Below.refl _ _).alloc (Nat.le_refl _) _).alloc (by simp) _).alloc (by simp; omega) _).alloc (by simp; omega) _).alloc (by simp; omega) _
  have hs5 : W5.heap.size = M + 5 := by rw [← hW5, ← hM]; simp
  have hnet0 : NetAt (w.alloc (.cells #[.int .i64 n.bits, .slice A1 n.ports.length c1, .slice A2 n.tables.length c2, .slice A3 n.guards.length c3] 26)) w.heap.size n := net_box hnr 26
  have b0 : Blk W5 M 26 #[.int .i64 n.bits, .slice A1 n.ports.length c1, .slice A2 n.tables.length c2, .slice A3 n.guards.length c3] := by rw [← hW5, ← hM]; exact ((((Blk.new w _ _).alloc _).alloc _).alloc _).alloc _
  have b1 : Blk W5 (M + 1) 28 #[.int .i64 p, .string h] := by rw [← hW5]; exact (((blk_at (by rw [World.size_alloc]; omega)).alloc _).alloc _).alloc _
  have b2 : Blk W5 (M + 1 + 1) 40 #[.slice none 0 0, .slice none 0 0, .string ⟨#[]⟩] := by rw [← hW5]; exact ((blk_at (by rw [World.size_alloc, World.size_alloc]; omega)).alloc _).alloc _
  have b3 : Blk W5 (M + 1 + 1 + 1) 4 #[.bool false] := by rw [← hW5]; exact (blk_at (by rw [World.size_alloc, World.size_alloc, World.size_alloc]; omega)).alloc _
  have b4 : Blk W5 (M + 1 + 1 + 1 + 1) 33 #[.int .i64 0] := by rw [← hW5]; exact blk_at (by rw [World.size_alloc, World.size_alloc, World.size_alloc, World.size_alloc]; omega)
  have hbw : Below w.heap.size w W5 := by rw [hM]; exact hb5
  have hnA : NetAt W5 M n := ⟨_, hnr.more hbw, by omega, fun f u hf => by rw [b0.cell f, ← Array.getElem?_toList]; exact hf⟩
  have hbd := step_bounds M n p h 0 hops W5 (hG.below hbw) hnA hsz hh
  obtain ⟨E, hE⟩ : ∃ E, Sp.boundsE n p h 0 hops = E := ⟨_, rfl⟩
  rw [hE] at hbd
  obtain ⟨np, hnp⟩ : ∃ np, n.ports.length = np := ⟨_, rfl⟩
  obtain ⟨nt, hnt⟩ : ∃ nt, n.tables.length = nt := ⟨_, rfl⟩
  obtain ⟨ng, hng⟩ : ∃ ng, n.guards.length = ng := ⟨_, rfl⟩
  obtain ⟨b, hbi⟩ : ∃ b, n.bits = b := ⟨_, rfl⟩
  have hnr2 := hnr
  rw [hbi, hnp, hnt, hng] at b0 hW5 hnr2 ⊢
  have HNR := Lib.hid hnr2
  clear hnr2
  have x0 : W5.cell? ⟨M + 1, 0, none⟩ = some (.int .i64 p) := b1.cell 0
  have x1 : W5.cell? ⟨M + 1, 1, none⟩ = some (.string h) := b1.cell 1
  have HM := Lib.hid hM
  have HB5 := Lib.hid hb5
  have HS5 := Lib.hid hs5
  have HD0 := Lib.hid b0
  have HD1 := Lib.hid b1
  have HD2 := Lib.hid b2
  have HD3 := Lib.hid b3
  have HD4 := Lib.hid b4
  have HNA := Lib.hid hnA
  have HE := Lib.hid hE
  have HBD := Lib.hid hbd
  clear hG hnr hsz hh hb5 hs5 hnet0 b0 b1 b2 b3 b4 hbw hnA hbd hE hnp hnt hng hbi
  refine (callsIn_wide (n := 9)).1 ?_
  refine callsIn_of_wp_marks Tryz.func14 rfl trivial ?_ rfl
  simp only [Tryz.ntmps14, List.size_toArray, List.length_cons, List.length_nil, Nat.reduceAdd, Nat.reduceSub, Array.replicate_succ, Array.replicate_zero, List.push_toArray, List.append_toArray, List.nil_append, List.cons_append]
  gi_wp2
  refine ⟨trivial, ?_⟩
  refine (callsIn_wide.2 HBD.out).mono ?_
  rintro e W6 ⟨rfl, hb6⟩
  clear x0 x1 hW5
  have e1 := HD1.out.below hb6 HD1.out.lt
  have e2 := HD2.out.below hb6 HD2.out.lt
  have e3 := HD3.out.below hb6 HD3.out.lt
  have e4 := HD4.out.below hb6 HD4.out.lt
  have HD06 := Lib.hid (HD0.out.below hb6 HD0.out.lt)
  have HB6 := Lib.hid (HB5.out.trans (hb6.mono (by have := HS5.out; omega)))
  have HS6 := Lib.hid (show M + 5 ≤ W6.heap.size by have := HS5.out; have := hb6.size; omega)
  have HNA6 := Lib.hid (HNA.out.more hb6)
  have x0 : W6.cell? ⟨M + 1, 0, none⟩ = some (.int .i64 p) := e1.cell 0
  have x1 : W6.cell? ⟨M + 1, 1, none⟩ = some (.string h) := e1.cell 1
  have y0 : W6.cell? ⟨M + 1 + 1, 0, none⟩ = some (.slice none 0 0) := e2.cell 0
  have y1 : W6.cell? ⟨M + 1 + 1, 1, none⟩ = some (.slice none 0 0) := e2.cell 1
  have y2 : W6.cell? ⟨M + 1 + 1, 2, none⟩ = some (.string ⟨#[]⟩) := e2.cell 2
  have y3 : W6.cell? ⟨M + 1 + 1 + 1, 0, none⟩ = some (.bool false) := e3.cell 0
  have y4 : W6.cell? ⟨M + 1 + 1 + 1 + 1, 0, none⟩ = some (.int .i64 0) := e4.cell 0
  have z0 := e2.frozen 0
  have z1 := e2.frozen 1
  have z2 := e2.frozen 2
  have z3 := e3.frozen 0
  have z4 := e4.frozen 0
  by_cases hz : E = 0
  case neg =>
    have te : (E != 0) = true := bne_iff_ne.2 hz
    have HZ := Lib.hid hz
    have hc := (LpC.mk e2 e3 e4).set (.slice none 0 0) (.slice none 0 0) (.string ⟨#[]⟩) false E
    have HC := Lib.hid hc
    have HBS := Lib.hid (lpSet_below (M := M) (u1 := .slice none 0 0) (u2 := .slice none 0 0) (u3 := .string ⟨#[]⟩) (ok := false) (e := E) HB6.out (Nat.le_refl _))
    clear hb6 hz e1 e2 e3 e4 hc
    gi_wp2
    exact ⟨_, results_pbe rfl _ _ (M + 1 + 1) (M + 1 + 1 + 1) (M + 1 + 1 + 1 + 1) 40 #[.slice none 0 0, .slice none 0 0, .string ⟨#[]⟩] (.bool false) (.int .i64 E) _ rfl rfl rfl HC.out.c2 (HC.out.c3.cell 0) (HC.out.c4.cell 0) Tryz.underlying40 rfl (by kernel_rfl) rfl rfl, _, _, ⟨[], [], ⟨#[]⟩⟩, false, E, rfl, World.ownsRow_nil _ _ _ _, World.ownsRow_nil _ _ _ _, by rw [HM.out]; exact HBS.out, .inl ⟨HZ.out, rfl, rfl⟩⟩
  subst hz
  have te : ((0 : Int) != 0) = false := rfl
  have hok := Sp.bounds_ok HE.out
  obtain ⟨hnk, hst⟩ := Sp.checkE_zero hok.1
  obtain ⟨s, rfl⟩ : ∃ s : Nat, p = s := ⟨p.toNat, by have := hst.port; omega⟩
  have hbg := step_begin M n s h W6 HNA6.out hnk hst
  have HBG := Lib.hid hbg
  have HOK := Lib.hid hok
  have HNK := Lib.hid hnk
  have HST := Lib.hid hst
  have HC6 := Lib.hid (LpC.mk e2 e3 e4)
  have HE1 := Lib.hid e1
  clear hb6 hbg hok hnk hst e1 e2 e3 e4
  gi_wp2
  refine ⟨trivial, ?_⟩
  refine (callsIn_wide.2 HBG.out).mono ?_
  rintro e W7 ⟨v1, v2, q, ok, rfl, hv1, hv2, hb7, hB⟩
  obtain ⟨a1, a2, a3, rfl⟩ := in_slice hv1
  obtain ⟨d1, d2, d3, rfl⟩ := in_slice hv2
  obtain ⟨S, hS⟩ : ∃ S, W7.heap.size = S := ⟨_, rfl⟩
  obtain ⟨W8, hW8⟩ : ∃ W8, W7.alloc (.cells #[.slice a1 a2 a3, .slice d1 d2 d3, .string q.header] 40) = W8 := ⟨_, rfl⟩
  have hb78 : Below W7.heap.size W7 W8 := by rw [← hW8]; exact (Below.refl _ _).alloc (Nat.le_refl _) _
  have hb68 : Below W6.heap.size W6 W8 := hb7.trans (hb78.mono hb7.size)
  have bp : Blk W8 S 40 #[.slice a1 a2 a3, .slice d1 d2 d3, .string q.header] := by rw [← hW8, ← hS]; exact Blk.new _ _ _
  have hs8 : W8.heap.size = S + 1 := by rw [← hW8, ← hS]; simp
  have hc8 := HC6.out.below hb68
  have HB8 := Lib.hid (HB6.out.trans (hb68.mono (by have := HS6.out; omega)))
  have HS8 := Lib.hid hs8
  have HSM := Lib.hid (show M + 5 ≤ S by have := HS6.out; have := hb7.size; omega)
  have HNA8 := Lib.hid (HNA6.out.more hb68)
  have HBP := Lib.hid bp
  have HV1 := Lib.hid (in_below hv1 hb78)
  have HV2 := Lib.hid (in_below hv2 hb78)
  have HBR := Lib.hid hB
  have HC8 := Lib.hid hc8
  have HD08 := Lib.hid (HD06.out.below hb68 HD06.out.lt)
  have HE8 := Lib.hid (HE1.out.below hb68 HE1.out.lt)
  clear x0 x1 y0 y1 y2 y3 y4 z0 z1 z2 z3 z4
  have y0 : W8.cell? ⟨M + 1 + 1, 0, none⟩ = some (.slice none 0 0) := hc8.c2.cell 0
  have y1 : W8.cell? ⟨M + 1 + 1, 1, none⟩ = some (.slice none 0 0) := hc8.c2.cell 1
  have y2 : W8.cell? ⟨M + 1 + 1, 2, none⟩ = some (.string ⟨#[]⟩) := hc8.c2.cell 2
  have y3 : W8.cell? ⟨M + 1 + 1 + 1, 0, none⟩ = some (.bool false) := hc8.c3.cell 0
  have y4 : W8.cell? ⟨M + 1 + 1 + 1 + 1, 0, none⟩ = some (.int .i64 0) := hc8.c4.cell 0
  have z0 := hc8.c2.frozen 0
  have z1 := hc8.c2.frozen 1
  have z2 := hc8.c2.frozen 2
  have z3 := hc8.c3.frozen 0
  have z4 := hc8.c4.frozen 0
  clear hv1 hv2 hb7 hB hb78 hb68 bp hs8 hc8 HBG HNA6 HNA HD0 HD1 HD2 HD3 HD4 HBD HC6 HE1
  cases ok with
  | false =>
    have HC := Lib.hid (HC8.out.set (.slice none 0 0) (.slice none 0 0) (.string ⟨#[]⟩) false 0)
    have HBS := Lib.hid (lpSet_below (M := M) (u1 := .slice none 0 0) (u2 := .slice none 0 0) (u3 := .string ⟨#[]⟩) (ok := false) (e := 0) HB8.out (Nat.le_refl _))
    gi_wp2
    exact ⟨_, results_pbe rfl _ _ (M + 1 + 1) (M + 1 + 1 + 1) (M + 1 + 1 + 1 + 1) 40 #[.slice none 0 0, .slice none 0 0, .string ⟨#[]⟩] (.bool false) (.int .i64 0) _ rfl rfl rfl HC.out.c2 (HC.out.c3.cell 0) (HC.out.c4.cell 0) Tryz.underlying40 rfl (by kernel_rfl) rfl rfl, _, _, ⟨[], [], ⟨#[]⟩⟩, false, 0, rfl, World.ownsRow_nil _ _ _ _, World.ownsRow_nil _ _ _ _, by rw [HM.out]; exact HBS.out, .inr ⟨rfl, s, rfl, HOK.out, .inr ⟨rfl, rfl, Sp.beg_no HBR.out⟩⟩⟩
  | true =>
    obtain ⟨hgo, f, hf⟩ := Sp.beg_ok HOK.out HBR.out
    have HGO := Lib.hid hgo
    have HPF := Lib.hid hf
    clear hgo hf
    have x0 : W8.cell? ⟨S, 0, none⟩ = some (.slice a1 a2 a3) := HBP.out.cell 0
    have x1 : W8.cell? ⟨S, 1, none⟩ = some (.slice d1 d2 d3) := HBP.out.cell 1
    have x2 : W8.cell? ⟨S, 2, none⟩ = some (.string q.header) := HBP.out.cell 2
    gi_wp2
    obtain ⟨VL, hVL⟩ : ∃ VL, (W8.alloc (.cells #[.slice a1 a2 a3, .slice d1 d2 d3, .string q.header] 40)).alloc (.cells #[.slice (some ⟨W8.heap.size, 0, none⟩) 1 1] 29) = VL := ⟨_, rfl⟩
    have hbv : Below W8.heap.size W8 VL := by rw [← hVL]; exact ((Below.refl _ _).alloc (Nat.le_refl _) _).alloc (by simp) _
    have hbox : Boxed VL (S + 1 + 1) 29 (.slice (some ⟨S + 1, 0, none⟩) 1 1) := by rw [← hVL, HS8.out]; exact blk_at (by rw [World.size_alloc, HS8.out])
    have hrw : PtR VL (S + 1) (.slice (some ⟨S + 1, 0, none⟩) 1 1) [⟨.slice a1 a2 a3, .slice d1 d2 d3, q⟩] := by
      have h1 := World.ownsRow_lit (base := S + 1) (e := 40) (size := 3) W8 #[.slice a1 a2 a3, .slice d1 d2 d3, .string q.header] 1 (Nat.le_of_eq HS8.out.symm) (by unfold maxLen; omega) (by rfl)
      rw [HS8.out] at h1
      rw [← hVL]
      exact World.ownsRow.alloc h1 _
    have HL0 := Lib.hid (show LoI n s h hops q M S #[.int .i64 b, .slice A1 np c1, .slice A2 nt c2, .slice A3 ng c3] w [] [⟨.slice a1 a2 a3, .slice d1 d2 d3, q⟩] 0 VL from
      ⟨HD08.out.below hbv HD08.out.lt, HC8.out.below hbv, ⟨_, _, _, HBP.out.below hbv HBP.out.lt⟩, ⟨_, hbox, hrw⟩, fun x hx => by
        obtain rfl := List.mem_singleton.1 hx
        exact ⟨in_mono (in_below HV1.out hbv) (by have := HS6.out; omega), in_mono (in_below HV2.out hbv) (by have := HS6.out; omega)⟩, Sp.LInv.first HGO.out, by simp, by simp, HB8.out.trans (hbv.mono (by have := HS8.out; have := HSM.out; omega)), (fun D hD => by cases hD), List.nodup_nil⟩)
    have HS8E := HS8.out
    rw [hVL]
    rw [HS8E]
    clear hVL hbv hbox hrw x0 x1 x2 y0 y1 y2 y3 y4 z0 z1 z2 z3 z4 hW8
    refine wpIn_loop (LInvA n s h hops q M S #[.int .i64 b, .slice A1 np c1, .slice A2 nt c2, .slice A3 ng c3] w) (fun a' _ => 4097 - (intOf (a'.tmps.getD 13 undef)).toNat) ⟨[], _, 0, LFr.of _ _ _ _ _ _ _ _ _ _ _ _ _ _ _ _ _ _ _ _ _ _ _ _ _ _ _ _ _ _ _ _ _ _ _ _ _ _ _ _ _ _ _ _ _ _ _ _ _ _ _ _ _ _ _ _ _ _ _ _ _ _ _ _ _ _ _ _ _ _ _ _ _ _ _, HL0.out⟩ ?_
    rintro a' W ⟨Ds, xs, cur, ⟨u, rfl⟩, hI⟩
    obtain ⟨v, hbx, hrw⟩ := hI.row
    obtain ⟨Av, cv, rfl⟩ := ptr_slice hrw
    obtain ⟨L, hL⟩ : ∃ L, xs.length = L := ⟨_, rfl⟩
    rw [hL] at hbx hrw
    have HI := Lib.hid hI
    have HRW := Lib.hid hrw
    have HBX := Lib.hid hbx
    have HL := Lib.hid hL
    have w0 : W.cell? ⟨S + 1 + 1, 0, none⟩ = some (.slice Av L cv) := hbx.cell
    have k0 : (0 : Int) ≤ (cur : Int) := by omega
    have y0 : W.cell? ⟨M + 1 + 1, 0, none⟩ = some (.slice none 0 0) := hI.res.c2.cell 0
    have y1 : W.cell? ⟨M + 1 + 1, 1, none⟩ = some (.slice none 0 0) := hI.res.c2.cell 1
    have y2 : W.cell? ⟨M + 1 + 1, 2, none⟩ = some (.string ⟨#[]⟩) := hI.res.c2.cell 2
    have y3 : W.cell? ⟨M + 1 + 1 + 1, 0, none⟩ = some (.bool false) := hI.res.c3.cell 0
    have y4 : W.cell? ⟨M + 1 + 1 + 1 + 1, 0, none⟩ = some (.int .i64 0) := hI.res.c4.cell 0
    have z0 := hI.res.c2.frozen 0
    have z1 := hI.res.c2.frozen 1
    have z2 := hI.res.c2.frozen 2
    have z3 := hI.res.c3.frozen 0
    have z4 := hI.res.c4.frozen 0
    by_cases hlt : cur < L
    case neg =>
      have s1 : decide ((cur : Int) < (L : Int)) = false := decide_eq_false (by omega)
      have s1' : decide (cur < L) = false := decide_eq_false hlt
      have HC := Lib.hid (hI.res.set (.slice none 0 0) (.slice none 0 0) (.string ⟨#[]⟩) false 0)
      have HBS := Lib.hid (lpSet_below (M := M) (u1 := .slice none 0 0) (u2 := .slice none 0 0) (u3 := .string ⟨#[]⟩) (ok := false) (e := 0) hI.below (Nat.le_refl _))
      have HNO := Lib.hid (show ∀ r ∈ Sp.pathsV n (s : Int) h hops, ∀ j, ¬ Sp.Twice r.ports j from fun r hr => hI.inv.none HNK.out (by rw [List.length_map, hL]; omega) f r (by rw [← HPF.out]; exact hr))
      have HDS := Lib.hid (show ∀ D ∈ Ds, M ≤ D ∧ (lpSet M (.slice none 0 0) (.slice none 0 0) (.string ⟨#[]⟩) false 0 W).heap[D]? = some (.deferred (some [])) from fun D hD => ⟨(hI.ds D hD).1, (((((KeepsOthers.setCell _ _ _).trans (KeepsOthers.setCell _ _ _)).trans (KeepsOthers.setCell _ _ _)).trans (KeepsOthers.setCell _ _ _)).trans (KeepsOthers.setCell _ _ _)).same D _ (hI.ds D hD).2 rfl⟩)
      have HND := Lib.hid hI.once
      clear hI hbx hrw hL hlt HI HRW HBX
      gi_wp2
      refine leaves_keep HM.out Ds _ HDS.out HND.out (fun W' hW' hk => ?_)
      have hc' := HC.out.kc hk
      exact ⟨_, results_pbe rfl _ _ (M + 1 + 1) (M + 1 + 1 + 1) (M + 1 + 1 + 1 + 1) 40 #[.slice none 0 0, .slice none 0 0, .string ⟨#[]⟩] (.bool false) (.int .i64 0) _ rfl rfl rfl hc'.c2 (hc'.c3.cell 0) (hc'.c4.cell 0) Tryz.underlying40 rfl (by kernel_rfl) rfl rfl, _, _, ⟨[], [], ⟨#[]⟩⟩, false, 0, rfl, World.ownsRow_nil _ _ _ _, World.ownsRow_nil _ _ _ _, by rw [HM.out]; exact HBS.out.trans hW', .inr ⟨rfl, s, rfl, HOK.out, .inr ⟨rfl, rfl, HNO.out⟩⟩⟩
    case pos =>
      obtain ⟨⟨e1, e2, ⟨P, Es, hd⟩⟩, hx⟩ : ∃ x, xs[cur]? = some x := ⟨_, List.getElem?_eq_getElem (by rw [HL.out]; exact hlt)⟩
      obtain ⟨hp1, hp2⟩ := hI.each _ (List.mem_of_getElem? hx)
      obtain ⟨B1, k1, he1, hk1, _⟩ := in_view hp1
      obtain ⟨B2, k2, he2, hk2, _⟩ := in_view hp2
      simp only [] at hp1 hp2 he1 he2 hk1 hk2
      subst he1
      subst he2
      rcases hrw.2 with ⟨_, h0⟩ | ⟨g, cv', cu, hvg, hg2, hg3, _⟩
      · omega
      obtain ⟨rfl, rfl⟩ : Av = some ⟨g, 0, none⟩ ∧ cv = cv' := by injection hvg with q1 q2 q3; exact ⟨q1, q3⟩
      have hxi : (xs.map PathV.path)[cur]? = some ⟨P, Es, hd⟩ := by rw [List.getElem?_map, hx]; rfl
      have hcell : ∀ j, j < 3 → W.cell? ⟨g, cur * 3 + j, none⟩ = (ptC ⟨.slice B1 P.length k1, .slice B2 Es.length k2, ⟨P, Es, hd⟩⟩)[j]? := fun j hj => by
        have hrw2 : W.ownsRow (S + 1) 40 3 (.slice (some ⟨g, 0, none⟩) L cv) L (xs.flatMap ptC) := by have h9 := hrw; unfold PtR at h9; rw [hL] at h9; exact h9
        rw [hrw2.cellAt (cur * 3 + j) (by omega), pts_flat xs cur _ hx j hj]
      have cc0 : W.cell? ⟨g, cur * 3, none⟩ = some (.slice B1 P.length k1) := hcell 0 (by omega)
      have cc1 : W.cell? ⟨g, cur * 3 + 1, none⟩ = some (.slice B2 Es.length k2) := hcell 1 (by omega)
      have cc2 : W.cell? ⟨g, cur * 3 + 2, none⟩ = some (.string hd) := hcell 2 (by omega)
      have hMS : M + 5 ≤ S := HSM.out
      obtain ⟨u1, u2, u3, hpx⟩ := hI.px
      have v0 : W.cell? ⟨S, 0, none⟩ = some u1 := hpx.cell 0
      have v1 : W.cell? ⟨S, 1, none⟩ = some u2 := hpx.cell 1
      have v2 : W.cell? ⟨S, 2, none⟩ = some u3 := hpx.cell 2
      have v3 := hpx.frozen 0
      have v4 := hpx.frozen 1
      have v5 := hpx.frozen 2
      obtain ⟨W3, hW3⟩ : ∃ W3, ((W.setCell ⟨S, 0, none⟩ (.slice B1 P.length k1)).setCell ⟨S, 1, none⟩ (.slice B2 Es.length k2)).setCell ⟨S, 2, none⟩ (.string hd) = W3 := ⟨_, rfl⟩
      have hI3 : LoI n s h hops q M S #[.int .i64 b, .slice A1 np c1, .slice A2 nt c2, .slice A3 ng c3] w Ds xs cur W3 := by rw [← hW3]; exact ((hI.put hMS 0 _).put hMS 1 _).put hMS 2 _
      have hP3 : Blk W3 S 40 #[.slice B1 P.length k1, .slice B2 Es.length k2, .string hd] := by rw [← hW3]; exact ((hpx.set_ 0 _).set_ 1 _).set_ 2 _
      have p1 : decide ((cur : Int) < (L : Int)) = true := decide_eq_true (by omega)
      have p2 : decide (cur < L) = true := decide_eq_true hlt
      have p3 : (cur : Int) < (L : Int) := by omega
      have zk : IntKind.i64.wrap ((cur : Int) + 1) = (cur : Int) + 1 := by have := hI.few; rw [IntKind.wrap_i64]; omega
      have w1 : W3.cell? ⟨S, 1, none⟩ = some (.slice B2 Es.length k2) := hP3.cell 1
      have HI3 := Lib.hid hI3
      have HP3 := Lib.hid hP3
      have HXI := Lib.hid hxi
      have HX := Lib.hid hx
      have HLT := Lib.hid (show cur < L ∧ L ≤ 4096 from ⟨hlt, by have := hI.few; omega⟩)
      by_cases heq : (Es.length : Int) = hops
      case pos =>
        have te2 : ((Es.length : Int) == hops) = true := beq_iff_eq.2 heq
        have HON := Lib.hid (HI3.out.on (by rw [HL.out]; exact hlt) (HI3.out.inv.full hxi heq))
        clear hI hbx hrw hL hlt HI HRW HBX hx hp1 hp2 hk1 hk2 hvg hg2 hg3 hcell hpx hI3 hP3 heq hxi
        gi_wp2
        refine ⟨⟨Ds, xs, cur + 1, LFr.of _ _ _ _ _ _ _ _ _ _ _ _ _ _ _ _ _ _ _ _ _ _ _ _ _ _ _ _ _ _ _ _ _ _ _ _ _ _ _ _ _ _ _ _ _ _ _ _ _ _ _ _ _ _ _ _ _ _ _ _ _ _ _ _ _ _ _ _ _ _ _ _ _ _ _, HON.out⟩, ?_⟩
        have := HLT.out
        simp [intOf]
        omega
      case neg =>
        have te2 : ((Es.length : Int) == hops) = false := beq_eq_false_iff_ne.2 heq
        have hG := hI3.inv.ok _ (List.mem_of_getElem? hxi)
        have hpl := hG.ok.len
        have hpe := hG.ok.ents
        have h64 := HOK.out.2.2
        simp only [] at hpl hpe
        obtain ⟨k, hk⟩ : ∃ k : Nat, Sp.lastP ⟨P, Es, hd⟩ = (k : Int) := ⟨(Sp.lastP ⟨P, Es, hd⟩).toNat, by have := hG.ok.st.port.1; omega⟩
        have hsl := step_last (B := M) (v1 := .slice B1 P.length k1) (v2 := .slice B2 Es.length k2) (P := P) hd W3 (hI3.each _ (List.mem_of_getElem? hx)).1 hG.ok.ne (show P.length ≤ 1000000 by omega)
        rw [show (P.getLastD 0) = (k : Int) from hk] at hsl
        have HSL := Lib.hid hsl
        have HGX := Lib.hid hG
        have HLK := Lib.hid hk
        have HRI := Lib.hid (Sp.RInv.first hI3.inv hxi heq)
        have HPE := Lib.hid (show P.length ≤ 130 ∧ Es.length ≤ 64 by omega)
        have w2 : W3.cell? ⟨S, 0, none⟩ = some (.slice B1 P.length k1) := hP3.cell 0
        have w3 : W3.cell? ⟨S, 2, none⟩ = some (.string hd) := hP3.cell 2
        clear hI hbx hrw hL hlt HI HRW HBX hx hp1 hp2 hk1 hk2 hvg hg2 hg3 hcell hpx hI3 hP3 heq hxi hG hpl hpe h64 hk hsl
        gi_wp2
        refine ⟨trivial, ?_⟩
        refine (callsIn_wide.2 HSL.out).mono ?_
        rintro e W4 ⟨rfl, hb4⟩
        clear w0 w1 w2 w3 y0 y1 y2 y3 y4 z0 z1 z2 z3 z4 cc0 cc1 cc2 v0 v1 v2 v3 v4 v5 hW3
        have HI4 := Lib.hid (HI3.out.later hb4)
        have HP4 := Lib.hid (HP3.out.below hb4 HP3.out.lt)
        clear hb4
        gi_wp2
        refine ⟨trivial, ?_⟩
        refine (step_moves _ M k hd W4).mono ?_
        rintro e w' ⟨rfl, rfl⟩
        obtain ⟨A, hA⟩ : ∃ A, W4.heap.size = A := ⟨_, rfl⟩
        obtain ⟨V, hV⟩ : ∃ V, (W4.alloc (.cells #[.pointer (some ⟨M, 0, none⟩)] 59)).alloc (.cells #[.int .i64 (k : Int), .string hd] 28) = V := ⟨_, rfl⟩
        have hvb : Below W4.heap.size W4 V := by rw [← hV]; exact ((Below.refl _ _).alloc (Nat.le_refl _) _).alloc (by simp) _
        have hvs : V.heap.size = A + 2 := by rw [← hV, ← hA]; simp
        have bN : Blk V A 59 #[.pointer (some ⟨M, 0, none⟩)] := by rw [← hV, ← hA]; exact (Blk.new W4 _ _).alloc _
        have bS : Blk V (A + 1) 28 #[.int .i64 (k : Int), .string hd] := by rw [← hV]; exact blk_at (by rw [World.size_alloc]; omega)
        have HIV := Lib.hid (HI4.out.later hvb)
        have HPV := Lib.hid (HP4.out.below hvb HP4.out.lt)
        obtain ⟨v, hbx, hrw⟩ := HIV.out.row
        have hbw : Below w.heap.size w V := by rw [HM.out]; exact HIV.out.below
        have hXin : ∀ W' b cs, Below V.heap.size V W' → V.heap.size ≤ b → Blk W' b 44 cs → ¬ rowX (S + 1 + 1) W' b := fun W' b cs hb hle _ hx => by
          have h1 := rowX_low (S + 1 + 1) V W' b (hb.mono (Blk.lt hbx)) hx
          have h2 := xin_row hbx hrw b h1
          omega
        have hst := moves_stopsX 8 M A (A + 1) (S + 1 + 1 + 1) (rowX (S + 1 + 1)) (XLow.ok (rowX_low (S + 1 + 1))) n k hd (Sp.mvOk_of HNK.out (by have := HGX.out.ok.st; rw [HLK.out] at this; exact this)) w V (by omega) [.int .i64 b, .slice A1 np c1, .slice A2 nt c2, .slice A3 ng c3] HNR.out ⟨HIV.out.net.lt, fun f u hf => by rw [HIV.out.net.cell f, ← Array.getElem?_toList]; exact hf⟩ (blk_far HIV.out.net (by decide) (by decide) hbx hrw) hbw (Blk.lt hbx) hXin (blk_far bN (by decide) (by decide) hbx hrw) (bN.cell 0) (bS.cell 0) (bS.cell 1)
        have HST2 := Lib.hid hst
        clear hvb hvs bN bS hbx hrw hbw hXin hst HI4 HP4
        rw [hA]
        gi_wp2
        clear hV
        have HDL := Lib.hid (show ∀ D ∈ Ds, D < V.heap.size from fun D hD => heap_lt (HIV.out.ds D hD).2)
        have HMV := Lib.hid (show M ≤ V.heap.size by have := HIV.out.net.lt; omega)
        have HWV := Lib.hid (show w.heap.size ≤ V.heap.size by rw [HM.out]; exact HMV.out)
        have HSV := Lib.hid (show S + 1 + 1 + 1 ≤ V.heap.size by obtain ⟨v, hbx, _⟩ := HIV.out.row; exact Blk.lt hbx)
        have HNDS := Lib.hid HIV.out.once
        refine wpIn_rangeFunc_ownH rfl (by omega) (gf := 38) (lb := #[.pointer (some ⟨A, 0, none⟩), .pointer (some ⟨A + 1, 0, none⟩)]) rfl trivial (enters_of Tryz.func38 (by kernel_rfl) rfl)
          HST2.out KpX.trans (KpX.book (XLow.ok (rowX_low (S + 1 + 1))) HWV.out HSV.out) (Below.refl _ _) (fun _ => rfl)
          (fun ms W' => ∃ xs', LoI n s h hops q M S #[.int .i64 b, .slice A1 np c1, .slice A2 nt c2, .slice A3 ng c3] w Ds xs' cur W' ∧ Blk W' S 40 #[.slice B1 P.length k1, .slice B2 Es.length k2, .string hd] ∧ Sp.RInv n s h hops q (xs'.map PathV.path) cur ⟨P, Es, hd⟩ (ms.map (·.1)) ∧ InR W' M (.slice B1 P.length k1) P ∧ InR W' M (.slice B2 Es.length k2) Es ∧ V.heap.size ≤ W'.heap.size)
          (fun c (ms : List { x : Sp.Mv // x ∈ Sp.movesV n k hd }) W' => c = .ret ∧ LoX n s h hops M w Ds W')
          (fun ms X' Y row hs hg hr => by
            obtain ⟨xs', h1, h2, h3, h4, h5, h6⟩ := hs
            have hr2 : ∀ r, row = some r → ∃ o : Obj, X'.heap[r]? = some o ∧ TurnOk o := fun r e => by obtain ⟨_, o, h1, h2⟩ := hr r e; exact ⟨o, h1, .inl h2⟩
            exact ⟨xs', LoI.own (β := Unit) (Nat.le_of_eq HM.out.symm) HMV.out HDL.out () X' Y row h1 hg hr, own_blk (β := Unit) _ _ _ _ () X' Y row h2 hg hr, h3, row_turn h4 hg hr2, row_turn h5 hg hr2, Nat.le_trans h6 hg.size⟩)
          (fun c ms X' Y row hs hg hr => ⟨hs.1, LoX.own (β := Unit) (Nat.le_of_eq HM.out.symm) HMV.out HDL.out () X' Y row hs.2 hg hr⟩)
          ⟨xs, HIV.out, HPV.out, HRI.out, (HIV.out.each _ (List.mem_of_getElem? HX.out)).1, (HIV.out.each _ (List.mem_of_getElem? HX.out)).2, Nat.le_refl _⟩
          (fun x a' W' => ∃ Bx, V.heap.size ≤ Bx ∧ Blk W' Bx 66 #[.int .i64 x.1.entry, .int .i64 x.1.out, .int .i64 x.1.inn, .string x.1.header] ∧ LGr M S cur Bx hops a')
          (fun x a' _ X' Y row hs hg hr => by
            obtain ⟨Bx, h1, h2, h3⟩ := hs
            exact ⟨Bx, h1, own_blk (β := Unit) _ Bx _ _ () X' Y row h2 hg hr, h3⟩)
          ?assign ?body ?done ?stop
        case assign =>
          rintro l2 ms ⟨⟨xe, xo, xi, xh⟩, hx⟩ C K ⟨xs', h1, h2, h3, h4, h5, h6⟩ hK
          dsimp only [mvC]
          have HH1 := Lib.hid (And.intro h1 (And.intro h2 (And.intro h3 (And.intro h4 (And.intro h5 h6)))))
          clear h1 h2 h3 h4 h5 h6 HST2
          gi_wp2
          obtain ⟨h1, h2, h3, h4, h5, h6⟩ := HH1.out
          have hb : Below C.heap.size C (C.alloc (.cells #[.int .i64 xe, .int .i64 xo, .int .i64 xi, .string xh] 66)) := (Below.refl _ C).alloc (Nat.le_refl _) _
          exact hK _ _ ((KeepsOthers.alloc _ _).from _) (KpX.of_below (XLow.ok (rowX_low (S + 1 + 1))) hb (Nat.le_trans HWV.out h6) (Nat.le_trans HSV.out h6)) ⟨xs', h1.later hb, h2.alloc _, h3, in_below h4 hb, in_below h5 hb, Nat.le_trans h6 hb.size⟩ ⟨C.heap.size, h6, Blk.new _ _ _, LGr.of _ _ _ _ _ _ _ _ _ _ _ _ _ _ _ _ _ _ _ _ _ _ _ _ _ _ _ _ _ _ _ _ _ _ _ _ _ _ _ _ _ _ _ _ _ _ _ _ _ _ _ _ _ _ _ _ _ _ _ _ _ _ _ _ _ _ _ _ _ _ _ _ _ _⟩
        case body =>
          rintro l2 ms ⟨⟨xe, xo, xi, xh⟩, hx⟩ a' C hl2 _ ⟨xs', h1, h2, h3, h4, h5, h6⟩ ⟨Bx, hBx, hkx, ⟨u2, rfl⟩⟩ hlen
          have hkx' : Blk C Bx 66 #[.int .i64 xe, .int .i64 xo, .int .i64 xi, .string xh] := hkx
          obtain ⟨qp, hqp, _⟩ := HGX.out.ok.port
          rw [HLK.out, Int.toNat_natCast] at hqp
          have hkd := mv_kind HNK.out hqp hx
          have hmv : (⟨xe, xo, xi, xh⟩ : Sp.Mv) ∈ Sp.movesV n (Sp.lastP ⟨P, Es, hd⟩).toNat hd := by rw [HLK.out, Int.toNat_natCast]; exact hx
          have q2 : C.cell? ⟨S, 0, none⟩ = some (.slice B1 P.length k1) := h2.cell 0
          have q3 : C.cell? ⟨S, 1, none⟩ = some (.slice B2 Es.length k2) := h2.cell 1
          have q4 : C.cell? ⟨S, 2, none⟩ = some (.string hd) := h2.cell 2
          have q5 : C.cell? ⟨Bx, 0, none⟩ = some (.int .i64 xe) := hkx'.cell 0
          have q6 : C.cell? ⟨Bx, 1, none⟩ = some (.int .i64 xo) := hkx'.cell 1
          have q7 : C.cell? ⟨Bx, 2, none⟩ = some (.int .i64 xi) := hkx'.cell 2
          have q8 : C.cell? ⟨Bx, 3, none⟩ = some (.string xh) := hkx'.cell 3
          have G1 := Lib.hid h1
          have G2 := Lib.hid h2
          have G3 := Lib.hid h3
          have G4 := Lib.hid h4
          have G5 := Lib.hid h5
          have G6 := Lib.hid h6
          have GK := Lib.hid hkx'
          have GKD := Lib.hid hkd
          have GMV := Lib.hid hmv
          have GHX := Lib.hid hx
          clear h1 h2 h3 h4 h5 h6 hkx hkx' hqp hkd hmv hlen hl2 hBx HST2
          gi_wp2
          refine ⟨trivial, ?_⟩
          refine (CallsIn.inRound l2 (callsIn_wide.2 (step_on (B := M) (P := P) (E := Es) hd ⟨xe, xo, xi, xh⟩ C G4.out G5.out (by have := HPE.out; omega) (by have := HPE.out; omega) GKD.out))).mono ?_
          rintro e C2 ⟨s1, s2, r1, r2, rfl, hs1, hs2, hr1, hr2, hb2⟩
          clear q2 q3 q4 q5 q6 q7 q8
          obtain ⟨D1, d1, rfl, _, iv1⟩ := in_view hs1
          simp only [] at hs1 iv1
          obtain ⟨l1, hl1⟩ : ∃ l1, (P ++ Sp.ifL xo).length = l1 := ⟨_, rfl⟩
          rw [hl1] at hs1
          simp only [hl1]
          obtain ⟨D2, l2', d2, rfl⟩ := in_slice hs2
          obtain ⟨D3, l3, d3, rfl⟩ := in_slice hr1
          obtain ⟨D4, l4, d4, rfl⟩ := in_slice hr2
          obtain ⟨Z, hZ⟩ : ∃ Z, C2.heap.size = Z := ⟨_, rfl⟩
          obtain ⟨C4, hC4⟩ : ∃ C4, (C2.alloc (.cells #[.slice D1 l1 d1, .slice D2 l2' d2, .string xh] 40)).alloc (.cells #[.slice D3 l3 d3, .slice D4 l4 d4, .string xh] 40) = C4 := ⟨_, rfl⟩
          have hb24 : Below C2.heap.size C2 C4 := by rw [← hC4]; exact ((Below.refl _ _).alloc (Nat.le_refl _) _).alloc (by simp) _
          have hbc : Below C.heap.size C C4 := hb2.trans (hb24.mono hb2.size)
          have bs : Blk C4 Z 40 #[.slice D1 l1 d1, .slice D2 l2' d2, .string xh] := by rw [← hC4, ← hZ]; exact (Blk.new _ _ _).alloc _
          have bw : Blk C4 (Z + 1) 40 #[.slice D3 l3 d3, .slice D4 l4 d4, .string xh] := by rw [← hC4]; exact blk_at (by rw [World.size_alloc]; omega)
          have K1 := Lib.hid (G1.out.later hbc)
          have K2 := Lib.hid (G2.out.below hbc G2.out.lt)
          have K4 := Lib.hid (in_below G4.out hbc)
          have KK := Lib.hid (GK.out.below hbc GK.out.lt)
          have KS := Lib.hid bs
          have KW := Lib.hid bw
          have N1 := Lib.hid (in_below hs1 hb24)
          have N2 := Lib.hid (in_below hs2 hb24)
          have N3 := Lib.hid (in_below hr1 hb24)
          have N4 := Lib.hid (in_below hr2 hb24)
          have NV := Lib.hid (iv1.more hb24)
          have HBC := Lib.hid hbc
          have q2 : C4.cell? ⟨S, 0, none⟩ = some (.slice B1 P.length k1) := K2.out.cell 0
          have q6 : C4.cell? ⟨Bx, 1, none⟩ = some (.int .i64 xo) := KK.out.cell 1
          clear hs1 hs2 hr1 hr2 hb2 hb24 hbc bs bw iv1
          gi_wp2
          obtain ⟨g1, g2, ge, gc, giv⟩ := in_view K4.out
          obtain ⟨rfl, rfl⟩ : B1 = g1 ∧ k1 = g2 := by injection ge with r1 r2 r3; exact ⟨r1, r3⟩
          refine ⟨trivial, ?_⟩
          refine (CallsIn.inRound l2 (callsIn_wide.2 (slices_contains B1 k1 P xo C4 giv (by have := HPE.out; omega)))).mono ?_
          rintro e w' ⟨rfl, rfl⟩
          clear ge gc giv
          have hMC : M + 5 ≤ C.heap.size := by have := G6.out; have := HSV.out; have := HSM.out; omega
          have HMC := Lib.hid hMC
          have y0 : w'.cell? ⟨M + 1 + 1, 0, none⟩ = some (.slice none 0 0) := K1.out.res.c2.cell 0
          have y1 : w'.cell? ⟨M + 1 + 1, 1, none⟩ = some (.slice none 0 0) := K1.out.res.c2.cell 1
          have y2 : w'.cell? ⟨M + 1 + 1, 2, none⟩ = some (.string ⟨#[]⟩) := K1.out.res.c2.cell 2
          have y3 : w'.cell? ⟨M + 1 + 1 + 1, 0, none⟩ = some (.bool false) := K1.out.res.c3.cell 0
          have y4 : w'.cell? ⟨M + 1 + 1 + 1 + 1, 0, none⟩ = some (.int .i64 0) := K1.out.res.c4.cell 0
          have z0 := K1.out.res.c2.frozen 0
          have z1 := K1.out.res.c2.frozen 1
          have z2 := K1.out.res.c2.frozen 2
          have z3 := K1.out.res.c3.frozen 0
          have z4 := K1.out.res.c4.frozen 0
          have t0 : w'.cell? ⟨Z, 0, none⟩ = some (.slice D1 l1 d1) := KS.out.cell 0
          have t1 : w'.cell? ⟨Z, 1, none⟩ = some (.slice D2 l2' d2) := KS.out.cell 1
          have t2 : w'.cell? ⟨Z, 2, none⟩ = some (.string xh) := KS.out.cell 2
          obtain ⟨bm, hbm⟩ : ∃ bm, Sp.memB P xo = bm := ⟨_, rfl⟩
          have HBM := Lib.hid hbm
          rw [hbm]
          clear hbm hMC hC4
          cases bm with
          | true =>
            have hend := (G3.out.inv.short HNK.out HOK.out.1 HOK.out.2.2 G3.out.here G3.out.lt GMV.out ((Sp.memB_iff _ _).1 HBM.out)).lp HPF.out
            have HLX := Lib.hid (lox_of (p := Sp.shortP ⟨P, Es, hd⟩ ⟨xe, xo, xi, xh⟩) (ok := true) (e := 0) K1.out.res N1.out N2.out HMC.out K1.out.below K1.out.ds (.inr ⟨rfl, s, rfl, HOK.out, .inl ⟨rfl, hend⟩⟩))
            clear hend
            gi_wp2
            exact ⟨(keeps_below HBC.out).trans ((lpSet_others w').from _), rfl, HLX.out⟩
          | false =>
            have hno : xo ∉ P := fun e => by have h9 := (Sp.memB_iff xo P).2 e; rw [HBM.out] at h9; cases h9
            have HNO := Lib.hid hno
            have v7 : w'.cell? ⟨Bx, 2, none⟩ = some (.int .i64 xi) := KK.out.cell 2
            have v8 : w'.cell? ⟨Z, 0, none⟩ = some (.slice D1 l1 d1) := KS.out.cell 0
            have HSZ := Lib.hid (show w.heap.size ≤ C.heap.size ∧ S + 1 + 1 + 1 ≤ C.heap.size ∧ V.heap.size ≤ w'.heap.size from ⟨Nat.le_trans HWV.out G6.out, Nat.le_trans HSV.out G6.out, Nat.le_trans G6.out HBC.out.size⟩)
            clear hno
            by_cases h0 : xi < 0
            case pos =>
              have s9 : decide (xi < 0) = true := decide_eq_true h0
              have HRS := Lib.hid (G3.out.skip (m := ⟨xe, xo, xi, xh⟩) HNO.out h0)
              clear h0
              gi_wp2
              refine ⟨keeps_below HBC.out, KpX.of_below (XLow.ok (rowX_low (S + 1 + 1))) HBC.out HSZ.out.1 HSZ.out.2.1, xs', K1.out, K2.out, ?_, K4.out, in_below G5.out HBC.out, HSZ.out.2.2⟩
              rw [List.map_append]
              exact HRS.out
            case neg =>
              have s9 : decide (xi < 0) = false := decide_eq_false h0
              have HH0 := Lib.hid (show 0 ≤ xi by omega)
              clear h0
              gi_wp2
              refine ⟨trivial, ?_⟩
              have hcn := slices_contains D1 d1 (P ++ Sp.ifL xo) xi w' NV.out (by rw [List.length_append]; have := HPE.out; have := Sp.ifL_len xo; omega)
              rw [hl1] at hcn
              refine (CallsIn.inRound l2 (callsIn_wide.2 hcn)).mono ?_
              rintro e w9 ⟨rfl, rfl⟩
              obtain ⟨bm, hbm⟩ : ∃ bm, Sp.memB (P ++ Sp.ifL xo) xi = bm := ⟨_, rfl⟩
              have HB2 := Lib.hid hbm
              rw [hbm]
              clear hbm hcn
              have t3 : w9.cell? ⟨Z + 1, 0, none⟩ = some (.slice D3 l3 d3) := KW.out.cell 0
              have t4 : w9.cell? ⟨Z + 1, 1, none⟩ = some (.slice D4 l4 d4) := KW.out.cell 1
              have t5 : w9.cell? ⟨Z + 1, 2, none⟩ = some (.string xh) := KW.out.cell 2
              cases bm with
              | true =>
                have hend := (G3.out.inv.whole HNK.out HOK.out.1 HOK.out.2.2 G3.out.here G3.out.lt GMV.out HNO.out HH0.out ((Sp.memB_iff _ _).1 HB2.out)).lp HPF.out
                have HLX := Lib.hid (lox_of (p := Sp.onP ⟨P, Es, hd⟩ ⟨xe, xo, xi, xh⟩) (ok := true) (e := 0) K1.out.res N3.out N4.out HMC.out K1.out.below K1.out.ds (.inr ⟨rfl, s, rfl, HOK.out, .inl ⟨rfl, hend⟩⟩))
                clear hend
                gi_wp2
                exact ⟨(keeps_below HBC.out).trans ((lpSet_others w9).from _), rfl, HLX.out⟩
              | false =>
                obtain ⟨vr, hvb2, hvr2⟩ := K1.out.row
                obtain ⟨Ar, cr, rfl⟩ := ptr_slice hvr2
                obtain ⟨Lr, hLr⟩ : ∃ Lr, xs'.length = Lr := ⟨_, rfl⟩
                rw [hLr] at hvb2 hvr2
                have HVB2 := Lib.hid hvb2
                have HVR2 := Lib.hid hvr2
                have HLR := Lib.hid hLr
                have t6 : w9.cell? ⟨S + 1 + 1, 0, none⟩ = some (.slice Ar Lr cr) := Boxed.cell hvb2
                clear hvb2 hvr2 hLr
                by_cases hbud : Lr = 4096
                case pos =>
                  subst hbud
                  have HLX := Lib.hid (lox_of (p := ⟨[], [], ⟨#[]⟩⟩) (v1 := .slice none 0 0) (v2 := .slice none 0 0) (ok := false) (e := 3) (n := n) (s := s) (h := h) (hops := hops) K1.out.res (in_nil w9 C.heap.size) (in_nil w9 C.heap.size) HMC.out K1.out.below K1.out.ds (.inl ⟨by decide, rfl, rfl⟩))
                  gi_wp2
                  exact ⟨(keeps_below HBC.out).trans ((lpSet_others w9).from _), rfl, HLX.out⟩
                case neg =>
                  have s8 : ((Lr : Int) == 4096) = false := beq_eq_false_iff_ne.2 (by omega)
                  have hnb : Lr ≤ 4095 := by have := K1.out.few; have := HLR.out; omega
                  have HNB := Lib.hid hnb
                  have HONE := Lib.hid (And.intro (one_of_in N3.out) (one_of_in N4.out))
                  have hpush := G3.out.push HNK.out (m := ⟨xe, xo, xi, xh⟩) GMV.out HNO.out (by have := HH0.out; show ¬ xi < 0; omega) (fun e => by have h9 := (Sp.memB_iff xi (P ++ Sp.ifL xo)).2 e; rw [HB2.out] at h9; cases h9)
                  have HPU := Lib.hid hpush
                  have HS9 := Lib.hid (show S + 1 ≤ w9.heap.size by have := HSZ.out; have := HBC.out.size; omega)
                  clear hbud hnb hpush
                  gi_wp2_with (gi_at_builtin; refine pt_append w9 rfl _ _ rfl (S + 1) (S + 1 + 1) (.slice Ar Lr cr) xs' ⟨.slice D3 l3 d3, .slice D4 l4 d4, Sp.onP ⟨P, Es, hd⟩ ⟨xe, xo, xi, xh⟩⟩ HONE.out rfl rfl HVB2.out HVR2.out HS9.out (by omega) (by have := HLR.out; have := HNB.out; omega) ?_; intro g1 cap1 wz hb1 hE1 hsz1; have hc1 := hb1.cell; have hf1 := hb1.frozen; obtain ⟨kz, hkz⟩ : ∃ kz, xs'.length + 1 = kz := ⟨_, rfl⟩; rw [hkz] at hE1; obtain ⟨Wa, hWa⟩ : ∃ Wa, wz.setCell ⟨S + 1 + 1, 0, none⟩ (.slice (some ⟨g1, 0, none⟩) kz cap1) = Wa := ⟨_, rfl⟩; rw [hWa] at hE1; have HE1 := Lib.hid hE1; clear hE1 hb1)
                  have hbz := HE1.out.below
                  have hkx : ∀ g t cs, Blk w9 g t cs → g < S + 1 → Blk _ g t cs := fun g t cs hb hl => (hbz.block g hl).trans hb
                  have hfar := fun (u : Value) (l : List Int) (hu : InR w9 M u l) => row_far hu HVB2.out HVR2.out
                  have hSM := HSM.out
                  have hmp : (xs' ++ [(⟨.slice D3 l3 d3, .slice D4 l4 d4, Sp.onP ⟨P, Es, hd⟩ ⟨xe, xo, xi, xh⟩⟩ : PathV)]).map PathV.path = xs'.map PathV.path ++ [Sp.onP ⟨P, Es, hd⟩ ⟨xe, xo, xi, xh⟩] := by rw [List.map_append]; rfl
                  have hCM : M ≤ C.heap.size := by have := HMC.out; omega
                  refine ⟨(keeps_below HBC.out).trans (HE1.out.others.from _), (KpX.of_below (XLow.ok (rowX_low (S + 1 + 1))) HBC.out HSZ.out.1 HSZ.out.2.1).trans (kpx_mono HE1.out.save.kpX (by have := HM.out; omega)), xs' ++ [(⟨.slice D3 l3 d3, .slice D4 l4 d4, Sp.onP ⟨P, Es, hd⟩ ⟨xe, xo, xi, xh⟩⟩ : PathV)], ⟨hkx _ _ _ K1.out.net (by omega), ⟨hkx _ _ _ K1.out.res.c2 (by omega), hkx _ _ _ K1.out.res.c3 (by omega), hkx _ _ _ K1.out.res.c4 (by omega)⟩, ⟨_, _, _, hkx _ _ _ K2.out (by omega)⟩, ⟨_, HE1.out.box, HE1.out.row⟩, fun y hy => ?_, by rw [hmp]; exact HPU.out.inv, by rw [List.length_append]; have := HLR.out; have := HNB.out; simp only [List.length_singleton]; omega, by rw [List.length_append]; have := K1.out.cur; omega, K1.out.below.trans (hbz.mono (by omega)), fun D hD => ⟨(K1.out.ds D hD).1, HE1.out.others.same D _ (K1.out.ds D hD).2 rfl⟩, K1.out.once⟩, hkx _ _ _ K2.out (by omega), by rw [hmp, List.map_append]; exact HPU.out, kpx_row HE1.out.save.kpX K4.out (hfar _ _ K4.out), kpx_row HE1.out.save.kpX (in_below G5.out HBC.out) (hfar _ _ (in_below G5.out HBC.out)), Nat.le_trans HSZ.out.2.2 hbz.size⟩
                  rcases List.mem_append.1 hy with h9 | h9
                  · obtain ⟨m1, m2⟩ := K1.out.each y h9
                    exact ⟨kpx_row HE1.out.save.kpX m1 (hfar _ _ m1), kpx_row HE1.out.save.kpX m2 (hfar _ _ m2)⟩
                  · obtain rfl := List.mem_singleton.1 h9
                    exact ⟨kpx_row HE1.out.save.kpX (in_mono N3.out hCM) (hfar _ _ (in_mono N3.out hCM)), kpx_row HE1.out.save.kpX (in_mono N4.out hCM) (hfar _ _ (in_mono N4.out hCM))⟩
        case done =>
          rintro D ys C hD hS ⟨xs', h1, h2, h3, h4, h5, h6⟩ hK
          replace hS : ys.map (·.1) = Sp.movesV n k hd := hS
          have hrd : Sp.LInv n s h hops q (xs'.map PathV.path) (cur + 1) := by
            rw [hS] at h3
            refine Sp.RInv.done (y := ⟨P, Es, hd⟩) ?_
            rw [HLK.out, Int.toNat_natCast]
            exact h3
          have hcl : cur < xs'.length := by have := (List.getElem?_eq_some_iff.1 h3.here).1; rw [List.length_map] at this; exact this
          have hon := h1.on hcl hrd
          have HON := Lib.hid (show LoI n s h hops q M S #[.int .i64 b, .slice A1 np c1, .slice A2 nt c2, .slice A3 ng c3] w (D :: Ds) xs' (cur + 1) C from
            ⟨hon.net, hon.res, hon.px, hon.row, hon.each, hon.inv, hon.few, hon.cur, hon.below, fun D' hD' => by
              rcases List.mem_cons.1 hD' with rfl | hm
              · exact ⟨Nat.le_trans HMV.out hD, hK⟩
              · exact hon.ds D' hm, List.nodup_cons.2 ⟨fun hm => by have := HDL.out D hm; omega, hon.once⟩⟩)
          have HFEW := Lib.hid (show cur < 4096 by have := h1.few; omega)
          clear h1 h2 h3 h4 h5 h6 hrd hcl hon hS hD hK HST2
          gi_wp2
          refine ⟨⟨D :: Ds, xs', cur + 1, LFr.of _ _ _ _ _ _ _ _ _ _ _ _ _ _ _ _ _ _ _ _ _ _ _ _ _ _ _ _ _ _ _ _ _ _ _ _ _ _ _ _ _ _ _ _ _ _ _ _ _ _ _ _ _ _ _ _ _ _ _ _ _ _ _ _ _ _ _ _ _ _ _ _ _ _ _, HON.out⟩, ?_⟩
          have := HFEW.out
          simp [intOf]
          omega
        case stop =>
          rintro D c ms C hD hpre ⟨rfl, v1, v2, p, ok, e, h1, h2, h3, h4, h5, h6⟩ hK
          have HDS := Lib.hid (show ∀ D' ∈ D :: Ds, M ≤ D' ∧ C.heap[D']? = some (.deferred (some [])) from fun D' hD' => by
            rcases List.mem_cons.1 hD' with rfl | hm
            · exact ⟨Nat.le_trans HMV.out hD, hK⟩
            · exact h5 D' hm)
          have HND := Lib.hid (show (D :: Ds).Nodup from List.nodup_cons.2 ⟨fun hm => by have := HDL.out D hm; omega, HNDS.out⟩)
          have HH := Lib.hid (And.intro h1 (And.intro h2 (And.intro h3 (And.intro h4 h6))))
          clear h1 h2 h3 h4 h5 h6 hD hpre hK HST2
          gi_wp2
          refine leaves_keep HM.out (D :: Ds) _ HDS.out HND.out (fun W' hW' hk => ?_)
          obtain ⟨h1, h2, h3, h4, h6⟩ := HH.out
          have hc' := h1.kc hk
          exact ⟨_, results_pbe rfl _ _ (M + 1 + 1) (M + 1 + 1 + 1) (M + 1 + 1 + 1 + 1) 40 #[v1, v2, .string p.header] (.bool ok) (.int .i64 e) _ rfl rfl rfl hc'.c2 (hc'.c3.cell 0) (hc'.c4.cell 0) Tryz.underlying40 rfl (by kernel_rfl) rfl rfl, v1, v2, p, ok, e, rfl, by rw [HM.out]; exact in_kc h2 hk, by rw [HM.out]; exact in_kc h3 hk, by rw [HM.out]; exact h4.trans hW', h6⟩
end Go.Proofs.YtpknablklencdaaGreatDoor
