/-
  Texts joined: Ba Bb.
-/
import Derived.Test.YtpknablklencdaaGreatDoorAv
import Derived.Test.YtpknablklencdaaGreatDoorAk

set_option linter.unusedVariables false
set_option linter.unusedSimpArgs false
set_option maxRecDepth 100000
set_option maxHeartbeats 8000000
namespace Go.Proofs.YtpknablklencdaaGreatDoor
open Go.RowKit
attribute [local go_sem] Oper.semAt_some
theorem Sp.bounds_ok {n : Sp.Net} {p : Int} {h : ByteArray} {tp hops : Int} (hb : Sp.boundsE n p h tp hops = 0) : Sp.checkE n p h = 0 ∧ 0 ≤ hops ∧ hops ≤ 64 := by
  unfold Sp.boundsE at hb
  by_cases h1 : Sp.checkE n p h = 0
  · rw [if_neg (fun e => e h1)] at hb
    by_cases h2 : tp < 0
    · rw [if_pos h2] at hb; omega
    · rw [if_neg h2] at hb
      by_cases h3 : (n.ports.length : Int) ≤ tp
      · rw [if_pos h3] at hb; omega
      · rw [if_neg h3] at hb
        by_cases h4 : hops < 0
        · rw [if_pos h4] at hb; omega
        · rw [if_neg h4] at hb
          by_cases h5 : 64 < hops
          · rw [if_pos h5] at hb; omega
          · exact ⟨h1, by omega, by omega⟩
  · rw [if_pos h1] at hb
    exact absurd hb h1
structure LpC (M : Nat) (v1 v2 v3 : Value) (ok : Bool) (e : Int) (W : World) : Prop where
  c2 : Blk W (M + 1 + 1) 40 #[v1, v2, v3]
  c3 : Blk W (M + 1 + 1 + 1) 4 #[.bool ok]
  c4 : Blk W (M + 1 + 1 + 1 + 1) 33 #[.int .i64 e]
theorem LpC.below {M : Nat} {v1 v2 v3 : Value} {ok : Bool} {e : Int} {W W' : World} (k : LpC M v1 v2 v3 ok e W) (hb : Below W.heap.size W W') : LpC M v1 v2 v3 ok e W' := ⟨k.c2.below hb k.c2.lt, k.c3.below hb k.c3.lt, k.c4.below hb k.c4.lt⟩
def lpSet (M : Nat) (u1 u2 u3 : Value) (ok : Bool) (e : Int) (W : World) : World := ((((W.setCell ⟨M + 1 + 1, 0, none⟩ u1).setCell ⟨M + 1 + 1, 1, none⟩ u2).setCell ⟨M + 1 + 1, 2, none⟩ u3).setCell ⟨M + 1 + 1 + 1, 0, none⟩ (.bool ok)).setCell ⟨M + 1 + 1 + 1 + 1, 0, none⟩ (.int .i64 e)
theorem LpC.set {M : Nat} {v1 v2 v3 : Value} {ok : Bool} {e : Int} {W : World} (k : LpC M v1 v2 v3 ok e W) (u1 u2 u3 : Value) (ok' : Bool) (e' : Int) : LpC M u1 u2 u3 ok' e' (lpSet M u1 u2 u3 ok' e' W) :=
  ⟨((((k.c2.set_ 0 u1).set_ 1 u2).set_ 2 u3).far (by show M + 1 + 1 ≠ M + 1 + 1 + 1; omega) _).far (by show M + 1 + 1 ≠ M + 1 + 1 + 1 + 1; omega) _,
    ((((k.c3.far (by show M + 1 + 1 + 1 ≠ M + 1 + 1; omega) _).far (by show M + 1 + 1 + 1 ≠ M + 1 + 1; omega) _).far (by show M + 1 + 1 + 1 ≠ M + 1 + 1; omega) _).set_ 0 _).far (by show M + 1 + 1 + 1 ≠ M + 1 + 1 + 1 + 1; omega) _,
    ((((k.c4.far (by show M + 1 + 1 + 1 + 1 ≠ M + 1 + 1; omega) _).far (by show M + 1 + 1 + 1 + 1 ≠ M + 1 + 1; omega) _).far (by show M + 1 + 1 + 1 + 1 ≠ M + 1 + 1; omega) _).far (by show M + 1 + 1 + 1 + 1 ≠ M + 1 + 1 + 1; omega) _).set_ 0 _⟩
theorem lpSet_below {M N : Nat} {u1 u2 u3 : Value} {ok : Bool} {e : Int} {A W : World} (hb : Below N A W) (hN : N ≤ M) : Below N A (lpSet M u1 u2 u3 ok e W) :=
  ((((hb.setCell (p := ⟨M + 1 + 1, 0, none⟩) (by show N ≤ M + 1 + 1; omega) _).setCell (p := ⟨M + 1 + 1, 1, none⟩) (by show N ≤ M + 1 + 1; omega) _).setCell (p := ⟨M + 1 + 1, 2, none⟩) (by show N ≤ M + 1 + 1; omega) _).setCell (p := ⟨M + 1 + 1 + 1, 0, none⟩) (by show N ≤ M + 1 + 1 + 1; omega) _).setCell (p := ⟨M + 1 + 1 + 1 + 1, 0, none⟩) (by show N ≤ M + 1 + 1 + 1 + 1; omega) _
def KC (W W' : World) : Prop := ∀ (b : Nat) (o : Obj), W.heap[b]? = some o → o.isCells = true → W'.heap[b]? = some o
theorem KC.trans {A B C : World} (h : KC A B) (k : KC B C) : KC A C := fun b o ho hc => k b o (h b o ho hc) hc
theorem kc_put {W : World} {D : Nat} {o : Obj} (o' : Obj) (h : W.heap[D]? = some o) (hc : o.isCells = false) : KC W (W.putObj D o') := fun b ob hb hob => by
  have hne : b ≠ D := by rintro rfl; rw [h] at hb; cases hb; rw [hc] at hob; cases hob
  exact (World.putObj_heap_other hne).trans hb
theorem Blk.kc {W W' : World} {g : Nat} {t : TypeId} {cs : Array Value} (h : Blk W g t cs) (k : KC W W') : Blk W' g t cs := k g _ h rfl
theorem LpC.kc {M : Nat} {v1 v2 v3 : Value} {ok : Bool} {e : Int} {W W' : World} (h : LpC M v1 v2 v3 ok e W) (k : KC W W') : LpC M v1 v2 v3 ok e W' := ⟨h.c2.kc k, h.c3.kc k, h.c4.kc k⟩
theorem in_kc {W W' : World} {b : Nat} {v : Value} {l : List Int} (h : InR W b v l) (k : KC W W') : InR W' b v l := by
  refine ⟨h.1, ?_⟩
  rcases h.2 with e | ⟨g, cap, cur, hv, hb, hg, r⟩
  · exact .inl e
  · exact .inr ⟨g, cap, cur, hv, hb, k g _ hg rfl, r⟩
theorem leaves_keep {F : Fence} {nf : Nat} {P : Program} {fn : Func} {tmps : Array Value} {R : Ending → World → Prop} {N : Nat} {w : World} (hw : w.heap.size = N) : ∀ (Ds : List Nat) (W : World), (∀ D ∈ Ds, N ≤ D ∧ W.heap[D]? = some (.deferred (some []))) → Ds.Nodup →
    (∀ W', Below N W W' → KC W W' → LeavesInM F nf P fn tmps R [] .returning W') → LeavesInM F nf P fn tmps R (Ds.map fun D => { target := .collected D, args := #[] }) .returning W
  | [], W, _, _, hR => hR W (Below.refl _ _) (fun _ _ h _ => h)
  | D :: Ds, W, hD, hn, hR => by
    obtain ⟨h1, h2⟩ := hD D List.mem_cons_self
    rw [List.nodup_cons] at hn
    have hb : Below N W (W.putObj D (.deferred none)) := belowK_b (w := w) (by omega) W D _ _ (by omega) h2 rfl rfl
    refine ⟨by simp, .inl ⟨_, _, rfl, run_takeDeferred h2, ?_⟩⟩
    refine leaves_keep hw Ds _ (fun D' hD' => ?_) hn.2 (fun W' hW' hk => hR W' (hb.trans hW') ((kc_put _ h2 rfl).trans hk))
    obtain ⟨h3, h4⟩ := hD D' (List.mem_cons_of_mem _ hD')
    exact ⟨h3, (World.putObj_heap_other (fun e => hn.1 (by rw [← e]; exact hD'))).trans h4⟩
theorem ptr_slice {W : World} {B : Nat} {v : Value} {xs : List PathV} (h : PtR W B v xs) : ∃ A c, v = .slice A xs.length c := by
  rcases h.2 with ⟨rfl, h0⟩ | ⟨g, cap, cur, rfl, _⟩
  · exact ⟨none, 0, by rw [h0]⟩
  · exact ⟨_, _, rfl⟩
def LFr (M S cur : Nat) (hops : Int) (ds : List Deferred) (a : Act) : Prop := ∃ u : Nat → Value, a = { tmps := #[u 0, u 1, .int .i64 hops, .pointer (some ⟨M, 0, none⟩), u 4, u 5, .pointer (some ⟨M + 1 + 1, 0, none⟩), .pointer (some ⟨M + 1 + 1 + 1, 0, none⟩), .pointer (some ⟨M + 1 + 1 + 1 + 1, 0, none⟩), u 9, .pointer (some ⟨S, 0, none⟩), u 11, .pointer (some ⟨S + 1 + 1, 0, none⟩), .int .i64 (cur : Int), u 14, u 15, u 16, u 17, u 18, u 19, u 20, u 21, u 22, u 23, u 24, u 25, u 26, u 27, u 28, u 29, u 30, u 31, u 32, u 33, u 34, u 35, u 36, u 37, u 38, u 39, u 40, u 41, u 42, u 43, u 44, u 45, u 46, u 47, u 48, u 49, u 50, u 51, u 52, u 53, u 54, u 55, u 56, u 57, u 58, u 59, u 60, u 61, u 62, u 63, u 64, u 65, u 66, u 67, u 68, u 69, u 70, u 71, u 72, u 73, u 74, u 75, u 76, u 77, u 78, u 79, u 80, u 81, u 82], defers := ds }
theorem LFr.of {M S cur : Nat} {hops : Int} {ds : List Deferred} (v0 v1 v4 v5 v9 v11 v14 v15 v16 v17 v18 v19 v20 v21 v22 v23 v24 v25 v26 v27 v28 v29 v30 v31 v32 v33 v34 v35 v36 v37 v38 v39 v40 v41 v42 v43 v44 v45 v46 v47 v48 v49 v50 v51 v52 v53 v54 v55 v56 v57 v58 v59 v60 v61 v62 v63 v64 v65 v66 v67 v68 v69 v70 v71 v72 v73 v74 v75 v76 v77 v78 v79 v80 v81 v82 : Value) : LFr M S cur hops ds { tmps := #[v0, v1, .int .i64 hops, .pointer (some ⟨M, 0, none⟩), v4, v5, .pointer (some ⟨M + 1 + 1, 0, none⟩), .pointer (some ⟨M + 1 + 1 + 1, 0, none⟩), .pointer (some ⟨M + 1 + 1 + 1 + 1, 0, none⟩), v9, .pointer (some ⟨S, 0, none⟩), v11, .pointer (some ⟨S + 1 + 1, 0, none⟩), .int .i64 (cur : Int), v14, v15, v16, v17, v18, v19, v20, v21, v22, v23, v24, v25, v26, v27, v28, v29, v30, v31, v32, v33, v34, v35, v36, v37, v38, v39, v40, v41, v42, v43, v44, v45, v46, v47, v48, v49, v50, v51, v52, v53, v54, v55, v56, v57, v58, v59, v60, v61, v62, v63, v64, v65, v66, v67, v68, v69, v70, v71, v72, v73, v74, v75, v76, v77, v78, v79, v80, v81, v82], defers := ds } :=
  ⟨fun i => ([v0, v1, undef, undef, v4, v5, undef, undef, undef, v9, undef, v11, undef, undef, v14, v15, v16, v17, v18, v19, v20, v21, v22, v23, v24, v25, v26, v27, v28, v29, v30, v31, v32, v33, v34, v35, v36, v37, v38, v39, v40, v41, v42, v43, v44, v45, v46, v47, v48, v49, v50, v51, v52, v53, v54, v55, v56, v57, v58, v59, v60, v61, v62, v63, v64, v65, v66, v67, v68, v69, v70, v71, v72, v73, v74, v75, v76, v77, v78, v79, v80, v81, v82] : List Value).getD i undef, rfl⟩
structure LoI (n : Sp.Net) (s : Nat) (h : ByteArray) (hops : Int) (q : Sp.Path) (M S : Nat) (cn : Array Value) (w : World) (Ds : List Nat) (xs : List PathV) (cur : Nat) (W : World) : Prop where
  net : Blk W M 26 cn
  res : LpC M (.slice none 0 0) (.slice none 0 0) (.string ⟨#[]⟩) false 0 W
  px : ∃ u1 u2 u3, Blk W S 40 #[u1, u2, u3]
  row : ∃ v, Boxed W (S + 1 + 1) 29 v ∧ PtR W (S + 1) v xs
  each : ∀ x ∈ xs, PvAt M x W
  inv : Sp.LInv n s h hops q (xs.map PathV.path) cur
  few : xs.length ≤ 4096
  cur : cur ≤ xs.length
  below : Below M w W
  ds : DsOk M Ds W
  once : Ds.Nodup
theorem in_far {W : World} {b g : Nat} {v : Value} {l : List Int} {t : TypeId} {cs : Array Value} (h : InR W b v l) (hk : Blk W g t cs) (ht : t ≠ 3) : ∀ k, v.ownBlock = some k → g ≠ k := by
  rintro k hk2 rfl
  rcases h.2 with ⟨rfl, _⟩ | ⟨g', cap, cur, rfl, _, h3, _⟩
  · cases hk2
  · have hk2 : some g' = some g := hk2
    injection hk2 with hk2
    subst hk2
    rw [show W.heap[g']? = _ from hk] at h3
    injection h3 with h3
    injection h3 with _ h3
    exact ht h3
theorem LoI.put {n : Sp.Net} {s : Nat} {h : ByteArray} {hops : Int} {q : Sp.Path} {M S : Nat} {cn : Array Value} {w : World} {Ds : List Nat} {xs : List PathV} {cur : Nat} {W : World} (hI : LoI n s h hops q M S cn w Ds xs cur W) (hMS : M + 5 ≤ S) (i : Nat) (u : Value) : LoI n s h hops q M S cn w Ds xs cur (W.setCell ⟨S, i, none⟩ u) := by
  obtain ⟨u1, u2, u3, hp⟩ := hI.px
  obtain ⟨v, hb, hr⟩ := hI.row
  refine ⟨hI.net.far (by show M ≠ S; omega) _, ⟨hI.res.c2.far (by show M + 1 + 1 ≠ S; omega) _, hI.res.c3.far (by show M + 1 + 1 + 1 ≠ S; omega) _, hI.res.c4.far (by show M + 1 + 1 + 1 + 1 ≠ S; omega) _⟩, ?_, ⟨v, Blk.far hb (by show S + 1 + 1 ≠ S; omega) _, ownsRow_setCell_below hr (by show S < S + 1; omega) _⟩, fun x hx => ?_, hI.inv, hI.few, hI.cur, hI.below.setCell (p := ⟨S, i, none⟩) (by show M ≤ S; omega) _, fun D hD => ⟨(hI.ds D hD).1, (KeepsOthers.setCell _ _ _).same D _ (hI.ds D hD).2 rfl⟩, hI.once⟩
  · have hs := hp.set_ i u
    rcases i with _ | _ | _ | i
    · exact ⟨_, _, _, hs⟩
    · exact ⟨_, _, _, hs⟩
    · exact ⟨_, _, _, hs⟩
    · exact ⟨_, _, _, by simpa using hs⟩
  · obtain ⟨h1, h2⟩ := hI.each x hx
    exact ⟨in_put h1 (in_far h1 hp (by decide)) u, in_put h2 (in_far h2 hp (by decide)) u⟩
theorem LoI.on {n : Sp.Net} {s : Nat} {h : ByteArray} {hops : Int} {q : Sp.Path} {M S : Nat} {cn : Array Value} {w : World} {Ds : List Nat} {xs : List PathV} {cur : Nat} {W : World} (hI : LoI n s h hops q M S cn w Ds xs cur W) (hl : cur < xs.length) (hv : Sp.LInv n s h hops q (xs.map PathV.path) (cur + 1)) : LoI n s h hops q M S cn w Ds xs (cur + 1) W :=
  ⟨hI.net, hI.res, hI.px, hI.row, hI.each, hv, hI.few, hl, hI.below, hI.ds, hI.once⟩
theorem LoI.later {n : Sp.Net} {s : Nat} {h : ByteArray} {hops : Int} {q : Sp.Path} {M S : Nat} {cn : Array Value} {w : World} {Ds : List Nat} {xs : List PathV} {cur : Nat} {W W' : World} (hI : LoI n s h hops q M S cn w Ds xs cur W) (hb : Below W.heap.size W W') : LoI n s h hops q M S cn w Ds xs cur W' := by
  obtain ⟨u1, u2, u3, hp⟩ := hI.px
  obtain ⟨v, hbx, hr⟩ := hI.row
  refine ⟨hI.net.below hb hI.net.lt, hI.res.below hb, ⟨u1, u2, u3, hp.below hb hp.lt⟩, ⟨v, Blk.below hbx hb (Blk.lt hbx), ?_⟩, fun x hx => ⟨in_below (hI.each x hx).1 hb, in_below (hI.each x hx).2 hb⟩, hI.inv, hI.few, hI.cur, hI.below.trans (hb.mono (by have := hI.net.lt; omega)), fun D hD => ⟨(hI.ds D hD).1, (hb.block D (heap_lt (hI.ds D hD).2)).trans (hI.ds D hD).2⟩, hI.once⟩
  refine World.ownsRow.kept hr (grown_of_below hb) ?_
  cases hv : v.ownBlock with
  | none => exact .inl rfl
  | some g => exact .inr (fun e => by cases e)
theorem LoI.own {β : Type} {n : Sp.Net} {s : Nat} {h : ByteArray} {hops : Int} {q : Sp.Path} {M S B : Nat} {cn : Array Value} {w : World} {Ds : List Nat} {xs : List PathV} {cur : Nat} (hM : M ≤ w.heap.size) (hMB : M ≤ B) (hB : ∀ D ∈ Ds, D < B) : OwnFrom B (fun (_ : β) W => LoI n s h hops q M S cn w Ds xs cur W) := fun x A C row hs hg hr => by
  obtain ⟨u1, u2, u3, hp⟩ := hs.px
  obtain ⟨v, hbx, hrw⟩ := hs.row
  have hr2 : ∀ r, row = some r → ∃ o : Obj, A.heap[r]? = some o ∧ TurnOk o := fun r e => by obtain ⟨_, o, h1, h2⟩ := hr r e; exact ⟨o, h1, .inl h2⟩
  exact ⟨own_blk B _ _ _ x A C row hs.net hg hr, ⟨own_blk B _ _ _ x A C row hs.res.c2 hg hr, own_blk B _ _ _ x A C row hs.res.c3 hg hr, own_blk B _ _ _ x A C row hs.res.c4 hg hr⟩, ⟨u1, u2, u3, own_blk B _ _ _ x A C row hp hg hr⟩, ⟨v, own_blk B _ _ _ x A C row hbx hg hr, ptR_turn hrw hg hr2⟩,
    fun y hy => ⟨row_turn (hs.each y hy).1 hg hr2, row_turn (hs.each y hy).2 hg hr2⟩, hs.inv, hs.few, hs.cur, ownFrom_below hM hMB x A C row hs.below hg hr, own_ds hB x A C row hs.ds hg hr, hs.once⟩
def LGr (M S cur Bx : Nat) (hops : Int) (a : Act) : Prop := ∃ u : Nat → Value, a = { tmps := #[u 0, u 1, .int .i64 hops, .pointer (some ⟨M, 0, none⟩), u 4, u 5, .pointer (some ⟨M + 1 + 1, 0, none⟩), .pointer (some ⟨M + 1 + 1 + 1, 0, none⟩), .pointer (some ⟨M + 1 + 1 + 1 + 1, 0, none⟩), u 9, .pointer (some ⟨S, 0, none⟩), u 11, .pointer (some ⟨S + 1 + 1, 0, none⟩), .int .i64 (cur : Int), .pointer (some ⟨Bx, 0, none⟩), u 15, u 16, u 17, u 18, u 19, u 20, u 21, u 22, u 23, u 24, u 25, u 26, u 27, u 28, u 29, u 30, u 31, u 32, u 33, u 34, u 35, u 36, u 37, u 38, u 39, u 40, u 41, u 42, u 43, u 44, u 45, u 46, u 47, u 48, u 49, u 50, u 51, u 52, u 53, u 54, u 55, u 56, u 57, u 58, u 59, u 60, u 61, u 62, u 63, u 64, u 65, u 66, u 67, u 68, u 69, u 70, u 71, u 72, u 73, u 74, u 75, u 76, u 77, u 78, u 79, u 80, u 81, u 82], defers := [] }
theorem LGr.of {M S cur Bx : Nat} {hops : Int} (v0 v1 v4 v5 v9 v11 v15 v16 v17 v18 v19 v20 v21 v22 v23 v24 v25 v26 v27 v28 v29 v30 v31 v32 v33 v34 v35 v36 v37 v38 v39 v40 v41 v42 v43 v44 v45 v46 v47 v48 v49 v50 v51 v52 v53 v54 v55 v56 v57 v58 v59 v60 v61 v62 v63 v64 v65 v66 v67 v68 v69 v70 v71 v72 v73 v74 v75 v76 v77 v78 v79 v80 v81 v82 : Value) : LGr M S cur Bx hops { tmps := #[v0, v1, .int .i64 hops, .pointer (some ⟨M, 0, none⟩), v4, v5, .pointer (some ⟨M + 1 + 1, 0, none⟩), .pointer (some ⟨M + 1 + 1 + 1, 0, none⟩), .pointer (some ⟨M + 1 + 1 + 1 + 1, 0, none⟩), v9, .pointer (some ⟨S, 0, none⟩), v11, .pointer (some ⟨S + 1 + 1, 0, none⟩), .int .i64 (cur : Int), .pointer (some ⟨Bx, 0, none⟩), v15, v16, v17, v18, v19, v20, v21, v22, v23, v24, v25, v26, v27, v28, v29, v30, v31, v32, v33, v34, v35, v36, v37, v38, v39, v40, v41, v42, v43, v44, v45, v46, v47, v48, v49, v50, v51, v52, v53, v54, v55, v56, v57, v58, v59, v60, v61, v62, v63, v64, v65, v66, v67, v68, v69, v70, v71, v72, v73, v74, v75, v76, v77, v78, v79, v80, v81, v82], defers := [] } :=
  ⟨fun i => ([v0, v1, undef, undef, v4, v5, undef, undef, undef, v9, undef, v11, undef, undef, undef, v15, v16, v17, v18, v19, v20, v21, v22, v23, v24, v25, v26, v27, v28, v29, v30, v31, v32, v33, v34, v35, v36, v37, v38, v39, v40, v41, v42, v43, v44, v45, v46, v47, v48, v49, v50, v51, v52, v53, v54, v55, v56, v57, v58, v59, v60, v61, v62, v63, v64, v65, v66, v67, v68, v69, v70, v71, v72, v73, v74, v75, v76, v77, v78, v79, v80, v81, v82] : List Value).getD i undef, rfl⟩
def LoX (n : Sp.Net) (s : Nat) (h : ByteArray) (hops : Int) (M : Nat) (w : World) (Ds : List Nat) (W : World) : Prop :=
  ∃ v1 v2 p ok e, LpC M v1 v2 (.string p.header) ok e W ∧ InR W M v1 p.ports ∧ InR W M v2 p.entries ∧ Below M w W ∧ DsOk M Ds W ∧ Sp.LpR n (s : Int) h hops p ok e
theorem LoX.own {β : Type} {n : Sp.Net} {s : Nat} {h : ByteArray} {hops : Int} {M B : Nat} {w : World} {Ds : List Nat} (hM : M ≤ w.heap.size) (hMB : M ≤ B) (hB : ∀ D ∈ Ds, D < B) : OwnFrom B (fun (_ : β) W => LoX n s h hops M w Ds W) := fun x A C row hs hg hr => by
  obtain ⟨v1, v2, p, ok, e, h1, h2, h3, h4, h5, h6⟩ := hs
  have hr2 : ∀ r, row = some r → ∃ o : Obj, A.heap[r]? = some o ∧ TurnOk o := fun r e => by obtain ⟨_, o, h1, h2⟩ := hr r e; exact ⟨o, h1, .inl h2⟩
  exact ⟨v1, v2, p, ok, e, ⟨own_blk B _ _ _ x A C row h1.c2 hg hr, own_blk B _ _ _ x A C row h1.c3 hg hr, own_blk B _ _ _ x A C row h1.c4 hg hr⟩, row_turn h2 hg hr2, row_turn h3 hg hr2, ownFrom_below hM hMB x A C row h4 hg hr, own_ds hB x A C row h5 hg hr, h6⟩
theorem in_lpSet {M b : Nat} {u1 u2 u3 : Value} {ok : Bool} {e : Int} {W : World} {v : Value} {l : List Int} (h : InR W b v l) (hb : M + 5 ≤ b) : InR (lpSet M u1 u2 u3 ok e W) M v l :=
  in_mono (in_set (in_set (in_set (in_set (in_set h (p := ⟨M + 1 + 1, 0, none⟩) (by show M + 1 + 1 < b; omega) _) (p := ⟨M + 1 + 1, 1, none⟩) (by show M + 1 + 1 < b; omega) _) (p := ⟨M + 1 + 1, 2, none⟩) (by show M + 1 + 1 < b; omega) _) (p := ⟨M + 1 + 1 + 1, 0, none⟩) (by show M + 1 + 1 + 1 < b; omega) _) (p := ⟨M + 1 + 1 + 1 + 1, 0, none⟩) (by show M + 1 + 1 + 1 + 1 < b; omega) _) (by omega)
theorem lpSet_others {M : Nat} {u1 u2 u3 : Value} {ok : Bool} {e : Int} (W : World) : KeepsOthers W (lpSet M u1 u2 u3 ok e W) :=
  ((((KeepsOthers.setCell _ _ _).trans (KeepsOthers.setCell _ _ _)).trans (KeepsOthers.setCell _ _ _)).trans (KeepsOthers.setCell _ _ _)).trans (KeepsOthers.setCell _ _ _)
end Go.Proofs.YtpknablklencdaaGreatDoor

set_option linter.unusedVariables false
set_option linter.unusedSimpArgs false
set_option maxRecDepth 100000
set_option maxHeartbeats 8000000
namespace Go.Proofs.YtpknablklencdaaGreatDoor
open Go.RowKit
theorem pts_any {B : Nat} {v : Value} {xs : List PathV} {w : World} (h : PtsAt B v xs w) : ∃ A c, v = .slice A xs.length c ∧ ∀ W, Below w.heap.size w W → ∀ (i : Nat) (x : PathV), xs[i]? = some x → ∃ g o, A = some ⟨g, o, none⟩ ∧ ∃ A1 k1 A2 k2, W.cell? ⟨g, o + i * 3, none⟩ = some (.slice A1 x.path.ports.length k1) ∧ W.cell? ⟨g, o + i * 3 + 1, none⟩ = some (.slice A2 x.path.entries.length k2) ∧ W.cell? ⟨g, o + i * 3 + 2, none⟩ = some (.string x.path.header) ∧ IV W A1 x.path.ports ∧ x.path.ports.length ≤ k1 := by
  by_cases hne : xs = []
  · obtain ⟨A, c, e⟩ := pts_slice h
    exact ⟨A, c, e, fun W _ i x hx => by rw [hne] at hx; simp at hx⟩
  · obtain ⟨g, o, c, e, hat⟩ := pts_at h hne
    exact ⟨_, c, e, fun W hW i x hx => ⟨g, o, rfl, hat W hW i x hx⟩⟩
namespace Sp
def BestI (n : Net) (l : List Path) (best : Int) : Prop := 0 ≤ best ∧ best ≤ 1048576 ∧ (∀ E : Int, E ≤ 1048576 → (∀ q ∈ l, ∀ k, Twice q.ports k → E ≤ (cntIn n (q.ports.take k) : Int)) → E ≤ best) ∧ ((∀ q ∈ l, ∀ k, ¬ Twice q.ports k) → best = 1048576)
theorem BestI.first (n : Net) (l : List Path) : BestI n l 1048576 := ⟨by omega, by omega, fun E h _ => h, fun _ => rfl⟩
theorem BestI.less {n : Net} {l : List Path} {best : Int} (h : BestI n l best) {q : Path} (hq : q ∈ l) {k : Nat} (ht : Twice q.ports k) (hlt : (cntIn n (q.ports.take k) : Int) < best) : BestI n l (cntIn n (q.ports.take k) : Int) :=
  ⟨by omega, by have := h.2.1; omega, fun E _ hE => hE q hq k ht, fun hn => absurd ht (hn q hq k)⟩
theorem Twice.at {l : List Int} {k k' : Nat} (h : Twice l k) (h' : Twice l k') : k = k' := by
  have h1 := h.beyond h'.first (List.take_prefix _ _)
  have h2 := h'.beyond h.first (List.take_prefix _ _)
  obtain ⟨x, hx, _⟩ := h.here
  obtain ⟨x', hx', _⟩ := h'.here
  have l1 := (List.getElem?_eq_some_iff.1 hx).1
  have l2 := (List.getElem?_eq_some_iff.1 hx').1
  rw [List.length_take] at h1 h2
  omega
theorem Twice.lt {l : List Int} {k : Nat} (h : Twice l k) : k < l.length := by
  obtain ⟨x, hx, _⟩ := h.here
  exact (List.getElem?_eq_some_iff.1 hx).1
end Sp
end Go.Proofs.YtpknablklencdaaGreatDoor
