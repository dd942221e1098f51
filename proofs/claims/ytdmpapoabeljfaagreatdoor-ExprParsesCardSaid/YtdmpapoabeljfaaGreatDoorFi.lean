/-
  THE WALK of the reference's reader's method test (chapter 5).
-/
import Derived.Test.YtdmpapoabeljfaaGreatDoorFf
import Derived.Test.YtdmpapoabeljfaaGreatDoorFc
import Derived.Test.YtdmpapoabeljfaaGreatDoorFg
set_option linter.unusedVariables false
set_option linter.unusedSimpArgs false
set_option maxRecDepth 100000
set_option maxHeartbeats 8000000
namespace Go.Proofs.YtdmpapoabeljfaaGreatDoor
open Go.RowKit

/-- The cells of a test. -/
def tcr (name : ByteArray) (x1 x2 x3 x4 x5 : Int) (pt : ByteArray) : Array Value := #[.string name, .int .i64 x1, .int .i64 x2, .int .i64 x3, .int .i64 x4, .int .i64 x5, .string pt]
/-- The reader beside a test in block M. -/
def FTs (W0 : World) (N : Nat) (A : Option Addr) (n cap p : Nat) (st : List UInt8) (ns : List Sp.Nd) (m c M : Nat) (tc : Array Value) (w : World) : Prop :=
  FSt W0 N A n cap p st ns m c w ∧ Blk w M 54 tc ∧ N < M
theorem kind_ne {w : World} {B : Nat} {e T : TypeId} {size : Nat} {v : Value} {n : Nat} {xs : List Value} (h : w.ownsRow B e size v n xs) {M : Nat} {cs : Array Value} (hb : Blk w M T cs) (ht : T ≠ e) : v.ownBlock ≠ some M := by
  intro e1
  obtain ⟨c1, f1, h1⟩ := Lib.ownsRow_kind h M e1
  unfold Blk at hb
  rw [h1] at hb
  injection hb with hb
  injection hb with _ hb _
  exact ht hb.symm
section
variable {W0 w w' : World} {N n cap p m c M : Nat} {A : Option Addr} {st st' : List UInt8} {ns ns' : List Sp.Nd} {tc : Array Value}
theorem FTs.only {p' m' c' : Nat} (h : FTs W0 N A n cap p st ns m c M tc w) (h' : FSt W0 N A n cap p' st' ns' m' c' w') (hg : w.grownBy w' (some N)) : FTs W0 N A n cap p' st' ns' m' c' M tc w' := by
  obtain ⟨h1, h2, h3⟩ := h
  exact ⟨h', h2.grown hg (fun e => by injection e with e; omega), h3⟩
theorem FTs.set_ (h : FTs W0 N A n cap p st ns m c M tc w) (j : Nat) (u : Value) : FTs W0 N A n cap p st ns m c M (tc.setIfInBounds j u) (w.setCell ⟨M, j, none⟩ u) := by
  obtain ⟨⟨ov, tv, r1, r2, r3, r4⟩, h2, h3⟩ := h
  have hg := only_setCell (World.grownBy.refl w (some M)) (Or.inl rfl) u (p := ⟨M, j, none⟩)
  exact ⟨⟨ov, tv, r1.far (by show N ≠ M; omega) _, World.ownsRow.kept r2 hg (Or.inr (kind_ne r2 h2 (by decide))), World.ownsRow.kept r3 hg (Or.inr (kind_ne r3 h2 (by decide))), r4.setCell (p := ⟨M, j, none⟩) (Nat.le_of_lt h3) u⟩, h2.set_ j u, h3⟩
theorem FTs.at_ (h : FTs W0 N A n cap p st ns m c M tc w) : FTs W0 N A n cap (p + 1) st ns m c M tc (w.setCell ⟨N, 1, none⟩ (.int .i64 ((p : Int) + 1))) :=
  h.only (h.1.setAt (p + 1) _ (by omega)) (only_N w N 1 _)
theorem FTs.drewN (h : FTs W0 N A n cap p st ns m c M tc w) (k : Nat) : FTs W0 N A n cap p st ns m c M tc (w.drewN k) := ⟨h.1.drewN k, h.2.1, h.2.2⟩
theorem FTs.mcells {x1 x2 x3 x4 x5 : Int} {name pt : ByteArray} (h : FTs W0 N A n cap p st ns m c M (tcr name x1 x2 x3 x4 x5 pt) w) :
    w.cell? ⟨M, 0, none⟩ = some (.string name) ∧ w.cell? ⟨M, 1, none⟩ = some (.int .i64 x1) ∧ w.cell? ⟨M, 2, none⟩ = some (.int .i64 x2) ∧ w.cell? ⟨M, 3, none⟩ = some (.int .i64 x3) ∧ w.cell? ⟨M, 4, none⟩ = some (.int .i64 x4) ∧ w.cell? ⟨M, 5, none⟩ = some (.int .i64 x5) ∧ w.cell? ⟨M, 6, none⟩ = some (.string pt) ∧ (∀ j, w.frozen? ⟨M, j, none⟩ = false) ∧ M < w.heap.size := by
  obtain ⟨_, ht, _⟩ := h
  exact ⟨ht.cell 0, ht.cell 1, ht.cell 2, ht.cell 3, ht.cell 4, ht.cell 5, ht.cell 6, fun j => ht.frozen j, ht.lt⟩
end

/-- A node more, at the operation. -/
theorem wp_nd {o : Oper} {a : Act} {w : World} {K : Act → World → Prop} {Q : Exit → Act → World → Prop} (s x : Operand)
    (ho : o.op = .call { callee := .builtin .append, args := #[s, x], argTypes := #[25, 25] })
    (B : Nat) (v : Value) (ns : List Sp.Nd) (hs : a.eval s = v) (ht : Nds w B v ns) (ad : Addr) (c : Nat) (t : Sp.Nd) (hx : a.eval x = .slice (some ad) 1 c)
    (hnews : ∀ j u, (ndCell t)[j]? = some u → w.cell? (ad.add j) = some u) (hn : ns.length ≤ 1073741824) (hB : B ≤ w.heap.size) (H : Nat) (hH : w.heap.size = H)
    (h : ∀ g cap w', Nds w' B (.slice (some ⟨g, 0, none⟩) (ns.length + 1) cap) (ns ++ [t]) → w.grownBy w' v.ownBlock → (v.ownBlock = some g ∨ g = H) → g < w'.heap.size → K (a.put o.dst (.slice (some ⟨g, 0, none⟩) (ns.length + 1) cap)) w') : o.wp Tryz.prog a w K Q := by
  obtain ⟨i0, hi0, hz0, hz1, hz2⟩ := info_parts ninfo
  refine wp_append_lies _ s x _ ho B 56 i0 _ 8 80 Tryz.underlying25 hi0 hz0 hz1 hz2 rfl (by omega) v ns.length (ndCells ns) hs ht ad 1 c (ndCell t) hx (by rfl) hnews (by simp [Value.oneCell', ndCell]) (by omega) (by unfold maxLen; omega) (by omega) hB H hH ?_
  intro g cap w' h1 h2 h3 h4
  refine h g cap w' ?_ h2 h3 h4
  unfold Nds
  rw [List.length_append, List.length_singleton, ndCells_append, ndCells_one]
  exact h1

/-- What test comes to. -/
def FTEnd (W0 : World) (N : Nat) (A : Option Addr) (n cap : Nat) (st : List UInt8) (ns : List Sp.Nd) (m : Nat) (r : Sp.TR) (e : Ending) (w' : World) : Prop :=
  match r with
  | .bad q => e = .returned (.tuple #[]) ∧ ∃ ns', FSt W0 N A n cap q st ns' m 50 w'
  | .ok q x => e = .returned (.tuple #[]) ∧ FSt W0 N A n cap q st (ns ++ [x]) m 0 w'
theorem FTEnd_bad {W0 w' : World} {N n cap m q : Nat} {st : List UInt8} {ns ns' : List Sp.Nd} {A : Option Addr} {r : Sp.TR} (hr : r = .bad q) (h : FSt W0 N A n cap q st ns' m 50 w') : FTEnd W0 N A n cap st ns m r (.returned (.tuple #[])) w' := by
  subst hr
  exact ⟨rfl, ns', h⟩
theorem FTEnd_ok {W0 w' : World} {N n cap m q : Nat} {st : List UInt8} {ns : List Sp.Nd} {A : Option Addr} {r : Sp.TR} {x : Sp.Nd} (hr : r = .ok q x) (h : FSt W0 N A n cap q st (ns ++ [x]) m 0 w') : FTEnd W0 N A n cap st ns m r (.returned (.tuple #[])) w' := by
  subst hr
  exact ⟨rfl, h⟩

section
variable {W0 w w' : World} {N n cap p m c : Nat} {A : Option Addr} {st : List UInt8} {ns : List Sp.Nd}
theorem f_val_some (h : FSt W0 N A n cap p st ns m 0 w) {zs : List ZTok} (hn : zs.length = n) (hnb : n ≤ 4611686018427387904) (hv : ViewZ W0 N A zs) (hts : ∀ z ∈ zs, z.2.1.size ≤ 9223372036854775807) {v : Nat} (hR : Sp.numAt (zs.map ptZ) p = some v) {vi : Int} (hvi : (v : Int) = vi) {q : Nat} (hq : p + 1 = q) :
    Calls Tryz.prog 57 #[.pointer (some ⟨N, 0, none⟩)] w fun e w' => e = .returned (.int .i64 vi) ∧ FSt W0 N A n cap q st ns m 0 w' ∧ w.grownBy w' (some N) := by
  have := f_value h hn hnb hv hts hR
  subst hvi hq
  exact this
theorem f_val_none (h : FSt W0 N A n cap p st ns m 0 w) {zs : List ZTok} (hn : zs.length = n) (hnb : n ≤ 4611686018427387904) (hv : ViewZ W0 N A zs) (hts : ∀ z ∈ zs, z.2.1.size ≤ 9223372036854775807) (hR : Sp.numAt (zs.map ptZ) p = none) :
    Calls Tryz.prog 57 #[.pointer (some ⟨N, 0, none⟩)] w fun e w' => e = .returned (.int .i64 0) ∧ FSt W0 N A n cap p st ns m 50 w' ∧ w.grownBy w' (some N) :=
  f_value h hn hnb hv hts hR

theorem FTs.val_none {M : Nat} {tc : Array Value} (h : FTs W0 N A n cap p st ns m 0 M tc w) {zs : List ZTok} (hn : zs.length = n) (hnb : n ≤ 4611686018427387904) (hv : ViewZ W0 N A zs) (hts : ∀ z ∈ zs, z.2.1.size ≤ 9223372036854775807) (hR : Sp.numAt (zs.map ptZ) p = none) :
    Calls Tryz.prog 57 #[.pointer (some ⟨N, 0, none⟩)] w fun e w' => e = .returned (.int .i64 0) ∧ FTs W0 N A n cap p st ns m 50 M tc w' := by
  refine (f_val_none h.1 hn hnb hv hts hR).mono ?_
  rintro e w' ⟨rfl, h1, h2⟩
  exact ⟨rfl, h.only h1 h2⟩
theorem FTs.val_some {M : Nat} {tc : Array Value} (h : FTs W0 N A n cap p st ns m 0 M tc w) {zs : List ZTok} (hn : zs.length = n) (hnb : n ≤ 4611686018427387904) (hv : ViewZ W0 N A zs) (hts : ∀ z ∈ zs, z.2.1.size ≤ 9223372036854775807) {v : Nat} (hR : Sp.numAt (zs.map ptZ) p = some v) {vi : Int} (hvi : (v : Int) = vi) {q : Nat} (hq : p + 1 = q) :
    Calls Tryz.prog 57 #[.pointer (some ⟨N, 0, none⟩)] w fun e w' => e = .returned (.int .i64 vi) ∧ FTs W0 N A n cap q st ns m 0 M tc w' := by
  refine (f_val_some h.1 hn hnb hv hts hR hvi hq).mono ?_
  rintro e w' ⟨rfl, h1, h2⟩
  exact ⟨rfl, h.only h1 h2⟩

theorem f_test {G O : Nat} (h : FSt W0 N (some ⟨G, O, none⟩) n cap p st ns m 0 w) {zs : List ZTok} (hn : zs.length = n) (hnb : n ≤ 4611686018427387904) (hv : ViewZ W0 N (some ⟨G, O, none⟩) zs) (hts : ∀ z ∈ zs, z.2.1.size ≤ 9223372036854775807) {k l cc : Int} {t : ByteArray} (hz : zs[p]? = some (k, t, l, cc)) (hl : ns.length ≤ 1000000) {R : Sp.TR} (hR : Sp.testV (zs.map ptZ) t.data.toList (p + 1) = R) :
    Calls Tryz.prog 38 #[.pointer (some ⟨N, 0, none⟩)] w (FTEnd W0 N (some ⟨G, O, none⟩) n cap st ns m R) := by
  have hTl : (zs.map ptZ).length = n := by rw [List.length_map]; exact hn
  have hlt : p < n := by rw [← hn]; exact (List.getElem?_eq_some_iff.1 hz).1
  obtain ⟨c0, c1, f1, _, _, _, _⟩ := h.cells
  obtain ⟨g0, o0, hA, hg, _, a1, _, _⟩ := hv.below h.bel (Nat.le_refl _) p _ hz
  injection hA with hA
  injection hA with e1 e2 _
  subst e1 e2
  simp only [] at a1
  have p1 : (p : Int) < n := by omega
  have p2 : (0 : Int) ≤ (p : Int) := by omega
  have p3 : (p : Int) ≤ 4611686018427387904 := by omega
  have hN := h.own
  obtain ⟨M, hM⟩ : ∃ M, w.heap.size = M := ⟨_, rfl⟩
  have hglt : G < w.heap.size := by omega
  have hS0 : w.cell? ⟨N, 0, none⟩ = some (.slice (some ⟨G, O, none⟩) n cap) ∧ w.cell? ⟨N, 1, none⟩ = some (.int .i64 (p : Nat)) ∧ w.cell? ⟨G, O + p * 4 + 1, none⟩ = some (.string t) := ⟨c0, c1, a1⟩
  have HSA : Hid (∀ o, (w.drew.alloc o).cell? ⟨N, 0, none⟩ = some (.slice (some ⟨G, O, none⟩) n cap) ∧ (w.drew.alloc o).cell? ⟨N, 1, none⟩ = some (.int .i64 (p : Nat)) ∧ (w.drew.alloc o).cell? ⟨G, O + p * 4 + 1, none⟩ = some (.string t)) := fun o =>
    ⟨(World.cell?_alloc_lt w.drew o ⟨N, 0, none⟩ hN).trans c0, (World.cell?_alloc_lt w.drew o ⟨N, 1, none⟩ hN).trans c1, (World.cell?_alloc_lt w.drew o ⟨G, O + p * 4 + 1, none⟩ hglt).trans a1⟩
  have HF := Lib.hid h
  have HM := Lib.hid hM
  have HR := Lib.hid hR
  have HV := Lib.hid hv
  have HN := Lib.hid hn
  have HTS := Lib.hid hts
  have HTL := Lib.hid hTl
  have HSS := Lib.hid hS0
  clear hR hv hn hts hTl h hz hM c0 c1 a1 f1 hlt
  go_enter Tryz.func38, Tryz.ntmps38
  go_wp2_with fail
  refine wp_region_K 13 (fun w' => w'.cell? ⟨N, 0, none⟩ = some (.slice (some ⟨G, O, none⟩) n cap) ∧ w'.cell? ⟨N, 1, none⟩ = some (.int .i64 (p : Nat)) ∧ w'.cell? ⟨G, O + p * 4 + 1, none⟩ = some (.string t)) (by kernel_rfl) (fun hcl => ?_)
  have hS : (fun w' : World => w'.cell? ⟨N, 0, none⟩ = some (.slice (some ⟨G, O, none⟩) n cap) ∧ w'.cell? ⟨N, 1, none⟩ = some (.int .i64 (p : Nat)) ∧ w'.cell? ⟨G, O + p * 4 + 1, none⟩ = some (.string t)) w.drew := HSS.out
  refine wpAnyK_take (i := 0) (v := ?_) hcl hS rfl (by kernel_rfl) (fun _ _ _ h => h) (by rfl) ?_ (fun hcl2 => ?_)
  rotate_left
  · (intro w hSw; (try dsimp only at hSw); first | (go_simp; done) | (go_simp; with_reducible rfl))
  (try simp only [Act.put, List.setIfInBounds_toArray, List.set_cons_zero, List.set_cons_succ])
  clear hcl; have hcl := hcl2; clear hcl2
  refine wpAnyK_take (i := 1) (v := ?_) hcl hS rfl (by kernel_rfl) (fun _ _ _ h => h) (by rfl) ?_ (fun hcl2 => ?_)
  rotate_left
  · (intro w hSw; (try dsimp only at hSw); first | (go_simp; done) | (go_simp; with_reducible rfl))
  (try simp only [Act.put, List.setIfInBounds_toArray, List.set_cons_zero, List.set_cons_succ])
  clear hcl; have hcl := hcl2; clear hcl2
  refine wpAnyK_take (i := 2) (v := ?_) hcl hS rfl (by kernel_rfl) (fun _ _ _ h => h) (by rfl) ?_ (fun hcl2 => ?_)
  rotate_left
  · (intro w hSw; (try dsimp only at hSw); first | (go_simp; done) | (go_simp; with_reducible rfl))
  (try simp only [Act.put, List.setIfInBounds_toArray, List.set_cons_zero, List.set_cons_succ])
  clear hcl; have hcl := hcl2; clear hcl2
  refine wpAnyK_take (i := 3) (v := ?_) hcl hS rfl (by kernel_rfl) (fun _ _ _ h => h) (by rfl) ?_ (fun hcl2 => ?_)
  rotate_left
  · (intro w hSw; (try dsimp only at hSw); first | (go_simp; done) | (go_simp; with_reducible rfl))
  (try simp only [Act.put, List.setIfInBounds_toArray, List.set_cons_zero, List.set_cons_succ])
  clear hcl; have hcl := hcl2; clear hcl2
  refine wpAnyK_take (i := 4) (v := ?_) hcl hS rfl (by kernel_rfl) (fun _ _ _ h => h) (by rfl) ?_ (fun hcl2 => ?_)
  rotate_left
  · (intro w hSw; (try dsimp only at hSw); first | (go_simp; done) | (go_simp; with_reducible rfl))
  (try simp only [Act.put, List.setIfInBounds_toArray, List.set_cons_zero, List.set_cons_succ])
  clear hcl; have hcl := hcl2; clear hcl2
  refine wpAnyK_take (i := 5) (v := ?_) hcl hS rfl (by kernel_rfl) (fun _ _ _ h => h) (by rfl) ?_ (fun hcl2 => ?_)
  rotate_left
  · (intro w hSw; (try dsimp only at hSw); first | (go_simp; done) | (go_simp; with_reducible rfl))
  (try simp only [Act.put, List.setIfInBounds_toArray, List.set_cons_zero, List.set_cons_succ])
  clear hcl; have hcl := hcl2; clear hcl2
  refine wpAnyK_take (i := 6) (v := ?_) hcl hS rfl (by kernel_rfl) (fun _ _ _ h => h) (by rfl) ?_ (fun hcl2 => ?_)
  rotate_left
  · (intro w hSw; (try dsimp only at hSw); first | (go_simp; done) | (go_simp; with_reducible rfl))
  (try simp only [Act.put, List.setIfInBounds_toArray, List.set_cons_zero, List.set_cons_succ])
  clear hcl; have hcl := hcl2; clear hcl2
  refine wpAnyK_take (i := 7) (v := ?_) hcl hS rfl (by kernel_rfl) (fun _ _ _ h => h) (by rfl) ?_ (fun hcl2 => ?_)
  rotate_left
  · (intro w hSw; (try dsimp only at hSw); first | (go_simp; done) | (go_simp; with_reducible rfl))
  (try simp only [Act.put, List.setIfInBounds_toArray, List.set_cons_zero, List.set_cons_succ])
  clear hcl; have hcl := hcl2; clear hcl2
  refine wpAnyK_take (i := 8) (v := ?_) hcl hS rfl (by kernel_rfl) (fun _ _ _ h => h) (by rfl) ?_ (fun hcl2 => ?_)
  rotate_left
  · (intro w hSw; (try dsimp only at hSw); first | (go_simp; done) | (go_simp; with_reducible rfl))
  (try simp only [Act.put, List.setIfInBounds_toArray, List.set_cons_zero, List.set_cons_succ])
  clear hcl; have hcl := hcl2; clear hcl2
  refine wpAnyK_take (i := 9) (v := ?_) hcl hS rfl (by kernel_rfl) (fun _ _ _ h => h) (by rfl) ?_ (fun hcl2 => ?_)
  rotate_left
  · (intro w hSw; (try dsimp only at hSw); first | (go_simp; done) | (go_simp; with_reducible rfl))
  (try simp only [Act.put, List.setIfInBounds_toArray, List.set_cons_zero, List.set_cons_succ])
  clear hcl; have hcl := hcl2; clear hcl2
  refine wpAnyK_take (i := 10) (v := ?_) hcl hS rfl (by kernel_rfl) (fun _ _ _ h => h) (by rfl) ?_ (fun hcl2 => ?_)
  rotate_left
  · (intro w hSw; (try dsimp only at hSw); first | (go_simp; done) | (go_simp; with_reducible rfl))
  (try simp only [Act.put, List.setIfInBounds_toArray, List.set_cons_zero, List.set_cons_succ])
  clear hcl; have hcl := hcl2; clear hcl2
  refine wpAnyK_take (i := 11) (v := ?_) hcl hS rfl (by kernel_rfl) (fun _ _ _ h => h) (by rfl) ?_ (fun hcl2 => ?_)
  rotate_left
  · (intro w hSw; (try dsimp only at hSw); first | (go_simp; done) | (go_simp; with_reducible rfl))
  (try simp only [Act.put, List.setIfInBounds_toArray, List.set_cons_zero, List.set_cons_succ])
  clear hcl; have hcl := hcl2; clear hcl2
  refine wpAnyK_one (i := 12) hcl (by kernel_rfl) rfl (by rfl) (fun K hK => ?_)
  go_simp
  refine hK.out _ _ (Or.inr (HSA.out _)) (fun hcl2 => ?_)
  clear hK K hcl hS
  have hcl := hcl2
  clear hcl2
  (try simp only [Act.put, List.setIfInBounds_toArray, List.set_cons_zero, List.set_cons_succ])
  refine wpAnyK_one (i := 13) hcl (by kernel_rfl) rfl (by rfl) (fun K hK => ?_)
  go_simp
  refine hK.out _ _ (Or.inl (by kernel_rfl)) (fun hcl2 => ?_)
  clear hK K hcl hcl2
  refine wpAnyK_done (by kernel_rfl) ?_ _
  obtain ⟨W1, hW1⟩ : ∃ W1, (w.alloc (.cells #[.string t, .int .i64 0, .int .i64 0, .int .i64 0, .int .i64 0, .int .i64 0, .string ⟨#[]⟩] 54)).drew = W1 := ⟨_, rfl⟩
  have hq1 : FTs W0 N (some ⟨G, O, none⟩) n cap p st ns m 0 M (tcr t 0 0 0 0 0 ⟨#[]⟩) W1 := by
    rw [← hW1, ← HM.out]
    exact ⟨(HF.out.alloc _).drewN 1, Blk.new w _ _, HF.out.own⟩
  rw [hW1, HM.out]
  clear hW1 hS0
  have HQ1 := Lib.hid hq1
  obtain ⟨_, c1, f1, _⟩ := hq1.1.cells
  clear hq1
  obtain ⟨P1, hP1⟩ : ∃ P1, p + 1 = P1 := ⟨_, rfl⟩
  have HP1 := Lib.hid hP1
  go_upto_region 2 with (fail)
  obtain ⟨W2, hW2⟩ : ∃ W2, W1.setCell ⟨N, 1, none⟩ (.int .i64 ((p : Int) + 1)) = W2 := ⟨_, rfl⟩
  have hq2 : FTs W0 N (some ⟨G, O, none⟩) n cap P1 st ns m 0 M (tcr t 0 0 0 0 0 ⟨#[]⟩) W2 := by rw [← hW2, ← HP1.out]; exact HQ1.out.at_
  rw [hW2]
  clear hW2 c1 f1
  have HQ2 := Lib.hid hq2
  clear hq2
  obtain ⟨on, hon⟩ : ∃ on, Sp.opAt (zs.map ptZ) P1 = on := ⟨_, rfl⟩
  have hol := Sp.opLe (zs.map ptZ) P1
  rw [hon] at hol
  obtain ⟨x, hx⟩ : ∃ x : Int, (on : Int) = x := ⟨_, rfl⟩
  have hop := f_op HQ2.out.1 HN.out HV.out hon
  rw [hx] at hop
  have HOP := Lib.hid hop
  have hRV : R = if on = 0 then .bad P1 else if on ≤ 2 ∧ Sp.kdAt (zs.map ptZ) (P1 + 1) = 5 then
      (if Sp.patB (Sp.txAt (zs.map ptZ) (P1 + 1)) then .ok (P1 + 2) { kind := 3, field := t.data.toList, op := x, form := 4, pat := (Sp.txAt (zs.map ptZ) (P1 + 1)).drop 1 } else .bad (P1 + 1))
    else match Sp.numAt (zs.map ptZ) (P1 + 1) with
      | none => .bad (P1 + 1)
      | some v =>
        if on ≤ 2 ∧ Sp.sgAt (zs.map ptZ) (P1 + 2) [47] = true then
          (match Sp.numAt (zs.map ptZ) (P1 + 3) with
            | none => .bad (P1 + 3)
            | some u => .ok (P1 + 4) { kind := 3, field := t.data.toList, op := x, form := 2, lo := (v : Nat), len := (u : Nat) })
        else if on ≤ 2 ∧ Sp.sgAt (zs.map ptZ) (P1 + 2) [46, 46] = true then
          (match Sp.numAt (zs.map ptZ) (P1 + 3) with
            | none => .bad (P1 + 3)
            | some u => .ok (P1 + 4) { kind := 3, field := t.data.toList, op := x, form := 3, lo := (v : Nat), hi := (u : Nat) })
        else .ok (P1 + 2) { kind := 3, field := t.data.toList, op := x, form := 1, lo := (v : Nat) } := by
    rw [← HR.out, HP1.out]
    unfold Sp.testV
    rw [hon, hx]
    rfl
  have HRV := Lib.hid hRV
  have HON := Lib.hid hon
  have HX := Lib.hid hx
  obtain ⟨_, m1, _, _, _, _, _, fm, _⟩ := HQ2.out.mcells
  have fm1 := fm 1
  clear fm hop hRV hon hP1 p1 p2 p3
  go_wp2_with fail
  refine HOP.out.mono ?_
  rintro e w3 ⟨rfl, rfl⟩
  go_upto_region 3 with (fail)
  obtain ⟨W3, hW3⟩ : ∃ W3, W2.setCell ⟨M, 1, none⟩ (.int .i64 x) = W3 := ⟨_, rfl⟩
  have hq3 : FTs W0 N (some ⟨G, O, none⟩) n cap P1 st ns m 0 M (tcr t x 0 0 0 0 ⟨#[]⟩) W3 := by rw [← hW3]; exact HQ2.out.set_ 1 _
  rw [hW3]
  clear hW3 m1 fm1
  have HQ3 := Lib.hid hq3
  clear hq3
  obtain ⟨_, m1, _, _, _, _, _, _, _⟩ := HQ3.out.mcells
  obtain ⟨_, c1, f1, _⟩ := HQ3.out.1.cells
  by_cases h0 : on = 0
  · have q0 : (x == 0) = true := beq_iff_eq.2 (by omega)
    have HRR : Hid (R = .bad P1) := by show _ = _; rw [HRV.out, if_pos h0]
    have HFF := Lib.hid (f_fail HQ3.out.1 50 P1)
    clear h0 hx hol f1
    go_wp2_with (go_at_call 39; refine HFF.out.mono ?_; rintro e w6 ⟨rfl, h6, _⟩)
    first | go_end0 | ((try simp only [Exit.inBlock, Exit.then]); refine bodyPost_ret (results_none rfl _ _ _) rfl ?_)
    exact FTEnd_bad HRR.out h6
  have q0 : (x == 0) = false := beq_eq_false_iff_ne.2 (by omega)
  have hRV := HRV.out
  rw [if_neg h0] at hRV
  have hlt1 : P1 < n := by
    have := Sp.op_lt (T := zs.map ptZ) (i := P1) (by rw [HON.out]; exact h0)
    have h2 := HTL.out
    omega
  obtain ⟨P2, hP2⟩ : ∃ P2, P1 + 1 = P2 := ⟨_, rfl⟩
  obtain ⟨P3, hP3⟩ : ∃ P3, P2 + 1 = P3 := ⟨_, rfl⟩
  obtain ⟨P4, hP4⟩ : ∃ P4, P3 + 1 = P4 := ⟨_, rfl⟩
  obtain ⟨P5, hP5⟩ : ∃ P5, P4 + 1 = P5 := ⟨_, rfl⟩
  rw [show P1 + 2 = P3 by omega, show P1 + 3 = P4 by omega, show P1 + 4 = P5 by omega, hP2] at hRV
  have HRV2 := Lib.hid hRV
  have p1 : (P1 : Int) ≤ 4611686018427387904 := by omega
  have p1' : (0 : Int) ≤ (P1 : Int) := by omega
  have p2 : (P2 : Int) ≤ 4611686018427387905 := by omega
  have p2' : (0 : Int) ≤ (P2 : Int) := by omega
  have p3 : (P3 : Int) ≤ 4611686018427387906 := by omega
  have p3' : (0 : Int) ≤ (P3 : Int) := by omega
  have HP2 := Lib.hid hP2
  have HP3 := Lib.hid hP3
  have HP4 := Lib.hid hP4
  have HP5 := Lib.hid hP5
  clear hRV hP2 hP3 hP4 hP5 h0 hlt1
  go_upto_region 6 with (fail)
  obtain ⟨W4, hW4⟩ : ∃ W4, W3.setCell ⟨N, 1, none⟩ (.int .i64 ((P1 : Int) + 1)) = W4 := ⟨_, rfl⟩
  have hq4 : FTs W0 N (some ⟨G, O, none⟩) n cap P2 st ns m 0 M (tcr t x 0 0 0 0 ⟨#[]⟩) W4 := by rw [← hW4, ← HP2.out]; exact HQ3.out.at_
  rw [hW4]
  clear hW4 m1 c1 f1 q0
  have HQ4 := Lib.hid hq4
  clear hq4
  obtain ⟨_, m1, m2, _, _, _, m6, fm, _⟩ := HQ4.out.mcells
  have fm2 := fm 2
  have fm6 := fm 6
  obtain ⟨c0, c1, f1, _, _, c5, _⟩ := HQ4.out.1.cells
  clear fm
  by_cases hwh : on ≤ 2
  rotate_left
  · have e1 : decide (x ≤ 2) = false := decide_eq_false (by omega)
    cases hva : Sp.numAt (zs.map ptZ) P2 with
    | none =>
      have HV1 := Lib.hid (fun W (h : FTs W0 N (some ⟨G, O, none⟩) n cap P2 st ns m 0 M (tcr t x 1 0 0 0 ⟨#[]⟩) W) => h.val_none HN.out hnb HV.out HTS.out hva)
      have HRR : Hid (R = .bad P2) := by show _ = _; rw [HRV2.out, if_neg (fun h => hwh h.1), hva]
      clear hva hwh hx hol
      go_wp2_with fail
      go_quiet (fail)
      go_wp2_with fail
      refine (HV1.out _ ((HQ4.out.drewN _).set_ 2 _)).mono ?_
      rintro e w5 ⟨rfl, h5⟩
      clear c0 c1 f1 c5 m1 m2 m6 fm2 fm6
      have HQ5 : Hid (FTs W0 N (some ⟨G, O, none⟩) n cap P2 st ns m 50 M (tcr t x 1 0 0 0 ⟨#[]⟩) w5) := h5
      clear h5
      obtain ⟨_, _, _, m3, _, _, _, fm, _⟩ := HQ5.out.mcells
      have fm3 := fm 3
      clear fm
      go_upto_region 15 with (fail)
      obtain ⟨W6, hW6⟩ : ∃ W6, w5.setCell ⟨M, 3, none⟩ (.int .i64 0) = W6 := ⟨_, rfl⟩
      have hq6 : FTs W0 N (some ⟨G, O, none⟩) n cap P2 st ns m 50 M (tcr t x 1 0 0 0 ⟨#[]⟩) W6 := by rw [← hW6]; exact HQ5.out.set_ 3 _
      rw [hW6]
      clear hW6 m3 fm3
      have HQ6 := Lib.hid hq6
      clear hq6
      obtain ⟨_, m1, m2, _, _, _, _, fm, _⟩ := HQ6.out.mcells
      have fm2 := fm 2
      obtain ⟨_, c1, f1, _, _, c5, _⟩ := HQ6.out.1.cells
      clear fm
      go_upto_region 23 with (fail)
      clear c1 f1 c5 m1 m2 fm2
      have HQ := HQ6
      obtain ⟨⟨ov, tv, r1, r2, r3, r4⟩, rb, rNM⟩ := HQ.out
      obtain ⟨y0, y1, y2, y3, y4, y5, y6, _, hMlt⟩ := HQ.out.mcells
      have d3 : W6.cell? ⟨N, 3, none⟩ = some tv := r1.cell 3
      have g3 := r1.frozen 3
      have hNlt := r1.lt
      have hne := nds_ne r3
      have hneM : tv.ownBlock ≠ some M := kind_ne r3 rb (by decide)
      have hS1 : W6.cell? ⟨N, 3, none⟩ = some tv ∧ W6.cell? ⟨M, 0, none⟩ = some (.string t) ∧ W6.cell? ⟨M, 1, none⟩ = some (.int .i64 x) ∧ W6.cell? ⟨M, 2, none⟩ = some (.int .i64 1) ∧ W6.cell? ⟨M, 3, none⟩ = some (.int .i64 0) ∧ W6.cell? ⟨M, 4, none⟩ = some (.int .i64 0) ∧ W6.cell? ⟨M, 5, none⟩ = some (.int .i64 0) ∧ W6.cell? ⟨M, 6, none⟩ = some (.string ⟨#[]⟩) := ⟨d3, y0, y1, y2, y3, y4, y5, y6⟩
      have HFA : Hid (∀ o, (W6.alloc o).frozen? ⟨N, 3, none⟩ = false) := fun o => (World.frozen?_alloc_past _ _ _ hNlt).trans g3
      have HCA : Hid (∀ o, (W6.alloc o).cell? ⟨N, 3, none⟩ = some tv ∧ (W6.alloc o).cell? ⟨M, 0, none⟩ = some (.string t) ∧ (W6.alloc o).cell? ⟨M, 1, none⟩ = some (.int .i64 x) ∧ (W6.alloc o).cell? ⟨M, 2, none⟩ = some (.int .i64 1) ∧ (W6.alloc o).cell? ⟨M, 3, none⟩ = some (.int .i64 0) ∧ (W6.alloc o).cell? ⟨M, 4, none⟩ = some (.int .i64 0) ∧ (W6.alloc o).cell? ⟨M, 5, none⟩ = some (.int .i64 0) ∧ (W6.alloc o).cell? ⟨M, 6, none⟩ = some (.string ⟨#[]⟩)) := fun o =>
        ⟨(World.cell?_alloc_lt W6 o ⟨N, 3, none⟩ hNlt).trans d3, (World.cell?_alloc_lt W6 o ⟨M, 0, none⟩ hMlt).trans y0, (World.cell?_alloc_lt W6 o ⟨M, 1, none⟩ hMlt).trans y1, (World.cell?_alloc_lt W6 o ⟨M, 2, none⟩ hMlt).trans y2, (World.cell?_alloc_lt W6 o ⟨M, 3, none⟩ hMlt).trans y3, (World.cell?_alloc_lt W6 o ⟨M, 4, none⟩ hMlt).trans y4, (World.cell?_alloc_lt W6 o ⟨M, 5, none⟩ hMlt).trans y5, (World.cell?_alloc_lt W6 o ⟨M, 6, none⟩ hMlt).trans y6⟩
      have HTOK : Hid (ndCell { kind := 3, field := t.data.toList, op := x, form := 1, lo := 0, hi := 0, len := 0, pat := (⟨#[]⟩ : ByteArray).data.toList } = [.int .i64 3, .string t, .int .i64 x, .int .i64 1, .int .i64 0, .int .i64 0, .int .i64 0, .string ⟨#[]⟩]) := by
        show _ = _
        unfold ndCell
        simp only [ba_eta]
      have R1 := Lib.hid r1
      have R2 := Lib.hid r2
      have R3 := Lib.hid r3
      have R4 := Lib.hid r4
      have HS1 := Lib.hid hS1
      have HNE := Lib.hid hne
      have HNM := Lib.hid hneM
      clear r1 r2 r3 r4 rb y0 y1 y2 y3 y4 y5 y6 d3 g3 hS1 hne hneM
      (try go_wp2_with fail)
      refine wp_region_K 11 (fun w' => w'.cell? ⟨N, 3, none⟩ = some tv ∧ w'.cell? ⟨M, 0, none⟩ = some (.string t) ∧ w'.cell? ⟨M, 1, none⟩ = some (.int .i64 x) ∧ w'.cell? ⟨M, 2, none⟩ = some (.int .i64 1) ∧ w'.cell? ⟨M, 3, none⟩ = some (.int .i64 0) ∧ w'.cell? ⟨M, 4, none⟩ = some (.int .i64 0) ∧ w'.cell? ⟨M, 5, none⟩ = some (.int .i64 0) ∧ w'.cell? ⟨M, 6, none⟩ = some (.string ⟨#[]⟩)) (by kernel_rfl) (fun hcl => ?_)
      have hS : (fun w' : World => w'.cell? ⟨N, 3, none⟩ = some tv ∧ w'.cell? ⟨M, 0, none⟩ = some (.string t) ∧ w'.cell? ⟨M, 1, none⟩ = some (.int .i64 x) ∧ w'.cell? ⟨M, 2, none⟩ = some (.int .i64 1) ∧ w'.cell? ⟨M, 3, none⟩ = some (.int .i64 0) ∧ w'.cell? ⟨M, 4, none⟩ = some (.int .i64 0) ∧ w'.cell? ⟨M, 5, none⟩ = some (.int .i64 0) ∧ w'.cell? ⟨M, 6, none⟩ = some (.string ⟨#[]⟩)) W6.drew := HS1.out
      refine wpAnyK_take (i := 0) (v := ?_) hcl hS rfl (by kernel_rfl) (fun _ _ _ h => h) (by rfl) ?_ (fun hcl2 => ?_)
      rotate_left
      · (intro w hSw; (try dsimp only at hSw); first | (go_simp; done) | (go_simp; with_reducible rfl))
      (try simp only [Act.put, List.setIfInBounds_toArray, List.set_cons_zero, List.set_cons_succ])
      clear hcl; have hcl := hcl2; clear hcl2
      refine wpAnyK_take (i := 1) (v := ?_) hcl hS rfl (by kernel_rfl) (fun _ _ _ h => h) (by rfl) ?_ (fun hcl2 => ?_)
      rotate_left
      · (intro w hSw; (try dsimp only at hSw); first | (go_simp; done) | (go_simp; with_reducible rfl))
      (try simp only [Act.put, List.setIfInBounds_toArray, List.set_cons_zero, List.set_cons_succ])
      clear hcl; have hcl := hcl2; clear hcl2
      refine wpAnyK_take (i := 2) (v := ?_) hcl hS rfl (by kernel_rfl) (fun _ _ _ h => h) (by rfl) ?_ (fun hcl2 => ?_)
      rotate_left
      · (intro w hSw; (try dsimp only at hSw); first | (go_simp; done) | (go_simp; with_reducible rfl))
      (try simp only [Act.put, List.setIfInBounds_toArray, List.set_cons_zero, List.set_cons_succ])
      clear hcl; have hcl := hcl2; clear hcl2
      refine wpAnyK_take (i := 3) (v := ?_) hcl hS rfl (by kernel_rfl) (fun _ _ _ h => h) (by rfl) ?_ (fun hcl2 => ?_)
      rotate_left
      · (intro w hSw; (try dsimp only at hSw); first | (go_simp; done) | (go_simp; with_reducible rfl))
      (try simp only [Act.put, List.setIfInBounds_toArray, List.set_cons_zero, List.set_cons_succ])
      clear hcl; have hcl := hcl2; clear hcl2
      refine wpAnyK_take (i := 4) (v := ?_) hcl hS rfl (by kernel_rfl) (fun _ _ _ h => h) (by rfl) ?_ (fun hcl2 => ?_)
      rotate_left
      · (intro w hSw; (try dsimp only at hSw); first | (go_simp; done) | (go_simp; with_reducible rfl))
      (try simp only [Act.put, List.setIfInBounds_toArray, List.set_cons_zero, List.set_cons_succ])
      clear hcl; have hcl := hcl2; clear hcl2
      refine wpAnyK_take (i := 5) (v := ?_) hcl hS rfl (by kernel_rfl) (fun _ _ _ h => h) (by rfl) ?_ (fun hcl2 => ?_)
      rotate_left
      · (intro w hSw; (try dsimp only at hSw); first | (go_simp; done) | (go_simp; with_reducible rfl))
      (try simp only [Act.put, List.setIfInBounds_toArray, List.set_cons_zero, List.set_cons_succ])
      clear hcl; have hcl := hcl2; clear hcl2
      refine wpAnyK_take (i := 6) (v := ?_) hcl hS rfl (by kernel_rfl) (fun _ _ _ h => h) (by rfl) ?_ (fun hcl2 => ?_)
      rotate_left
      · (intro w hSw; (try dsimp only at hSw); first | (go_simp; done) | (go_simp; with_reducible rfl))
      (try simp only [Act.put, List.setIfInBounds_toArray, List.set_cons_zero, List.set_cons_succ])
      clear hcl; have hcl := hcl2; clear hcl2
      refine wpAnyK_one (i := 7) hcl (by kernel_rfl) rfl (by rfl) (fun K hK => ?_)
      go_simp
      refine hK.out _ _ (Or.inr (HCA.out _)) (fun hcl2 => ?_)
      clear hK K hcl hS
      have hcl := hcl2
      clear hcl2
      refine wpAnyK_one (i := 8) hcl (by kernel_rfl) rfl (by rfl) (fun K hK => ?_)
      refine wp_nd _ _ (by rfl) (N + 1) tv ns (by rfl) ((R3.out.alloc _).drew) ⟨W6.heap.size, 0, none⟩ 1 { kind := 3, field := t.data.toList, op := x, form := 1, lo := 0, hi := 0, len := 0, pat := (⟨#[]⟩ : ByteArray).data.toList } (by rfl) (by rw [HTOK.out]; exact World.news_of_block (cs := #[.int .i64 3, .string t, .int .i64 x, .int .i64 1, .int .i64 0, .int .i64 0, .int .i64 0, .string ⟨#[]⟩]) (t := 56) (fr := (0, 0)) (heap_alloc_new W6 _)) (by omega) (by simp; omega) (W6.heap.size + 1) (by simp) ?_
      intro gg cp w1 hown1 hgrow hat hlt
      have f3' : w1.frozen? ⟨N, 3, none⟩ = false := (hgrow.frozen_far ⟨N, 3, none⟩ (by simp; omega) (Ne.symm HNE.out)).trans (HFA.out _)
      have far : ∀ j, w1.cell? ⟨M, j, none⟩ = _ := fun j => hgrow.cell_far ⟨M, j, none⟩ (by simp; omega) (Ne.symm HNM.out)
      have hS1 : w1.cell? ⟨N, 3, none⟩ = some tv ∧ w1.cell? ⟨M, 0, none⟩ = some (.string t) ∧ w1.cell? ⟨M, 1, none⟩ = some (.int .i64 x) ∧ w1.cell? ⟨M, 2, none⟩ = some (.int .i64 1) ∧ w1.cell? ⟨M, 3, none⟩ = some (.int .i64 0) ∧ w1.cell? ⟨M, 4, none⟩ = some (.int .i64 0) ∧ w1.cell? ⟨M, 5, none⟩ = some (.int .i64 0) ∧ w1.cell? ⟨M, 6, none⟩ = some (.string ⟨#[]⟩) :=
        ⟨(hgrow.cell_far ⟨N, 3, none⟩ (by simp; omega) (Ne.symm HNE.out)).trans (HCA.out _).1, (far 0).trans (HCA.out _).2.1, (far 1).trans (HCA.out _).2.2.1, (far 2).trans (HCA.out _).2.2.2.1, (far 3).trans (HCA.out _).2.2.2.2.1, (far 4).trans (HCA.out _).2.2.2.2.2.1, (far 5).trans (HCA.out _).2.2.2.2.2.2.1, (far 6).trans (HCA.out _).2.2.2.2.2.2.2⟩
      have c3' := hS1.1
      refine hK.out _ _ (Or.inr hS1) (fun hcl2 => ?_)
      clear hK K hcl far
      have hcl := hcl2
      clear hcl2
      have hS : (fun w' : World => w'.cell? ⟨N, 3, none⟩ = some tv ∧ w'.cell? ⟨M, 0, none⟩ = some (.string t) ∧ w'.cell? ⟨M, 1, none⟩ = some (.int .i64 x) ∧ w'.cell? ⟨M, 2, none⟩ = some (.int .i64 1) ∧ w'.cell? ⟨M, 3, none⟩ = some (.int .i64 0) ∧ w'.cell? ⟨M, 4, none⟩ = some (.int .i64 0) ∧ w'.cell? ⟨M, 5, none⟩ = some (.int .i64 0) ∧ w'.cell? ⟨M, 6, none⟩ = some (.string ⟨#[]⟩)) w1 := hS1
      (try simp only [Act.put, List.setIfInBounds_toArray, List.set_cons_zero, List.set_cons_succ])
      refine wpAnyK_take (i := 9) (v := ?_) hcl hS rfl (by kernel_rfl) (fun _ _ _ h => h) (by rfl) ?_ (fun hcl2 => ?_)
      rotate_left
      · (intro w hSw; (try dsimp only at hSw); first | (go_simp; done) | (go_simp; with_reducible rfl))
      (try simp only [Act.put, List.setIfInBounds_toArray, List.set_cons_zero, List.set_cons_succ])
      clear hcl; have hcl := hcl2; clear hcl2
      refine wpAnyK_take (i := 10) (v := ?_) hcl hS rfl (by kernel_rfl) (fun _ _ _ h => h) (by rfl) ?_ (fun hcl2 => ?_)
      rotate_left
      · (intro w hSw; (try dsimp only at hSw); first | (go_simp; done) | (go_simp; with_reducible rfl))
      (try simp only [Act.put, List.setIfInBounds_toArray, List.set_cons_zero, List.set_cons_succ])
      clear hcl; have hcl := hcl2; clear hcl2
      clear hS1
      refine wpAnyK_one (i := 11) hcl (by kernel_rfl) rfl (by rfl) (fun K hK => ?_)
      go_simp
      refine hK.out _ _ (Or.inl (by kernel_rfl)) (fun hcl2 => ?_)
      clear hK K hcl hcl2 hS
      refine wpAnyK_done (by kernel_rfl) ?_ _
      have hfin := FSt.putN (w := (W6.alloc (.cells #[.int .i64 3, .string t, .int .i64 x, .int .i64 1, .int .i64 0, .int .i64 0, .int .i64 0, .string ⟨#[]⟩] 56)).drew) ((R1.out.alloc _).drewN 1) (World.ownsRow.alloc R2.out _) (World.ownsRow.alloc R3.out _) ((R4.out.alloc (by omega) _).drew) hown1 hgrow
      have HFIN := Lib.hid hfin
      clear hfin hown1 hgrow hat hlt c3' f3'
      go_wp2_with fail
      first | go_end0 | ((try simp only [Exit.inBlock, Exit.then]); refine bodyPost_ret (results_none rfl _ _ _) rfl ?_)
      exact FTEnd_bad HRR.out HFIN.out
    | some v =>
      obtain ⟨vi, hvi⟩ : ∃ vi : Int, (v : Int) = vi := ⟨_, rfl⟩
      have HV1 := Lib.hid (fun W (h : FTs W0 N (some ⟨G, O, none⟩) n cap P2 st ns m 0 M (tcr t x 1 0 0 0 ⟨#[]⟩) W) => h.val_some HN.out hnb HV.out HTS.out hva hvi (show P2 + 1 = P3 from HP3.out))
      have HRR : Hid (R = .ok P3 { kind := 3, field := t.data.toList, op := x, form := 1, lo := vi }) := by show _ = _; rw [HRV2.out, if_neg (fun h => hwh h.1), hva]; simp only []; rw [if_neg (fun h => hwh h.1), if_neg (fun h => hwh h.1), hvi]
      clear hva hwh hx hol hvi
      go_wp2_with fail
      go_quiet (fail)
      go_wp2_with fail
      refine (HV1.out _ ((HQ4.out.drewN _).set_ 2 _)).mono ?_
      rintro e w5 ⟨rfl, h5⟩
      clear c0 c1 f1 c5 m1 m2 m6 fm2 fm6
      have HQ5 : Hid (FTs W0 N (some ⟨G, O, none⟩) n cap P3 st ns m 0 M (tcr t x 1 0 0 0 ⟨#[]⟩) w5) := h5
      clear h5
      obtain ⟨_, _, _, m3, _, _, _, fm, _⟩ := HQ5.out.mcells
      have fm3 := fm 3
      clear fm
      go_upto_region 15 with (fail)
      obtain ⟨W6, hW6⟩ : ∃ W6, w5.setCell ⟨M, 3, none⟩ (.int .i64 vi) = W6 := ⟨_, rfl⟩
      have hq6 : FTs W0 N (some ⟨G, O, none⟩) n cap P3 st ns m 0 M (tcr t x 1 vi 0 0 ⟨#[]⟩) W6 := by rw [← hW6]; exact HQ5.out.set_ 3 _
      rw [hW6]
      clear hW6 m3 fm3
      have HQ6 := Lib.hid hq6
      clear hq6
      obtain ⟨_, m1, m2, _, _, _, _, fm, _⟩ := HQ6.out.mcells
      have fm2 := fm 2
      obtain ⟨_, c1, f1, _, _, c5, _⟩ := HQ6.out.1.cells
      clear fm
      go_upto_region 23 with (fail)
      clear c1 f1 c5 m1 m2 fm2
      have HQ := HQ6
      obtain ⟨⟨ov, tv, r1, r2, r3, r4⟩, rb, rNM⟩ := HQ.out
      obtain ⟨y0, y1, y2, y3, y4, y5, y6, _, hMlt⟩ := HQ.out.mcells
      have d3 : W6.cell? ⟨N, 3, none⟩ = some tv := r1.cell 3
      have g3 := r1.frozen 3
      have hNlt := r1.lt
      have hne := nds_ne r3
      have hneM : tv.ownBlock ≠ some M := kind_ne r3 rb (by decide)
      have hS1 : W6.cell? ⟨N, 3, none⟩ = some tv ∧ W6.cell? ⟨M, 0, none⟩ = some (.string t) ∧ W6.cell? ⟨M, 1, none⟩ = some (.int .i64 x) ∧ W6.cell? ⟨M, 2, none⟩ = some (.int .i64 1) ∧ W6.cell? ⟨M, 3, none⟩ = some (.int .i64 vi) ∧ W6.cell? ⟨M, 4, none⟩ = some (.int .i64 0) ∧ W6.cell? ⟨M, 5, none⟩ = some (.int .i64 0) ∧ W6.cell? ⟨M, 6, none⟩ = some (.string ⟨#[]⟩) := ⟨d3, y0, y1, y2, y3, y4, y5, y6⟩
      have HFA : Hid (∀ o, (W6.alloc o).frozen? ⟨N, 3, none⟩ = false) := fun o => (World.frozen?_alloc_past _ _ _ hNlt).trans g3
      have HCA : Hid (∀ o, (W6.alloc o).cell? ⟨N, 3, none⟩ = some tv ∧ (W6.alloc o).cell? ⟨M, 0, none⟩ = some (.string t) ∧ (W6.alloc o).cell? ⟨M, 1, none⟩ = some (.int .i64 x) ∧ (W6.alloc o).cell? ⟨M, 2, none⟩ = some (.int .i64 1) ∧ (W6.alloc o).cell? ⟨M, 3, none⟩ = some (.int .i64 vi) ∧ (W6.alloc o).cell? ⟨M, 4, none⟩ = some (.int .i64 0) ∧ (W6.alloc o).cell? ⟨M, 5, none⟩ = some (.int .i64 0) ∧ (W6.alloc o).cell? ⟨M, 6, none⟩ = some (.string ⟨#[]⟩)) := fun o =>
        ⟨(World.cell?_alloc_lt W6 o ⟨N, 3, none⟩ hNlt).trans d3, (World.cell?_alloc_lt W6 o ⟨M, 0, none⟩ hMlt).trans y0, (World.cell?_alloc_lt W6 o ⟨M, 1, none⟩ hMlt).trans y1, (World.cell?_alloc_lt W6 o ⟨M, 2, none⟩ hMlt).trans y2, (World.cell?_alloc_lt W6 o ⟨M, 3, none⟩ hMlt).trans y3, (World.cell?_alloc_lt W6 o ⟨M, 4, none⟩ hMlt).trans y4, (World.cell?_alloc_lt W6 o ⟨M, 5, none⟩ hMlt).trans y5, (World.cell?_alloc_lt W6 o ⟨M, 6, none⟩ hMlt).trans y6⟩
      have HTOK : Hid (ndCell { kind := 3, field := t.data.toList, op := x, form := 1, lo := vi, hi := 0, len := 0, pat := (⟨#[]⟩ : ByteArray).data.toList } = [.int .i64 3, .string t, .int .i64 x, .int .i64 1, .int .i64 vi, .int .i64 0, .int .i64 0, .string ⟨#[]⟩]) := by
        show _ = _
        unfold ndCell
        simp only [ba_eta]
      have R1 := Lib.hid r1
      have R2 := Lib.hid r2
      have R3 := Lib.hid r3
      have R4 := Lib.hid r4
      have HS1 := Lib.hid hS1
      have HNE := Lib.hid hne
      have HNM := Lib.hid hneM
      clear r1 r2 r3 r4 rb y0 y1 y2 y3 y4 y5 y6 d3 g3 hS1 hne hneM
      (try go_wp2_with fail)
      refine wp_region_K 11 (fun w' => w'.cell? ⟨N, 3, none⟩ = some tv ∧ w'.cell? ⟨M, 0, none⟩ = some (.string t) ∧ w'.cell? ⟨M, 1, none⟩ = some (.int .i64 x) ∧ w'.cell? ⟨M, 2, none⟩ = some (.int .i64 1) ∧ w'.cell? ⟨M, 3, none⟩ = some (.int .i64 vi) ∧ w'.cell? ⟨M, 4, none⟩ = some (.int .i64 0) ∧ w'.cell? ⟨M, 5, none⟩ = some (.int .i64 0) ∧ w'.cell? ⟨M, 6, none⟩ = some (.string ⟨#[]⟩)) (by kernel_rfl) (fun hcl => ?_)
      have hS : (fun w' : World => w'.cell? ⟨N, 3, none⟩ = some tv ∧ w'.cell? ⟨M, 0, none⟩ = some (.string t) ∧ w'.cell? ⟨M, 1, none⟩ = some (.int .i64 x) ∧ w'.cell? ⟨M, 2, none⟩ = some (.int .i64 1) ∧ w'.cell? ⟨M, 3, none⟩ = some (.int .i64 vi) ∧ w'.cell? ⟨M, 4, none⟩ = some (.int .i64 0) ∧ w'.cell? ⟨M, 5, none⟩ = some (.int .i64 0) ∧ w'.cell? ⟨M, 6, none⟩ = some (.string ⟨#[]⟩)) W6.drew := HS1.out
      refine wpAnyK_take (i := 0) (v := ?_) hcl hS rfl (by kernel_rfl) (fun _ _ _ h => h) (by rfl) ?_ (fun hcl2 => ?_)
      rotate_left
      · (intro w hSw; (try dsimp only at hSw); first | (go_simp; done) | (go_simp; with_reducible rfl))
      (try simp only [Act.put, List.setIfInBounds_toArray, List.set_cons_zero, List.set_cons_succ])
      clear hcl; have hcl := hcl2; clear hcl2
      refine wpAnyK_take (i := 1) (v := ?_) hcl hS rfl (by kernel_rfl) (fun _ _ _ h => h) (by rfl) ?_ (fun hcl2 => ?_)
      rotate_left
      · (intro w hSw; (try dsimp only at hSw); first | (go_simp; done) | (go_simp; with_reducible rfl))
      (try simp only [Act.put, List.setIfInBounds_toArray, List.set_cons_zero, List.set_cons_succ])
      clear hcl; have hcl := hcl2; clear hcl2
      refine wpAnyK_take (i := 2) (v := ?_) hcl hS rfl (by kernel_rfl) (fun _ _ _ h => h) (by rfl) ?_ (fun hcl2 => ?_)
      rotate_left
      · (intro w hSw; (try dsimp only at hSw); first | (go_simp; done) | (go_simp; with_reducible rfl))
      (try simp only [Act.put, List.setIfInBounds_toArray, List.set_cons_zero, List.set_cons_succ])
      clear hcl; have hcl := hcl2; clear hcl2
      refine wpAnyK_take (i := 3) (v := ?_) hcl hS rfl (by kernel_rfl) (fun _ _ _ h => h) (by rfl) ?_ (fun hcl2 => ?_)
      rotate_left
      · (intro w hSw; (try dsimp only at hSw); first | (go_simp; done) | (go_simp; with_reducible rfl))
      (try simp only [Act.put, List.setIfInBounds_toArray, List.set_cons_zero, List.set_cons_succ])
      clear hcl; have hcl := hcl2; clear hcl2
      refine wpAnyK_take (i := 4) (v := ?_) hcl hS rfl (by kernel_rfl) (fun _ _ _ h => h) (by rfl) ?_ (fun hcl2 => ?_)
      rotate_left
      · (intro w hSw; (try dsimp only at hSw); first | (go_simp; done) | (go_simp; with_reducible rfl))
      (try simp only [Act.put, List.setIfInBounds_toArray, List.set_cons_zero, List.set_cons_succ])
      clear hcl; have hcl := hcl2; clear hcl2
      refine wpAnyK_take (i := 5) (v := ?_) hcl hS rfl (by kernel_rfl) (fun _ _ _ h => h) (by rfl) ?_ (fun hcl2 => ?_)
      rotate_left
      · (intro w hSw; (try dsimp only at hSw); first | (go_simp; done) | (go_simp; with_reducible rfl))
      (try simp only [Act.put, List.setIfInBounds_toArray, List.set_cons_zero, List.set_cons_succ])
      clear hcl; have hcl := hcl2; clear hcl2
      refine wpAnyK_take (i := 6) (v := ?_) hcl hS rfl (by kernel_rfl) (fun _ _ _ h => h) (by rfl) ?_ (fun hcl2 => ?_)
      rotate_left
      · (intro w hSw; (try dsimp only at hSw); first | (go_simp; done) | (go_simp; with_reducible rfl))
      (try simp only [Act.put, List.setIfInBounds_toArray, List.set_cons_zero, List.set_cons_succ])
      clear hcl; have hcl := hcl2; clear hcl2
      refine wpAnyK_one (i := 7) hcl (by kernel_rfl) rfl (by rfl) (fun K hK => ?_)
      go_simp
      refine hK.out _ _ (Or.inr (HCA.out _)) (fun hcl2 => ?_)
      clear hK K hcl hS
      have hcl := hcl2
      clear hcl2
      refine wpAnyK_one (i := 8) hcl (by kernel_rfl) rfl (by rfl) (fun K hK => ?_)
      refine wp_nd _ _ (by rfl) (N + 1) tv ns (by rfl) ((R3.out.alloc _).drew) ⟨W6.heap.size, 0, none⟩ 1 { kind := 3, field := t.data.toList, op := x, form := 1, lo := vi, hi := 0, len := 0, pat := (⟨#[]⟩ : ByteArray).data.toList } (by rfl) (by rw [HTOK.out]; exact World.news_of_block (cs := #[.int .i64 3, .string t, .int .i64 x, .int .i64 1, .int .i64 vi, .int .i64 0, .int .i64 0, .string ⟨#[]⟩]) (t := 56) (fr := (0, 0)) (heap_alloc_new W6 _)) (by omega) (by simp; omega) (W6.heap.size + 1) (by simp) ?_
      intro gg cp w1 hown1 hgrow hat hlt
      have f3' : w1.frozen? ⟨N, 3, none⟩ = false := (hgrow.frozen_far ⟨N, 3, none⟩ (by simp; omega) (Ne.symm HNE.out)).trans (HFA.out _)
      have far : ∀ j, w1.cell? ⟨M, j, none⟩ = _ := fun j => hgrow.cell_far ⟨M, j, none⟩ (by simp; omega) (Ne.symm HNM.out)
      have hS1 : w1.cell? ⟨N, 3, none⟩ = some tv ∧ w1.cell? ⟨M, 0, none⟩ = some (.string t) ∧ w1.cell? ⟨M, 1, none⟩ = some (.int .i64 x) ∧ w1.cell? ⟨M, 2, none⟩ = some (.int .i64 1) ∧ w1.cell? ⟨M, 3, none⟩ = some (.int .i64 vi) ∧ w1.cell? ⟨M, 4, none⟩ = some (.int .i64 0) ∧ w1.cell? ⟨M, 5, none⟩ = some (.int .i64 0) ∧ w1.cell? ⟨M, 6, none⟩ = some (.string ⟨#[]⟩) :=
        ⟨(hgrow.cell_far ⟨N, 3, none⟩ (by simp; omega) (Ne.symm HNE.out)).trans (HCA.out _).1, (far 0).trans (HCA.out _).2.1, (far 1).trans (HCA.out _).2.2.1, (far 2).trans (HCA.out _).2.2.2.1, (far 3).trans (HCA.out _).2.2.2.2.1, (far 4).trans (HCA.out _).2.2.2.2.2.1, (far 5).trans (HCA.out _).2.2.2.2.2.2.1, (far 6).trans (HCA.out _).2.2.2.2.2.2.2⟩
      have c3' := hS1.1
      refine hK.out _ _ (Or.inr hS1) (fun hcl2 => ?_)
      clear hK K hcl far
      have hcl := hcl2
      clear hcl2
      have hS : (fun w' : World => w'.cell? ⟨N, 3, none⟩ = some tv ∧ w'.cell? ⟨M, 0, none⟩ = some (.string t) ∧ w'.cell? ⟨M, 1, none⟩ = some (.int .i64 x) ∧ w'.cell? ⟨M, 2, none⟩ = some (.int .i64 1) ∧ w'.cell? ⟨M, 3, none⟩ = some (.int .i64 vi) ∧ w'.cell? ⟨M, 4, none⟩ = some (.int .i64 0) ∧ w'.cell? ⟨M, 5, none⟩ = some (.int .i64 0) ∧ w'.cell? ⟨M, 6, none⟩ = some (.string ⟨#[]⟩)) w1 := hS1
      (try simp only [Act.put, List.setIfInBounds_toArray, List.set_cons_zero, List.set_cons_succ])
      refine wpAnyK_take (i := 9) (v := ?_) hcl hS rfl (by kernel_rfl) (fun _ _ _ h => h) (by rfl) ?_ (fun hcl2 => ?_)
      rotate_left
      · (intro w hSw; (try dsimp only at hSw); first | (go_simp; done) | (go_simp; with_reducible rfl))
      (try simp only [Act.put, List.setIfInBounds_toArray, List.set_cons_zero, List.set_cons_succ])
      clear hcl; have hcl := hcl2; clear hcl2
      refine wpAnyK_take (i := 10) (v := ?_) hcl hS rfl (by kernel_rfl) (fun _ _ _ h => h) (by rfl) ?_ (fun hcl2 => ?_)
      rotate_left
      · (intro w hSw; (try dsimp only at hSw); first | (go_simp; done) | (go_simp; with_reducible rfl))
      (try simp only [Act.put, List.setIfInBounds_toArray, List.set_cons_zero, List.set_cons_succ])
      clear hcl; have hcl := hcl2; clear hcl2
      clear hS1
      refine wpAnyK_one (i := 11) hcl (by kernel_rfl) rfl (by rfl) (fun K hK => ?_)
      go_simp
      refine hK.out _ _ (Or.inl (by kernel_rfl)) (fun hcl2 => ?_)
      clear hK K hcl hcl2 hS
      refine wpAnyK_done (by kernel_rfl) ?_ _
      have hfin := FSt.putN (w := (W6.alloc (.cells #[.int .i64 3, .string t, .int .i64 x, .int .i64 1, .int .i64 vi, .int .i64 0, .int .i64 0, .string ⟨#[]⟩] 56)).drew) ((R1.out.alloc _).drewN 1) (World.ownsRow.alloc R2.out _) (World.ownsRow.alloc R3.out _) ((R4.out.alloc (by omega) _).drew) hown1 hgrow
      have HFIN := Lib.hid hfin
      clear hfin hown1 hgrow hat hlt c3' f3'
      go_wp2_with fail
      first | go_end0 | ((try simp only [Exit.inBlock, Exit.then]); refine bodyPost_ret (results_none rfl _ _ _) rfl ?_)
      exact FTEnd_ok HRR.out HFIN.out
  have e1 : decide (x ≤ 2) = true := decide_eq_true (by omega)
  by_cases hk5 : Sp.kdAt (zs.map ptZ) P2 = 5
  rotate_left
  · skip
    have HG6 : Hid (decide (P2 < n) = false ∨ (decide (P2 < n) = true ∧ ∃ k2 t2, decide ((P2 : Int) < n) = true ∧ (P2 : Int) < n ∧ W4.cell? ⟨G, O + P2 * 4, none⟩ = some (.int .i64 k2) ∧ ((k2 : Int) == 5) = false ∧ W4.cell? ⟨G, O + P2 * 4 + 1, none⟩ = some (.string t2))) := by
      by_cases hlt : P2 < n
      · right
        obtain ⟨z, hz⟩ : ∃ z, zs[P2]? = some z := ⟨_, List.getElem?_eq_getElem (by rw [HN.out]; exact hlt)⟩
        obtain ⟨hk1, hk2⟩ := kd_some hz
        obtain ⟨g0, o0, hA, _, b0, b1, _, _⟩ := HV.out.below HQ4.out.1.bel (Nat.le_refl _) P2 z hz
        injection hA with hA
        injection hA with e1 e2 _
        subst e1 e2
        exact ⟨decide_eq_true hlt, z.1, z.2.1, decide_eq_true (by omega), by omega, b0, beq_eq_false_iff_ne.2 (by rw [← hk1]; exact hk5), b1⟩
      · exact Or.inl (decide_eq_false hlt)
    cases hva : Sp.numAt (zs.map ptZ) P2 with
    | none =>
      rcases HG6.out with q1b | ⟨q1b, k2, t2, q1, p2l, b0, q2, b1⟩
      · have q1 : decide ((P2 : Int) < n) = false := decide_eq_false (by have := of_decide_eq_false q1b; omega)
        have HV1 := Lib.hid (fun W (h : FTs W0 N (some ⟨G, O, none⟩) n cap P2 st ns m 0 M (tcr t x 1 0 0 0 ⟨#[]⟩) W) => h.val_none HN.out hnb HV.out HTS.out hva)
        have HRR : Hid (R = .bad P2) := by show _ = _; rw [HRV2.out, if_neg (fun h => hk5 h.2), hva]
        clear hva hwh hx hol hk5
        go_wp2_with fail
        go_quiet (fail)
        clear q1b q1
        go_wp2_with fail
        refine (HV1.out _ ((HQ4.out.drewN _).set_ 2 _)).mono ?_
        rintro e w5 ⟨rfl, h5⟩
        clear c0 c1 f1 c5 m1 m2 m6 fm2 fm6
        have HQ5 : Hid (FTs W0 N (some ⟨G, O, none⟩) n cap P2 st ns m 50 M (tcr t x 1 0 0 0 ⟨#[]⟩) w5) := h5
        clear h5
        obtain ⟨_, _, _, m3, _, _, _, fm, _⟩ := HQ5.out.mcells
        have fm3 := fm 3
        clear fm
        go_upto_region 15 with (fail)
        obtain ⟨W6, hW6⟩ : ∃ W6, w5.setCell ⟨M, 3, none⟩ (.int .i64 0) = W6 := ⟨_, rfl⟩
        have hq6 : FTs W0 N (some ⟨G, O, none⟩) n cap P2 st ns m 50 M (tcr t x 1 0 0 0 ⟨#[]⟩) W6 := by rw [← hW6]; exact HQ5.out.set_ 3 _
        rw [hW6]
        clear hW6 m3 fm3
        have HQ6 := Lib.hid hq6
        clear hq6
        obtain ⟨_, m1, m2, _, _, _, _, fm, _⟩ := HQ6.out.mcells
        have fm2 := fm 2
        obtain ⟨_, c1, f1, _, _, c5, _⟩ := HQ6.out.1.cells
        clear fm
        go_upto_region 23 with (fail)
        clear c1 f1 c5 m1 m2 fm2
        have HQ := HQ6
        obtain ⟨⟨ov, tv, r1, r2, r3, r4⟩, rb, rNM⟩ := HQ.out
        obtain ⟨y0, y1, y2, y3, y4, y5, y6, _, hMlt⟩ := HQ.out.mcells
        have d3 : W6.cell? ⟨N, 3, none⟩ = some tv := r1.cell 3
        have g3 := r1.frozen 3
        have hNlt := r1.lt
        have hne := nds_ne r3
        have hneM : tv.ownBlock ≠ some M := kind_ne r3 rb (by decide)
        have hS1 : W6.cell? ⟨N, 3, none⟩ = some tv ∧ W6.cell? ⟨M, 0, none⟩ = some (.string t) ∧ W6.cell? ⟨M, 1, none⟩ = some (.int .i64 x) ∧ W6.cell? ⟨M, 2, none⟩ = some (.int .i64 1) ∧ W6.cell? ⟨M, 3, none⟩ = some (.int .i64 0) ∧ W6.cell? ⟨M, 4, none⟩ = some (.int .i64 0) ∧ W6.cell? ⟨M, 5, none⟩ = some (.int .i64 0) ∧ W6.cell? ⟨M, 6, none⟩ = some (.string ⟨#[]⟩) := ⟨d3, y0, y1, y2, y3, y4, y5, y6⟩
        have HFA : Hid (∀ o, (W6.alloc o).frozen? ⟨N, 3, none⟩ = false) := fun o => (World.frozen?_alloc_past _ _ _ hNlt).trans g3
        have HCA : Hid (∀ o, (W6.alloc o).cell? ⟨N, 3, none⟩ = some tv ∧ (W6.alloc o).cell? ⟨M, 0, none⟩ = some (.string t) ∧ (W6.alloc o).cell? ⟨M, 1, none⟩ = some (.int .i64 x) ∧ (W6.alloc o).cell? ⟨M, 2, none⟩ = some (.int .i64 1) ∧ (W6.alloc o).cell? ⟨M, 3, none⟩ = some (.int .i64 0) ∧ (W6.alloc o).cell? ⟨M, 4, none⟩ = some (.int .i64 0) ∧ (W6.alloc o).cell? ⟨M, 5, none⟩ = some (.int .i64 0) ∧ (W6.alloc o).cell? ⟨M, 6, none⟩ = some (.string ⟨#[]⟩)) := fun o =>
          ⟨(World.cell?_alloc_lt W6 o ⟨N, 3, none⟩ hNlt).trans d3, (World.cell?_alloc_lt W6 o ⟨M, 0, none⟩ hMlt).trans y0, (World.cell?_alloc_lt W6 o ⟨M, 1, none⟩ hMlt).trans y1, (World.cell?_alloc_lt W6 o ⟨M, 2, none⟩ hMlt).trans y2, (World.cell?_alloc_lt W6 o ⟨M, 3, none⟩ hMlt).trans y3, (World.cell?_alloc_lt W6 o ⟨M, 4, none⟩ hMlt).trans y4, (World.cell?_alloc_lt W6 o ⟨M, 5, none⟩ hMlt).trans y5, (World.cell?_alloc_lt W6 o ⟨M, 6, none⟩ hMlt).trans y6⟩
        have HTOK : Hid (ndCell { kind := 3, field := t.data.toList, op := x, form := 1, lo := 0, hi := 0, len := 0, pat := (⟨#[]⟩ : ByteArray).data.toList } = [.int .i64 3, .string t, .int .i64 x, .int .i64 1, .int .i64 0, .int .i64 0, .int .i64 0, .string ⟨#[]⟩]) := by
          show _ = _
          unfold ndCell
          simp only [ba_eta]
        have R1 := Lib.hid r1
        have R2 := Lib.hid r2
        have R3 := Lib.hid r3
        have R4 := Lib.hid r4
        have HS1 := Lib.hid hS1
        have HNE := Lib.hid hne
        have HNM := Lib.hid hneM
        clear r1 r2 r3 r4 rb y0 y1 y2 y3 y4 y5 y6 d3 g3 hS1 hne hneM
        (try go_wp2_with fail)
        refine wp_region_K 11 (fun w' => w'.cell? ⟨N, 3, none⟩ = some tv ∧ w'.cell? ⟨M, 0, none⟩ = some (.string t) ∧ w'.cell? ⟨M, 1, none⟩ = some (.int .i64 x) ∧ w'.cell? ⟨M, 2, none⟩ = some (.int .i64 1) ∧ w'.cell? ⟨M, 3, none⟩ = some (.int .i64 0) ∧ w'.cell? ⟨M, 4, none⟩ = some (.int .i64 0) ∧ w'.cell? ⟨M, 5, none⟩ = some (.int .i64 0) ∧ w'.cell? ⟨M, 6, none⟩ = some (.string ⟨#[]⟩)) (by kernel_rfl) (fun hcl => ?_)
        have hS : (fun w' : World => w'.cell? ⟨N, 3, none⟩ = some tv ∧ w'.cell? ⟨M, 0, none⟩ = some (.string t) ∧ w'.cell? ⟨M, 1, none⟩ = some (.int .i64 x) ∧ w'.cell? ⟨M, 2, none⟩ = some (.int .i64 1) ∧ w'.cell? ⟨M, 3, none⟩ = some (.int .i64 0) ∧ w'.cell? ⟨M, 4, none⟩ = some (.int .i64 0) ∧ w'.cell? ⟨M, 5, none⟩ = some (.int .i64 0) ∧ w'.cell? ⟨M, 6, none⟩ = some (.string ⟨#[]⟩)) W6.drew := HS1.out
        refine wpAnyK_take (i := 0) (v := ?_) hcl hS rfl (by kernel_rfl) (fun _ _ _ h => h) (by rfl) ?_ (fun hcl2 => ?_)
        rotate_left
        · (intro w hSw; (try dsimp only at hSw); first | (go_simp; done) | (go_simp; with_reducible rfl))
        (try simp only [Act.put, List.setIfInBounds_toArray, List.set_cons_zero, List.set_cons_succ])
        clear hcl; have hcl := hcl2; clear hcl2
        refine wpAnyK_take (i := 1) (v := ?_) hcl hS rfl (by kernel_rfl) (fun _ _ _ h => h) (by rfl) ?_ (fun hcl2 => ?_)
        rotate_left
        · (intro w hSw; (try dsimp only at hSw); first | (go_simp; done) | (go_simp; with_reducible rfl))
        (try simp only [Act.put, List.setIfInBounds_toArray, List.set_cons_zero, List.set_cons_succ])
        clear hcl; have hcl := hcl2; clear hcl2
        refine wpAnyK_take (i := 2) (v := ?_) hcl hS rfl (by kernel_rfl) (fun _ _ _ h => h) (by rfl) ?_ (fun hcl2 => ?_)
        rotate_left
        · (intro w hSw; (try dsimp only at hSw); first | (go_simp; done) | (go_simp; with_reducible rfl))
        (try simp only [Act.put, List.setIfInBounds_toArray, List.set_cons_zero, List.set_cons_succ])
        clear hcl; have hcl := hcl2; clear hcl2
        refine wpAnyK_take (i := 3) (v := ?_) hcl hS rfl (by kernel_rfl) (fun _ _ _ h => h) (by rfl) ?_ (fun hcl2 => ?_)
        rotate_left
        · (intro w hSw; (try dsimp only at hSw); first | (go_simp; done) | (go_simp; with_reducible rfl))
        (try simp only [Act.put, List.setIfInBounds_toArray, List.set_cons_zero, List.set_cons_succ])
        clear hcl; have hcl := hcl2; clear hcl2
        refine wpAnyK_take (i := 4) (v := ?_) hcl hS rfl (by kernel_rfl) (fun _ _ _ h => h) (by rfl) ?_ (fun hcl2 => ?_)
        rotate_left
        · (intro w hSw; (try dsimp only at hSw); first | (go_simp; done) | (go_simp; with_reducible rfl))
        (try simp only [Act.put, List.setIfInBounds_toArray, List.set_cons_zero, List.set_cons_succ])
        clear hcl; have hcl := hcl2; clear hcl2
        refine wpAnyK_take (i := 5) (v := ?_) hcl hS rfl (by kernel_rfl) (fun _ _ _ h => h) (by rfl) ?_ (fun hcl2 => ?_)
        rotate_left
        · (intro w hSw; (try dsimp only at hSw); first | (go_simp; done) | (go_simp; with_reducible rfl))
        (try simp only [Act.put, List.setIfInBounds_toArray, List.set_cons_zero, List.set_cons_succ])
        clear hcl; have hcl := hcl2; clear hcl2
        refine wpAnyK_take (i := 6) (v := ?_) hcl hS rfl (by kernel_rfl) (fun _ _ _ h => h) (by rfl) ?_ (fun hcl2 => ?_)
        rotate_left
        · (intro w hSw; (try dsimp only at hSw); first | (go_simp; done) | (go_simp; with_reducible rfl))
        (try simp only [Act.put, List.setIfInBounds_toArray, List.set_cons_zero, List.set_cons_succ])
        clear hcl; have hcl := hcl2; clear hcl2
        refine wpAnyK_one (i := 7) hcl (by kernel_rfl) rfl (by rfl) (fun K hK => ?_)
        go_simp
        refine hK.out _ _ (Or.inr (HCA.out _)) (fun hcl2 => ?_)
        clear hK K hcl hS
        have hcl := hcl2
        clear hcl2
        refine wpAnyK_one (i := 8) hcl (by kernel_rfl) rfl (by rfl) (fun K hK => ?_)
        refine wp_nd _ _ (by rfl) (N + 1) tv ns (by rfl) ((R3.out.alloc _).drew) ⟨W6.heap.size, 0, none⟩ 1 { kind := 3, field := t.data.toList, op := x, form := 1, lo := 0, hi := 0, len := 0, pat := (⟨#[]⟩ : ByteArray).data.toList } (by rfl) (by rw [HTOK.out]; exact World.news_of_block (cs := #[.int .i64 3, .string t, .int .i64 x, .int .i64 1, .int .i64 0, .int .i64 0, .int .i64 0, .string ⟨#[]⟩]) (t := 56) (fr := (0, 0)) (heap_alloc_new W6 _)) (by omega) (by simp; omega) (W6.heap.size + 1) (by simp) ?_
        intro gg cp w1 hown1 hgrow hat hlt
        have f3' : w1.frozen? ⟨N, 3, none⟩ = false := (hgrow.frozen_far ⟨N, 3, none⟩ (by simp; omega) (Ne.symm HNE.out)).trans (HFA.out _)
        have far : ∀ j, w1.cell? ⟨M, j, none⟩ = _ := fun j => hgrow.cell_far ⟨M, j, none⟩ (by simp; omega) (Ne.symm HNM.out)
        have hS1 : w1.cell? ⟨N, 3, none⟩ = some tv ∧ w1.cell? ⟨M, 0, none⟩ = some (.string t) ∧ w1.cell? ⟨M, 1, none⟩ = some (.int .i64 x) ∧ w1.cell? ⟨M, 2, none⟩ = some (.int .i64 1) ∧ w1.cell? ⟨M, 3, none⟩ = some (.int .i64 0) ∧ w1.cell? ⟨M, 4, none⟩ = some (.int .i64 0) ∧ w1.cell? ⟨M, 5, none⟩ = some (.int .i64 0) ∧ w1.cell? ⟨M, 6, none⟩ = some (.string ⟨#[]⟩) :=
          ⟨(hgrow.cell_far ⟨N, 3, none⟩ (by simp; omega) (Ne.symm HNE.out)).trans (HCA.out _).1, (far 0).trans (HCA.out _).2.1, (far 1).trans (HCA.out _).2.2.1, (far 2).trans (HCA.out _).2.2.2.1, (far 3).trans (HCA.out _).2.2.2.2.1, (far 4).trans (HCA.out _).2.2.2.2.2.1, (far 5).trans (HCA.out _).2.2.2.2.2.2.1, (far 6).trans (HCA.out _).2.2.2.2.2.2.2⟩
        have c3' := hS1.1
        refine hK.out _ _ (Or.inr hS1) (fun hcl2 => ?_)
        clear hK K hcl far
        have hcl := hcl2
        clear hcl2
        have hS : (fun w' : World => w'.cell? ⟨N, 3, none⟩ = some tv ∧ w'.cell? ⟨M, 0, none⟩ = some (.string t) ∧ w'.cell? ⟨M, 1, none⟩ = some (.int .i64 x) ∧ w'.cell? ⟨M, 2, none⟩ = some (.int .i64 1) ∧ w'.cell? ⟨M, 3, none⟩ = some (.int .i64 0) ∧ w'.cell? ⟨M, 4, none⟩ = some (.int .i64 0) ∧ w'.cell? ⟨M, 5, none⟩ = some (.int .i64 0) ∧ w'.cell? ⟨M, 6, none⟩ = some (.string ⟨#[]⟩)) w1 := hS1
        (try simp only [Act.put, List.setIfInBounds_toArray, List.set_cons_zero, List.set_cons_succ])
        refine wpAnyK_take (i := 9) (v := ?_) hcl hS rfl (by kernel_rfl) (fun _ _ _ h => h) (by rfl) ?_ (fun hcl2 => ?_)
        rotate_left
        · (intro w hSw; (try dsimp only at hSw); first | (go_simp; done) | (go_simp; with_reducible rfl))
        (try simp only [Act.put, List.setIfInBounds_toArray, List.set_cons_zero, List.set_cons_succ])
        clear hcl; have hcl := hcl2; clear hcl2
        refine wpAnyK_take (i := 10) (v := ?_) hcl hS rfl (by kernel_rfl) (fun _ _ _ h => h) (by rfl) ?_ (fun hcl2 => ?_)
        rotate_left
        · (intro w hSw; (try dsimp only at hSw); first | (go_simp; done) | (go_simp; with_reducible rfl))
        (try simp only [Act.put, List.setIfInBounds_toArray, List.set_cons_zero, List.set_cons_succ])
        clear hcl; have hcl := hcl2; clear hcl2
        clear hS1
        refine wpAnyK_one (i := 11) hcl (by kernel_rfl) rfl (by rfl) (fun K hK => ?_)
        go_simp
        refine hK.out _ _ (Or.inl (by kernel_rfl)) (fun hcl2 => ?_)
        clear hK K hcl hcl2 hS
        refine wpAnyK_done (by kernel_rfl) ?_ _
        have hfin := FSt.putN (w := (W6.alloc (.cells #[.int .i64 3, .string t, .int .i64 x, .int .i64 1, .int .i64 0, .int .i64 0, .int .i64 0, .string ⟨#[]⟩] 56)).drew) ((R1.out.alloc _).drewN 1) (World.ownsRow.alloc R2.out _) (World.ownsRow.alloc R3.out _) ((R4.out.alloc (by omega) _).drew) hown1 hgrow
        have HFIN := Lib.hid hfin
        clear hfin hown1 hgrow hat hlt c3' f3'
        go_wp2_with fail
        first | go_end0 | ((try simp only [Exit.inBlock, Exit.then]); refine bodyPost_ret (results_none rfl _ _ _) rfl ?_)
        exact FTEnd_bad HRR.out HFIN.out
      · skip
        have HV1 := Lib.hid (fun W (h : FTs W0 N (some ⟨G, O, none⟩) n cap P2 st ns m 0 M (tcr t x 1 0 0 0 ⟨#[]⟩) W) => h.val_none HN.out hnb HV.out HTS.out hva)
        have HRR : Hid (R = .bad P2) := by show _ = _; rw [HRV2.out, if_neg (fun h => hk5 h.2), hva]
        clear hva hwh hx hol hk5
        go_wp2_with fail
        go_quiet (fail)
        clear q1b q1 b0 q2 b1
        go_wp2_with fail
        refine (HV1.out _ ((HQ4.out.drewN _).set_ 2 _)).mono ?_
        rintro e w5 ⟨rfl, h5⟩
        clear c0 c1 f1 c5 m1 m2 m6 fm2 fm6
        have HQ5 : Hid (FTs W0 N (some ⟨G, O, none⟩) n cap P2 st ns m 50 M (tcr t x 1 0 0 0 ⟨#[]⟩) w5) := h5
        clear h5
        obtain ⟨_, _, _, m3, _, _, _, fm, _⟩ := HQ5.out.mcells
        have fm3 := fm 3
        clear fm
        go_upto_region 15 with (fail)
        obtain ⟨W6, hW6⟩ : ∃ W6, w5.setCell ⟨M, 3, none⟩ (.int .i64 0) = W6 := ⟨_, rfl⟩
        have hq6 : FTs W0 N (some ⟨G, O, none⟩) n cap P2 st ns m 50 M (tcr t x 1 0 0 0 ⟨#[]⟩) W6 := by rw [← hW6]; exact HQ5.out.set_ 3 _
        rw [hW6]
        clear hW6 m3 fm3
        have HQ6 := Lib.hid hq6
        clear hq6
        obtain ⟨_, m1, m2, _, _, _, _, fm, _⟩ := HQ6.out.mcells
        have fm2 := fm 2
        obtain ⟨_, c1, f1, _, _, c5, _⟩ := HQ6.out.1.cells
        clear fm
        go_upto_region 23 with (fail)
        clear c1 f1 c5 m1 m2 fm2
        have HQ := HQ6
        obtain ⟨⟨ov, tv, r1, r2, r3, r4⟩, rb, rNM⟩ := HQ.out
        obtain ⟨y0, y1, y2, y3, y4, y5, y6, _, hMlt⟩ := HQ.out.mcells
        have d3 : W6.cell? ⟨N, 3, none⟩ = some tv := r1.cell 3
        have g3 := r1.frozen 3
        have hNlt := r1.lt
        have hne := nds_ne r3
        have hneM : tv.ownBlock ≠ some M := kind_ne r3 rb (by decide)
        have hS1 : W6.cell? ⟨N, 3, none⟩ = some tv ∧ W6.cell? ⟨M, 0, none⟩ = some (.string t) ∧ W6.cell? ⟨M, 1, none⟩ = some (.int .i64 x) ∧ W6.cell? ⟨M, 2, none⟩ = some (.int .i64 1) ∧ W6.cell? ⟨M, 3, none⟩ = some (.int .i64 0) ∧ W6.cell? ⟨M, 4, none⟩ = some (.int .i64 0) ∧ W6.cell? ⟨M, 5, none⟩ = some (.int .i64 0) ∧ W6.cell? ⟨M, 6, none⟩ = some (.string ⟨#[]⟩) := ⟨d3, y0, y1, y2, y3, y4, y5, y6⟩
        have HFA : Hid (∀ o, (W6.alloc o).frozen? ⟨N, 3, none⟩ = false) := fun o => (World.frozen?_alloc_past _ _ _ hNlt).trans g3
        have HCA : Hid (∀ o, (W6.alloc o).cell? ⟨N, 3, none⟩ = some tv ∧ (W6.alloc o).cell? ⟨M, 0, none⟩ = some (.string t) ∧ (W6.alloc o).cell? ⟨M, 1, none⟩ = some (.int .i64 x) ∧ (W6.alloc o).cell? ⟨M, 2, none⟩ = some (.int .i64 1) ∧ (W6.alloc o).cell? ⟨M, 3, none⟩ = some (.int .i64 0) ∧ (W6.alloc o).cell? ⟨M, 4, none⟩ = some (.int .i64 0) ∧ (W6.alloc o).cell? ⟨M, 5, none⟩ = some (.int .i64 0) ∧ (W6.alloc o).cell? ⟨M, 6, none⟩ = some (.string ⟨#[]⟩)) := fun o =>
          ⟨(World.cell?_alloc_lt W6 o ⟨N, 3, none⟩ hNlt).trans d3, (World.cell?_alloc_lt W6 o ⟨M, 0, none⟩ hMlt).trans y0, (World.cell?_alloc_lt W6 o ⟨M, 1, none⟩ hMlt).trans y1, (World.cell?_alloc_lt W6 o ⟨M, 2, none⟩ hMlt).trans y2, (World.cell?_alloc_lt W6 o ⟨M, 3, none⟩ hMlt).trans y3, (World.cell?_alloc_lt W6 o ⟨M, 4, none⟩ hMlt).trans y4, (World.cell?_alloc_lt W6 o ⟨M, 5, none⟩ hMlt).trans y5, (World.cell?_alloc_lt W6 o ⟨M, 6, none⟩ hMlt).trans y6⟩
        have HTOK : Hid (ndCell { kind := 3, field := t.data.toList, op := x, form := 1, lo := 0, hi := 0, len := 0, pat := (⟨#[]⟩ : ByteArray).data.toList } = [.int .i64 3, .string t, .int .i64 x, .int .i64 1, .int .i64 0, .int .i64 0, .int .i64 0, .string ⟨#[]⟩]) := by
          show _ = _
          unfold ndCell
          simp only [ba_eta]
        have R1 := Lib.hid r1
        have R2 := Lib.hid r2
        have R3 := Lib.hid r3
        have R4 := Lib.hid r4
        have HS1 := Lib.hid hS1
        have HNE := Lib.hid hne
        have HNM := Lib.hid hneM
        clear r1 r2 r3 r4 rb y0 y1 y2 y3 y4 y5 y6 d3 g3 hS1 hne hneM
        (try go_wp2_with fail)
        refine wp_region_K 11 (fun w' => w'.cell? ⟨N, 3, none⟩ = some tv ∧ w'.cell? ⟨M, 0, none⟩ = some (.string t) ∧ w'.cell? ⟨M, 1, none⟩ = some (.int .i64 x) ∧ w'.cell? ⟨M, 2, none⟩ = some (.int .i64 1) ∧ w'.cell? ⟨M, 3, none⟩ = some (.int .i64 0) ∧ w'.cell? ⟨M, 4, none⟩ = some (.int .i64 0) ∧ w'.cell? ⟨M, 5, none⟩ = some (.int .i64 0) ∧ w'.cell? ⟨M, 6, none⟩ = some (.string ⟨#[]⟩)) (by kernel_rfl) (fun hcl => ?_)
        have hS : (fun w' : World => w'.cell? ⟨N, 3, none⟩ = some tv ∧ w'.cell? ⟨M, 0, none⟩ = some (.string t) ∧ w'.cell? ⟨M, 1, none⟩ = some (.int .i64 x) ∧ w'.cell? ⟨M, 2, none⟩ = some (.int .i64 1) ∧ w'.cell? ⟨M, 3, none⟩ = some (.int .i64 0) ∧ w'.cell? ⟨M, 4, none⟩ = some (.int .i64 0) ∧ w'.cell? ⟨M, 5, none⟩ = some (.int .i64 0) ∧ w'.cell? ⟨M, 6, none⟩ = some (.string ⟨#[]⟩)) W6.drew := HS1.out
        refine wpAnyK_take (i := 0) (v := ?_) hcl hS rfl (by kernel_rfl) (fun _ _ _ h => h) (by rfl) ?_ (fun hcl2 => ?_)
        rotate_left
        · (intro w hSw; (try dsimp only at hSw); first | (go_simp; done) | (go_simp; with_reducible rfl))
        (try simp only [Act.put, List.setIfInBounds_toArray, List.set_cons_zero, List.set_cons_succ])
        clear hcl; have hcl := hcl2; clear hcl2
        refine wpAnyK_take (i := 1) (v := ?_) hcl hS rfl (by kernel_rfl) (fun _ _ _ h => h) (by rfl) ?_ (fun hcl2 => ?_)
        rotate_left
        · (intro w hSw; (try dsimp only at hSw); first | (go_simp; done) | (go_simp; with_reducible rfl))
        (try simp only [Act.put, List.setIfInBounds_toArray, List.set_cons_zero, List.set_cons_succ])
        clear hcl; have hcl := hcl2; clear hcl2
        refine wpAnyK_take (i := 2) (v := ?_) hcl hS rfl (by kernel_rfl) (fun _ _ _ h => h) (by rfl) ?_ (fun hcl2 => ?_)
        rotate_left
        · (intro w hSw; (try dsimp only at hSw); first | (go_simp; done) | (go_simp; with_reducible rfl))
        (try simp only [Act.put, List.setIfInBounds_toArray, List.set_cons_zero, List.set_cons_succ])
        clear hcl; have hcl := hcl2; clear hcl2
        refine wpAnyK_take (i := 3) (v := ?_) hcl hS rfl (by kernel_rfl) (fun _ _ _ h => h) (by rfl) ?_ (fun hcl2 => ?_)
        rotate_left
        · (intro w hSw; (try dsimp only at hSw); first | (go_simp; done) | (go_simp; with_reducible rfl))
        (try simp only [Act.put, List.setIfInBounds_toArray, List.set_cons_zero, List.set_cons_succ])
        clear hcl; have hcl := hcl2; clear hcl2
        refine wpAnyK_take (i := 4) (v := ?_) hcl hS rfl (by kernel_rfl) (fun _ _ _ h => h) (by rfl) ?_ (fun hcl2 => ?_)
        rotate_left
        · (intro w hSw; (try dsimp only at hSw); first | (go_simp; done) | (go_simp; with_reducible rfl))
        (try simp only [Act.put, List.setIfInBounds_toArray, List.set_cons_zero, List.set_cons_succ])
        clear hcl; have hcl := hcl2; clear hcl2
        refine wpAnyK_take (i := 5) (v := ?_) hcl hS rfl (by kernel_rfl) (fun _ _ _ h => h) (by rfl) ?_ (fun hcl2 => ?_)
        rotate_left
        · (intro w hSw; (try dsimp only at hSw); first | (go_simp; done) | (go_simp; with_reducible rfl))
        (try simp only [Act.put, List.setIfInBounds_toArray, List.set_cons_zero, List.set_cons_succ])
        clear hcl; have hcl := hcl2; clear hcl2
        refine wpAnyK_take (i := 6) (v := ?_) hcl hS rfl (by kernel_rfl) (fun _ _ _ h => h) (by rfl) ?_ (fun hcl2 => ?_)
        rotate_left
        · (intro w hSw; (try dsimp only at hSw); first | (go_simp; done) | (go_simp; with_reducible rfl))
        (try simp only [Act.put, List.setIfInBounds_toArray, List.set_cons_zero, List.set_cons_succ])
        clear hcl; have hcl := hcl2; clear hcl2
        refine wpAnyK_one (i := 7) hcl (by kernel_rfl) rfl (by rfl) (fun K hK => ?_)
        go_simp
        refine hK.out _ _ (Or.inr (HCA.out _)) (fun hcl2 => ?_)
        clear hK K hcl hS
        have hcl := hcl2
        clear hcl2
        refine wpAnyK_one (i := 8) hcl (by kernel_rfl) rfl (by rfl) (fun K hK => ?_)
        refine wp_nd _ _ (by rfl) (N + 1) tv ns (by rfl) ((R3.out.alloc _).drew) ⟨W6.heap.size, 0, none⟩ 1 { kind := 3, field := t.data.toList, op := x, form := 1, lo := 0, hi := 0, len := 0, pat := (⟨#[]⟩ : ByteArray).data.toList } (by rfl) (by rw [HTOK.out]; exact World.news_of_block (cs := #[.int .i64 3, .string t, .int .i64 x, .int .i64 1, .int .i64 0, .int .i64 0, .int .i64 0, .string ⟨#[]⟩]) (t := 56) (fr := (0, 0)) (heap_alloc_new W6 _)) (by omega) (by simp; omega) (W6.heap.size + 1) (by simp) ?_
        intro gg cp w1 hown1 hgrow hat hlt
        have f3' : w1.frozen? ⟨N, 3, none⟩ = false := (hgrow.frozen_far ⟨N, 3, none⟩ (by simp; omega) (Ne.symm HNE.out)).trans (HFA.out _)
        have far : ∀ j, w1.cell? ⟨M, j, none⟩ = _ := fun j => hgrow.cell_far ⟨M, j, none⟩ (by simp; omega) (Ne.symm HNM.out)
        have hS1 : w1.cell? ⟨N, 3, none⟩ = some tv ∧ w1.cell? ⟨M, 0, none⟩ = some (.string t) ∧ w1.cell? ⟨M, 1, none⟩ = some (.int .i64 x) ∧ w1.cell? ⟨M, 2, none⟩ = some (.int .i64 1) ∧ w1.cell? ⟨M, 3, none⟩ = some (.int .i64 0) ∧ w1.cell? ⟨M, 4, none⟩ = some (.int .i64 0) ∧ w1.cell? ⟨M, 5, none⟩ = some (.int .i64 0) ∧ w1.cell? ⟨M, 6, none⟩ = some (.string ⟨#[]⟩) :=
          ⟨(hgrow.cell_far ⟨N, 3, none⟩ (by simp; omega) (Ne.symm HNE.out)).trans (HCA.out _).1, (far 0).trans (HCA.out _).2.1, (far 1).trans (HCA.out _).2.2.1, (far 2).trans (HCA.out _).2.2.2.1, (far 3).trans (HCA.out _).2.2.2.2.1, (far 4).trans (HCA.out _).2.2.2.2.2.1, (far 5).trans (HCA.out _).2.2.2.2.2.2.1, (far 6).trans (HCA.out _).2.2.2.2.2.2.2⟩
        have c3' := hS1.1
        refine hK.out _ _ (Or.inr hS1) (fun hcl2 => ?_)
        clear hK K hcl far
        have hcl := hcl2
        clear hcl2
        have hS : (fun w' : World => w'.cell? ⟨N, 3, none⟩ = some tv ∧ w'.cell? ⟨M, 0, none⟩ = some (.string t) ∧ w'.cell? ⟨M, 1, none⟩ = some (.int .i64 x) ∧ w'.cell? ⟨M, 2, none⟩ = some (.int .i64 1) ∧ w'.cell? ⟨M, 3, none⟩ = some (.int .i64 0) ∧ w'.cell? ⟨M, 4, none⟩ = some (.int .i64 0) ∧ w'.cell? ⟨M, 5, none⟩ = some (.int .i64 0) ∧ w'.cell? ⟨M, 6, none⟩ = some (.string ⟨#[]⟩)) w1 := hS1
        (try simp only [Act.put, List.setIfInBounds_toArray, List.set_cons_zero, List.set_cons_succ])
        refine wpAnyK_take (i := 9) (v := ?_) hcl hS rfl (by kernel_rfl) (fun _ _ _ h => h) (by rfl) ?_ (fun hcl2 => ?_)
        rotate_left
        · (intro w hSw; (try dsimp only at hSw); first | (go_simp; done) | (go_simp; with_reducible rfl))
        (try simp only [Act.put, List.setIfInBounds_toArray, List.set_cons_zero, List.set_cons_succ])
        clear hcl; have hcl := hcl2; clear hcl2
        refine wpAnyK_take (i := 10) (v := ?_) hcl hS rfl (by kernel_rfl) (fun _ _ _ h => h) (by rfl) ?_ (fun hcl2 => ?_)
        rotate_left
        · (intro w hSw; (try dsimp only at hSw); first | (go_simp; done) | (go_simp; with_reducible rfl))
        (try simp only [Act.put, List.setIfInBounds_toArray, List.set_cons_zero, List.set_cons_succ])
        clear hcl; have hcl := hcl2; clear hcl2
        clear hS1
        refine wpAnyK_one (i := 11) hcl (by kernel_rfl) rfl (by rfl) (fun K hK => ?_)
        go_simp
        refine hK.out _ _ (Or.inl (by kernel_rfl)) (fun hcl2 => ?_)
        clear hK K hcl hcl2 hS
        refine wpAnyK_done (by kernel_rfl) ?_ _
        have hfin := FSt.putN (w := (W6.alloc (.cells #[.int .i64 3, .string t, .int .i64 x, .int .i64 1, .int .i64 0, .int .i64 0, .int .i64 0, .string ⟨#[]⟩] 56)).drew) ((R1.out.alloc _).drewN 1) (World.ownsRow.alloc R2.out _) (World.ownsRow.alloc R3.out _) ((R4.out.alloc (by omega) _).drew) hown1 hgrow
        have HFIN := Lib.hid hfin
        clear hfin hown1 hgrow hat hlt c3' f3'
        go_wp2_with fail
        first | go_end0 | ((try simp only [Exit.inBlock, Exit.then]); refine bodyPost_ret (results_none rfl _ _ _) rfl ?_)
        exact FTEnd_bad HRR.out HFIN.out
    | some v =>
      obtain ⟨vi, hvi⟩ : ∃ vi : Int, (v : Int) = vi := ⟨_, rfl⟩
      have HV1 := Lib.hid (fun W (h : FTs W0 N (some ⟨G, O, none⟩) n cap P2 st ns m 0 M (tcr t x 1 0 0 0 ⟨#[]⟩) W) => h.val_some HN.out hnb HV.out HTS.out hva hvi (show P2 + 1 = P3 from HP3.out))
      have hRV3 := HRV2.out
      rw [if_neg (fun h => hk5 h.2), hva] at hRV3
      simp only [] at hRV3
      rw [hvi] at hRV3
      have HRV3 := Lib.hid hRV3
      clear hRV3 hva hvi hk5
      rcases HG6.out with q1b | ⟨q1b, k2, t2, q1, p2l, b0, q2, b1⟩
      · have q1 : decide ((P2 : Int) < n) = false := decide_eq_false (by have := of_decide_eq_false q1b; omega)
        go_wp2_with fail
        go_quiet (fail)
        clear q1b q1
        go_wp2_with fail
        refine (HV1.out _ ((HQ4.out.drewN _).set_ 2 _)).mono ?_
        rintro e w5 ⟨rfl, h5⟩
        clear c0 c1 f1 c5 m1 m2 m6 fm2 fm6
        have HQ5 : Hid (FTs W0 N (some ⟨G, O, none⟩) n cap P3 st ns m 0 M (tcr t x 1 0 0 0 ⟨#[]⟩) w5) := h5
        clear h5
        obtain ⟨_, _, _, m3, _, _, _, fm, _⟩ := HQ5.out.mcells
        have fm3 := fm 3
        clear fm
        go_upto_region 15 with (fail)
        obtain ⟨W6, hW6⟩ : ∃ W6, w5.setCell ⟨M, 3, none⟩ (.int .i64 vi) = W6 := ⟨_, rfl⟩
        have hq6 : FTs W0 N (some ⟨G, O, none⟩) n cap P3 st ns m 0 M (tcr t x 1 vi 0 0 ⟨#[]⟩) W6 := by rw [← hW6]; exact HQ5.out.set_ 3 _
        rw [hW6]
        clear hW6 m3 fm3
        have HQ6 := Lib.hid hq6
        clear hq6
        obtain ⟨_, m1, m2, _, _, _, _, fm, _⟩ := HQ6.out.mcells
        have fm2 := fm 2
        obtain ⟨_, c1, f1, _, _, c5, _⟩ := HQ6.out.1.cells
        clear fm
        by_cases hs47 : Sp.sgAt (zs.map ptZ) P3 [47] = true
        · cases hvb : Sp.numAt (zs.map ptZ) P4 with
          | none =>
            have HV2 := Lib.hid (fun W (h : FTs W0 N (some ⟨G, O, none⟩) n cap P4 st ns m 0 M (tcr t x 2 vi 0 0 ⟨#[]⟩) W) => h.val_none HN.out hnb HV.out HTS.out hvb)
            have HRR : Hid (R = .bad P4) := by show _ = _; rw [HRV3.out, if_pos ⟨hwh, hs47⟩, hvb]
            have HSG47 := Lib.hid (fun W (h : FTs W0 N (some ⟨G, O, none⟩) n cap P3 st ns m 0 M (tcr t x 1 vi 0 0 ⟨#[]⟩) W) => (h.1.sign P3 ⟨#[47]⟩ HN.out HV.out (b := true) hs47))
            clear hvb hwh hx hol hs47
            go_wp2_with fail
            refine (HSG47.out _ HQ6.out).mono ?_
            rintro e w7 ⟨rfl, rfl⟩
            go_upto_region 17 with (fail)
            obtain ⟨W7, hW7⟩ : ∃ W7, W6.setCell ⟨N, 1, none⟩ (.int .i64 ((P3 : Int) + 1)) = W7 := ⟨_, rfl⟩
            have hq7 : FTs W0 N (some ⟨G, O, none⟩) n cap P4 st ns m 0 M (tcr t x 1 vi 0 0 ⟨#[]⟩) W7 := by rw [← hW7, ← HP4.out]; exact HQ6.out.at_
            rw [hW7]
            clear hW7 c1 f1 c5 m1 m2 fm2
            have HQ7 := Lib.hid hq7
            clear hq7
            obtain ⟨_, _, m2, _, _, _, _, fm, _⟩ := HQ7.out.mcells
            have fm2 := fm 2
            clear fm
            go_wp2_with fail
            refine (HV2.out _ (HQ7.out.set_ 2 _)).mono ?_
            rintro e w8 ⟨rfl, h8⟩
            clear m2 fm2
            have HQ8 : Hid (FTs W0 N (some ⟨G, O, none⟩) n cap P4 st ns m 50 M (tcr t x 2 vi 0 0 ⟨#[]⟩) w8) := h8
            clear h8
            obtain ⟨_, _, _, _, m4, m5, _, fm, _⟩ := HQ8.out.mcells
            have fm4 := fm 4
            have fm5 := fm 5
            clear fm
            go_upto_region 23 with (fail)
            obtain ⟨W9, hW9⟩ : ∃ W9, w8.setCell ⟨M, 5, none⟩ (.int .i64 0) = W9 := ⟨_, rfl⟩
            have hq9 : FTs W0 N (some ⟨G, O, none⟩) n cap P4 st ns m 50 M (tcr t x 2 vi 0 0 ⟨#[]⟩) W9 := by rw [← hW9]; exact HQ8.out.set_ 5 _
            rw [hW9]
            clear hW9 m4 m5 fm4 fm5
            have HQ := Lib.hid hq9
            clear hq9
            obtain ⟨⟨ov, tv, r1, r2, r3, r4⟩, rb, rNM⟩ := HQ.out
            obtain ⟨y0, y1, y2, y3, y4, y5, y6, _, hMlt⟩ := HQ.out.mcells
            have d3 : W9.cell? ⟨N, 3, none⟩ = some tv := r1.cell 3
            have g3 := r1.frozen 3
            have hNlt := r1.lt
            have hne := nds_ne r3
            have hneM : tv.ownBlock ≠ some M := kind_ne r3 rb (by decide)
            have hS1 : W9.cell? ⟨N, 3, none⟩ = some tv ∧ W9.cell? ⟨M, 0, none⟩ = some (.string t) ∧ W9.cell? ⟨M, 1, none⟩ = some (.int .i64 x) ∧ W9.cell? ⟨M, 2, none⟩ = some (.int .i64 2) ∧ W9.cell? ⟨M, 3, none⟩ = some (.int .i64 vi) ∧ W9.cell? ⟨M, 4, none⟩ = some (.int .i64 0) ∧ W9.cell? ⟨M, 5, none⟩ = some (.int .i64 0) ∧ W9.cell? ⟨M, 6, none⟩ = some (.string ⟨#[]⟩) := ⟨d3, y0, y1, y2, y3, y4, y5, y6⟩
            have HFA : Hid (∀ o, (W9.alloc o).frozen? ⟨N, 3, none⟩ = false) := fun o => (World.frozen?_alloc_past _ _ _ hNlt).trans g3
            have HCA : Hid (∀ o, (W9.alloc o).cell? ⟨N, 3, none⟩ = some tv ∧ (W9.alloc o).cell? ⟨M, 0, none⟩ = some (.string t) ∧ (W9.alloc o).cell? ⟨M, 1, none⟩ = some (.int .i64 x) ∧ (W9.alloc o).cell? ⟨M, 2, none⟩ = some (.int .i64 2) ∧ (W9.alloc o).cell? ⟨M, 3, none⟩ = some (.int .i64 vi) ∧ (W9.alloc o).cell? ⟨M, 4, none⟩ = some (.int .i64 0) ∧ (W9.alloc o).cell? ⟨M, 5, none⟩ = some (.int .i64 0) ∧ (W9.alloc o).cell? ⟨M, 6, none⟩ = some (.string ⟨#[]⟩)) := fun o =>
              ⟨(World.cell?_alloc_lt W9 o ⟨N, 3, none⟩ hNlt).trans d3, (World.cell?_alloc_lt W9 o ⟨M, 0, none⟩ hMlt).trans y0, (World.cell?_alloc_lt W9 o ⟨M, 1, none⟩ hMlt).trans y1, (World.cell?_alloc_lt W9 o ⟨M, 2, none⟩ hMlt).trans y2, (World.cell?_alloc_lt W9 o ⟨M, 3, none⟩ hMlt).trans y3, (World.cell?_alloc_lt W9 o ⟨M, 4, none⟩ hMlt).trans y4, (World.cell?_alloc_lt W9 o ⟨M, 5, none⟩ hMlt).trans y5, (World.cell?_alloc_lt W9 o ⟨M, 6, none⟩ hMlt).trans y6⟩
            have HTOK : Hid (ndCell { kind := 3, field := t.data.toList, op := x, form := 2, lo := vi, hi := 0, len := 0, pat := (⟨#[]⟩ : ByteArray).data.toList } = [.int .i64 3, .string t, .int .i64 x, .int .i64 2, .int .i64 vi, .int .i64 0, .int .i64 0, .string ⟨#[]⟩]) := by
              show _ = _
              unfold ndCell
              simp only [ba_eta]
            have R1 := Lib.hid r1
            have R2 := Lib.hid r2
            have R3 := Lib.hid r3
            have R4 := Lib.hid r4
            have HS1 := Lib.hid hS1
            have HNE := Lib.hid hne
            have HNM := Lib.hid hneM
            clear r1 r2 r3 r4 rb y0 y1 y2 y3 y4 y5 y6 d3 g3 hS1 hne hneM
            (try go_wp2_with fail)
            refine wp_region_K 11 (fun w' => w'.cell? ⟨N, 3, none⟩ = some tv ∧ w'.cell? ⟨M, 0, none⟩ = some (.string t) ∧ w'.cell? ⟨M, 1, none⟩ = some (.int .i64 x) ∧ w'.cell? ⟨M, 2, none⟩ = some (.int .i64 2) ∧ w'.cell? ⟨M, 3, none⟩ = some (.int .i64 vi) ∧ w'.cell? ⟨M, 4, none⟩ = some (.int .i64 0) ∧ w'.cell? ⟨M, 5, none⟩ = some (.int .i64 0) ∧ w'.cell? ⟨M, 6, none⟩ = some (.string ⟨#[]⟩)) (by kernel_rfl) (fun hcl => ?_)
            have hS : (fun w' : World => w'.cell? ⟨N, 3, none⟩ = some tv ∧ w'.cell? ⟨M, 0, none⟩ = some (.string t) ∧ w'.cell? ⟨M, 1, none⟩ = some (.int .i64 x) ∧ w'.cell? ⟨M, 2, none⟩ = some (.int .i64 2) ∧ w'.cell? ⟨M, 3, none⟩ = some (.int .i64 vi) ∧ w'.cell? ⟨M, 4, none⟩ = some (.int .i64 0) ∧ w'.cell? ⟨M, 5, none⟩ = some (.int .i64 0) ∧ w'.cell? ⟨M, 6, none⟩ = some (.string ⟨#[]⟩)) W9.drew := HS1.out
            refine wpAnyK_take (i := 0) (v := ?_) hcl hS rfl (by kernel_rfl) (fun _ _ _ h => h) (by rfl) ?_ (fun hcl2 => ?_)
            rotate_left
            · (intro w hSw; (try dsimp only at hSw); first | (go_simp; done) | (go_simp; with_reducible rfl))
            (try simp only [Act.put, List.setIfInBounds_toArray, List.set_cons_zero, List.set_cons_succ])
            clear hcl; have hcl := hcl2; clear hcl2
            refine wpAnyK_take (i := 1) (v := ?_) hcl hS rfl (by kernel_rfl) (fun _ _ _ h => h) (by rfl) ?_ (fun hcl2 => ?_)
            rotate_left
            · (intro w hSw; (try dsimp only at hSw); first | (go_simp; done) | (go_simp; with_reducible rfl))
            (try simp only [Act.put, List.setIfInBounds_toArray, List.set_cons_zero, List.set_cons_succ])
            clear hcl; have hcl := hcl2; clear hcl2
            refine wpAnyK_take (i := 2) (v := ?_) hcl hS rfl (by kernel_rfl) (fun _ _ _ h => h) (by rfl) ?_ (fun hcl2 => ?_)
            rotate_left
            · (intro w hSw; (try dsimp only at hSw); first | (go_simp; done) | (go_simp; with_reducible rfl))
            (try simp only [Act.put, List.setIfInBounds_toArray, List.set_cons_zero, List.set_cons_succ])
            clear hcl; have hcl := hcl2; clear hcl2
            refine wpAnyK_take (i := 3) (v := ?_) hcl hS rfl (by kernel_rfl) (fun _ _ _ h => h) (by rfl) ?_ (fun hcl2 => ?_)
            rotate_left
            · (intro w hSw; (try dsimp only at hSw); first | (go_simp; done) | (go_simp; with_reducible rfl))
            (try simp only [Act.put, List.setIfInBounds_toArray, List.set_cons_zero, List.set_cons_succ])
            clear hcl; have hcl := hcl2; clear hcl2
            refine wpAnyK_take (i := 4) (v := ?_) hcl hS rfl (by kernel_rfl) (fun _ _ _ h => h) (by rfl) ?_ (fun hcl2 => ?_)
            rotate_left
            · (intro w hSw; (try dsimp only at hSw); first | (go_simp; done) | (go_simp; with_reducible rfl))
            (try simp only [Act.put, List.setIfInBounds_toArray, List.set_cons_zero, List.set_cons_succ])
            clear hcl; have hcl := hcl2; clear hcl2
            refine wpAnyK_take (i := 5) (v := ?_) hcl hS rfl (by kernel_rfl) (fun _ _ _ h => h) (by rfl) ?_ (fun hcl2 => ?_)
            rotate_left
            · (intro w hSw; (try dsimp only at hSw); first | (go_simp; done) | (go_simp; with_reducible rfl))
            (try simp only [Act.put, List.setIfInBounds_toArray, List.set_cons_zero, List.set_cons_succ])
            clear hcl; have hcl := hcl2; clear hcl2
            refine wpAnyK_take (i := 6) (v := ?_) hcl hS rfl (by kernel_rfl) (fun _ _ _ h => h) (by rfl) ?_ (fun hcl2 => ?_)
            rotate_left
            · (intro w hSw; (try dsimp only at hSw); first | (go_simp; done) | (go_simp; with_reducible rfl))
            (try simp only [Act.put, List.setIfInBounds_toArray, List.set_cons_zero, List.set_cons_succ])
            clear hcl; have hcl := hcl2; clear hcl2
            refine wpAnyK_one (i := 7) hcl (by kernel_rfl) rfl (by rfl) (fun K hK => ?_)
            go_simp
            refine hK.out _ _ (Or.inr (HCA.out _)) (fun hcl2 => ?_)
            clear hK K hcl hS
            have hcl := hcl2
            clear hcl2
            refine wpAnyK_one (i := 8) hcl (by kernel_rfl) rfl (by rfl) (fun K hK => ?_)
            refine wp_nd _ _ (by rfl) (N + 1) tv ns (by rfl) ((R3.out.alloc _).drew) ⟨W9.heap.size, 0, none⟩ 1 { kind := 3, field := t.data.toList, op := x, form := 2, lo := vi, hi := 0, len := 0, pat := (⟨#[]⟩ : ByteArray).data.toList } (by rfl) (by rw [HTOK.out]; exact World.news_of_block (cs := #[.int .i64 3, .string t, .int .i64 x, .int .i64 2, .int .i64 vi, .int .i64 0, .int .i64 0, .string ⟨#[]⟩]) (t := 56) (fr := (0, 0)) (heap_alloc_new W9 _)) (by omega) (by simp; omega) (W9.heap.size + 1) (by simp) ?_
            intro gg cp w1 hown1 hgrow hat hlt
            have f3' : w1.frozen? ⟨N, 3, none⟩ = false := (hgrow.frozen_far ⟨N, 3, none⟩ (by simp; omega) (Ne.symm HNE.out)).trans (HFA.out _)
            have far : ∀ j, w1.cell? ⟨M, j, none⟩ = _ := fun j => hgrow.cell_far ⟨M, j, none⟩ (by simp; omega) (Ne.symm HNM.out)
            have hS1 : w1.cell? ⟨N, 3, none⟩ = some tv ∧ w1.cell? ⟨M, 0, none⟩ = some (.string t) ∧ w1.cell? ⟨M, 1, none⟩ = some (.int .i64 x) ∧ w1.cell? ⟨M, 2, none⟩ = some (.int .i64 2) ∧ w1.cell? ⟨M, 3, none⟩ = some (.int .i64 vi) ∧ w1.cell? ⟨M, 4, none⟩ = some (.int .i64 0) ∧ w1.cell? ⟨M, 5, none⟩ = some (.int .i64 0) ∧ w1.cell? ⟨M, 6, none⟩ = some (.string ⟨#[]⟩) :=
              ⟨(hgrow.cell_far ⟨N, 3, none⟩ (by simp; omega) (Ne.symm HNE.out)).trans (HCA.out _).1, (far 0).trans (HCA.out _).2.1, (far 1).trans (HCA.out _).2.2.1, (far 2).trans (HCA.out _).2.2.2.1, (far 3).trans (HCA.out _).2.2.2.2.1, (far 4).trans (HCA.out _).2.2.2.2.2.1, (far 5).trans (HCA.out _).2.2.2.2.2.2.1, (far 6).trans (HCA.out _).2.2.2.2.2.2.2⟩
            have c3' := hS1.1
            refine hK.out _ _ (Or.inr hS1) (fun hcl2 => ?_)
            clear hK K hcl far
            have hcl := hcl2
            clear hcl2
            have hS : (fun w' : World => w'.cell? ⟨N, 3, none⟩ = some tv ∧ w'.cell? ⟨M, 0, none⟩ = some (.string t) ∧ w'.cell? ⟨M, 1, none⟩ = some (.int .i64 x) ∧ w'.cell? ⟨M, 2, none⟩ = some (.int .i64 2) ∧ w'.cell? ⟨M, 3, none⟩ = some (.int .i64 vi) ∧ w'.cell? ⟨M, 4, none⟩ = some (.int .i64 0) ∧ w'.cell? ⟨M, 5, none⟩ = some (.int .i64 0) ∧ w'.cell? ⟨M, 6, none⟩ = some (.string ⟨#[]⟩)) w1 := hS1
            (try simp only [Act.put, List.setIfInBounds_toArray, List.set_cons_zero, List.set_cons_succ])
            refine wpAnyK_take (i := 9) (v := ?_) hcl hS rfl (by kernel_rfl) (fun _ _ _ h => h) (by rfl) ?_ (fun hcl2 => ?_)
            rotate_left
            · (intro w hSw; (try dsimp only at hSw); first | (go_simp; done) | (go_simp; with_reducible rfl))
            (try simp only [Act.put, List.setIfInBounds_toArray, List.set_cons_zero, List.set_cons_succ])
            clear hcl; have hcl := hcl2; clear hcl2
            refine wpAnyK_take (i := 10) (v := ?_) hcl hS rfl (by kernel_rfl) (fun _ _ _ h => h) (by rfl) ?_ (fun hcl2 => ?_)
            rotate_left
            · (intro w hSw; (try dsimp only at hSw); first | (go_simp; done) | (go_simp; with_reducible rfl))
            (try simp only [Act.put, List.setIfInBounds_toArray, List.set_cons_zero, List.set_cons_succ])
            clear hcl; have hcl := hcl2; clear hcl2
            clear hS1
            refine wpAnyK_one (i := 11) hcl (by kernel_rfl) rfl (by rfl) (fun K hK => ?_)
            go_simp
            refine hK.out _ _ (Or.inl (by kernel_rfl)) (fun hcl2 => ?_)
            clear hK K hcl hcl2 hS
            refine wpAnyK_done (by kernel_rfl) ?_ _
            have hfin := FSt.putN (w := (W9.alloc (.cells #[.int .i64 3, .string t, .int .i64 x, .int .i64 2, .int .i64 vi, .int .i64 0, .int .i64 0, .string ⟨#[]⟩] 56)).drew) ((R1.out.alloc _).drewN 1) (World.ownsRow.alloc R2.out _) (World.ownsRow.alloc R3.out _) ((R4.out.alloc (by omega) _).drew) hown1 hgrow
            have HFIN := Lib.hid hfin
            clear hfin hown1 hgrow hat hlt c3' f3'
            go_wp2_with fail
            first | go_end0 | ((try simp only [Exit.inBlock, Exit.then]); refine bodyPost_ret (results_none rfl _ _ _) rfl ?_)
            exact FTEnd_bad HRR.out HFIN.out
          | some u =>
            obtain ⟨ui, hui⟩ : ∃ ui : Int, (u : Int) = ui := ⟨_, rfl⟩
            have HV2 := Lib.hid (fun W (h : FTs W0 N (some ⟨G, O, none⟩) n cap P4 st ns m 0 M (tcr t x 2 vi 0 0 ⟨#[]⟩) W) => h.val_some HN.out hnb HV.out HTS.out hvb hui (show P4 + 1 = P5 from HP5.out))
            have HRR : Hid (R = .ok P5 { kind := 3, field := t.data.toList, op := x, form := 2, lo := vi, len := ui }) := by show _ = _; rw [HRV3.out, if_pos ⟨hwh, hs47⟩, hvb]; simp only []; rw [hui]
            have HSG47 := Lib.hid (fun W (h : FTs W0 N (some ⟨G, O, none⟩) n cap P3 st ns m 0 M (tcr t x 1 vi 0 0 ⟨#[]⟩) W) => (h.1.sign P3 ⟨#[47]⟩ HN.out HV.out (b := true) hs47))
            clear hvb hwh hx hol hs47 hui
            go_wp2_with fail
            refine (HSG47.out _ HQ6.out).mono ?_
            rintro e w7 ⟨rfl, rfl⟩
            go_upto_region 17 with (fail)
            obtain ⟨W7, hW7⟩ : ∃ W7, W6.setCell ⟨N, 1, none⟩ (.int .i64 ((P3 : Int) + 1)) = W7 := ⟨_, rfl⟩
            have hq7 : FTs W0 N (some ⟨G, O, none⟩) n cap P4 st ns m 0 M (tcr t x 1 vi 0 0 ⟨#[]⟩) W7 := by rw [← hW7, ← HP4.out]; exact HQ6.out.at_
            rw [hW7]
            clear hW7 c1 f1 c5 m1 m2 fm2
            have HQ7 := Lib.hid hq7
            clear hq7
            obtain ⟨_, _, m2, _, _, _, _, fm, _⟩ := HQ7.out.mcells
            have fm2 := fm 2
            clear fm
            go_wp2_with fail
            refine (HV2.out _ (HQ7.out.set_ 2 _)).mono ?_
            rintro e w8 ⟨rfl, h8⟩
            clear m2 fm2
            have HQ8 : Hid (FTs W0 N (some ⟨G, O, none⟩) n cap P5 st ns m 0 M (tcr t x 2 vi 0 0 ⟨#[]⟩) w8) := h8
            clear h8
            obtain ⟨_, _, _, _, m4, m5, _, fm, _⟩ := HQ8.out.mcells
            have fm4 := fm 4
            have fm5 := fm 5
            clear fm
            go_upto_region 23 with (fail)
            obtain ⟨W9, hW9⟩ : ∃ W9, w8.setCell ⟨M, 5, none⟩ (.int .i64 ui) = W9 := ⟨_, rfl⟩
            have hq9 : FTs W0 N (some ⟨G, O, none⟩) n cap P5 st ns m 0 M (tcr t x 2 vi 0 ui ⟨#[]⟩) W9 := by rw [← hW9]; exact HQ8.out.set_ 5 _
            rw [hW9]
            clear hW9 m4 m5 fm4 fm5
            have HQ := Lib.hid hq9
            clear hq9
            obtain ⟨⟨ov, tv, r1, r2, r3, r4⟩, rb, rNM⟩ := HQ.out
            obtain ⟨y0, y1, y2, y3, y4, y5, y6, _, hMlt⟩ := HQ.out.mcells
            have d3 : W9.cell? ⟨N, 3, none⟩ = some tv := r1.cell 3
            have g3 := r1.frozen 3
            have hNlt := r1.lt
            have hne := nds_ne r3
            have hneM : tv.ownBlock ≠ some M := kind_ne r3 rb (by decide)
            have hS1 : W9.cell? ⟨N, 3, none⟩ = some tv ∧ W9.cell? ⟨M, 0, none⟩ = some (.string t) ∧ W9.cell? ⟨M, 1, none⟩ = some (.int .i64 x) ∧ W9.cell? ⟨M, 2, none⟩ = some (.int .i64 2) ∧ W9.cell? ⟨M, 3, none⟩ = some (.int .i64 vi) ∧ W9.cell? ⟨M, 4, none⟩ = some (.int .i64 0) ∧ W9.cell? ⟨M, 5, none⟩ = some (.int .i64 ui) ∧ W9.cell? ⟨M, 6, none⟩ = some (.string ⟨#[]⟩) := ⟨d3, y0, y1, y2, y3, y4, y5, y6⟩
            have HFA : Hid (∀ o, (W9.alloc o).frozen? ⟨N, 3, none⟩ = false) := fun o => (World.frozen?_alloc_past _ _ _ hNlt).trans g3
            have HCA : Hid (∀ o, (W9.alloc o).cell? ⟨N, 3, none⟩ = some tv ∧ (W9.alloc o).cell? ⟨M, 0, none⟩ = some (.string t) ∧ (W9.alloc o).cell? ⟨M, 1, none⟩ = some (.int .i64 x) ∧ (W9.alloc o).cell? ⟨M, 2, none⟩ = some (.int .i64 2) ∧ (W9.alloc o).cell? ⟨M, 3, none⟩ = some (.int .i64 vi) ∧ (W9.alloc o).cell? ⟨M, 4, none⟩ = some (.int .i64 0) ∧ (W9.alloc o).cell? ⟨M, 5, none⟩ = some (.int .i64 ui) ∧ (W9.alloc o).cell? ⟨M, 6, none⟩ = some (.string ⟨#[]⟩)) := fun o =>
              ⟨(World.cell?_alloc_lt W9 o ⟨N, 3, none⟩ hNlt).trans d3, (World.cell?_alloc_lt W9 o ⟨M, 0, none⟩ hMlt).trans y0, (World.cell?_alloc_lt W9 o ⟨M, 1, none⟩ hMlt).trans y1, (World.cell?_alloc_lt W9 o ⟨M, 2, none⟩ hMlt).trans y2, (World.cell?_alloc_lt W9 o ⟨M, 3, none⟩ hMlt).trans y3, (World.cell?_alloc_lt W9 o ⟨M, 4, none⟩ hMlt).trans y4, (World.cell?_alloc_lt W9 o ⟨M, 5, none⟩ hMlt).trans y5, (World.cell?_alloc_lt W9 o ⟨M, 6, none⟩ hMlt).trans y6⟩
            have HTOK : Hid (ndCell { kind := 3, field := t.data.toList, op := x, form := 2, lo := vi, hi := 0, len := ui, pat := (⟨#[]⟩ : ByteArray).data.toList } = [.int .i64 3, .string t, .int .i64 x, .int .i64 2, .int .i64 vi, .int .i64 0, .int .i64 ui, .string ⟨#[]⟩]) := by
              show _ = _
              unfold ndCell
              simp only [ba_eta]
            have R1 := Lib.hid r1
            have R2 := Lib.hid r2
            have R3 := Lib.hid r3
            have R4 := Lib.hid r4
            have HS1 := Lib.hid hS1
            have HNE := Lib.hid hne
            have HNM := Lib.hid hneM
            clear r1 r2 r3 r4 rb y0 y1 y2 y3 y4 y5 y6 d3 g3 hS1 hne hneM
            (try go_wp2_with fail)
            refine wp_region_K 11 (fun w' => w'.cell? ⟨N, 3, none⟩ = some tv ∧ w'.cell? ⟨M, 0, none⟩ = some (.string t) ∧ w'.cell? ⟨M, 1, none⟩ = some (.int .i64 x) ∧ w'.cell? ⟨M, 2, none⟩ = some (.int .i64 2) ∧ w'.cell? ⟨M, 3, none⟩ = some (.int .i64 vi) ∧ w'.cell? ⟨M, 4, none⟩ = some (.int .i64 0) ∧ w'.cell? ⟨M, 5, none⟩ = some (.int .i64 ui) ∧ w'.cell? ⟨M, 6, none⟩ = some (.string ⟨#[]⟩)) (by kernel_rfl) (fun hcl => ?_)
            have hS : (fun w' : World => w'.cell? ⟨N, 3, none⟩ = some tv ∧ w'.cell? ⟨M, 0, none⟩ = some (.string t) ∧ w'.cell? ⟨M, 1, none⟩ = some (.int .i64 x) ∧ w'.cell? ⟨M, 2, none⟩ = some (.int .i64 2) ∧ w'.cell? ⟨M, 3, none⟩ = some (.int .i64 vi) ∧ w'.cell? ⟨M, 4, none⟩ = some (.int .i64 0) ∧ w'.cell? ⟨M, 5, none⟩ = some (.int .i64 ui) ∧ w'.cell? ⟨M, 6, none⟩ = some (.string ⟨#[]⟩)) W9.drew := HS1.out
            refine wpAnyK_take (i := 0) (v := ?_) hcl hS rfl (by kernel_rfl) (fun _ _ _ h => h) (by rfl) ?_ (fun hcl2 => ?_)
            rotate_left
            · (intro w hSw; (try dsimp only at hSw); first | (go_simp; done) | (go_simp; with_reducible rfl))
            (try simp only [Act.put, List.setIfInBounds_toArray, List.set_cons_zero, List.set_cons_succ])
            clear hcl; have hcl := hcl2; clear hcl2
            refine wpAnyK_take (i := 1) (v := ?_) hcl hS rfl (by kernel_rfl) (fun _ _ _ h => h) (by rfl) ?_ (fun hcl2 => ?_)
            rotate_left
            · (intro w hSw; (try dsimp only at hSw); first | (go_simp; done) | (go_simp; with_reducible rfl))
            (try simp only [Act.put, List.setIfInBounds_toArray, List.set_cons_zero, List.set_cons_succ])
            clear hcl; have hcl := hcl2; clear hcl2
            refine wpAnyK_take (i := 2) (v := ?_) hcl hS rfl (by kernel_rfl) (fun _ _ _ h => h) (by rfl) ?_ (fun hcl2 => ?_)
            rotate_left
            · (intro w hSw; (try dsimp only at hSw); first | (go_simp; done) | (go_simp; with_reducible rfl))
            (try simp only [Act.put, List.setIfInBounds_toArray, List.set_cons_zero, List.set_cons_succ])
            clear hcl; have hcl := hcl2; clear hcl2
            refine wpAnyK_take (i := 3) (v := ?_) hcl hS rfl (by kernel_rfl) (fun _ _ _ h => h) (by rfl) ?_ (fun hcl2 => ?_)
            rotate_left
            · (intro w hSw; (try dsimp only at hSw); first | (go_simp; done) | (go_simp; with_reducible rfl))
            (try simp only [Act.put, List.setIfInBounds_toArray, List.set_cons_zero, List.set_cons_succ])
            clear hcl; have hcl := hcl2; clear hcl2
            refine wpAnyK_take (i := 4) (v := ?_) hcl hS rfl (by kernel_rfl) (fun _ _ _ h => h) (by rfl) ?_ (fun hcl2 => ?_)
            rotate_left
            · (intro w hSw; (try dsimp only at hSw); first | (go_simp; done) | (go_simp; with_reducible rfl))
            (try simp only [Act.put, List.setIfInBounds_toArray, List.set_cons_zero, List.set_cons_succ])
            clear hcl; have hcl := hcl2; clear hcl2
            refine wpAnyK_take (i := 5) (v := ?_) hcl hS rfl (by kernel_rfl) (fun _ _ _ h => h) (by rfl) ?_ (fun hcl2 => ?_)
            rotate_left
            · (intro w hSw; (try dsimp only at hSw); first | (go_simp; done) | (go_simp; with_reducible rfl))
            (try simp only [Act.put, List.setIfInBounds_toArray, List.set_cons_zero, List.set_cons_succ])
            clear hcl; have hcl := hcl2; clear hcl2
            refine wpAnyK_take (i := 6) (v := ?_) hcl hS rfl (by kernel_rfl) (fun _ _ _ h => h) (by rfl) ?_ (fun hcl2 => ?_)
            rotate_left
            · (intro w hSw; (try dsimp only at hSw); first | (go_simp; done) | (go_simp; with_reducible rfl))
            (try simp only [Act.put, List.setIfInBounds_toArray, List.set_cons_zero, List.set_cons_succ])
            clear hcl; have hcl := hcl2; clear hcl2
            refine wpAnyK_one (i := 7) hcl (by kernel_rfl) rfl (by rfl) (fun K hK => ?_)
            go_simp
            refine hK.out _ _ (Or.inr (HCA.out _)) (fun hcl2 => ?_)
            clear hK K hcl hS
            have hcl := hcl2
            clear hcl2
            refine wpAnyK_one (i := 8) hcl (by kernel_rfl) rfl (by rfl) (fun K hK => ?_)
            refine wp_nd _ _ (by rfl) (N + 1) tv ns (by rfl) ((R3.out.alloc _).drew) ⟨W9.heap.size, 0, none⟩ 1 { kind := 3, field := t.data.toList, op := x, form := 2, lo := vi, hi := 0, len := ui, pat := (⟨#[]⟩ : ByteArray).data.toList } (by rfl) (by rw [HTOK.out]; exact World.news_of_block (cs := #[.int .i64 3, .string t, .int .i64 x, .int .i64 2, .int .i64 vi, .int .i64 0, .int .i64 ui, .string ⟨#[]⟩]) (t := 56) (fr := (0, 0)) (heap_alloc_new W9 _)) (by omega) (by simp; omega) (W9.heap.size + 1) (by simp) ?_
            intro gg cp w1 hown1 hgrow hat hlt
            have f3' : w1.frozen? ⟨N, 3, none⟩ = false := (hgrow.frozen_far ⟨N, 3, none⟩ (by simp; omega) (Ne.symm HNE.out)).trans (HFA.out _)
            have far : ∀ j, w1.cell? ⟨M, j, none⟩ = _ := fun j => hgrow.cell_far ⟨M, j, none⟩ (by simp; omega) (Ne.symm HNM.out)
            have hS1 : w1.cell? ⟨N, 3, none⟩ = some tv ∧ w1.cell? ⟨M, 0, none⟩ = some (.string t) ∧ w1.cell? ⟨M, 1, none⟩ = some (.int .i64 x) ∧ w1.cell? ⟨M, 2, none⟩ = some (.int .i64 2) ∧ w1.cell? ⟨M, 3, none⟩ = some (.int .i64 vi) ∧ w1.cell? ⟨M, 4, none⟩ = some (.int .i64 0) ∧ w1.cell? ⟨M, 5, none⟩ = some (.int .i64 ui) ∧ w1.cell? ⟨M, 6, none⟩ = some (.string ⟨#[]⟩) :=
              ⟨(hgrow.cell_far ⟨N, 3, none⟩ (by simp; omega) (Ne.symm HNE.out)).trans (HCA.out _).1, (far 0).trans (HCA.out _).2.1, (far 1).trans (HCA.out _).2.2.1, (far 2).trans (HCA.out _).2.2.2.1, (far 3).trans (HCA.out _).2.2.2.2.1, (far 4).trans (HCA.out _).2.2.2.2.2.1, (far 5).trans (HCA.out _).2.2.2.2.2.2.1, (far 6).trans (HCA.out _).2.2.2.2.2.2.2⟩
            have c3' := hS1.1
            refine hK.out _ _ (Or.inr hS1) (fun hcl2 => ?_)
            clear hK K hcl far
            have hcl := hcl2
            clear hcl2
            have hS : (fun w' : World => w'.cell? ⟨N, 3, none⟩ = some tv ∧ w'.cell? ⟨M, 0, none⟩ = some (.string t) ∧ w'.cell? ⟨M, 1, none⟩ = some (.int .i64 x) ∧ w'.cell? ⟨M, 2, none⟩ = some (.int .i64 2) ∧ w'.cell? ⟨M, 3, none⟩ = some (.int .i64 vi) ∧ w'.cell? ⟨M, 4, none⟩ = some (.int .i64 0) ∧ w'.cell? ⟨M, 5, none⟩ = some (.int .i64 ui) ∧ w'.cell? ⟨M, 6, none⟩ = some (.string ⟨#[]⟩)) w1 := hS1
            (try simp only [Act.put, List.setIfInBounds_toArray, List.set_cons_zero, List.set_cons_succ])
            refine wpAnyK_take (i := 9) (v := ?_) hcl hS rfl (by kernel_rfl) (fun _ _ _ h => h) (by rfl) ?_ (fun hcl2 => ?_)
            rotate_left
            · (intro w hSw; (try dsimp only at hSw); first | (go_simp; done) | (go_simp; with_reducible rfl))
            (try simp only [Act.put, List.setIfInBounds_toArray, List.set_cons_zero, List.set_cons_succ])
            clear hcl; have hcl := hcl2; clear hcl2
            refine wpAnyK_take (i := 10) (v := ?_) hcl hS rfl (by kernel_rfl) (fun _ _ _ h => h) (by rfl) ?_ (fun hcl2 => ?_)
            rotate_left
            · (intro w hSw; (try dsimp only at hSw); first | (go_simp; done) | (go_simp; with_reducible rfl))
            (try simp only [Act.put, List.setIfInBounds_toArray, List.set_cons_zero, List.set_cons_succ])
            clear hcl; have hcl := hcl2; clear hcl2
            clear hS1
            refine wpAnyK_one (i := 11) hcl (by kernel_rfl) rfl (by rfl) (fun K hK => ?_)
            go_simp
            refine hK.out _ _ (Or.inl (by kernel_rfl)) (fun hcl2 => ?_)
            clear hK K hcl hcl2 hS
            refine wpAnyK_done (by kernel_rfl) ?_ _
            have hfin := FSt.putN (w := (W9.alloc (.cells #[.int .i64 3, .string t, .int .i64 x, .int .i64 2, .int .i64 vi, .int .i64 0, .int .i64 ui, .string ⟨#[]⟩] 56)).drew) ((R1.out.alloc _).drewN 1) (World.ownsRow.alloc R2.out _) (World.ownsRow.alloc R3.out _) ((R4.out.alloc (by omega) _).drew) hown1 hgrow
            have HFIN := Lib.hid hfin
            clear hfin hown1 hgrow hat hlt c3' f3'
            go_wp2_with fail
            first | go_end0 | ((try simp only [Exit.inBlock, Exit.then]); refine bodyPost_ret (results_none rfl _ _ _) rfl ?_)
            exact FTEnd_ok HRR.out HFIN.out
        rw [Bool.not_eq_true] at hs47
        by_cases hs46 : Sp.sgAt (zs.map ptZ) P3 [46, 46] = true
        · cases hvb : Sp.numAt (zs.map ptZ) P4 with
          | none =>
            have HV2 := Lib.hid (fun W (h : FTs W0 N (some ⟨G, O, none⟩) n cap P4 st ns m 0 M (tcr t x 3 vi 0 0 ⟨#[]⟩) W) => h.val_none HN.out hnb HV.out HTS.out hvb)
            have HRR : Hid (R = .bad P4) := by show _ = _; rw [HRV3.out, if_neg (fun h => by rw [hs47] at h; exact absurd h.2 (by decide)), if_pos ⟨hwh, hs46⟩, hvb]
            have HSG47 := Lib.hid (fun W (h : FTs W0 N (some ⟨G, O, none⟩) n cap P3 st ns m 0 M (tcr t x 1 vi 0 0 ⟨#[]⟩) W) => (h.1.sign P3 ⟨#[47]⟩ HN.out HV.out (b := false) hs47))
            have HSG46 := Lib.hid (fun W (h : FTs W0 N (some ⟨G, O, none⟩) n cap P3 st ns m 0 M (tcr t x 1 vi 0 0 ⟨#[]⟩) W) => (h.1.sign P3 ⟨#[46, 46]⟩ HN.out HV.out (b := true) hs46))
            clear hvb hwh hx hol hs47 hs46
            go_wp2_with fail
            refine (HSG47.out _ HQ6.out).mono ?_
            rintro e w7 ⟨rfl, rfl⟩
            go_wp2_with fail
            refine (HSG46.out _ HQ6.out).mono ?_
            rintro e w7 ⟨rfl, rfl⟩
            go_upto_region 21 with (fail)
            obtain ⟨W7, hW7⟩ : ∃ W7, W6.setCell ⟨N, 1, none⟩ (.int .i64 ((P3 : Int) + 1)) = W7 := ⟨_, rfl⟩
            have hq7 : FTs W0 N (some ⟨G, O, none⟩) n cap P4 st ns m 0 M (tcr t x 1 vi 0 0 ⟨#[]⟩) W7 := by rw [← hW7, ← HP4.out]; exact HQ6.out.at_
            rw [hW7]
            clear hW7 c1 f1 c5 m1 m2 fm2
            have HQ7 := Lib.hid hq7
            clear hq7
            obtain ⟨_, _, m2, _, _, _, _, fm, _⟩ := HQ7.out.mcells
            have fm2 := fm 2
            clear fm
            go_wp2_with fail
            refine (HV2.out _ (HQ7.out.set_ 2 _)).mono ?_
            rintro e w8 ⟨rfl, h8⟩
            clear m2 fm2
            have HQ8 : Hid (FTs W0 N (some ⟨G, O, none⟩) n cap P4 st ns m 50 M (tcr t x 3 vi 0 0 ⟨#[]⟩) w8) := h8
            clear h8
            obtain ⟨_, _, _, _, m4, m5, _, fm, _⟩ := HQ8.out.mcells
            have fm4 := fm 4
            have fm5 := fm 5
            clear fm
            go_upto_region 23 with (fail)
            obtain ⟨W9, hW9⟩ : ∃ W9, w8.setCell ⟨M, 4, none⟩ (.int .i64 0) = W9 := ⟨_, rfl⟩
            have hq9 : FTs W0 N (some ⟨G, O, none⟩) n cap P4 st ns m 50 M (tcr t x 3 vi 0 0 ⟨#[]⟩) W9 := by rw [← hW9]; exact HQ8.out.set_ 4 _
            rw [hW9]
            clear hW9 m4 m5 fm4 fm5
            have HQ := Lib.hid hq9
            clear hq9
            obtain ⟨⟨ov, tv, r1, r2, r3, r4⟩, rb, rNM⟩ := HQ.out
            obtain ⟨y0, y1, y2, y3, y4, y5, y6, _, hMlt⟩ := HQ.out.mcells
            have d3 : W9.cell? ⟨N, 3, none⟩ = some tv := r1.cell 3
            have g3 := r1.frozen 3
            have hNlt := r1.lt
            have hne := nds_ne r3
            have hneM : tv.ownBlock ≠ some M := kind_ne r3 rb (by decide)
            have hS1 : W9.cell? ⟨N, 3, none⟩ = some tv ∧ W9.cell? ⟨M, 0, none⟩ = some (.string t) ∧ W9.cell? ⟨M, 1, none⟩ = some (.int .i64 x) ∧ W9.cell? ⟨M, 2, none⟩ = some (.int .i64 3) ∧ W9.cell? ⟨M, 3, none⟩ = some (.int .i64 vi) ∧ W9.cell? ⟨M, 4, none⟩ = some (.int .i64 0) ∧ W9.cell? ⟨M, 5, none⟩ = some (.int .i64 0) ∧ W9.cell? ⟨M, 6, none⟩ = some (.string ⟨#[]⟩) := ⟨d3, y0, y1, y2, y3, y4, y5, y6⟩
            have HFA : Hid (∀ o, (W9.alloc o).frozen? ⟨N, 3, none⟩ = false) := fun o => (World.frozen?_alloc_past _ _ _ hNlt).trans g3
            have HCA : Hid (∀ o, (W9.alloc o).cell? ⟨N, 3, none⟩ = some tv ∧ (W9.alloc o).cell? ⟨M, 0, none⟩ = some (.string t) ∧ (W9.alloc o).cell? ⟨M, 1, none⟩ = some (.int .i64 x) ∧ (W9.alloc o).cell? ⟨M, 2, none⟩ = some (.int .i64 3) ∧ (W9.alloc o).cell? ⟨M, 3, none⟩ = some (.int .i64 vi) ∧ (W9.alloc o).cell? ⟨M, 4, none⟩ = some (.int .i64 0) ∧ (W9.alloc o).cell? ⟨M, 5, none⟩ = some (.int .i64 0) ∧ (W9.alloc o).cell? ⟨M, 6, none⟩ = some (.string ⟨#[]⟩)) := fun o =>
              ⟨(World.cell?_alloc_lt W9 o ⟨N, 3, none⟩ hNlt).trans d3, (World.cell?_alloc_lt W9 o ⟨M, 0, none⟩ hMlt).trans y0, (World.cell?_alloc_lt W9 o ⟨M, 1, none⟩ hMlt).trans y1, (World.cell?_alloc_lt W9 o ⟨M, 2, none⟩ hMlt).trans y2, (World.cell?_alloc_lt W9 o ⟨M, 3, none⟩ hMlt).trans y3, (World.cell?_alloc_lt W9 o ⟨M, 4, none⟩ hMlt).trans y4, (World.cell?_alloc_lt W9 o ⟨M, 5, none⟩ hMlt).trans y5, (World.cell?_alloc_lt W9 o ⟨M, 6, none⟩ hMlt).trans y6⟩
            have HTOK : Hid (ndCell { kind := 3, field := t.data.toList, op := x, form := 3, lo := vi, hi := 0, len := 0, pat := (⟨#[]⟩ : ByteArray).data.toList } = [.int .i64 3, .string t, .int .i64 x, .int .i64 3, .int .i64 vi, .int .i64 0, .int .i64 0, .string ⟨#[]⟩]) := by
              show _ = _
              unfold ndCell
              simp only [ba_eta]
            have R1 := Lib.hid r1
            have R2 := Lib.hid r2
            have R3 := Lib.hid r3
            have R4 := Lib.hid r4
            have HS1 := Lib.hid hS1
            have HNE := Lib.hid hne
            have HNM := Lib.hid hneM
            clear r1 r2 r3 r4 rb y0 y1 y2 y3 y4 y5 y6 d3 g3 hS1 hne hneM
            (try go_wp2_with fail)
            refine wp_region_K 11 (fun w' => w'.cell? ⟨N, 3, none⟩ = some tv ∧ w'.cell? ⟨M, 0, none⟩ = some (.string t) ∧ w'.cell? ⟨M, 1, none⟩ = some (.int .i64 x) ∧ w'.cell? ⟨M, 2, none⟩ = some (.int .i64 3) ∧ w'.cell? ⟨M, 3, none⟩ = some (.int .i64 vi) ∧ w'.cell? ⟨M, 4, none⟩ = some (.int .i64 0) ∧ w'.cell? ⟨M, 5, none⟩ = some (.int .i64 0) ∧ w'.cell? ⟨M, 6, none⟩ = some (.string ⟨#[]⟩)) (by kernel_rfl) (fun hcl => ?_)
            have hS : (fun w' : World => w'.cell? ⟨N, 3, none⟩ = some tv ∧ w'.cell? ⟨M, 0, none⟩ = some (.string t) ∧ w'.cell? ⟨M, 1, none⟩ = some (.int .i64 x) ∧ w'.cell? ⟨M, 2, none⟩ = some (.int .i64 3) ∧ w'.cell? ⟨M, 3, none⟩ = some (.int .i64 vi) ∧ w'.cell? ⟨M, 4, none⟩ = some (.int .i64 0) ∧ w'.cell? ⟨M, 5, none⟩ = some (.int .i64 0) ∧ w'.cell? ⟨M, 6, none⟩ = some (.string ⟨#[]⟩)) W9.drew := HS1.out
            refine wpAnyK_take (i := 0) (v := ?_) hcl hS rfl (by kernel_rfl) (fun _ _ _ h => h) (by rfl) ?_ (fun hcl2 => ?_)
            rotate_left
            · (intro w hSw; (try dsimp only at hSw); first | (go_simp; done) | (go_simp; with_reducible rfl))
            (try simp only [Act.put, List.setIfInBounds_toArray, List.set_cons_zero, List.set_cons_succ])
            clear hcl; have hcl := hcl2; clear hcl2
            refine wpAnyK_take (i := 1) (v := ?_) hcl hS rfl (by kernel_rfl) (fun _ _ _ h => h) (by rfl) ?_ (fun hcl2 => ?_)
            rotate_left
            · (intro w hSw; (try dsimp only at hSw); first | (go_simp; done) | (go_simp; with_reducible rfl))
            (try simp only [Act.put, List.setIfInBounds_toArray, List.set_cons_zero, List.set_cons_succ])
            clear hcl; have hcl := hcl2; clear hcl2
            refine wpAnyK_take (i := 2) (v := ?_) hcl hS rfl (by kernel_rfl) (fun _ _ _ h => h) (by rfl) ?_ (fun hcl2 => ?_)
            rotate_left
            · (intro w hSw; (try dsimp only at hSw); first | (go_simp; done) | (go_simp; with_reducible rfl))
            (try simp only [Act.put, List.setIfInBounds_toArray, List.set_cons_zero, List.set_cons_succ])
            clear hcl; have hcl := hcl2; clear hcl2
            refine wpAnyK_take (i := 3) (v := ?_) hcl hS rfl (by kernel_rfl) (fun _ _ _ h => h) (by rfl) ?_ (fun hcl2 => ?_)
            rotate_left
            · (intro w hSw; (try dsimp only at hSw); first | (go_simp; done) | (go_simp; with_reducible rfl))
            (try simp only [Act.put, List.setIfInBounds_toArray, List.set_cons_zero, List.set_cons_succ])
            clear hcl; have hcl := hcl2; clear hcl2
            refine wpAnyK_take (i := 4) (v := ?_) hcl hS rfl (by kernel_rfl) (fun _ _ _ h => h) (by rfl) ?_ (fun hcl2 => ?_)
            rotate_left
            · (intro w hSw; (try dsimp only at hSw); first | (go_simp; done) | (go_simp; with_reducible rfl))
            (try simp only [Act.put, List.setIfInBounds_toArray, List.set_cons_zero, List.set_cons_succ])
            clear hcl; have hcl := hcl2; clear hcl2
            refine wpAnyK_take (i := 5) (v := ?_) hcl hS rfl (by kernel_rfl) (fun _ _ _ h => h) (by rfl) ?_ (fun hcl2 => ?_)
            rotate_left
            · (intro w hSw; (try dsimp only at hSw); first | (go_simp; done) | (go_simp; with_reducible rfl))
            (try simp only [Act.put, List.setIfInBounds_toArray, List.set_cons_zero, List.set_cons_succ])
            clear hcl; have hcl := hcl2; clear hcl2
            refine wpAnyK_take (i := 6) (v := ?_) hcl hS rfl (by kernel_rfl) (fun _ _ _ h => h) (by rfl) ?_ (fun hcl2 => ?_)
            rotate_left
            · (intro w hSw; (try dsimp only at hSw); first | (go_simp; done) | (go_simp; with_reducible rfl))
            (try simp only [Act.put, List.setIfInBounds_toArray, List.set_cons_zero, List.set_cons_succ])
            clear hcl; have hcl := hcl2; clear hcl2
            refine wpAnyK_one (i := 7) hcl (by kernel_rfl) rfl (by rfl) (fun K hK => ?_)
            go_simp
            refine hK.out _ _ (Or.inr (HCA.out _)) (fun hcl2 => ?_)
            clear hK K hcl hS
            have hcl := hcl2
            clear hcl2
            refine wpAnyK_one (i := 8) hcl (by kernel_rfl) rfl (by rfl) (fun K hK => ?_)
            refine wp_nd _ _ (by rfl) (N + 1) tv ns (by rfl) ((R3.out.alloc _).drew) ⟨W9.heap.size, 0, none⟩ 1 { kind := 3, field := t.data.toList, op := x, form := 3, lo := vi, hi := 0, len := 0, pat := (⟨#[]⟩ : ByteArray).data.toList } (by rfl) (by rw [HTOK.out]; exact World.news_of_block (cs := #[.int .i64 3, .string t, .int .i64 x, .int .i64 3, .int .i64 vi, .int .i64 0, .int .i64 0, .string ⟨#[]⟩]) (t := 56) (fr := (0, 0)) (heap_alloc_new W9 _)) (by omega) (by simp; omega) (W9.heap.size + 1) (by simp) ?_
            intro gg cp w1 hown1 hgrow hat hlt
            have f3' : w1.frozen? ⟨N, 3, none⟩ = false := (hgrow.frozen_far ⟨N, 3, none⟩ (by simp; omega) (Ne.symm HNE.out)).trans (HFA.out _)
            have far : ∀ j, w1.cell? ⟨M, j, none⟩ = _ := fun j => hgrow.cell_far ⟨M, j, none⟩ (by simp; omega) (Ne.symm HNM.out)
            have hS1 : w1.cell? ⟨N, 3, none⟩ = some tv ∧ w1.cell? ⟨M, 0, none⟩ = some (.string t) ∧ w1.cell? ⟨M, 1, none⟩ = some (.int .i64 x) ∧ w1.cell? ⟨M, 2, none⟩ = some (.int .i64 3) ∧ w1.cell? ⟨M, 3, none⟩ = some (.int .i64 vi) ∧ w1.cell? ⟨M, 4, none⟩ = some (.int .i64 0) ∧ w1.cell? ⟨M, 5, none⟩ = some (.int .i64 0) ∧ w1.cell? ⟨M, 6, none⟩ = some (.string ⟨#[]⟩) :=
              ⟨(hgrow.cell_far ⟨N, 3, none⟩ (by simp; omega) (Ne.symm HNE.out)).trans (HCA.out _).1, (far 0).trans (HCA.out _).2.1, (far 1).trans (HCA.out _).2.2.1, (far 2).trans (HCA.out _).2.2.2.1, (far 3).trans (HCA.out _).2.2.2.2.1, (far 4).trans (HCA.out _).2.2.2.2.2.1, (far 5).trans (HCA.out _).2.2.2.2.2.2.1, (far 6).trans (HCA.out _).2.2.2.2.2.2.2⟩
            have c3' := hS1.1
            refine hK.out _ _ (Or.inr hS1) (fun hcl2 => ?_)
            clear hK K hcl far
            have hcl := hcl2
            clear hcl2
            have hS : (fun w' : World => w'.cell? ⟨N, 3, none⟩ = some tv ∧ w'.cell? ⟨M, 0, none⟩ = some (.string t) ∧ w'.cell? ⟨M, 1, none⟩ = some (.int .i64 x) ∧ w'.cell? ⟨M, 2, none⟩ = some (.int .i64 3) ∧ w'.cell? ⟨M, 3, none⟩ = some (.int .i64 vi) ∧ w'.cell? ⟨M, 4, none⟩ = some (.int .i64 0) ∧ w'.cell? ⟨M, 5, none⟩ = some (.int .i64 0) ∧ w'.cell? ⟨M, 6, none⟩ = some (.string ⟨#[]⟩)) w1 := hS1
            (try simp only [Act.put, List.setIfInBounds_toArray, List.set_cons_zero, List.set_cons_succ])
            refine wpAnyK_take (i := 9) (v := ?_) hcl hS rfl (by kernel_rfl) (fun _ _ _ h => h) (by rfl) ?_ (fun hcl2 => ?_)
            rotate_left
            · (intro w hSw; (try dsimp only at hSw); first | (go_simp; done) | (go_simp; with_reducible rfl))
            (try simp only [Act.put, List.setIfInBounds_toArray, List.set_cons_zero, List.set_cons_succ])
            clear hcl; have hcl := hcl2; clear hcl2
            refine wpAnyK_take (i := 10) (v := ?_) hcl hS rfl (by kernel_rfl) (fun _ _ _ h => h) (by rfl) ?_ (fun hcl2 => ?_)
            rotate_left
            · (intro w hSw; (try dsimp only at hSw); first | (go_simp; done) | (go_simp; with_reducible rfl))
            (try simp only [Act.put, List.setIfInBounds_toArray, List.set_cons_zero, List.set_cons_succ])
            clear hcl; have hcl := hcl2; clear hcl2
            clear hS1
            refine wpAnyK_one (i := 11) hcl (by kernel_rfl) rfl (by rfl) (fun K hK => ?_)
            go_simp
            refine hK.out _ _ (Or.inl (by kernel_rfl)) (fun hcl2 => ?_)
            clear hK K hcl hcl2 hS
            refine wpAnyK_done (by kernel_rfl) ?_ _
            have hfin := FSt.putN (w := (W9.alloc (.cells #[.int .i64 3, .string t, .int .i64 x, .int .i64 3, .int .i64 vi, .int .i64 0, .int .i64 0, .string ⟨#[]⟩] 56)).drew) ((R1.out.alloc _).drewN 1) (World.ownsRow.alloc R2.out _) (World.ownsRow.alloc R3.out _) ((R4.out.alloc (by omega) _).drew) hown1 hgrow
            have HFIN := Lib.hid hfin
            clear hfin hown1 hgrow hat hlt c3' f3'
            go_wp2_with fail
            first | go_end0 | ((try simp only [Exit.inBlock, Exit.then]); refine bodyPost_ret (results_none rfl _ _ _) rfl ?_)
            exact FTEnd_bad HRR.out HFIN.out
          | some u =>
            obtain ⟨ui, hui⟩ : ∃ ui : Int, (u : Int) = ui := ⟨_, rfl⟩
            have HV2 := Lib.hid (fun W (h : FTs W0 N (some ⟨G, O, none⟩) n cap P4 st ns m 0 M (tcr t x 3 vi 0 0 ⟨#[]⟩) W) => h.val_some HN.out hnb HV.out HTS.out hvb hui (show P4 + 1 = P5 from HP5.out))
            have HRR : Hid (R = .ok P5 { kind := 3, field := t.data.toList, op := x, form := 3, lo := vi, hi := ui }) := by show _ = _; rw [HRV3.out, if_neg (fun h => by rw [hs47] at h; exact absurd h.2 (by decide)), if_pos ⟨hwh, hs46⟩, hvb]; simp only []; rw [hui]
            have HSG47 := Lib.hid (fun W (h : FTs W0 N (some ⟨G, O, none⟩) n cap P3 st ns m 0 M (tcr t x 1 vi 0 0 ⟨#[]⟩) W) => (h.1.sign P3 ⟨#[47]⟩ HN.out HV.out (b := false) hs47))
            have HSG46 := Lib.hid (fun W (h : FTs W0 N (some ⟨G, O, none⟩) n cap P3 st ns m 0 M (tcr t x 1 vi 0 0 ⟨#[]⟩) W) => (h.1.sign P3 ⟨#[46, 46]⟩ HN.out HV.out (b := true) hs46))
            clear hvb hwh hx hol hs47 hs46 hui
            go_wp2_with fail
            refine (HSG47.out _ HQ6.out).mono ?_
            rintro e w7 ⟨rfl, rfl⟩
            go_wp2_with fail
            refine (HSG46.out _ HQ6.out).mono ?_
            rintro e w7 ⟨rfl, rfl⟩
            go_upto_region 21 with (fail)
            obtain ⟨W7, hW7⟩ : ∃ W7, W6.setCell ⟨N, 1, none⟩ (.int .i64 ((P3 : Int) + 1)) = W7 := ⟨_, rfl⟩
            have hq7 : FTs W0 N (some ⟨G, O, none⟩) n cap P4 st ns m 0 M (tcr t x 1 vi 0 0 ⟨#[]⟩) W7 := by rw [← hW7, ← HP4.out]; exact HQ6.out.at_
            rw [hW7]
            clear hW7 c1 f1 c5 m1 m2 fm2
            have HQ7 := Lib.hid hq7
            clear hq7
            obtain ⟨_, _, m2, _, _, _, _, fm, _⟩ := HQ7.out.mcells
            have fm2 := fm 2
            clear fm
            go_wp2_with fail
            refine (HV2.out _ (HQ7.out.set_ 2 _)).mono ?_
            rintro e w8 ⟨rfl, h8⟩
            clear m2 fm2
            have HQ8 : Hid (FTs W0 N (some ⟨G, O, none⟩) n cap P5 st ns m 0 M (tcr t x 3 vi 0 0 ⟨#[]⟩) w8) := h8
            clear h8
            obtain ⟨_, _, _, _, m4, m5, _, fm, _⟩ := HQ8.out.mcells
            have fm4 := fm 4
            have fm5 := fm 5
            clear fm
            go_upto_region 23 with (fail)
            obtain ⟨W9, hW9⟩ : ∃ W9, w8.setCell ⟨M, 4, none⟩ (.int .i64 ui) = W9 := ⟨_, rfl⟩
            have hq9 : FTs W0 N (some ⟨G, O, none⟩) n cap P5 st ns m 0 M (tcr t x 3 vi ui 0 ⟨#[]⟩) W9 := by rw [← hW9]; exact HQ8.out.set_ 4 _
            rw [hW9]
            clear hW9 m4 m5 fm4 fm5
            have HQ := Lib.hid hq9
            clear hq9
            obtain ⟨⟨ov, tv, r1, r2, r3, r4⟩, rb, rNM⟩ := HQ.out
            obtain ⟨y0, y1, y2, y3, y4, y5, y6, _, hMlt⟩ := HQ.out.mcells
            have d3 : W9.cell? ⟨N, 3, none⟩ = some tv := r1.cell 3
            have g3 := r1.frozen 3
            have hNlt := r1.lt
            have hne := nds_ne r3
            have hneM : tv.ownBlock ≠ some M := kind_ne r3 rb (by decide)
            have hS1 : W9.cell? ⟨N, 3, none⟩ = some tv ∧ W9.cell? ⟨M, 0, none⟩ = some (.string t) ∧ W9.cell? ⟨M, 1, none⟩ = some (.int .i64 x) ∧ W9.cell? ⟨M, 2, none⟩ = some (.int .i64 3) ∧ W9.cell? ⟨M, 3, none⟩ = some (.int .i64 vi) ∧ W9.cell? ⟨M, 4, none⟩ = some (.int .i64 ui) ∧ W9.cell? ⟨M, 5, none⟩ = some (.int .i64 0) ∧ W9.cell? ⟨M, 6, none⟩ = some (.string ⟨#[]⟩) := ⟨d3, y0, y1, y2, y3, y4, y5, y6⟩
            have HFA : Hid (∀ o, (W9.alloc o).frozen? ⟨N, 3, none⟩ = false) := fun o => (World.frozen?_alloc_past _ _ _ hNlt).trans g3
            have HCA : Hid (∀ o, (W9.alloc o).cell? ⟨N, 3, none⟩ = some tv ∧ (W9.alloc o).cell? ⟨M, 0, none⟩ = some (.string t) ∧ (W9.alloc o).cell? ⟨M, 1, none⟩ = some (.int .i64 x) ∧ (W9.alloc o).cell? ⟨M, 2, none⟩ = some (.int .i64 3) ∧ (W9.alloc o).cell? ⟨M, 3, none⟩ = some (.int .i64 vi) ∧ (W9.alloc o).cell? ⟨M, 4, none⟩ = some (.int .i64 ui) ∧ (W9.alloc o).cell? ⟨M, 5, none⟩ = some (.int .i64 0) ∧ (W9.alloc o).cell? ⟨M, 6, none⟩ = some (.string ⟨#[]⟩)) := fun o =>
              ⟨(World.cell?_alloc_lt W9 o ⟨N, 3, none⟩ hNlt).trans d3, (World.cell?_alloc_lt W9 o ⟨M, 0, none⟩ hMlt).trans y0, (World.cell?_alloc_lt W9 o ⟨M, 1, none⟩ hMlt).trans y1, (World.cell?_alloc_lt W9 o ⟨M, 2, none⟩ hMlt).trans y2, (World.cell?_alloc_lt W9 o ⟨M, 3, none⟩ hMlt).trans y3, (World.cell?_alloc_lt W9 o ⟨M, 4, none⟩ hMlt).trans y4, (World.cell?_alloc_lt W9 o ⟨M, 5, none⟩ hMlt).trans y5, (World.cell?_alloc_lt W9 o ⟨M, 6, none⟩ hMlt).trans y6⟩
            have HTOK : Hid (ndCell { kind := 3, field := t.data.toList, op := x, form := 3, lo := vi, hi := ui, len := 0, pat := (⟨#[]⟩ : ByteArray).data.toList } = [.int .i64 3, .string t, .int .i64 x, .int .i64 3, .int .i64 vi, .int .i64 ui, .int .i64 0, .string ⟨#[]⟩]) := by
              show _ = _
              unfold ndCell
              simp only [ba_eta]
            have R1 := Lib.hid r1
            have R2 := Lib.hid r2
            have R3 := Lib.hid r3
            have R4 := Lib.hid r4
            have HS1 := Lib.hid hS1
            have HNE := Lib.hid hne
            have HNM := Lib.hid hneM
            clear r1 r2 r3 r4 rb y0 y1 y2 y3 y4 y5 y6 d3 g3 hS1 hne hneM
            (try go_wp2_with fail)
            refine wp_region_K 11 (fun w' => w'.cell? ⟨N, 3, none⟩ = some tv ∧ w'.cell? ⟨M, 0, none⟩ = some (.string t) ∧ w'.cell? ⟨M, 1, none⟩ = some (.int .i64 x) ∧ w'.cell? ⟨M, 2, none⟩ = some (.int .i64 3) ∧ w'.cell? ⟨M, 3, none⟩ = some (.int .i64 vi) ∧ w'.cell? ⟨M, 4, none⟩ = some (.int .i64 ui) ∧ w'.cell? ⟨M, 5, none⟩ = some (.int .i64 0) ∧ w'.cell? ⟨M, 6, none⟩ = some (.string ⟨#[]⟩)) (by kernel_rfl) (fun hcl => ?_)
            have hS : (fun w' : World => w'.cell? ⟨N, 3, none⟩ = some tv ∧ w'.cell? ⟨M, 0, none⟩ = some (.string t) ∧ w'.cell? ⟨M, 1, none⟩ = some (.int .i64 x) ∧ w'.cell? ⟨M, 2, none⟩ = some (.int .i64 3) ∧ w'.cell? ⟨M, 3, none⟩ = some (.int .i64 vi) ∧ w'.cell? ⟨M, 4, none⟩ = some (.int .i64 ui) ∧ w'.cell? ⟨M, 5, none⟩ = some (.int .i64 0) ∧ w'.cell? ⟨M, 6, none⟩ = some (.string ⟨#[]⟩)) W9.drew := HS1.out
            refine wpAnyK_take (i := 0) (v := ?_) hcl hS rfl (by kernel_rfl) (fun _ _ _ h => h) (by rfl) ?_ (fun hcl2 => ?_)
            rotate_left
            · (intro w hSw; (try dsimp only at hSw); first | (go_simp; done) | (go_simp; with_reducible rfl))
            (try simp only [Act.put, List.setIfInBounds_toArray, List.set_cons_zero, List.set_cons_succ])
            clear hcl; have hcl := hcl2; clear hcl2
            refine wpAnyK_take (i := 1) (v := ?_) hcl hS rfl (by kernel_rfl) (fun _ _ _ h => h) (by rfl) ?_ (fun hcl2 => ?_)
            rotate_left
            · (intro w hSw; (try dsimp only at hSw); first | (go_simp; done) | (go_simp; with_reducible rfl))
            (try simp only [Act.put, List.setIfInBounds_toArray, List.set_cons_zero, List.set_cons_succ])
            clear hcl; have hcl := hcl2; clear hcl2
            refine wpAnyK_take (i := 2) (v := ?_) hcl hS rfl (by kernel_rfl) (fun _ _ _ h => h) (by rfl) ?_ (fun hcl2 => ?_)
            rotate_left
            · (intro w hSw; (try dsimp only at hSw); first | (go_simp; done) | (go_simp; with_reducible rfl))
            (try simp only [Act.put, List.setIfInBounds_toArray, List.set_cons_zero, List.set_cons_succ])
            clear hcl; have hcl := hcl2; clear hcl2
            refine wpAnyK_take (i := 3) (v := ?_) hcl hS rfl (by kernel_rfl) (fun _ _ _ h => h) (by rfl) ?_ (fun hcl2 => ?_)
            rotate_left
            · (intro w hSw; (try dsimp only at hSw); first | (go_simp; done) | (go_simp; with_reducible rfl))
            (try simp only [Act.put, List.setIfInBounds_toArray, List.set_cons_zero, List.set_cons_succ])
            clear hcl; have hcl := hcl2; clear hcl2
            refine wpAnyK_take (i := 4) (v := ?_) hcl hS rfl (by kernel_rfl) (fun _ _ _ h => h) (by rfl) ?_ (fun hcl2 => ?_)
            rotate_left
            · (intro w hSw; (try dsimp only at hSw); first | (go_simp; done) | (go_simp; with_reducible rfl))
            (try simp only [Act.put, List.setIfInBounds_toArray, List.set_cons_zero, List.set_cons_succ])
            clear hcl; have hcl := hcl2; clear hcl2
            refine wpAnyK_take (i := 5) (v := ?_) hcl hS rfl (by kernel_rfl) (fun _ _ _ h => h) (by rfl) ?_ (fun hcl2 => ?_)
            rotate_left
            · (intro w hSw; (try dsimp only at hSw); first | (go_simp; done) | (go_simp; with_reducible rfl))
            (try simp only [Act.put, List.setIfInBounds_toArray, List.set_cons_zero, List.set_cons_succ])
            clear hcl; have hcl := hcl2; clear hcl2
            refine wpAnyK_take (i := 6) (v := ?_) hcl hS rfl (by kernel_rfl) (fun _ _ _ h => h) (by rfl) ?_ (fun hcl2 => ?_)
            rotate_left
            · (intro w hSw; (try dsimp only at hSw); first | (go_simp; done) | (go_simp; with_reducible rfl))
            (try simp only [Act.put, List.setIfInBounds_toArray, List.set_cons_zero, List.set_cons_succ])
            clear hcl; have hcl := hcl2; clear hcl2
            refine wpAnyK_one (i := 7) hcl (by kernel_rfl) rfl (by rfl) (fun K hK => ?_)
            go_simp
            refine hK.out _ _ (Or.inr (HCA.out _)) (fun hcl2 => ?_)
            clear hK K hcl hS
            have hcl := hcl2
            clear hcl2
            refine wpAnyK_one (i := 8) hcl (by kernel_rfl) rfl (by rfl) (fun K hK => ?_)
            refine wp_nd _ _ (by rfl) (N + 1) tv ns (by rfl) ((R3.out.alloc _).drew) ⟨W9.heap.size, 0, none⟩ 1 { kind := 3, field := t.data.toList, op := x, form := 3, lo := vi, hi := ui, len := 0, pat := (⟨#[]⟩ : ByteArray).data.toList } (by rfl) (by rw [HTOK.out]; exact World.news_of_block (cs := #[.int .i64 3, .string t, .int .i64 x, .int .i64 3, .int .i64 vi, .int .i64 ui, .int .i64 0, .string ⟨#[]⟩]) (t := 56) (fr := (0, 0)) (heap_alloc_new W9 _)) (by omega) (by simp; omega) (W9.heap.size + 1) (by simp) ?_
            intro gg cp w1 hown1 hgrow hat hlt
            have f3' : w1.frozen? ⟨N, 3, none⟩ = false := (hgrow.frozen_far ⟨N, 3, none⟩ (by simp; omega) (Ne.symm HNE.out)).trans (HFA.out _)
            have far : ∀ j, w1.cell? ⟨M, j, none⟩ = _ := fun j => hgrow.cell_far ⟨M, j, none⟩ (by simp; omega) (Ne.symm HNM.out)
            have hS1 : w1.cell? ⟨N, 3, none⟩ = some tv ∧ w1.cell? ⟨M, 0, none⟩ = some (.string t) ∧ w1.cell? ⟨M, 1, none⟩ = some (.int .i64 x) ∧ w1.cell? ⟨M, 2, none⟩ = some (.int .i64 3) ∧ w1.cell? ⟨M, 3, none⟩ = some (.int .i64 vi) ∧ w1.cell? ⟨M, 4, none⟩ = some (.int .i64 ui) ∧ w1.cell? ⟨M, 5, none⟩ = some (.int .i64 0) ∧ w1.cell? ⟨M, 6, none⟩ = some (.string ⟨#[]⟩) :=
              ⟨(hgrow.cell_far ⟨N, 3, none⟩ (by simp; omega) (Ne.symm HNE.out)).trans (HCA.out _).1, (far 0).trans (HCA.out _).2.1, (far 1).trans (HCA.out _).2.2.1, (far 2).trans (HCA.out _).2.2.2.1, (far 3).trans (HCA.out _).2.2.2.2.1, (far 4).trans (HCA.out _).2.2.2.2.2.1, (far 5).trans (HCA.out _).2.2.2.2.2.2.1, (far 6).trans (HCA.out _).2.2.2.2.2.2.2⟩
            have c3' := hS1.1
            refine hK.out _ _ (Or.inr hS1) (fun hcl2 => ?_)
            clear hK K hcl far
            have hcl := hcl2
            clear hcl2
            have hS : (fun w' : World => w'.cell? ⟨N, 3, none⟩ = some tv ∧ w'.cell? ⟨M, 0, none⟩ = some (.string t) ∧ w'.cell? ⟨M, 1, none⟩ = some (.int .i64 x) ∧ w'.cell? ⟨M, 2, none⟩ = some (.int .i64 3) ∧ w'.cell? ⟨M, 3, none⟩ = some (.int .i64 vi) ∧ w'.cell? ⟨M, 4, none⟩ = some (.int .i64 ui) ∧ w'.cell? ⟨M, 5, none⟩ = some (.int .i64 0) ∧ w'.cell? ⟨M, 6, none⟩ = some (.string ⟨#[]⟩)) w1 := hS1
            (try simp only [Act.put, List.setIfInBounds_toArray, List.set_cons_zero, List.set_cons_succ])
            refine wpAnyK_take (i := 9) (v := ?_) hcl hS rfl (by kernel_rfl) (fun _ _ _ h => h) (by rfl) ?_ (fun hcl2 => ?_)
            rotate_left
            · (intro w hSw; (try dsimp only at hSw); first | (go_simp; done) | (go_simp; with_reducible rfl))
            (try simp only [Act.put, List.setIfInBounds_toArray, List.set_cons_zero, List.set_cons_succ])
            clear hcl; have hcl := hcl2; clear hcl2
            refine wpAnyK_take (i := 10) (v := ?_) hcl hS rfl (by kernel_rfl) (fun _ _ _ h => h) (by rfl) ?_ (fun hcl2 => ?_)
            rotate_left
            · (intro w hSw; (try dsimp only at hSw); first | (go_simp; done) | (go_simp; with_reducible rfl))
            (try simp only [Act.put, List.setIfInBounds_toArray, List.set_cons_zero, List.set_cons_succ])
            clear hcl; have hcl := hcl2; clear hcl2
            clear hS1
            refine wpAnyK_one (i := 11) hcl (by kernel_rfl) rfl (by rfl) (fun K hK => ?_)
            go_simp
            refine hK.out _ _ (Or.inl (by kernel_rfl)) (fun hcl2 => ?_)
            clear hK K hcl hcl2 hS
            refine wpAnyK_done (by kernel_rfl) ?_ _
            have hfin := FSt.putN (w := (W9.alloc (.cells #[.int .i64 3, .string t, .int .i64 x, .int .i64 3, .int .i64 vi, .int .i64 ui, .int .i64 0, .string ⟨#[]⟩] 56)).drew) ((R1.out.alloc _).drewN 1) (World.ownsRow.alloc R2.out _) (World.ownsRow.alloc R3.out _) ((R4.out.alloc (by omega) _).drew) hown1 hgrow
            have HFIN := Lib.hid hfin
            clear hfin hown1 hgrow hat hlt c3' f3'
            go_wp2_with fail
            first | go_end0 | ((try simp only [Exit.inBlock, Exit.then]); refine bodyPost_ret (results_none rfl _ _ _) rfl ?_)
            exact FTEnd_ok HRR.out HFIN.out
        rw [Bool.not_eq_true] at hs46
        have HRR : Hid (R = .ok P3 { kind := 3, field := t.data.toList, op := x, form := 1, lo := vi }) := by show _ = _; rw [HRV3.out, if_neg (fun h => by rw [hs47] at h; exact absurd h.2 (by decide)), if_neg (fun h => by rw [hs46] at h; exact absurd h.2 (by decide))]
        have HSG47 := Lib.hid (fun W (h : FTs W0 N (some ⟨G, O, none⟩) n cap P3 st ns m 0 M (tcr t x 1 vi 0 0 ⟨#[]⟩) W) => (h.1.sign P3 ⟨#[47]⟩ HN.out HV.out (b := false) hs47))
        have HSG46 := Lib.hid (fun W (h : FTs W0 N (some ⟨G, O, none⟩) n cap P3 st ns m 0 M (tcr t x 1 vi 0 0 ⟨#[]⟩) W) => (h.1.sign P3 ⟨#[46, 46]⟩ HN.out HV.out (b := false) hs46))
        clear hwh hx hol hs47 hs46
        go_wp2_with fail
        refine (HSG47.out _ HQ6.out).mono ?_
        rintro e w7 ⟨rfl, rfl⟩
        go_wp2_with fail
        refine (HSG46.out _ HQ6.out).mono ?_
        rintro e w7 ⟨rfl, rfl⟩
        go_upto_region 23 with (fail)
        clear c1 f1 c5 m1 m2 fm2
        have HQ := HQ6
        obtain ⟨⟨ov, tv, r1, r2, r3, r4⟩, rb, rNM⟩ := HQ.out
        obtain ⟨y0, y1, y2, y3, y4, y5, y6, _, hMlt⟩ := HQ.out.mcells
        have d3 : W6.cell? ⟨N, 3, none⟩ = some tv := r1.cell 3
        have g3 := r1.frozen 3
        have hNlt := r1.lt
        have hne := nds_ne r3
        have hneM : tv.ownBlock ≠ some M := kind_ne r3 rb (by decide)
        have hS1 : W6.cell? ⟨N, 3, none⟩ = some tv ∧ W6.cell? ⟨M, 0, none⟩ = some (.string t) ∧ W6.cell? ⟨M, 1, none⟩ = some (.int .i64 x) ∧ W6.cell? ⟨M, 2, none⟩ = some (.int .i64 1) ∧ W6.cell? ⟨M, 3, none⟩ = some (.int .i64 vi) ∧ W6.cell? ⟨M, 4, none⟩ = some (.int .i64 0) ∧ W6.cell? ⟨M, 5, none⟩ = some (.int .i64 0) ∧ W6.cell? ⟨M, 6, none⟩ = some (.string ⟨#[]⟩) := ⟨d3, y0, y1, y2, y3, y4, y5, y6⟩
        have HFA : Hid (∀ o, (W6.alloc o).frozen? ⟨N, 3, none⟩ = false) := fun o => (World.frozen?_alloc_past _ _ _ hNlt).trans g3
        have HCA : Hid (∀ o, (W6.alloc o).cell? ⟨N, 3, none⟩ = some tv ∧ (W6.alloc o).cell? ⟨M, 0, none⟩ = some (.string t) ∧ (W6.alloc o).cell? ⟨M, 1, none⟩ = some (.int .i64 x) ∧ (W6.alloc o).cell? ⟨M, 2, none⟩ = some (.int .i64 1) ∧ (W6.alloc o).cell? ⟨M, 3, none⟩ = some (.int .i64 vi) ∧ (W6.alloc o).cell? ⟨M, 4, none⟩ = some (.int .i64 0) ∧ (W6.alloc o).cell? ⟨M, 5, none⟩ = some (.int .i64 0) ∧ (W6.alloc o).cell? ⟨M, 6, none⟩ = some (.string ⟨#[]⟩)) := fun o =>
          ⟨(World.cell?_alloc_lt W6 o ⟨N, 3, none⟩ hNlt).trans d3, (World.cell?_alloc_lt W6 o ⟨M, 0, none⟩ hMlt).trans y0, (World.cell?_alloc_lt W6 o ⟨M, 1, none⟩ hMlt).trans y1, (World.cell?_alloc_lt W6 o ⟨M, 2, none⟩ hMlt).trans y2, (World.cell?_alloc_lt W6 o ⟨M, 3, none⟩ hMlt).trans y3, (World.cell?_alloc_lt W6 o ⟨M, 4, none⟩ hMlt).trans y4, (World.cell?_alloc_lt W6 o ⟨M, 5, none⟩ hMlt).trans y5, (World.cell?_alloc_lt W6 o ⟨M, 6, none⟩ hMlt).trans y6⟩
        have HTOK : Hid (ndCell { kind := 3, field := t.data.toList, op := x, form := 1, lo := vi, hi := 0, len := 0, pat := (⟨#[]⟩ : ByteArray).data.toList } = [.int .i64 3, .string t, .int .i64 x, .int .i64 1, .int .i64 vi, .int .i64 0, .int .i64 0, .string ⟨#[]⟩]) := by
          show _ = _
          unfold ndCell
          simp only [ba_eta]
        have R1 := Lib.hid r1
        have R2 := Lib.hid r2
        have R3 := Lib.hid r3
        have R4 := Lib.hid r4
        have HS1 := Lib.hid hS1
        have HNE := Lib.hid hne
        have HNM := Lib.hid hneM
        clear r1 r2 r3 r4 rb y0 y1 y2 y3 y4 y5 y6 d3 g3 hS1 hne hneM
        (try go_wp2_with fail)
        refine wp_region_K 11 (fun w' => w'.cell? ⟨N, 3, none⟩ = some tv ∧ w'.cell? ⟨M, 0, none⟩ = some (.string t) ∧ w'.cell? ⟨M, 1, none⟩ = some (.int .i64 x) ∧ w'.cell? ⟨M, 2, none⟩ = some (.int .i64 1) ∧ w'.cell? ⟨M, 3, none⟩ = some (.int .i64 vi) ∧ w'.cell? ⟨M, 4, none⟩ = some (.int .i64 0) ∧ w'.cell? ⟨M, 5, none⟩ = some (.int .i64 0) ∧ w'.cell? ⟨M, 6, none⟩ = some (.string ⟨#[]⟩)) (by kernel_rfl) (fun hcl => ?_)
        have hS : (fun w' : World => w'.cell? ⟨N, 3, none⟩ = some tv ∧ w'.cell? ⟨M, 0, none⟩ = some (.string t) ∧ w'.cell? ⟨M, 1, none⟩ = some (.int .i64 x) ∧ w'.cell? ⟨M, 2, none⟩ = some (.int .i64 1) ∧ w'.cell? ⟨M, 3, none⟩ = some (.int .i64 vi) ∧ w'.cell? ⟨M, 4, none⟩ = some (.int .i64 0) ∧ w'.cell? ⟨M, 5, none⟩ = some (.int .i64 0) ∧ w'.cell? ⟨M, 6, none⟩ = some (.string ⟨#[]⟩)) W6.drew := HS1.out
        refine wpAnyK_take (i := 0) (v := ?_) hcl hS rfl (by kernel_rfl) (fun _ _ _ h => h) (by rfl) ?_ (fun hcl2 => ?_)
        rotate_left
        · (intro w hSw; (try dsimp only at hSw); first | (go_simp; done) | (go_simp; with_reducible rfl))
        (try simp only [Act.put, List.setIfInBounds_toArray, List.set_cons_zero, List.set_cons_succ])
        clear hcl; have hcl := hcl2; clear hcl2
        refine wpAnyK_take (i := 1) (v := ?_) hcl hS rfl (by kernel_rfl) (fun _ _ _ h => h) (by rfl) ?_ (fun hcl2 => ?_)
        rotate_left
        · (intro w hSw; (try dsimp only at hSw); first | (go_simp; done) | (go_simp; with_reducible rfl))
        (try simp only [Act.put, List.setIfInBounds_toArray, List.set_cons_zero, List.set_cons_succ])
        clear hcl; have hcl := hcl2; clear hcl2
        refine wpAnyK_take (i := 2) (v := ?_) hcl hS rfl (by kernel_rfl) (fun _ _ _ h => h) (by rfl) ?_ (fun hcl2 => ?_)
        rotate_left
        · (intro w hSw; (try dsimp only at hSw); first | (go_simp; done) | (go_simp; with_reducible rfl))
        (try simp only [Act.put, List.setIfInBounds_toArray, List.set_cons_zero, List.set_cons_succ])
        clear hcl; have hcl := hcl2; clear hcl2
        refine wpAnyK_take (i := 3) (v := ?_) hcl hS rfl (by kernel_rfl) (fun _ _ _ h => h) (by rfl) ?_ (fun hcl2 => ?_)
        rotate_left
        · (intro w hSw; (try dsimp only at hSw); first | (go_simp; done) | (go_simp; with_reducible rfl))
        (try simp only [Act.put, List.setIfInBounds_toArray, List.set_cons_zero, List.set_cons_succ])
        clear hcl; have hcl := hcl2; clear hcl2
        refine wpAnyK_take (i := 4) (v := ?_) hcl hS rfl (by kernel_rfl) (fun _ _ _ h => h) (by rfl) ?_ (fun hcl2 => ?_)
        rotate_left
        · (intro w hSw; (try dsimp only at hSw); first | (go_simp; done) | (go_simp; with_reducible rfl))
        (try simp only [Act.put, List.setIfInBounds_toArray, List.set_cons_zero, List.set_cons_succ])
        clear hcl; have hcl := hcl2; clear hcl2
        refine wpAnyK_take (i := 5) (v := ?_) hcl hS rfl (by kernel_rfl) (fun _ _ _ h => h) (by rfl) ?_ (fun hcl2 => ?_)
        rotate_left
        · (intro w hSw; (try dsimp only at hSw); first | (go_simp; done) | (go_simp; with_reducible rfl))
        (try simp only [Act.put, List.setIfInBounds_toArray, List.set_cons_zero, List.set_cons_succ])
        clear hcl; have hcl := hcl2; clear hcl2
        refine wpAnyK_take (i := 6) (v := ?_) hcl hS rfl (by kernel_rfl) (fun _ _ _ h => h) (by rfl) ?_ (fun hcl2 => ?_)
        rotate_left
        · (intro w hSw; (try dsimp only at hSw); first | (go_simp; done) | (go_simp; with_reducible rfl))
        (try simp only [Act.put, List.setIfInBounds_toArray, List.set_cons_zero, List.set_cons_succ])
        clear hcl; have hcl := hcl2; clear hcl2
        refine wpAnyK_one (i := 7) hcl (by kernel_rfl) rfl (by rfl) (fun K hK => ?_)
        go_simp
        refine hK.out _ _ (Or.inr (HCA.out _)) (fun hcl2 => ?_)
        clear hK K hcl hS
        have hcl := hcl2
        clear hcl2
        refine wpAnyK_one (i := 8) hcl (by kernel_rfl) rfl (by rfl) (fun K hK => ?_)
        refine wp_nd _ _ (by rfl) (N + 1) tv ns (by rfl) ((R3.out.alloc _).drew) ⟨W6.heap.size, 0, none⟩ 1 { kind := 3, field := t.data.toList, op := x, form := 1, lo := vi, hi := 0, len := 0, pat := (⟨#[]⟩ : ByteArray).data.toList } (by rfl) (by rw [HTOK.out]; exact World.news_of_block (cs := #[.int .i64 3, .string t, .int .i64 x, .int .i64 1, .int .i64 vi, .int .i64 0, .int .i64 0, .string ⟨#[]⟩]) (t := 56) (fr := (0, 0)) (heap_alloc_new W6 _)) (by omega) (by simp; omega) (W6.heap.size + 1) (by simp) ?_
        intro gg cp w1 hown1 hgrow hat hlt
        have f3' : w1.frozen? ⟨N, 3, none⟩ = false := (hgrow.frozen_far ⟨N, 3, none⟩ (by simp; omega) (Ne.symm HNE.out)).trans (HFA.out _)
        have far : ∀ j, w1.cell? ⟨M, j, none⟩ = _ := fun j => hgrow.cell_far ⟨M, j, none⟩ (by simp; omega) (Ne.symm HNM.out)
        have hS1 : w1.cell? ⟨N, 3, none⟩ = some tv ∧ w1.cell? ⟨M, 0, none⟩ = some (.string t) ∧ w1.cell? ⟨M, 1, none⟩ = some (.int .i64 x) ∧ w1.cell? ⟨M, 2, none⟩ = some (.int .i64 1) ∧ w1.cell? ⟨M, 3, none⟩ = some (.int .i64 vi) ∧ w1.cell? ⟨M, 4, none⟩ = some (.int .i64 0) ∧ w1.cell? ⟨M, 5, none⟩ = some (.int .i64 0) ∧ w1.cell? ⟨M, 6, none⟩ = some (.string ⟨#[]⟩) :=
          ⟨(hgrow.cell_far ⟨N, 3, none⟩ (by simp; omega) (Ne.symm HNE.out)).trans (HCA.out _).1, (far 0).trans (HCA.out _).2.1, (far 1).trans (HCA.out _).2.2.1, (far 2).trans (HCA.out _).2.2.2.1, (far 3).trans (HCA.out _).2.2.2.2.1, (far 4).trans (HCA.out _).2.2.2.2.2.1, (far 5).trans (HCA.out _).2.2.2.2.2.2.1, (far 6).trans (HCA.out _).2.2.2.2.2.2.2⟩
        have c3' := hS1.1
        refine hK.out _ _ (Or.inr hS1) (fun hcl2 => ?_)
        clear hK K hcl far
        have hcl := hcl2
        clear hcl2
        have hS : (fun w' : World => w'.cell? ⟨N, 3, none⟩ = some tv ∧ w'.cell? ⟨M, 0, none⟩ = some (.string t) ∧ w'.cell? ⟨M, 1, none⟩ = some (.int .i64 x) ∧ w'.cell? ⟨M, 2, none⟩ = some (.int .i64 1) ∧ w'.cell? ⟨M, 3, none⟩ = some (.int .i64 vi) ∧ w'.cell? ⟨M, 4, none⟩ = some (.int .i64 0) ∧ w'.cell? ⟨M, 5, none⟩ = some (.int .i64 0) ∧ w'.cell? ⟨M, 6, none⟩ = some (.string ⟨#[]⟩)) w1 := hS1
        (try simp only [Act.put, List.setIfInBounds_toArray, List.set_cons_zero, List.set_cons_succ])
        refine wpAnyK_take (i := 9) (v := ?_) hcl hS rfl (by kernel_rfl) (fun _ _ _ h => h) (by rfl) ?_ (fun hcl2 => ?_)
        rotate_left
        · (intro w hSw; (try dsimp only at hSw); first | (go_simp; done) | (go_simp; with_reducible rfl))
        (try simp only [Act.put, List.setIfInBounds_toArray, List.set_cons_zero, List.set_cons_succ])
        clear hcl; have hcl := hcl2; clear hcl2
        refine wpAnyK_take (i := 10) (v := ?_) hcl hS rfl (by kernel_rfl) (fun _ _ _ h => h) (by rfl) ?_ (fun hcl2 => ?_)
        rotate_left
        · (intro w hSw; (try dsimp only at hSw); first | (go_simp; done) | (go_simp; with_reducible rfl))
        (try simp only [Act.put, List.setIfInBounds_toArray, List.set_cons_zero, List.set_cons_succ])
        clear hcl; have hcl := hcl2; clear hcl2
        clear hS1
        refine wpAnyK_one (i := 11) hcl (by kernel_rfl) rfl (by rfl) (fun K hK => ?_)
        go_simp
        refine hK.out _ _ (Or.inl (by kernel_rfl)) (fun hcl2 => ?_)
        clear hK K hcl hcl2 hS
        refine wpAnyK_done (by kernel_rfl) ?_ _
        have hfin := FSt.putN (w := (W6.alloc (.cells #[.int .i64 3, .string t, .int .i64 x, .int .i64 1, .int .i64 vi, .int .i64 0, .int .i64 0, .string ⟨#[]⟩] 56)).drew) ((R1.out.alloc _).drewN 1) (World.ownsRow.alloc R2.out _) (World.ownsRow.alloc R3.out _) ((R4.out.alloc (by omega) _).drew) hown1 hgrow
        have HFIN := Lib.hid hfin
        clear hfin hown1 hgrow hat hlt c3' f3'
        go_wp2_with fail
        first | go_end0 | ((try simp only [Exit.inBlock, Exit.then]); refine bodyPost_ret (results_none rfl _ _ _) rfl ?_)
        exact FTEnd_ok HRR.out HFIN.out
      · skip
        go_wp2_with fail
        go_quiet (fail)
        clear q1b q1 b0 q2 b1
        go_wp2_with fail
        refine (HV1.out _ ((HQ4.out.drewN _).set_ 2 _)).mono ?_
        rintro e w5 ⟨rfl, h5⟩
        clear c0 c1 f1 c5 m1 m2 m6 fm2 fm6
        have HQ5 : Hid (FTs W0 N (some ⟨G, O, none⟩) n cap P3 st ns m 0 M (tcr t x 1 0 0 0 ⟨#[]⟩) w5) := h5
        clear h5
        obtain ⟨_, _, _, m3, _, _, _, fm, _⟩ := HQ5.out.mcells
        have fm3 := fm 3
        clear fm
        go_upto_region 15 with (fail)
        obtain ⟨W6, hW6⟩ : ∃ W6, w5.setCell ⟨M, 3, none⟩ (.int .i64 vi) = W6 := ⟨_, rfl⟩
        have hq6 : FTs W0 N (some ⟨G, O, none⟩) n cap P3 st ns m 0 M (tcr t x 1 vi 0 0 ⟨#[]⟩) W6 := by rw [← hW6]; exact HQ5.out.set_ 3 _
        rw [hW6]
        clear hW6 m3 fm3
        have HQ6 := Lib.hid hq6
        clear hq6
        obtain ⟨_, m1, m2, _, _, _, _, fm, _⟩ := HQ6.out.mcells
        have fm2 := fm 2
        obtain ⟨_, c1, f1, _, _, c5, _⟩ := HQ6.out.1.cells
        clear fm
        by_cases hs47 : Sp.sgAt (zs.map ptZ) P3 [47] = true
        · cases hvb : Sp.numAt (zs.map ptZ) P4 with
          | none =>
            have HV2 := Lib.hid (fun W (h : FTs W0 N (some ⟨G, O, none⟩) n cap P4 st ns m 0 M (tcr t x 2 vi 0 0 ⟨#[]⟩) W) => h.val_none HN.out hnb HV.out HTS.out hvb)
            have HRR : Hid (R = .bad P4) := by show _ = _; rw [HRV3.out, if_pos ⟨hwh, hs47⟩, hvb]
            have HSG47 := Lib.hid (fun W (h : FTs W0 N (some ⟨G, O, none⟩) n cap P3 st ns m 0 M (tcr t x 1 vi 0 0 ⟨#[]⟩) W) => (h.1.sign P3 ⟨#[47]⟩ HN.out HV.out (b := true) hs47))
            clear hvb hwh hx hol hs47
            go_wp2_with fail
            refine (HSG47.out _ HQ6.out).mono ?_
            rintro e w7 ⟨rfl, rfl⟩
            go_upto_region 17 with (fail)
            obtain ⟨W7, hW7⟩ : ∃ W7, W6.setCell ⟨N, 1, none⟩ (.int .i64 ((P3 : Int) + 1)) = W7 := ⟨_, rfl⟩
            have hq7 : FTs W0 N (some ⟨G, O, none⟩) n cap P4 st ns m 0 M (tcr t x 1 vi 0 0 ⟨#[]⟩) W7 := by rw [← hW7, ← HP4.out]; exact HQ6.out.at_
            rw [hW7]
            clear hW7 c1 f1 c5 m1 m2 fm2
            have HQ7 := Lib.hid hq7
            clear hq7
            obtain ⟨_, _, m2, _, _, _, _, fm, _⟩ := HQ7.out.mcells
            have fm2 := fm 2
            clear fm
            go_wp2_with fail
            refine (HV2.out _ (HQ7.out.set_ 2 _)).mono ?_
            rintro e w8 ⟨rfl, h8⟩
            clear m2 fm2
            have HQ8 : Hid (FTs W0 N (some ⟨G, O, none⟩) n cap P4 st ns m 50 M (tcr t x 2 vi 0 0 ⟨#[]⟩) w8) := h8
            clear h8
            obtain ⟨_, _, _, _, m4, m5, _, fm, _⟩ := HQ8.out.mcells
            have fm4 := fm 4
            have fm5 := fm 5
            clear fm
            go_upto_region 23 with (fail)
            obtain ⟨W9, hW9⟩ : ∃ W9, w8.setCell ⟨M, 5, none⟩ (.int .i64 0) = W9 := ⟨_, rfl⟩
            have hq9 : FTs W0 N (some ⟨G, O, none⟩) n cap P4 st ns m 50 M (tcr t x 2 vi 0 0 ⟨#[]⟩) W9 := by rw [← hW9]; exact HQ8.out.set_ 5 _
            rw [hW9]
            clear hW9 m4 m5 fm4 fm5
            have HQ := Lib.hid hq9
            clear hq9
            obtain ⟨⟨ov, tv, r1, r2, r3, r4⟩, rb, rNM⟩ := HQ.out
            obtain ⟨y0, y1, y2, y3, y4, y5, y6, _, hMlt⟩ := HQ.out.mcells
            have d3 : W9.cell? ⟨N, 3, none⟩ = some tv := r1.cell 3
            have g3 := r1.frozen 3
            have hNlt := r1.lt
            have hne := nds_ne r3
            have hneM : tv.ownBlock ≠ some M := kind_ne r3 rb (by decide)
            have hS1 : W9.cell? ⟨N, 3, none⟩ = some tv ∧ W9.cell? ⟨M, 0, none⟩ = some (.string t) ∧ W9.cell? ⟨M, 1, none⟩ = some (.int .i64 x) ∧ W9.cell? ⟨M, 2, none⟩ = some (.int .i64 2) ∧ W9.cell? ⟨M, 3, none⟩ = some (.int .i64 vi) ∧ W9.cell? ⟨M, 4, none⟩ = some (.int .i64 0) ∧ W9.cell? ⟨M, 5, none⟩ = some (.int .i64 0) ∧ W9.cell? ⟨M, 6, none⟩ = some (.string ⟨#[]⟩) := ⟨d3, y0, y1, y2, y3, y4, y5, y6⟩
            have HFA : Hid (∀ o, (W9.alloc o).frozen? ⟨N, 3, none⟩ = false) := fun o => (World.frozen?_alloc_past _ _ _ hNlt).trans g3
            have HCA : Hid (∀ o, (W9.alloc o).cell? ⟨N, 3, none⟩ = some tv ∧ (W9.alloc o).cell? ⟨M, 0, none⟩ = some (.string t) ∧ (W9.alloc o).cell? ⟨M, 1, none⟩ = some (.int .i64 x) ∧ (W9.alloc o).cell? ⟨M, 2, none⟩ = some (.int .i64 2) ∧ (W9.alloc o).cell? ⟨M, 3, none⟩ = some (.int .i64 vi) ∧ (W9.alloc o).cell? ⟨M, 4, none⟩ = some (.int .i64 0) ∧ (W9.alloc o).cell? ⟨M, 5, none⟩ = some (.int .i64 0) ∧ (W9.alloc o).cell? ⟨M, 6, none⟩ = some (.string ⟨#[]⟩)) := fun o =>
              ⟨(World.cell?_alloc_lt W9 o ⟨N, 3, none⟩ hNlt).trans d3, (World.cell?_alloc_lt W9 o ⟨M, 0, none⟩ hMlt).trans y0, (World.cell?_alloc_lt W9 o ⟨M, 1, none⟩ hMlt).trans y1, (World.cell?_alloc_lt W9 o ⟨M, 2, none⟩ hMlt).trans y2, (World.cell?_alloc_lt W9 o ⟨M, 3, none⟩ hMlt).trans y3, (World.cell?_alloc_lt W9 o ⟨M, 4, none⟩ hMlt).trans y4, (World.cell?_alloc_lt W9 o ⟨M, 5, none⟩ hMlt).trans y5, (World.cell?_alloc_lt W9 o ⟨M, 6, none⟩ hMlt).trans y6⟩
            have HTOK : Hid (ndCell { kind := 3, field := t.data.toList, op := x, form := 2, lo := vi, hi := 0, len := 0, pat := (⟨#[]⟩ : ByteArray).data.toList } = [.int .i64 3, .string t, .int .i64 x, .int .i64 2, .int .i64 vi, .int .i64 0, .int .i64 0, .string ⟨#[]⟩]) := by
              show _ = _
              unfold ndCell
              simp only [ba_eta]
            have R1 := Lib.hid r1
            have R2 := Lib.hid r2
            have R3 := Lib.hid r3
            have R4 := Lib.hid r4
            have HS1 := Lib.hid hS1
            have HNE := Lib.hid hne
            have HNM := Lib.hid hneM
            clear r1 r2 r3 r4 rb y0 y1 y2 y3 y4 y5 y6 d3 g3 hS1 hne hneM
            (try go_wp2_with fail)
            refine wp_region_K 11 (fun w' => w'.cell? ⟨N, 3, none⟩ = some tv ∧ w'.cell? ⟨M, 0, none⟩ = some (.string t) ∧ w'.cell? ⟨M, 1, none⟩ = some (.int .i64 x) ∧ w'.cell? ⟨M, 2, none⟩ = some (.int .i64 2) ∧ w'.cell? ⟨M, 3, none⟩ = some (.int .i64 vi) ∧ w'.cell? ⟨M, 4, none⟩ = some (.int .i64 0) ∧ w'.cell? ⟨M, 5, none⟩ = some (.int .i64 0) ∧ w'.cell? ⟨M, 6, none⟩ = some (.string ⟨#[]⟩)) (by kernel_rfl) (fun hcl => ?_)
            have hS : (fun w' : World => w'.cell? ⟨N, 3, none⟩ = some tv ∧ w'.cell? ⟨M, 0, none⟩ = some (.string t) ∧ w'.cell? ⟨M, 1, none⟩ = some (.int .i64 x) ∧ w'.cell? ⟨M, 2, none⟩ = some (.int .i64 2) ∧ w'.cell? ⟨M, 3, none⟩ = some (.int .i64 vi) ∧ w'.cell? ⟨M, 4, none⟩ = some (.int .i64 0) ∧ w'.cell? ⟨M, 5, none⟩ = some (.int .i64 0) ∧ w'.cell? ⟨M, 6, none⟩ = some (.string ⟨#[]⟩)) W9.drew := HS1.out
            refine wpAnyK_take (i := 0) (v := ?_) hcl hS rfl (by kernel_rfl) (fun _ _ _ h => h) (by rfl) ?_ (fun hcl2 => ?_)
            rotate_left
            · (intro w hSw; (try dsimp only at hSw); first | (go_simp; done) | (go_simp; with_reducible rfl))
            (try simp only [Act.put, List.setIfInBounds_toArray, List.set_cons_zero, List.set_cons_succ])
            clear hcl; have hcl := hcl2; clear hcl2
            refine wpAnyK_take (i := 1) (v := ?_) hcl hS rfl (by kernel_rfl) (fun _ _ _ h => h) (by rfl) ?_ (fun hcl2 => ?_)
            rotate_left
            · (intro w hSw; (try dsimp only at hSw); first | (go_simp; done) | (go_simp; with_reducible rfl))
            (try simp only [Act.put, List.setIfInBounds_toArray, List.set_cons_zero, List.set_cons_succ])
            clear hcl; have hcl := hcl2; clear hcl2
            refine wpAnyK_take (i := 2) (v := ?_) hcl hS rfl (by kernel_rfl) (fun _ _ _ h => h) (by rfl) ?_ (fun hcl2 => ?_)
            rotate_left
            · (intro w hSw; (try dsimp only at hSw); first | (go_simp; done) | (go_simp; with_reducible rfl))
            (try simp only [Act.put, List.setIfInBounds_toArray, List.set_cons_zero, List.set_cons_succ])
            clear hcl; have hcl := hcl2; clear hcl2
            refine wpAnyK_take (i := 3) (v := ?_) hcl hS rfl (by kernel_rfl) (fun _ _ _ h => h) (by rfl) ?_ (fun hcl2 => ?_)
            rotate_left
            · (intro w hSw; (try dsimp only at hSw); first | (go_simp; done) | (go_simp; with_reducible rfl))
            (try simp only [Act.put, List.setIfInBounds_toArray, List.set_cons_zero, List.set_cons_succ])
            clear hcl; have hcl := hcl2; clear hcl2
            refine wpAnyK_take (i := 4) (v := ?_) hcl hS rfl (by kernel_rfl) (fun _ _ _ h => h) (by rfl) ?_ (fun hcl2 => ?_)
            rotate_left
            · (intro w hSw; (try dsimp only at hSw); first | (go_simp; done) | (go_simp; with_reducible rfl))
            (try simp only [Act.put, List.setIfInBounds_toArray, List.set_cons_zero, List.set_cons_succ])
            clear hcl; have hcl := hcl2; clear hcl2
            refine wpAnyK_take (i := 5) (v := ?_) hcl hS rfl (by kernel_rfl) (fun _ _ _ h => h) (by rfl) ?_ (fun hcl2 => ?_)
            rotate_left
            · (intro w hSw; (try dsimp only at hSw); first | (go_simp; done) | (go_simp; with_reducible rfl))
            (try simp only [Act.put, List.setIfInBounds_toArray, List.set_cons_zero, List.set_cons_succ])
            clear hcl; have hcl := hcl2; clear hcl2
            refine wpAnyK_take (i := 6) (v := ?_) hcl hS rfl (by kernel_rfl) (fun _ _ _ h => h) (by rfl) ?_ (fun hcl2 => ?_)
            rotate_left
            · (intro w hSw; (try dsimp only at hSw); first | (go_simp; done) | (go_simp; with_reducible rfl))
            (try simp only [Act.put, List.setIfInBounds_toArray, List.set_cons_zero, List.set_cons_succ])
            clear hcl; have hcl := hcl2; clear hcl2
            refine wpAnyK_one (i := 7) hcl (by kernel_rfl) rfl (by rfl) (fun K hK => ?_)
            go_simp
            refine hK.out _ _ (Or.inr (HCA.out _)) (fun hcl2 => ?_)
            clear hK K hcl hS
            have hcl := hcl2
            clear hcl2
            refine wpAnyK_one (i := 8) hcl (by kernel_rfl) rfl (by rfl) (fun K hK => ?_)
            refine wp_nd _ _ (by rfl) (N + 1) tv ns (by rfl) ((R3.out.alloc _).drew) ⟨W9.heap.size, 0, none⟩ 1 { kind := 3, field := t.data.toList, op := x, form := 2, lo := vi, hi := 0, len := 0, pat := (⟨#[]⟩ : ByteArray).data.toList } (by rfl) (by rw [HTOK.out]; exact World.news_of_block (cs := #[.int .i64 3, .string t, .int .i64 x, .int .i64 2, .int .i64 vi, .int .i64 0, .int .i64 0, .string ⟨#[]⟩]) (t := 56) (fr := (0, 0)) (heap_alloc_new W9 _)) (by omega) (by simp; omega) (W9.heap.size + 1) (by simp) ?_
            intro gg cp w1 hown1 hgrow hat hlt
            have f3' : w1.frozen? ⟨N, 3, none⟩ = false := (hgrow.frozen_far ⟨N, 3, none⟩ (by simp; omega) (Ne.symm HNE.out)).trans (HFA.out _)
            have far : ∀ j, w1.cell? ⟨M, j, none⟩ = _ := fun j => hgrow.cell_far ⟨M, j, none⟩ (by simp; omega) (Ne.symm HNM.out)
            have hS1 : w1.cell? ⟨N, 3, none⟩ = some tv ∧ w1.cell? ⟨M, 0, none⟩ = some (.string t) ∧ w1.cell? ⟨M, 1, none⟩ = some (.int .i64 x) ∧ w1.cell? ⟨M, 2, none⟩ = some (.int .i64 2) ∧ w1.cell? ⟨M, 3, none⟩ = some (.int .i64 vi) ∧ w1.cell? ⟨M, 4, none⟩ = some (.int .i64 0) ∧ w1.cell? ⟨M, 5, none⟩ = some (.int .i64 0) ∧ w1.cell? ⟨M, 6, none⟩ = some (.string ⟨#[]⟩) :=
              ⟨(hgrow.cell_far ⟨N, 3, none⟩ (by simp; omega) (Ne.symm HNE.out)).trans (HCA.out _).1, (far 0).trans (HCA.out _).2.1, (far 1).trans (HCA.out _).2.2.1, (far 2).trans (HCA.out _).2.2.2.1, (far 3).trans (HCA.out _).2.2.2.2.1, (far 4).trans (HCA.out _).2.2.2.2.2.1, (far 5).trans (HCA.out _).2.2.2.2.2.2.1, (far 6).trans (HCA.out _).2.2.2.2.2.2.2⟩
            have c3' := hS1.1
            refine hK.out _ _ (Or.inr hS1) (fun hcl2 => ?_)
            clear hK K hcl far
            have hcl := hcl2
            clear hcl2
            have hS : (fun w' : World => w'.cell? ⟨N, 3, none⟩ = some tv ∧ w'.cell? ⟨M, 0, none⟩ = some (.string t) ∧ w'.cell? ⟨M, 1, none⟩ = some (.int .i64 x) ∧ w'.cell? ⟨M, 2, none⟩ = some (.int .i64 2) ∧ w'.cell? ⟨M, 3, none⟩ = some (.int .i64 vi) ∧ w'.cell? ⟨M, 4, none⟩ = some (.int .i64 0) ∧ w'.cell? ⟨M, 5, none⟩ = some (.int .i64 0) ∧ w'.cell? ⟨M, 6, none⟩ = some (.string ⟨#[]⟩)) w1 := hS1
            (try simp only [Act.put, List.setIfInBounds_toArray, List.set_cons_zero, List.set_cons_succ])
            refine wpAnyK_take (i := 9) (v := ?_) hcl hS rfl (by kernel_rfl) (fun _ _ _ h => h) (by rfl) ?_ (fun hcl2 => ?_)
            rotate_left
            · (intro w hSw; (try dsimp only at hSw); first | (go_simp; done) | (go_simp; with_reducible rfl))
            (try simp only [Act.put, List.setIfInBounds_toArray, List.set_cons_zero, List.set_cons_succ])
            clear hcl; have hcl := hcl2; clear hcl2
            refine wpAnyK_take (i := 10) (v := ?_) hcl hS rfl (by kernel_rfl) (fun _ _ _ h => h) (by rfl) ?_ (fun hcl2 => ?_)
            rotate_left
            · (intro w hSw; (try dsimp only at hSw); first | (go_simp; done) | (go_simp; with_reducible rfl))
            (try simp only [Act.put, List.setIfInBounds_toArray, List.set_cons_zero, List.set_cons_succ])
            clear hcl; have hcl := hcl2; clear hcl2
            clear hS1
            refine wpAnyK_one (i := 11) hcl (by kernel_rfl) rfl (by rfl) (fun K hK => ?_)
            go_simp
            refine hK.out _ _ (Or.inl (by kernel_rfl)) (fun hcl2 => ?_)
            clear hK K hcl hcl2 hS
            refine wpAnyK_done (by kernel_rfl) ?_ _
            have hfin := FSt.putN (w := (W9.alloc (.cells #[.int .i64 3, .string t, .int .i64 x, .int .i64 2, .int .i64 vi, .int .i64 0, .int .i64 0, .string ⟨#[]⟩] 56)).drew) ((R1.out.alloc _).drewN 1) (World.ownsRow.alloc R2.out _) (World.ownsRow.alloc R3.out _) ((R4.out.alloc (by omega) _).drew) hown1 hgrow
            have HFIN := Lib.hid hfin
            clear hfin hown1 hgrow hat hlt c3' f3'
            go_wp2_with fail
            first | go_end0 | ((try simp only [Exit.inBlock, Exit.then]); refine bodyPost_ret (results_none rfl _ _ _) rfl ?_)
            exact FTEnd_bad HRR.out HFIN.out
          | some u =>
            obtain ⟨ui, hui⟩ : ∃ ui : Int, (u : Int) = ui := ⟨_, rfl⟩
            have HV2 := Lib.hid (fun W (h : FTs W0 N (some ⟨G, O, none⟩) n cap P4 st ns m 0 M (tcr t x 2 vi 0 0 ⟨#[]⟩) W) => h.val_some HN.out hnb HV.out HTS.out hvb hui (show P4 + 1 = P5 from HP5.out))
            have HRR : Hid (R = .ok P5 { kind := 3, field := t.data.toList, op := x, form := 2, lo := vi, len := ui }) := by show _ = _; rw [HRV3.out, if_pos ⟨hwh, hs47⟩, hvb]; simp only []; rw [hui]
            have HSG47 := Lib.hid (fun W (h : FTs W0 N (some ⟨G, O, none⟩) n cap P3 st ns m 0 M (tcr t x 1 vi 0 0 ⟨#[]⟩) W) => (h.1.sign P3 ⟨#[47]⟩ HN.out HV.out (b := true) hs47))
            clear hvb hwh hx hol hs47 hui
            go_wp2_with fail
            refine (HSG47.out _ HQ6.out).mono ?_
            rintro e w7 ⟨rfl, rfl⟩
            go_upto_region 17 with (fail)
            obtain ⟨W7, hW7⟩ : ∃ W7, W6.setCell ⟨N, 1, none⟩ (.int .i64 ((P3 : Int) + 1)) = W7 := ⟨_, rfl⟩
            have hq7 : FTs W0 N (some ⟨G, O, none⟩) n cap P4 st ns m 0 M (tcr t x 1 vi 0 0 ⟨#[]⟩) W7 := by rw [← hW7, ← HP4.out]; exact HQ6.out.at_
            rw [hW7]
            clear hW7 c1 f1 c5 m1 m2 fm2
            have HQ7 := Lib.hid hq7
            clear hq7
            obtain ⟨_, _, m2, _, _, _, _, fm, _⟩ := HQ7.out.mcells
            have fm2 := fm 2
            clear fm
            go_wp2_with fail
            refine (HV2.out _ (HQ7.out.set_ 2 _)).mono ?_
            rintro e w8 ⟨rfl, h8⟩
            clear m2 fm2
            have HQ8 : Hid (FTs W0 N (some ⟨G, O, none⟩) n cap P5 st ns m 0 M (tcr t x 2 vi 0 0 ⟨#[]⟩) w8) := h8
            clear h8
            obtain ⟨_, _, _, _, m4, m5, _, fm, _⟩ := HQ8.out.mcells
            have fm4 := fm 4
            have fm5 := fm 5
            clear fm
            go_upto_region 23 with (fail)
            obtain ⟨W9, hW9⟩ : ∃ W9, w8.setCell ⟨M, 5, none⟩ (.int .i64 ui) = W9 := ⟨_, rfl⟩
            have hq9 : FTs W0 N (some ⟨G, O, none⟩) n cap P5 st ns m 0 M (tcr t x 2 vi 0 ui ⟨#[]⟩) W9 := by rw [← hW9]; exact HQ8.out.set_ 5 _
            rw [hW9]
            clear hW9 m4 m5 fm4 fm5
            have HQ := Lib.hid hq9
            clear hq9
            obtain ⟨⟨ov, tv, r1, r2, r3, r4⟩, rb, rNM⟩ := HQ.out
            obtain ⟨y0, y1, y2, y3, y4, y5, y6, _, hMlt⟩ := HQ.out.mcells
            have d3 : W9.cell? ⟨N, 3, none⟩ = some tv := r1.cell 3
            have g3 := r1.frozen 3
            have hNlt := r1.lt
            have hne := nds_ne r3
            have hneM : tv.ownBlock ≠ some M := kind_ne r3 rb (by decide)
            have hS1 : W9.cell? ⟨N, 3, none⟩ = some tv ∧ W9.cell? ⟨M, 0, none⟩ = some (.string t) ∧ W9.cell? ⟨M, 1, none⟩ = some (.int .i64 x) ∧ W9.cell? ⟨M, 2, none⟩ = some (.int .i64 2) ∧ W9.cell? ⟨M, 3, none⟩ = some (.int .i64 vi) ∧ W9.cell? ⟨M, 4, none⟩ = some (.int .i64 0) ∧ W9.cell? ⟨M, 5, none⟩ = some (.int .i64 ui) ∧ W9.cell? ⟨M, 6, none⟩ = some (.string ⟨#[]⟩) := ⟨d3, y0, y1, y2, y3, y4, y5, y6⟩
            have HFA : Hid (∀ o, (W9.alloc o).frozen? ⟨N, 3, none⟩ = false) := fun o => (World.frozen?_alloc_past _ _ _ hNlt).trans g3
            have HCA : Hid (∀ o, (W9.alloc o).cell? ⟨N, 3, none⟩ = some tv ∧ (W9.alloc o).cell? ⟨M, 0, none⟩ = some (.string t) ∧ (W9.alloc o).cell? ⟨M, 1, none⟩ = some (.int .i64 x) ∧ (W9.alloc o).cell? ⟨M, 2, none⟩ = some (.int .i64 2) ∧ (W9.alloc o).cell? ⟨M, 3, none⟩ = some (.int .i64 vi) ∧ (W9.alloc o).cell? ⟨M, 4, none⟩ = some (.int .i64 0) ∧ (W9.alloc o).cell? ⟨M, 5, none⟩ = some (.int .i64 ui) ∧ (W9.alloc o).cell? ⟨M, 6, none⟩ = some (.string ⟨#[]⟩)) := fun o =>
              ⟨(World.cell?_alloc_lt W9 o ⟨N, 3, none⟩ hNlt).trans d3, (World.cell?_alloc_lt W9 o ⟨M, 0, none⟩ hMlt).trans y0, (World.cell?_alloc_lt W9 o ⟨M, 1, none⟩ hMlt).trans y1, (World.cell?_alloc_lt W9 o ⟨M, 2, none⟩ hMlt).trans y2, (World.cell?_alloc_lt W9 o ⟨M, 3, none⟩ hMlt).trans y3, (World.cell?_alloc_lt W9 o ⟨M, 4, none⟩ hMlt).trans y4, (World.cell?_alloc_lt W9 o ⟨M, 5, none⟩ hMlt).trans y5, (World.cell?_alloc_lt W9 o ⟨M, 6, none⟩ hMlt).trans y6⟩
            have HTOK : Hid (ndCell { kind := 3, field := t.data.toList, op := x, form := 2, lo := vi, hi := 0, len := ui, pat := (⟨#[]⟩ : ByteArray).data.toList } = [.int .i64 3, .string t, .int .i64 x, .int .i64 2, .int .i64 vi, .int .i64 0, .int .i64 ui, .string ⟨#[]⟩]) := by
              show _ = _
              unfold ndCell
              simp only [ba_eta]
            have R1 := Lib.hid r1
            have R2 := Lib.hid r2
            have R3 := Lib.hid r3
            have R4 := Lib.hid r4
            have HS1 := Lib.hid hS1
            have HNE := Lib.hid hne
            have HNM := Lib.hid hneM
            clear r1 r2 r3 r4 rb y0 y1 y2 y3 y4 y5 y6 d3 g3 hS1 hne hneM
            (try go_wp2_with fail)
            refine wp_region_K 11 (fun w' => w'.cell? ⟨N, 3, none⟩ = some tv ∧ w'.cell? ⟨M, 0, none⟩ = some (.string t) ∧ w'.cell? ⟨M, 1, none⟩ = some (.int .i64 x) ∧ w'.cell? ⟨M, 2, none⟩ = some (.int .i64 2) ∧ w'.cell? ⟨M, 3, none⟩ = some (.int .i64 vi) ∧ w'.cell? ⟨M, 4, none⟩ = some (.int .i64 0) ∧ w'.cell? ⟨M, 5, none⟩ = some (.int .i64 ui) ∧ w'.cell? ⟨M, 6, none⟩ = some (.string ⟨#[]⟩)) (by kernel_rfl) (fun hcl => ?_)
            have hS : (fun w' : World => w'.cell? ⟨N, 3, none⟩ = some tv ∧ w'.cell? ⟨M, 0, none⟩ = some (.string t) ∧ w'.cell? ⟨M, 1, none⟩ = some (.int .i64 x) ∧ w'.cell? ⟨M, 2, none⟩ = some (.int .i64 2) ∧ w'.cell? ⟨M, 3, none⟩ = some (.int .i64 vi) ∧ w'.cell? ⟨M, 4, none⟩ = some (.int .i64 0) ∧ w'.cell? ⟨M, 5, none⟩ = some (.int .i64 ui) ∧ w'.cell? ⟨M, 6, none⟩ = some (.string ⟨#[]⟩)) W9.drew := HS1.out
            refine wpAnyK_take (i := 0) (v := ?_) hcl hS rfl (by kernel_rfl) (fun _ _ _ h => h) (by rfl) ?_ (fun hcl2 => ?_)
            rotate_left
            · (intro w hSw; (try dsimp only at hSw); first | (go_simp; done) | (go_simp; with_reducible rfl))
            (try simp only [Act.put, List.setIfInBounds_toArray, List.set_cons_zero, List.set_cons_succ])
            clear hcl; have hcl := hcl2; clear hcl2
            refine wpAnyK_take (i := 1) (v := ?_) hcl hS rfl (by kernel_rfl) (fun _ _ _ h => h) (by rfl) ?_ (fun hcl2 => ?_)
            rotate_left
            · (intro w hSw; (try dsimp only at hSw); first | (go_simp; done) | (go_simp; with_reducible rfl))
            (try simp only [Act.put, List.setIfInBounds_toArray, List.set_cons_zero, List.set_cons_succ])
            clear hcl; have hcl := hcl2; clear hcl2
            refine wpAnyK_take (i := 2) (v := ?_) hcl hS rfl (by kernel_rfl) (fun _ _ _ h => h) (by rfl) ?_ (fun hcl2 => ?_)
            rotate_left
            · (intro w hSw; (try dsimp only at hSw); first | (go_simp; done) | (go_simp; with_reducible rfl))
            (try simp only [Act.put, List.setIfInBounds_toArray, List.set_cons_zero, List.set_cons_succ])
            clear hcl; have hcl := hcl2; clear hcl2
            refine wpAnyK_take (i := 3) (v := ?_) hcl hS rfl (by kernel_rfl) (fun _ _ _ h => h) (by rfl) ?_ (fun hcl2 => ?_)
            rotate_left
            · (intro w hSw; (try dsimp only at hSw); first | (go_simp; done) | (go_simp; with_reducible rfl))
            (try simp only [Act.put, List.setIfInBounds_toArray, List.set_cons_zero, List.set_cons_succ])
            clear hcl; have hcl := hcl2; clear hcl2
            refine wpAnyK_take (i := 4) (v := ?_) hcl hS rfl (by kernel_rfl) (fun _ _ _ h => h) (by rfl) ?_ (fun hcl2 => ?_)
            rotate_left
            · (intro w hSw; (try dsimp only at hSw); first | (go_simp; done) | (go_simp; with_reducible rfl))
            (try simp only [Act.put, List.setIfInBounds_toArray, List.set_cons_zero, List.set_cons_succ])
            clear hcl; have hcl := hcl2; clear hcl2
            refine wpAnyK_take (i := 5) (v := ?_) hcl hS rfl (by kernel_rfl) (fun _ _ _ h => h) (by rfl) ?_ (fun hcl2 => ?_)
            rotate_left
            · (intro w hSw; (try dsimp only at hSw); first | (go_simp; done) | (go_simp; with_reducible rfl))
            (try simp only [Act.put, List.setIfInBounds_toArray, List.set_cons_zero, List.set_cons_succ])
            clear hcl; have hcl := hcl2; clear hcl2
            refine wpAnyK_take (i := 6) (v := ?_) hcl hS rfl (by kernel_rfl) (fun _ _ _ h => h) (by rfl) ?_ (fun hcl2 => ?_)
            rotate_left
            · (intro w hSw; (try dsimp only at hSw); first | (go_simp; done) | (go_simp; with_reducible rfl))
            (try simp only [Act.put, List.setIfInBounds_toArray, List.set_cons_zero, List.set_cons_succ])
            clear hcl; have hcl := hcl2; clear hcl2
            refine wpAnyK_one (i := 7) hcl (by kernel_rfl) rfl (by rfl) (fun K hK => ?_)
            go_simp
            refine hK.out _ _ (Or.inr (HCA.out _)) (fun hcl2 => ?_)
            clear hK K hcl hS
            have hcl := hcl2
            clear hcl2
            refine wpAnyK_one (i := 8) hcl (by kernel_rfl) rfl (by rfl) (fun K hK => ?_)
            refine wp_nd _ _ (by rfl) (N + 1) tv ns (by rfl) ((R3.out.alloc _).drew) ⟨W9.heap.size, 0, none⟩ 1 { kind := 3, field := t.data.toList, op := x, form := 2, lo := vi, hi := 0, len := ui, pat := (⟨#[]⟩ : ByteArray).data.toList } (by rfl) (by rw [HTOK.out]; exact World.news_of_block (cs := #[.int .i64 3, .string t, .int .i64 x, .int .i64 2, .int .i64 vi, .int .i64 0, .int .i64 ui, .string ⟨#[]⟩]) (t := 56) (fr := (0, 0)) (heap_alloc_new W9 _)) (by omega) (by simp; omega) (W9.heap.size + 1) (by simp) ?_
            intro gg cp w1 hown1 hgrow hat hlt
            have f3' : w1.frozen? ⟨N, 3, none⟩ = false := (hgrow.frozen_far ⟨N, 3, none⟩ (by simp; omega) (Ne.symm HNE.out)).trans (HFA.out _)
            have far : ∀ j, w1.cell? ⟨M, j, none⟩ = _ := fun j => hgrow.cell_far ⟨M, j, none⟩ (by simp; omega) (Ne.symm HNM.out)
            have hS1 : w1.cell? ⟨N, 3, none⟩ = some tv ∧ w1.cell? ⟨M, 0, none⟩ = some (.string t) ∧ w1.cell? ⟨M, 1, none⟩ = some (.int .i64 x) ∧ w1.cell? ⟨M, 2, none⟩ = some (.int .i64 2) ∧ w1.cell? ⟨M, 3, none⟩ = some (.int .i64 vi) ∧ w1.cell? ⟨M, 4, none⟩ = some (.int .i64 0) ∧ w1.cell? ⟨M, 5, none⟩ = some (.int .i64 ui) ∧ w1.cell? ⟨M, 6, none⟩ = some (.string ⟨#[]⟩) :=
              ⟨(hgrow.cell_far ⟨N, 3, none⟩ (by simp; omega) (Ne.symm HNE.out)).trans (HCA.out _).1, (far 0).trans (HCA.out _).2.1, (far 1).trans (HCA.out _).2.2.1, (far 2).trans (HCA.out _).2.2.2.1, (far 3).trans (HCA.out _).2.2.2.2.1, (far 4).trans (HCA.out _).2.2.2.2.2.1, (far 5).trans (HCA.out _).2.2.2.2.2.2.1, (far 6).trans (HCA.out _).2.2.2.2.2.2.2⟩
            have c3' := hS1.1
            refine hK.out _ _ (Or.inr hS1) (fun hcl2 => ?_)
            clear hK K hcl far
            have hcl := hcl2
            clear hcl2
            have hS : (fun w' : World => w'.cell? ⟨N, 3, none⟩ = some tv ∧ w'.cell? ⟨M, 0, none⟩ = some (.string t) ∧ w'.cell? ⟨M, 1, none⟩ = some (.int .i64 x) ∧ w'.cell? ⟨M, 2, none⟩ = some (.int .i64 2) ∧ w'.cell? ⟨M, 3, none⟩ = some (.int .i64 vi) ∧ w'.cell? ⟨M, 4, none⟩ = some (.int .i64 0) ∧ w'.cell? ⟨M, 5, none⟩ = some (.int .i64 ui) ∧ w'.cell? ⟨M, 6, none⟩ = some (.string ⟨#[]⟩)) w1 := hS1
            (try simp only [Act.put, List.setIfInBounds_toArray, List.set_cons_zero, List.set_cons_succ])
            refine wpAnyK_take (i := 9) (v := ?_) hcl hS rfl (by kernel_rfl) (fun _ _ _ h => h) (by rfl) ?_ (fun hcl2 => ?_)
            rotate_left
            · (intro w hSw; (try dsimp only at hSw); first | (go_simp; done) | (go_simp; with_reducible rfl))
            (try simp only [Act.put, List.setIfInBounds_toArray, List.set_cons_zero, List.set_cons_succ])
            clear hcl; have hcl := hcl2; clear hcl2
            refine wpAnyK_take (i := 10) (v := ?_) hcl hS rfl (by kernel_rfl) (fun _ _ _ h => h) (by rfl) ?_ (fun hcl2 => ?_)
            rotate_left
            · (intro w hSw; (try dsimp only at hSw); first | (go_simp; done) | (go_simp; with_reducible rfl))
            (try simp only [Act.put, List.setIfInBounds_toArray, List.set_cons_zero, List.set_cons_succ])
            clear hcl; have hcl := hcl2; clear hcl2
            clear hS1
            refine wpAnyK_one (i := 11) hcl (by kernel_rfl) rfl (by rfl) (fun K hK => ?_)
            go_simp
            refine hK.out _ _ (Or.inl (by kernel_rfl)) (fun hcl2 => ?_)
            clear hK K hcl hcl2 hS
            refine wpAnyK_done (by kernel_rfl) ?_ _
            have hfin := FSt.putN (w := (W9.alloc (.cells #[.int .i64 3, .string t, .int .i64 x, .int .i64 2, .int .i64 vi, .int .i64 0, .int .i64 ui, .string ⟨#[]⟩] 56)).drew) ((R1.out.alloc _).drewN 1) (World.ownsRow.alloc R2.out _) (World.ownsRow.alloc R3.out _) ((R4.out.alloc (by omega) _).drew) hown1 hgrow
            have HFIN := Lib.hid hfin
            clear hfin hown1 hgrow hat hlt c3' f3'
            go_wp2_with fail
            first | go_end0 | ((try simp only [Exit.inBlock, Exit.then]); refine bodyPost_ret (results_none rfl _ _ _) rfl ?_)
            exact FTEnd_ok HRR.out HFIN.out
        rw [Bool.not_eq_true] at hs47
        by_cases hs46 : Sp.sgAt (zs.map ptZ) P3 [46, 46] = true
        · cases hvb : Sp.numAt (zs.map ptZ) P4 with
          | none =>
            have HV2 := Lib.hid (fun W (h : FTs W0 N (some ⟨G, O, none⟩) n cap P4 st ns m 0 M (tcr t x 3 vi 0 0 ⟨#[]⟩) W) => h.val_none HN.out hnb HV.out HTS.out hvb)
            have HRR : Hid (R = .bad P4) := by show _ = _; rw [HRV3.out, if_neg (fun h => by rw [hs47] at h; exact absurd h.2 (by decide)), if_pos ⟨hwh, hs46⟩, hvb]
            have HSG47 := Lib.hid (fun W (h : FTs W0 N (some ⟨G, O, none⟩) n cap P3 st ns m 0 M (tcr t x 1 vi 0 0 ⟨#[]⟩) W) => (h.1.sign P3 ⟨#[47]⟩ HN.out HV.out (b := false) hs47))
            have HSG46 := Lib.hid (fun W (h : FTs W0 N (some ⟨G, O, none⟩) n cap P3 st ns m 0 M (tcr t x 1 vi 0 0 ⟨#[]⟩) W) => (h.1.sign P3 ⟨#[46, 46]⟩ HN.out HV.out (b := true) hs46))
            clear hvb hwh hx hol hs47 hs46
            go_wp2_with fail
            refine (HSG47.out _ HQ6.out).mono ?_
            rintro e w7 ⟨rfl, rfl⟩
            go_wp2_with fail
            refine (HSG46.out _ HQ6.out).mono ?_
            rintro e w7 ⟨rfl, rfl⟩
            go_upto_region 21 with (fail)
            obtain ⟨W7, hW7⟩ : ∃ W7, W6.setCell ⟨N, 1, none⟩ (.int .i64 ((P3 : Int) + 1)) = W7 := ⟨_, rfl⟩
            have hq7 : FTs W0 N (some ⟨G, O, none⟩) n cap P4 st ns m 0 M (tcr t x 1 vi 0 0 ⟨#[]⟩) W7 := by rw [← hW7, ← HP4.out]; exact HQ6.out.at_
            rw [hW7]
            clear hW7 c1 f1 c5 m1 m2 fm2
            have HQ7 := Lib.hid hq7
            clear hq7
            obtain ⟨_, _, m2, _, _, _, _, fm, _⟩ := HQ7.out.mcells
            have fm2 := fm 2
            clear fm
            go_wp2_with fail
            refine (HV2.out _ (HQ7.out.set_ 2 _)).mono ?_
            rintro e w8 ⟨rfl, h8⟩
            clear m2 fm2
            have HQ8 : Hid (FTs W0 N (some ⟨G, O, none⟩) n cap P4 st ns m 50 M (tcr t x 3 vi 0 0 ⟨#[]⟩) w8) := h8
            clear h8
            obtain ⟨_, _, _, _, m4, m5, _, fm, _⟩ := HQ8.out.mcells
            have fm4 := fm 4
            have fm5 := fm 5
            clear fm
            go_upto_region 23 with (fail)
            obtain ⟨W9, hW9⟩ : ∃ W9, w8.setCell ⟨M, 4, none⟩ (.int .i64 0) = W9 := ⟨_, rfl⟩
            have hq9 : FTs W0 N (some ⟨G, O, none⟩) n cap P4 st ns m 50 M (tcr t x 3 vi 0 0 ⟨#[]⟩) W9 := by rw [← hW9]; exact HQ8.out.set_ 4 _
            rw [hW9]
            clear hW9 m4 m5 fm4 fm5
            have HQ := Lib.hid hq9
            clear hq9
            obtain ⟨⟨ov, tv, r1, r2, r3, r4⟩, rb, rNM⟩ := HQ.out
            obtain ⟨y0, y1, y2, y3, y4, y5, y6, _, hMlt⟩ := HQ.out.mcells
            have d3 : W9.cell? ⟨N, 3, none⟩ = some tv := r1.cell 3
            have g3 := r1.frozen 3
            have hNlt := r1.lt
            have hne := nds_ne r3
            have hneM : tv.ownBlock ≠ some M := kind_ne r3 rb (by decide)
            have hS1 : W9.cell? ⟨N, 3, none⟩ = some tv ∧ W9.cell? ⟨M, 0, none⟩ = some (.string t) ∧ W9.cell? ⟨M, 1, none⟩ = some (.int .i64 x) ∧ W9.cell? ⟨M, 2, none⟩ = some (.int .i64 3) ∧ W9.cell? ⟨M, 3, none⟩ = some (.int .i64 vi) ∧ W9.cell? ⟨M, 4, none⟩ = some (.int .i64 0) ∧ W9.cell? ⟨M, 5, none⟩ = some (.int .i64 0) ∧ W9.cell? ⟨M, 6, none⟩ = some (.string ⟨#[]⟩) := ⟨d3, y0, y1, y2, y3, y4, y5, y6⟩
            have HFA : Hid (∀ o, (W9.alloc o).frozen? ⟨N, 3, none⟩ = false) := fun o => (World.frozen?_alloc_past _ _ _ hNlt).trans g3
            have HCA : Hid (∀ o, (W9.alloc o).cell? ⟨N, 3, none⟩ = some tv ∧ (W9.alloc o).cell? ⟨M, 0, none⟩ = some (.string t) ∧ (W9.alloc o).cell? ⟨M, 1, none⟩ = some (.int .i64 x) ∧ (W9.alloc o).cell? ⟨M, 2, none⟩ = some (.int .i64 3) ∧ (W9.alloc o).cell? ⟨M, 3, none⟩ = some (.int .i64 vi) ∧ (W9.alloc o).cell? ⟨M, 4, none⟩ = some (.int .i64 0) ∧ (W9.alloc o).cell? ⟨M, 5, none⟩ = some (.int .i64 0) ∧ (W9.alloc o).cell? ⟨M, 6, none⟩ = some (.string ⟨#[]⟩)) := fun o =>
              ⟨(World.cell?_alloc_lt W9 o ⟨N, 3, none⟩ hNlt).trans d3, (World.cell?_alloc_lt W9 o ⟨M, 0, none⟩ hMlt).trans y0, (World.cell?_alloc_lt W9 o ⟨M, 1, none⟩ hMlt).trans y1, (World.cell?_alloc_lt W9 o ⟨M, 2, none⟩ hMlt).trans y2, (World.cell?_alloc_lt W9 o ⟨M, 3, none⟩ hMlt).trans y3, (World.cell?_alloc_lt W9 o ⟨M, 4, none⟩ hMlt).trans y4, (World.cell?_alloc_lt W9 o ⟨M, 5, none⟩ hMlt).trans y5, (World.cell?_alloc_lt W9 o ⟨M, 6, none⟩ hMlt).trans y6⟩
            have HTOK : Hid (ndCell { kind := 3, field := t.data.toList, op := x, form := 3, lo := vi, hi := 0, len := 0, pat := (⟨#[]⟩ : ByteArray).data.toList } = [.int .i64 3, .string t, .int .i64 x, .int .i64 3, .int .i64 vi, .int .i64 0, .int .i64 0, .string ⟨#[]⟩]) := by
              show _ = _
              unfold ndCell
              simp only [ba_eta]
            have R1 := Lib.hid r1
            have R2 := Lib.hid r2
            have R3 := Lib.hid r3
            have R4 := Lib.hid r4
            have HS1 := Lib.hid hS1
            have HNE := Lib.hid hne
            have HNM := Lib.hid hneM
            clear r1 r2 r3 r4 rb y0 y1 y2 y3 y4 y5 y6 d3 g3 hS1 hne hneM
            (try go_wp2_with fail)
            refine wp_region_K 11 (fun w' => w'.cell? ⟨N, 3, none⟩ = some tv ∧ w'.cell? ⟨M, 0, none⟩ = some (.string t) ∧ w'.cell? ⟨M, 1, none⟩ = some (.int .i64 x) ∧ w'.cell? ⟨M, 2, none⟩ = some (.int .i64 3) ∧ w'.cell? ⟨M, 3, none⟩ = some (.int .i64 vi) ∧ w'.cell? ⟨M, 4, none⟩ = some (.int .i64 0) ∧ w'.cell? ⟨M, 5, none⟩ = some (.int .i64 0) ∧ w'.cell? ⟨M, 6, none⟩ = some (.string ⟨#[]⟩)) (by kernel_rfl) (fun hcl => ?_)
            have hS : (fun w' : World => w'.cell? ⟨N, 3, none⟩ = some tv ∧ w'.cell? ⟨M, 0, none⟩ = some (.string t) ∧ w'.cell? ⟨M, 1, none⟩ = some (.int .i64 x) ∧ w'.cell? ⟨M, 2, none⟩ = some (.int .i64 3) ∧ w'.cell? ⟨M, 3, none⟩ = some (.int .i64 vi) ∧ w'.cell? ⟨M, 4, none⟩ = some (.int .i64 0) ∧ w'.cell? ⟨M, 5, none⟩ = some (.int .i64 0) ∧ w'.cell? ⟨M, 6, none⟩ = some (.string ⟨#[]⟩)) W9.drew := HS1.out
            refine wpAnyK_take (i := 0) (v := ?_) hcl hS rfl (by kernel_rfl) (fun _ _ _ h => h) (by rfl) ?_ (fun hcl2 => ?_)
            rotate_left
            · (intro w hSw; (try dsimp only at hSw); first | (go_simp; done) | (go_simp; with_reducible rfl))
            (try simp only [Act.put, List.setIfInBounds_toArray, List.set_cons_zero, List.set_cons_succ])
            clear hcl; have hcl := hcl2; clear hcl2
            refine wpAnyK_take (i := 1) (v := ?_) hcl hS rfl (by kernel_rfl) (fun _ _ _ h => h) (by rfl) ?_ (fun hcl2 => ?_)
            rotate_left
            · (intro w hSw; (try dsimp only at hSw); first | (go_simp; done) | (go_simp; with_reducible rfl))
            (try simp only [Act.put, List.setIfInBounds_toArray, List.set_cons_zero, List.set_cons_succ])
            clear hcl; have hcl := hcl2; clear hcl2
            refine wpAnyK_take (i := 2) (v := ?_) hcl hS rfl (by kernel_rfl) (fun _ _ _ h => h) (by rfl) ?_ (fun hcl2 => ?_)
            rotate_left
            · (intro w hSw; (try dsimp only at hSw); first | (go_simp; done) | (go_simp; with_reducible rfl))
            (try simp only [Act.put, List.setIfInBounds_toArray, List.set_cons_zero, List.set_cons_succ])
            clear hcl; have hcl := hcl2; clear hcl2
            refine wpAnyK_take (i := 3) (v := ?_) hcl hS rfl (by kernel_rfl) (fun _ _ _ h => h) (by rfl) ?_ (fun hcl2 => ?_)
            rotate_left
            · (intro w hSw; (try dsimp only at hSw); first | (go_simp; done) | (go_simp; with_reducible rfl))
            (try simp only [Act.put, List.setIfInBounds_toArray, List.set_cons_zero, List.set_cons_succ])
            clear hcl; have hcl := hcl2; clear hcl2
            refine wpAnyK_take (i := 4) (v := ?_) hcl hS rfl (by kernel_rfl) (fun _ _ _ h => h) (by rfl) ?_ (fun hcl2 => ?_)
            rotate_left
            · (intro w hSw; (try dsimp only at hSw); first | (go_simp; done) | (go_simp; with_reducible rfl))
            (try simp only [Act.put, List.setIfInBounds_toArray, List.set_cons_zero, List.set_cons_succ])
            clear hcl; have hcl := hcl2; clear hcl2
            refine wpAnyK_take (i := 5) (v := ?_) hcl hS rfl (by kernel_rfl) (fun _ _ _ h => h) (by rfl) ?_ (fun hcl2 => ?_)
            rotate_left
            · (intro w hSw; (try dsimp only at hSw); first | (go_simp; done) | (go_simp; with_reducible rfl))
            (try simp only [Act.put, List.setIfInBounds_toArray, List.set_cons_zero, List.set_cons_succ])
            clear hcl; have hcl := hcl2; clear hcl2
            refine wpAnyK_take (i := 6) (v := ?_) hcl hS rfl (by kernel_rfl) (fun _ _ _ h => h) (by rfl) ?_ (fun hcl2 => ?_)
            rotate_left
            · (intro w hSw; (try dsimp only at hSw); first | (go_simp; done) | (go_simp; with_reducible rfl))
            (try simp only [Act.put, List.setIfInBounds_toArray, List.set_cons_zero, List.set_cons_succ])
            clear hcl; have hcl := hcl2; clear hcl2
            refine wpAnyK_one (i := 7) hcl (by kernel_rfl) rfl (by rfl) (fun K hK => ?_)
            go_simp
            refine hK.out _ _ (Or.inr (HCA.out _)) (fun hcl2 => ?_)
            clear hK K hcl hS
            have hcl := hcl2
            clear hcl2
            refine wpAnyK_one (i := 8) hcl (by kernel_rfl) rfl (by rfl) (fun K hK => ?_)
            refine wp_nd _ _ (by rfl) (N + 1) tv ns (by rfl) ((R3.out.alloc _).drew) ⟨W9.heap.size, 0, none⟩ 1 { kind := 3, field := t.data.toList, op := x, form := 3, lo := vi, hi := 0, len := 0, pat := (⟨#[]⟩ : ByteArray).data.toList } (by rfl) (by rw [HTOK.out]; exact World.news_of_block (cs := #[.int .i64 3, .string t, .int .i64 x, .int .i64 3, .int .i64 vi, .int .i64 0, .int .i64 0, .string ⟨#[]⟩]) (t := 56) (fr := (0, 0)) (heap_alloc_new W9 _)) (by omega) (by simp; omega) (W9.heap.size + 1) (by simp) ?_
            intro gg cp w1 hown1 hgrow hat hlt
            have f3' : w1.frozen? ⟨N, 3, none⟩ = false := (hgrow.frozen_far ⟨N, 3, none⟩ (by simp; omega) (Ne.symm HNE.out)).trans (HFA.out _)
            have far : ∀ j, w1.cell? ⟨M, j, none⟩ = _ := fun j => hgrow.cell_far ⟨M, j, none⟩ (by simp; omega) (Ne.symm HNM.out)
            have hS1 : w1.cell? ⟨N, 3, none⟩ = some tv ∧ w1.cell? ⟨M, 0, none⟩ = some (.string t) ∧ w1.cell? ⟨M, 1, none⟩ = some (.int .i64 x) ∧ w1.cell? ⟨M, 2, none⟩ = some (.int .i64 3) ∧ w1.cell? ⟨M, 3, none⟩ = some (.int .i64 vi) ∧ w1.cell? ⟨M, 4, none⟩ = some (.int .i64 0) ∧ w1.cell? ⟨M, 5, none⟩ = some (.int .i64 0) ∧ w1.cell? ⟨M, 6, none⟩ = some (.string ⟨#[]⟩) :=
              ⟨(hgrow.cell_far ⟨N, 3, none⟩ (by simp; omega) (Ne.symm HNE.out)).trans (HCA.out _).1, (far 0).trans (HCA.out _).2.1, (far 1).trans (HCA.out _).2.2.1, (far 2).trans (HCA.out _).2.2.2.1, (far 3).trans (HCA.out _).2.2.2.2.1, (far 4).trans (HCA.out _).2.2.2.2.2.1, (far 5).trans (HCA.out _).2.2.2.2.2.2.1, (far 6).trans (HCA.out _).2.2.2.2.2.2.2⟩
            have c3' := hS1.1
            refine hK.out _ _ (Or.inr hS1) (fun hcl2 => ?_)
            clear hK K hcl far
            have hcl := hcl2
            clear hcl2
            have hS : (fun w' : World => w'.cell? ⟨N, 3, none⟩ = some tv ∧ w'.cell? ⟨M, 0, none⟩ = some (.string t) ∧ w'.cell? ⟨M, 1, none⟩ = some (.int .i64 x) ∧ w'.cell? ⟨M, 2, none⟩ = some (.int .i64 3) ∧ w'.cell? ⟨M, 3, none⟩ = some (.int .i64 vi) ∧ w'.cell? ⟨M, 4, none⟩ = some (.int .i64 0) ∧ w'.cell? ⟨M, 5, none⟩ = some (.int .i64 0) ∧ w'.cell? ⟨M, 6, none⟩ = some (.string ⟨#[]⟩)) w1 := hS1
            (try simp only [Act.put, List.setIfInBounds_toArray, List.set_cons_zero, List.set_cons_succ])
            refine wpAnyK_take (i := 9) (v := ?_) hcl hS rfl (by kernel_rfl) (fun _ _ _ h => h) (by rfl) ?_ (fun hcl2 => ?_)
            rotate_left
            · (intro w hSw; (try dsimp only at hSw); first | (go_simp; done) | (go_simp; with_reducible rfl))
            (try simp only [Act.put, List.setIfInBounds_toArray, List.set_cons_zero, List.set_cons_succ])
            clear hcl; have hcl := hcl2; clear hcl2
            refine wpAnyK_take (i := 10) (v := ?_) hcl hS rfl (by kernel_rfl) (fun _ _ _ h => h) (by rfl) ?_ (fun hcl2 => ?_)
            rotate_left
            · (intro w hSw; (try dsimp only at hSw); first | (go_simp; done) | (go_simp; with_reducible rfl))
            (try simp only [Act.put, List.setIfInBounds_toArray, List.set_cons_zero, List.set_cons_succ])
            clear hcl; have hcl := hcl2; clear hcl2
            clear hS1
            refine wpAnyK_one (i := 11) hcl (by kernel_rfl) rfl (by rfl) (fun K hK => ?_)
            go_simp
            refine hK.out _ _ (Or.inl (by kernel_rfl)) (fun hcl2 => ?_)
            clear hK K hcl hcl2 hS
            refine wpAnyK_done (by kernel_rfl) ?_ _
            have hfin := FSt.putN (w := (W9.alloc (.cells #[.int .i64 3, .string t, .int .i64 x, .int .i64 3, .int .i64 vi, .int .i64 0, .int .i64 0, .string ⟨#[]⟩] 56)).drew) ((R1.out.alloc _).drewN 1) (World.ownsRow.alloc R2.out _) (World.ownsRow.alloc R3.out _) ((R4.out.alloc (by omega) _).drew) hown1 hgrow
            have HFIN := Lib.hid hfin
            clear hfin hown1 hgrow hat hlt c3' f3'
            go_wp2_with fail
            first | go_end0 | ((try simp only [Exit.inBlock, Exit.then]); refine bodyPost_ret (results_none rfl _ _ _) rfl ?_)
            exact FTEnd_bad HRR.out HFIN.out
          | some u =>
            obtain ⟨ui, hui⟩ : ∃ ui : Int, (u : Int) = ui := ⟨_, rfl⟩
            have HV2 := Lib.hid (fun W (h : FTs W0 N (some ⟨G, O, none⟩) n cap P4 st ns m 0 M (tcr t x 3 vi 0 0 ⟨#[]⟩) W) => h.val_some HN.out hnb HV.out HTS.out hvb hui (show P4 + 1 = P5 from HP5.out))
            have HRR : Hid (R = .ok P5 { kind := 3, field := t.data.toList, op := x, form := 3, lo := vi, hi := ui }) := by show _ = _; rw [HRV3.out, if_neg (fun h => by rw [hs47] at h; exact absurd h.2 (by decide)), if_pos ⟨hwh, hs46⟩, hvb]; simp only []; rw [hui]
            have HSG47 := Lib.hid (fun W (h : FTs W0 N (some ⟨G, O, none⟩) n cap P3 st ns m 0 M (tcr t x 1 vi 0 0 ⟨#[]⟩) W) => (h.1.sign P3 ⟨#[47]⟩ HN.out HV.out (b := false) hs47))
            have HSG46 := Lib.hid (fun W (h : FTs W0 N (some ⟨G, O, none⟩) n cap P3 st ns m 0 M (tcr t x 1 vi 0 0 ⟨#[]⟩) W) => (h.1.sign P3 ⟨#[46, 46]⟩ HN.out HV.out (b := true) hs46))
            clear hvb hwh hx hol hs47 hs46 hui
            go_wp2_with fail
            refine (HSG47.out _ HQ6.out).mono ?_
            rintro e w7 ⟨rfl, rfl⟩
            go_wp2_with fail
            refine (HSG46.out _ HQ6.out).mono ?_
            rintro e w7 ⟨rfl, rfl⟩
            go_upto_region 21 with (fail)
            obtain ⟨W7, hW7⟩ : ∃ W7, W6.setCell ⟨N, 1, none⟩ (.int .i64 ((P3 : Int) + 1)) = W7 := ⟨_, rfl⟩
            have hq7 : FTs W0 N (some ⟨G, O, none⟩) n cap P4 st ns m 0 M (tcr t x 1 vi 0 0 ⟨#[]⟩) W7 := by rw [← hW7, ← HP4.out]; exact HQ6.out.at_
            rw [hW7]
            clear hW7 c1 f1 c5 m1 m2 fm2
            have HQ7 := Lib.hid hq7
            clear hq7
            obtain ⟨_, _, m2, _, _, _, _, fm, _⟩ := HQ7.out.mcells
            have fm2 := fm 2
            clear fm
            go_wp2_with fail
            refine (HV2.out _ (HQ7.out.set_ 2 _)).mono ?_
            rintro e w8 ⟨rfl, h8⟩
            clear m2 fm2
            have HQ8 : Hid (FTs W0 N (some ⟨G, O, none⟩) n cap P5 st ns m 0 M (tcr t x 3 vi 0 0 ⟨#[]⟩) w8) := h8
            clear h8
            obtain ⟨_, _, _, _, m4, m5, _, fm, _⟩ := HQ8.out.mcells
            have fm4 := fm 4
            have fm5 := fm 5
            clear fm
            go_upto_region 23 with (fail)
            obtain ⟨W9, hW9⟩ : ∃ W9, w8.setCell ⟨M, 4, none⟩ (.int .i64 ui) = W9 := ⟨_, rfl⟩
            have hq9 : FTs W0 N (some ⟨G, O, none⟩) n cap P5 st ns m 0 M (tcr t x 3 vi ui 0 ⟨#[]⟩) W9 := by rw [← hW9]; exact HQ8.out.set_ 4 _
            rw [hW9]
            clear hW9 m4 m5 fm4 fm5
            have HQ := Lib.hid hq9
            clear hq9
            obtain ⟨⟨ov, tv, r1, r2, r3, r4⟩, rb, rNM⟩ := HQ.out
            obtain ⟨y0, y1, y2, y3, y4, y5, y6, _, hMlt⟩ := HQ.out.mcells
            have d3 : W9.cell? ⟨N, 3, none⟩ = some tv := r1.cell 3
            have g3 := r1.frozen 3
            have hNlt := r1.lt
            have hne := nds_ne r3
            have hneM : tv.ownBlock ≠ some M := kind_ne r3 rb (by decide)
            have hS1 : W9.cell? ⟨N, 3, none⟩ = some tv ∧ W9.cell? ⟨M, 0, none⟩ = some (.string t) ∧ W9.cell? ⟨M, 1, none⟩ = some (.int .i64 x) ∧ W9.cell? ⟨M, 2, none⟩ = some (.int .i64 3) ∧ W9.cell? ⟨M, 3, none⟩ = some (.int .i64 vi) ∧ W9.cell? ⟨M, 4, none⟩ = some (.int .i64 ui) ∧ W9.cell? ⟨M, 5, none⟩ = some (.int .i64 0) ∧ W9.cell? ⟨M, 6, none⟩ = some (.string ⟨#[]⟩) := ⟨d3, y0, y1, y2, y3, y4, y5, y6⟩
            have HFA : Hid (∀ o, (W9.alloc o).frozen? ⟨N, 3, none⟩ = false) := fun o => (World.frozen?_alloc_past _ _ _ hNlt).trans g3
            have HCA : Hid (∀ o, (W9.alloc o).cell? ⟨N, 3, none⟩ = some tv ∧ (W9.alloc o).cell? ⟨M, 0, none⟩ = some (.string t) ∧ (W9.alloc o).cell? ⟨M, 1, none⟩ = some (.int .i64 x) ∧ (W9.alloc o).cell? ⟨M, 2, none⟩ = some (.int .i64 3) ∧ (W9.alloc o).cell? ⟨M, 3, none⟩ = some (.int .i64 vi) ∧ (W9.alloc o).cell? ⟨M, 4, none⟩ = some (.int .i64 ui) ∧ (W9.alloc o).cell? ⟨M, 5, none⟩ = some (.int .i64 0) ∧ (W9.alloc o).cell? ⟨M, 6, none⟩ = some (.string ⟨#[]⟩)) := fun o =>
              ⟨(World.cell?_alloc_lt W9 o ⟨N, 3, none⟩ hNlt).trans d3, (World.cell?_alloc_lt W9 o ⟨M, 0, none⟩ hMlt).trans y0, (World.cell?_alloc_lt W9 o ⟨M, 1, none⟩ hMlt).trans y1, (World.cell?_alloc_lt W9 o ⟨M, 2, none⟩ hMlt).trans y2, (World.cell?_alloc_lt W9 o ⟨M, 3, none⟩ hMlt).trans y3, (World.cell?_alloc_lt W9 o ⟨M, 4, none⟩ hMlt).trans y4, (World.cell?_alloc_lt W9 o ⟨M, 5, none⟩ hMlt).trans y5, (World.cell?_alloc_lt W9 o ⟨M, 6, none⟩ hMlt).trans y6⟩
            have HTOK : Hid (ndCell { kind := 3, field := t.data.toList, op := x, form := 3, lo := vi, hi := ui, len := 0, pat := (⟨#[]⟩ : ByteArray).data.toList } = [.int .i64 3, .string t, .int .i64 x, .int .i64 3, .int .i64 vi, .int .i64 ui, .int .i64 0, .string ⟨#[]⟩]) := by
              show _ = _
              unfold ndCell
              simp only [ba_eta]
            have R1 := Lib.hid r1
            have R2 := Lib.hid r2
            have R3 := Lib.hid r3
            have R4 := Lib.hid r4
            have HS1 := Lib.hid hS1
            have HNE := Lib.hid hne
            have HNM := Lib.hid hneM
            clear r1 r2 r3 r4 rb y0 y1 y2 y3 y4 y5 y6 d3 g3 hS1 hne hneM
            (try go_wp2_with fail)
            refine wp_region_K 11 (fun w' => w'.cell? ⟨N, 3, none⟩ = some tv ∧ w'.cell? ⟨M, 0, none⟩ = some (.string t) ∧ w'.cell? ⟨M, 1, none⟩ = some (.int .i64 x) ∧ w'.cell? ⟨M, 2, none⟩ = some (.int .i64 3) ∧ w'.cell? ⟨M, 3, none⟩ = some (.int .i64 vi) ∧ w'.cell? ⟨M, 4, none⟩ = some (.int .i64 ui) ∧ w'.cell? ⟨M, 5, none⟩ = some (.int .i64 0) ∧ w'.cell? ⟨M, 6, none⟩ = some (.string ⟨#[]⟩)) (by kernel_rfl) (fun hcl => ?_)
            have hS : (fun w' : World => w'.cell? ⟨N, 3, none⟩ = some tv ∧ w'.cell? ⟨M, 0, none⟩ = some (.string t) ∧ w'.cell? ⟨M, 1, none⟩ = some (.int .i64 x) ∧ w'.cell? ⟨M, 2, none⟩ = some (.int .i64 3) ∧ w'.cell? ⟨M, 3, none⟩ = some (.int .i64 vi) ∧ w'.cell? ⟨M, 4, none⟩ = some (.int .i64 ui) ∧ w'.cell? ⟨M, 5, none⟩ = some (.int .i64 0) ∧ w'.cell? ⟨M, 6, none⟩ = some (.string ⟨#[]⟩)) W9.drew := HS1.out
            refine wpAnyK_take (i := 0) (v := ?_) hcl hS rfl (by kernel_rfl) (fun _ _ _ h => h) (by rfl) ?_ (fun hcl2 => ?_)
            rotate_left
            · (intro w hSw; (try dsimp only at hSw); first | (go_simp; done) | (go_simp; with_reducible rfl))
            (try simp only [Act.put, List.setIfInBounds_toArray, List.set_cons_zero, List.set_cons_succ])
            clear hcl; have hcl := hcl2; clear hcl2
            refine wpAnyK_take (i := 1) (v := ?_) hcl hS rfl (by kernel_rfl) (fun _ _ _ h => h) (by rfl) ?_ (fun hcl2 => ?_)
            rotate_left
            · (intro w hSw; (try dsimp only at hSw); first | (go_simp; done) | (go_simp; with_reducible rfl))
            (try simp only [Act.put, List.setIfInBounds_toArray, List.set_cons_zero, List.set_cons_succ])
            clear hcl; have hcl := hcl2; clear hcl2
            refine wpAnyK_take (i := 2) (v := ?_) hcl hS rfl (by kernel_rfl) (fun _ _ _ h => h) (by rfl) ?_ (fun hcl2 => ?_)
            rotate_left
            · (intro w hSw; (try dsimp only at hSw); first | (go_simp; done) | (go_simp; with_reducible rfl))
            (try simp only [Act.put, List.setIfInBounds_toArray, List.set_cons_zero, List.set_cons_succ])
            clear hcl; have hcl := hcl2; clear hcl2
            refine wpAnyK_take (i := 3) (v := ?_) hcl hS rfl (by kernel_rfl) (fun _ _ _ h => h) (by rfl) ?_ (fun hcl2 => ?_)
            rotate_left
            · (intro w hSw; (try dsimp only at hSw); first | (go_simp; done) | (go_simp; with_reducible rfl))
            (try simp only [Act.put, List.setIfInBounds_toArray, List.set_cons_zero, List.set_cons_succ])
            clear hcl; have hcl := hcl2; clear hcl2
            refine wpAnyK_take (i := 4) (v := ?_) hcl hS rfl (by kernel_rfl) (fun _ _ _ h => h) (by rfl) ?_ (fun hcl2 => ?_)
            rotate_left
            · (intro w hSw; (try dsimp only at hSw); first | (go_simp; done) | (go_simp; with_reducible rfl))
            (try simp only [Act.put, List.setIfInBounds_toArray, List.set_cons_zero, List.set_cons_succ])
            clear hcl; have hcl := hcl2; clear hcl2
            refine wpAnyK_take (i := 5) (v := ?_) hcl hS rfl (by kernel_rfl) (fun _ _ _ h => h) (by rfl) ?_ (fun hcl2 => ?_)
            rotate_left
            · (intro w hSw; (try dsimp only at hSw); first | (go_simp; done) | (go_simp; with_reducible rfl))
            (try simp only [Act.put, List.setIfInBounds_toArray, List.set_cons_zero, List.set_cons_succ])
            clear hcl; have hcl := hcl2; clear hcl2
            refine wpAnyK_take (i := 6) (v := ?_) hcl hS rfl (by kernel_rfl) (fun _ _ _ h => h) (by rfl) ?_ (fun hcl2 => ?_)
            rotate_left
            · (intro w hSw; (try dsimp only at hSw); first | (go_simp; done) | (go_simp; with_reducible rfl))
            (try simp only [Act.put, List.setIfInBounds_toArray, List.set_cons_zero, List.set_cons_succ])
            clear hcl; have hcl := hcl2; clear hcl2
            refine wpAnyK_one (i := 7) hcl (by kernel_rfl) rfl (by rfl) (fun K hK => ?_)
            go_simp
            refine hK.out _ _ (Or.inr (HCA.out _)) (fun hcl2 => ?_)
            clear hK K hcl hS
            have hcl := hcl2
            clear hcl2
            refine wpAnyK_one (i := 8) hcl (by kernel_rfl) rfl (by rfl) (fun K hK => ?_)
            refine wp_nd _ _ (by rfl) (N + 1) tv ns (by rfl) ((R3.out.alloc _).drew) ⟨W9.heap.size, 0, none⟩ 1 { kind := 3, field := t.data.toList, op := x, form := 3, lo := vi, hi := ui, len := 0, pat := (⟨#[]⟩ : ByteArray).data.toList } (by rfl) (by rw [HTOK.out]; exact World.news_of_block (cs := #[.int .i64 3, .string t, .int .i64 x, .int .i64 3, .int .i64 vi, .int .i64 ui, .int .i64 0, .string ⟨#[]⟩]) (t := 56) (fr := (0, 0)) (heap_alloc_new W9 _)) (by omega) (by simp; omega) (W9.heap.size + 1) (by simp) ?_
            intro gg cp w1 hown1 hgrow hat hlt
            have f3' : w1.frozen? ⟨N, 3, none⟩ = false := (hgrow.frozen_far ⟨N, 3, none⟩ (by simp; omega) (Ne.symm HNE.out)).trans (HFA.out _)
            have far : ∀ j, w1.cell? ⟨M, j, none⟩ = _ := fun j => hgrow.cell_far ⟨M, j, none⟩ (by simp; omega) (Ne.symm HNM.out)
            have hS1 : w1.cell? ⟨N, 3, none⟩ = some tv ∧ w1.cell? ⟨M, 0, none⟩ = some (.string t) ∧ w1.cell? ⟨M, 1, none⟩ = some (.int .i64 x) ∧ w1.cell? ⟨M, 2, none⟩ = some (.int .i64 3) ∧ w1.cell? ⟨M, 3, none⟩ = some (.int .i64 vi) ∧ w1.cell? ⟨M, 4, none⟩ = some (.int .i64 ui) ∧ w1.cell? ⟨M, 5, none⟩ = some (.int .i64 0) ∧ w1.cell? ⟨M, 6, none⟩ = some (.string ⟨#[]⟩) :=
              ⟨(hgrow.cell_far ⟨N, 3, none⟩ (by simp; omega) (Ne.symm HNE.out)).trans (HCA.out _).1, (far 0).trans (HCA.out _).2.1, (far 1).trans (HCA.out _).2.2.1, (far 2).trans (HCA.out _).2.2.2.1, (far 3).trans (HCA.out _).2.2.2.2.1, (far 4).trans (HCA.out _).2.2.2.2.2.1, (far 5).trans (HCA.out _).2.2.2.2.2.2.1, (far 6).trans (HCA.out _).2.2.2.2.2.2.2⟩
            have c3' := hS1.1
            refine hK.out _ _ (Or.inr hS1) (fun hcl2 => ?_)
            clear hK K hcl far
            have hcl := hcl2
            clear hcl2
            have hS : (fun w' : World => w'.cell? ⟨N, 3, none⟩ = some tv ∧ w'.cell? ⟨M, 0, none⟩ = some (.string t) ∧ w'.cell? ⟨M, 1, none⟩ = some (.int .i64 x) ∧ w'.cell? ⟨M, 2, none⟩ = some (.int .i64 3) ∧ w'.cell? ⟨M, 3, none⟩ = some (.int .i64 vi) ∧ w'.cell? ⟨M, 4, none⟩ = some (.int .i64 ui) ∧ w'.cell? ⟨M, 5, none⟩ = some (.int .i64 0) ∧ w'.cell? ⟨M, 6, none⟩ = some (.string ⟨#[]⟩)) w1 := hS1
            (try simp only [Act.put, List.setIfInBounds_toArray, List.set_cons_zero, List.set_cons_succ])
            refine wpAnyK_take (i := 9) (v := ?_) hcl hS rfl (by kernel_rfl) (fun _ _ _ h => h) (by rfl) ?_ (fun hcl2 => ?_)
            rotate_left
            · (intro w hSw; (try dsimp only at hSw); first | (go_simp; done) | (go_simp; with_reducible rfl))
            (try simp only [Act.put, List.setIfInBounds_toArray, List.set_cons_zero, List.set_cons_succ])
            clear hcl; have hcl := hcl2; clear hcl2
            refine wpAnyK_take (i := 10) (v := ?_) hcl hS rfl (by kernel_rfl) (fun _ _ _ h => h) (by rfl) ?_ (fun hcl2 => ?_)
            rotate_left
            · (intro w hSw; (try dsimp only at hSw); first | (go_simp; done) | (go_simp; with_reducible rfl))
            (try simp only [Act.put, List.setIfInBounds_toArray, List.set_cons_zero, List.set_cons_succ])
            clear hcl; have hcl := hcl2; clear hcl2
            clear hS1
            refine wpAnyK_one (i := 11) hcl (by kernel_rfl) rfl (by rfl) (fun K hK => ?_)
            go_simp
            refine hK.out _ _ (Or.inl (by kernel_rfl)) (fun hcl2 => ?_)
            clear hK K hcl hcl2 hS
            refine wpAnyK_done (by kernel_rfl) ?_ _
            have hfin := FSt.putN (w := (W9.alloc (.cells #[.int .i64 3, .string t, .int .i64 x, .int .i64 3, .int .i64 vi, .int .i64 ui, .int .i64 0, .string ⟨#[]⟩] 56)).drew) ((R1.out.alloc _).drewN 1) (World.ownsRow.alloc R2.out _) (World.ownsRow.alloc R3.out _) ((R4.out.alloc (by omega) _).drew) hown1 hgrow
            have HFIN := Lib.hid hfin
            clear hfin hown1 hgrow hat hlt c3' f3'
            go_wp2_with fail
            first | go_end0 | ((try simp only [Exit.inBlock, Exit.then]); refine bodyPost_ret (results_none rfl _ _ _) rfl ?_)
            exact FTEnd_ok HRR.out HFIN.out
        rw [Bool.not_eq_true] at hs46
        have HRR : Hid (R = .ok P3 { kind := 3, field := t.data.toList, op := x, form := 1, lo := vi }) := by show _ = _; rw [HRV3.out, if_neg (fun h => by rw [hs47] at h; exact absurd h.2 (by decide)), if_neg (fun h => by rw [hs46] at h; exact absurd h.2 (by decide))]
        have HSG47 := Lib.hid (fun W (h : FTs W0 N (some ⟨G, O, none⟩) n cap P3 st ns m 0 M (tcr t x 1 vi 0 0 ⟨#[]⟩) W) => (h.1.sign P3 ⟨#[47]⟩ HN.out HV.out (b := false) hs47))
        have HSG46 := Lib.hid (fun W (h : FTs W0 N (some ⟨G, O, none⟩) n cap P3 st ns m 0 M (tcr t x 1 vi 0 0 ⟨#[]⟩) W) => (h.1.sign P3 ⟨#[46, 46]⟩ HN.out HV.out (b := false) hs46))
        clear hwh hx hol hs47 hs46
        go_wp2_with fail
        refine (HSG47.out _ HQ6.out).mono ?_
        rintro e w7 ⟨rfl, rfl⟩
        go_wp2_with fail
        refine (HSG46.out _ HQ6.out).mono ?_
        rintro e w7 ⟨rfl, rfl⟩
        go_upto_region 23 with (fail)
        clear c1 f1 c5 m1 m2 fm2
        have HQ := HQ6
        obtain ⟨⟨ov, tv, r1, r2, r3, r4⟩, rb, rNM⟩ := HQ.out
        obtain ⟨y0, y1, y2, y3, y4, y5, y6, _, hMlt⟩ := HQ.out.mcells
        have d3 : W6.cell? ⟨N, 3, none⟩ = some tv := r1.cell 3
        have g3 := r1.frozen 3
        have hNlt := r1.lt
        have hne := nds_ne r3
        have hneM : tv.ownBlock ≠ some M := kind_ne r3 rb (by decide)
        have hS1 : W6.cell? ⟨N, 3, none⟩ = some tv ∧ W6.cell? ⟨M, 0, none⟩ = some (.string t) ∧ W6.cell? ⟨M, 1, none⟩ = some (.int .i64 x) ∧ W6.cell? ⟨M, 2, none⟩ = some (.int .i64 1) ∧ W6.cell? ⟨M, 3, none⟩ = some (.int .i64 vi) ∧ W6.cell? ⟨M, 4, none⟩ = some (.int .i64 0) ∧ W6.cell? ⟨M, 5, none⟩ = some (.int .i64 0) ∧ W6.cell? ⟨M, 6, none⟩ = some (.string ⟨#[]⟩) := ⟨d3, y0, y1, y2, y3, y4, y5, y6⟩
        have HFA : Hid (∀ o, (W6.alloc o).frozen? ⟨N, 3, none⟩ = false) := fun o => (World.frozen?_alloc_past _ _ _ hNlt).trans g3
        have HCA : Hid (∀ o, (W6.alloc o).cell? ⟨N, 3, none⟩ = some tv ∧ (W6.alloc o).cell? ⟨M, 0, none⟩ = some (.string t) ∧ (W6.alloc o).cell? ⟨M, 1, none⟩ = some (.int .i64 x) ∧ (W6.alloc o).cell? ⟨M, 2, none⟩ = some (.int .i64 1) ∧ (W6.alloc o).cell? ⟨M, 3, none⟩ = some (.int .i64 vi) ∧ (W6.alloc o).cell? ⟨M, 4, none⟩ = some (.int .i64 0) ∧ (W6.alloc o).cell? ⟨M, 5, none⟩ = some (.int .i64 0) ∧ (W6.alloc o).cell? ⟨M, 6, none⟩ = some (.string ⟨#[]⟩)) := fun o =>
          ⟨(World.cell?_alloc_lt W6 o ⟨N, 3, none⟩ hNlt).trans d3, (World.cell?_alloc_lt W6 o ⟨M, 0, none⟩ hMlt).trans y0, (World.cell?_alloc_lt W6 o ⟨M, 1, none⟩ hMlt).trans y1, (World.cell?_alloc_lt W6 o ⟨M, 2, none⟩ hMlt).trans y2, (World.cell?_alloc_lt W6 o ⟨M, 3, none⟩ hMlt).trans y3, (World.cell?_alloc_lt W6 o ⟨M, 4, none⟩ hMlt).trans y4, (World.cell?_alloc_lt W6 o ⟨M, 5, none⟩ hMlt).trans y5, (World.cell?_alloc_lt W6 o ⟨M, 6, none⟩ hMlt).trans y6⟩
        have HTOK : Hid (ndCell { kind := 3, field := t.data.toList, op := x, form := 1, lo := vi, hi := 0, len := 0, pat := (⟨#[]⟩ : ByteArray).data.toList } = [.int .i64 3, .string t, .int .i64 x, .int .i64 1, .int .i64 vi, .int .i64 0, .int .i64 0, .string ⟨#[]⟩]) := by
          show _ = _
          unfold ndCell
          simp only [ba_eta]
        have R1 := Lib.hid r1
        have R2 := Lib.hid r2
        have R3 := Lib.hid r3
        have R4 := Lib.hid r4
        have HS1 := Lib.hid hS1
        have HNE := Lib.hid hne
        have HNM := Lib.hid hneM
        clear r1 r2 r3 r4 rb y0 y1 y2 y3 y4 y5 y6 d3 g3 hS1 hne hneM
        (try go_wp2_with fail)
        refine wp_region_K 11 (fun w' => w'.cell? ⟨N, 3, none⟩ = some tv ∧ w'.cell? ⟨M, 0, none⟩ = some (.string t) ∧ w'.cell? ⟨M, 1, none⟩ = some (.int .i64 x) ∧ w'.cell? ⟨M, 2, none⟩ = some (.int .i64 1) ∧ w'.cell? ⟨M, 3, none⟩ = some (.int .i64 vi) ∧ w'.cell? ⟨M, 4, none⟩ = some (.int .i64 0) ∧ w'.cell? ⟨M, 5, none⟩ = some (.int .i64 0) ∧ w'.cell? ⟨M, 6, none⟩ = some (.string ⟨#[]⟩)) (by kernel_rfl) (fun hcl => ?_)
        have hS : (fun w' : World => w'.cell? ⟨N, 3, none⟩ = some tv ∧ w'.cell? ⟨M, 0, none⟩ = some (.string t) ∧ w'.cell? ⟨M, 1, none⟩ = some (.int .i64 x) ∧ w'.cell? ⟨M, 2, none⟩ = some (.int .i64 1) ∧ w'.cell? ⟨M, 3, none⟩ = some (.int .i64 vi) ∧ w'.cell? ⟨M, 4, none⟩ = some (.int .i64 0) ∧ w'.cell? ⟨M, 5, none⟩ = some (.int .i64 0) ∧ w'.cell? ⟨M, 6, none⟩ = some (.string ⟨#[]⟩)) W6.drew := HS1.out
        refine wpAnyK_take (i := 0) (v := ?_) hcl hS rfl (by kernel_rfl) (fun _ _ _ h => h) (by rfl) ?_ (fun hcl2 => ?_)
        rotate_left
        · (intro w hSw; (try dsimp only at hSw); first | (go_simp; done) | (go_simp; with_reducible rfl))
        (try simp only [Act.put, List.setIfInBounds_toArray, List.set_cons_zero, List.set_cons_succ])
        clear hcl; have hcl := hcl2; clear hcl2
        refine wpAnyK_take (i := 1) (v := ?_) hcl hS rfl (by kernel_rfl) (fun _ _ _ h => h) (by rfl) ?_ (fun hcl2 => ?_)
        rotate_left
        · (intro w hSw; (try dsimp only at hSw); first | (go_simp; done) | (go_simp; with_reducible rfl))
        (try simp only [Act.put, List.setIfInBounds_toArray, List.set_cons_zero, List.set_cons_succ])
        clear hcl; have hcl := hcl2; clear hcl2
        refine wpAnyK_take (i := 2) (v := ?_) hcl hS rfl (by kernel_rfl) (fun _ _ _ h => h) (by rfl) ?_ (fun hcl2 => ?_)
        rotate_left
        · (intro w hSw; (try dsimp only at hSw); first | (go_simp; done) | (go_simp; with_reducible rfl))
        (try simp only [Act.put, List.setIfInBounds_toArray, List.set_cons_zero, List.set_cons_succ])
        clear hcl; have hcl := hcl2; clear hcl2
        refine wpAnyK_take (i := 3) (v := ?_) hcl hS rfl (by kernel_rfl) (fun _ _ _ h => h) (by rfl) ?_ (fun hcl2 => ?_)
        rotate_left
        · (intro w hSw; (try dsimp only at hSw); first | (go_simp; done) | (go_simp; with_reducible rfl))
        (try simp only [Act.put, List.setIfInBounds_toArray, List.set_cons_zero, List.set_cons_succ])
        clear hcl; have hcl := hcl2; clear hcl2
        refine wpAnyK_take (i := 4) (v := ?_) hcl hS rfl (by kernel_rfl) (fun _ _ _ h => h) (by rfl) ?_ (fun hcl2 => ?_)
        rotate_left
        · (intro w hSw; (try dsimp only at hSw); first | (go_simp; done) | (go_simp; with_reducible rfl))
        (try simp only [Act.put, List.setIfInBounds_toArray, List.set_cons_zero, List.set_cons_succ])
        clear hcl; have hcl := hcl2; clear hcl2
        refine wpAnyK_take (i := 5) (v := ?_) hcl hS rfl (by kernel_rfl) (fun _ _ _ h => h) (by rfl) ?_ (fun hcl2 => ?_)
        rotate_left
        · (intro w hSw; (try dsimp only at hSw); first | (go_simp; done) | (go_simp; with_reducible rfl))
        (try simp only [Act.put, List.setIfInBounds_toArray, List.set_cons_zero, List.set_cons_succ])
        clear hcl; have hcl := hcl2; clear hcl2
        refine wpAnyK_take (i := 6) (v := ?_) hcl hS rfl (by kernel_rfl) (fun _ _ _ h => h) (by rfl) ?_ (fun hcl2 => ?_)
        rotate_left
        · (intro w hSw; (try dsimp only at hSw); first | (go_simp; done) | (go_simp; with_reducible rfl))
        (try simp only [Act.put, List.setIfInBounds_toArray, List.set_cons_zero, List.set_cons_succ])
        clear hcl; have hcl := hcl2; clear hcl2
        refine wpAnyK_one (i := 7) hcl (by kernel_rfl) rfl (by rfl) (fun K hK => ?_)
        go_simp
        refine hK.out _ _ (Or.inr (HCA.out _)) (fun hcl2 => ?_)
        clear hK K hcl hS
        have hcl := hcl2
        clear hcl2
        refine wpAnyK_one (i := 8) hcl (by kernel_rfl) rfl (by rfl) (fun K hK => ?_)
        refine wp_nd _ _ (by rfl) (N + 1) tv ns (by rfl) ((R3.out.alloc _).drew) ⟨W6.heap.size, 0, none⟩ 1 { kind := 3, field := t.data.toList, op := x, form := 1, lo := vi, hi := 0, len := 0, pat := (⟨#[]⟩ : ByteArray).data.toList } (by rfl) (by rw [HTOK.out]; exact World.news_of_block (cs := #[.int .i64 3, .string t, .int .i64 x, .int .i64 1, .int .i64 vi, .int .i64 0, .int .i64 0, .string ⟨#[]⟩]) (t := 56) (fr := (0, 0)) (heap_alloc_new W6 _)) (by omega) (by simp; omega) (W6.heap.size + 1) (by simp) ?_
        intro gg cp w1 hown1 hgrow hat hlt
        have f3' : w1.frozen? ⟨N, 3, none⟩ = false := (hgrow.frozen_far ⟨N, 3, none⟩ (by simp; omega) (Ne.symm HNE.out)).trans (HFA.out _)
        have far : ∀ j, w1.cell? ⟨M, j, none⟩ = _ := fun j => hgrow.cell_far ⟨M, j, none⟩ (by simp; omega) (Ne.symm HNM.out)
        have hS1 : w1.cell? ⟨N, 3, none⟩ = some tv ∧ w1.cell? ⟨M, 0, none⟩ = some (.string t) ∧ w1.cell? ⟨M, 1, none⟩ = some (.int .i64 x) ∧ w1.cell? ⟨M, 2, none⟩ = some (.int .i64 1) ∧ w1.cell? ⟨M, 3, none⟩ = some (.int .i64 vi) ∧ w1.cell? ⟨M, 4, none⟩ = some (.int .i64 0) ∧ w1.cell? ⟨M, 5, none⟩ = some (.int .i64 0) ∧ w1.cell? ⟨M, 6, none⟩ = some (.string ⟨#[]⟩) :=
          ⟨(hgrow.cell_far ⟨N, 3, none⟩ (by simp; omega) (Ne.symm HNE.out)).trans (HCA.out _).1, (far 0).trans (HCA.out _).2.1, (far 1).trans (HCA.out _).2.2.1, (far 2).trans (HCA.out _).2.2.2.1, (far 3).trans (HCA.out _).2.2.2.2.1, (far 4).trans (HCA.out _).2.2.2.2.2.1, (far 5).trans (HCA.out _).2.2.2.2.2.2.1, (far 6).trans (HCA.out _).2.2.2.2.2.2.2⟩
        have c3' := hS1.1
        refine hK.out _ _ (Or.inr hS1) (fun hcl2 => ?_)
        clear hK K hcl far
        have hcl := hcl2
        clear hcl2
        have hS : (fun w' : World => w'.cell? ⟨N, 3, none⟩ = some tv ∧ w'.cell? ⟨M, 0, none⟩ = some (.string t) ∧ w'.cell? ⟨M, 1, none⟩ = some (.int .i64 x) ∧ w'.cell? ⟨M, 2, none⟩ = some (.int .i64 1) ∧ w'.cell? ⟨M, 3, none⟩ = some (.int .i64 vi) ∧ w'.cell? ⟨M, 4, none⟩ = some (.int .i64 0) ∧ w'.cell? ⟨M, 5, none⟩ = some (.int .i64 0) ∧ w'.cell? ⟨M, 6, none⟩ = some (.string ⟨#[]⟩)) w1 := hS1
        (try simp only [Act.put, List.setIfInBounds_toArray, List.set_cons_zero, List.set_cons_succ])
        refine wpAnyK_take (i := 9) (v := ?_) hcl hS rfl (by kernel_rfl) (fun _ _ _ h => h) (by rfl) ?_ (fun hcl2 => ?_)
        rotate_left
        · (intro w hSw; (try dsimp only at hSw); first | (go_simp; done) | (go_simp; with_reducible rfl))
        (try simp only [Act.put, List.setIfInBounds_toArray, List.set_cons_zero, List.set_cons_succ])
        clear hcl; have hcl := hcl2; clear hcl2
        refine wpAnyK_take (i := 10) (v := ?_) hcl hS rfl (by kernel_rfl) (fun _ _ _ h => h) (by rfl) ?_ (fun hcl2 => ?_)
        rotate_left
        · (intro w hSw; (try dsimp only at hSw); first | (go_simp; done) | (go_simp; with_reducible rfl))
        (try simp only [Act.put, List.setIfInBounds_toArray, List.set_cons_zero, List.set_cons_succ])
        clear hcl; have hcl := hcl2; clear hcl2
        clear hS1
        refine wpAnyK_one (i := 11) hcl (by kernel_rfl) rfl (by rfl) (fun K hK => ?_)
        go_simp
        refine hK.out _ _ (Or.inl (by kernel_rfl)) (fun hcl2 => ?_)
        clear hK K hcl hcl2 hS
        refine wpAnyK_done (by kernel_rfl) ?_ _
        have hfin := FSt.putN (w := (W6.alloc (.cells #[.int .i64 3, .string t, .int .i64 x, .int .i64 1, .int .i64 vi, .int .i64 0, .int .i64 0, .string ⟨#[]⟩] 56)).drew) ((R1.out.alloc _).drewN 1) (World.ownsRow.alloc R2.out _) (World.ownsRow.alloc R3.out _) ((R4.out.alloc (by omega) _).drew) hown1 hgrow
        have HFIN := Lib.hid hfin
        clear hfin hown1 hgrow hat hlt c3' f3'
        go_wp2_with fail
        first | go_end0 | ((try simp only [Exit.inBlock, Exit.then]); refine bodyPost_ret (results_none rfl _ _ _) rfl ?_)
        exact FTEnd_ok HRR.out HFIN.out
  have hlt2 : P2 < n := by
    have := Sp.kd_lt (T := zs.map ptZ) (i := P2) (by rw [hk5]; decide)
    have h2 := HTL.out
    omega
  obtain ⟨z, hz⟩ : ∃ z, zs[P2]? = some z := ⟨_, List.getElem?_eq_getElem (by rw [HN.out]; exact hlt2)⟩
  obtain ⟨hk1, hk2⟩ := kd_some hz
  have hzs := HTS.out z (List.mem_of_getElem? hz)
  obtain ⟨g0, o0, hA, _, b0, b1, _, _⟩ := HV.out.below HQ4.out.1.bel (Nat.le_refl _) P2 z hz
  injection hA with hA
  injection hA with e1 e2 _
  subst e1 e2
  obtain ⟨k2, t2, l2, cc2⟩ := z
  simp only [] at b0 b1 hk1 hk2 hzs
  have q1 : decide ((P2 : Int) < n) = true := decide_eq_true (by omega)
  have q1b : decide (P2 < n) = true := decide_eq_true hlt2
  have p2l : (P2 : Int) < n := by omega
  have q2 : ((k2 : Int) == 5) = true := beq_iff_eq.2 (by rw [← hk1]; exact hk5)
  have hRV3 := HRV2.out
  rw [if_pos ⟨hwh, hk5⟩, hk2] at hRV3
  have HRV3 := Lib.hid hRV3
  have hsl2 := Lib.size_eq t2
  have z9 : (t2.size : Int) ≤ 9223372036854775807 := by omega
  clear hRV3 hz hk1 hk2 hwh hk5 hlt2 hx hol hzs
  by_cases hsz : t2.size < 2
  · have s1 : decide ((t2.size : Int) < 2) = true := decide_eq_true (by omega)
    have HRR : Hid (R = .bad P2) := by
      show _ = _
      have hpb : Sp.patB t2.data.toList = false := by
        match hm : t2.data.toList with
        | [] => rfl
        | [a] => simp [Sp.patB, Sp.patV]
        | a :: b :: r => rw [hm] at hsl2; simp at hsl2; omega
      rw [HRV3.out, hpb]
      rfl
    have HFF := Lib.hid (fun k => f_fail (HQ4.out.drewN k).1 50 P2)
    clear hsz hsl2
    go_wp2_with fail
    go_quiet (fail)
    go_wp2_with fail
    go_quiet (fail)
    go_wp2_with (go_at_call 39; refine (HFF.out _).mono ?_; rintro e w6 ⟨rfl, h6, _⟩)
    first | go_end0 | ((try simp only [Exit.inBlock, Exit.then]); refine bodyPost_ret (results_none rfl _ _ _) rfl ?_)
    exact FTEnd_bad HRR.out h6
  have s1 : decide ((t2.size : Int) < 2) = false := decide_eq_false (by omega)
  have h0s : 0 < t2.size := by omega
  have z8 : (1 : Int) ≤ (t2.size : Int) := by omega
  have z7 : (0 : Int) < (t2.size : Int) := by omega
  obtain ⟨b, r, hbr⟩ : ∃ b r, t2.data.toList = b :: r := by
    cases hm : t2.data.toList with
    | nil => rw [hm, List.length_nil] at hsl2; omega
    | cons b r => exact ⟨b, r, rfl⟩
  have hb0 : t2[0]'h0s = b := by rw [Sp.get_idx t2 0 h0s (by rw [hbr]; simp)]; simp [hbr]
  have htx : (t2.extract 1 t2.size).data.toList = r := by rw [Lib.extract_data, List.take_of_length_le (by rw [List.length_drop, ← Lib.size_eq]; omega), hbr]; rfl
  have hw1 : IntKind.i64.wrap 1 = 1 := by rw [IntKind.wrap_i64]; rfl
  have hpv : Sp.patB t2.data.toList = (b == 37 && Sp.patV r) := by rw [hbr]; rfl
  by_cases hb37 : b = 37
  rotate_left
  · have s2 : (((t2[0]'h0s).toNat : Int) != 37) = true := by rw [hb0, bne_iff_ne]; exact fun e => hb37 (UInt8.toNat_inj.1 (show b.toNat = 37 by omega))
    have HRR : Hid (R = .bad P2) := by show _ = _; rw [HRV3.out, hpv, beq_eq_false_iff_ne.2 hb37]; rfl
    have HFF := Lib.hid (fun k => f_fail (HQ4.out.drewN k).1 50 P2)
    clear hsz hsl2 hbr hb0 htx hpv hb37
    go_wp2_with fail
    go_quiet (fail)
    go_wp2_with fail
    go_quiet (fail)
    go_wp2_with (go_at_call 39; refine (HFF.out _).mono ?_; rintro e w6 ⟨rfl, h6, _⟩)
    first | go_end0 | ((try simp only [Exit.inBlock, Exit.then]); refine bodyPost_ret (results_none rfl _ _ _) rfl ?_)
    exact FTEnd_bad HRR.out h6
  have s2 : (((t2[0]'h0s).toNat : Int) != 37) = false := by rw [hb0, hb37]; rfl
  have hdf := fun W => ref5_digitsFit (t2.extract 1 t2.size) W (by rw [ByteArray.size_extract]; omega)
  rw [htx] at hdf
  obtain ⟨pv, hpve⟩ : ∃ pv, Sp.patV r = pv := ⟨_, rfl⟩
  rw [hpve] at hdf
  rw [hpve, hb37] at hpv
  have HDF := Lib.hid hdf
  have hdr : t2.data.toList.drop 1 = r := by rw [hbr]; rfl
  have HTX := Lib.hid htx
  cases pv with
  | false =>
    have HRR : Hid (R = .bad P2) := by show _ = _; rw [HRV3.out, hpv]; rfl
    have HFF := Lib.hid (fun k => f_fail (HQ4.out.drewN k).1 50 P2)
    clear hsz hsl2 hbr hb0 htx hpv hb37 hdf hpve hdr
    go_wp2_with fail
    go_quiet (fail)
    go_wp2_with fail
    go_quiet (fail)
    go_wp2_with (first | (go_at_call 49; refine (HDF.out _).mono ?_; rintro e w5 ⟨rfl, rfl⟩) | (go_at_call 39; refine (HFF.out _).mono ?_; rintro e w6 ⟨rfl, h6, _⟩))
    first | go_end0 | ((try simp only [Exit.inBlock, Exit.then]); refine bodyPost_ret (results_none rfl _ _ _) rfl ?_)
    exact FTEnd_bad HRR.out h6
  | true =>
    have HRR : Hid (R = .ok P3 { kind := 3, field := t.data.toList, op := x, form := 4, pat := r }) := by show _ = _; rw [HRV3.out, hpv, hdr]; rfl
    clear hsz hsl2 hbr hb0 htx hpv hb37 hdf hpve hdr
    go_wp2_with fail
    go_quiet (fail)
    revert nq
    intro nqa
    go_wp2_with fail
    go_quiet (fail)
    go_wp2_with fail
    refine (HDF.out _).mono ?_
    rintro e w5 ⟨rfl, rfl⟩
    go_upto_region 23 with (fail)
    obtain ⟨W9, hW9⟩ : ∃ W9, (((W4.drewN (nqa + nq)).setCell ⟨M, 2, none⟩ (.int .i64 4)).setCell ⟨M, 6, none⟩ (.string (t2.extract 1 t2.size))).setCell ⟨N, 1, none⟩ (.int .i64 ((P2 : Int) + 1)) = W9 := ⟨_, rfl⟩
    have hq9 : FTs W0 N (some ⟨G, O, none⟩) n cap P3 st ns m 0 M (tcr t x 4 0 0 0 (t2.extract 1 t2.size)) W9 := by rw [← hW9, ← HP3.out]; exact (((HQ4.out.drewN _).set_ 2 _).set_ 6 _).at_
    rw [hW9]
    clear hW9 c0 c1 f1 c5 m1 m2 m6 fm2 fm6 b0 b1 q1 q1b q2
    have HQ := Lib.hid hq9
    clear hq9
    obtain ⟨⟨ov, tv, r1, r2, r3, r4⟩, rb, rNM⟩ := HQ.out
    obtain ⟨y0, y1, y2, y3, y4, y5, y6, _, hMlt⟩ := HQ.out.mcells
    have d3 : W9.cell? ⟨N, 3, none⟩ = some tv := r1.cell 3
    have g3 := r1.frozen 3
    have hNlt := r1.lt
    have hne := nds_ne r3
    have hneM : tv.ownBlock ≠ some M := kind_ne r3 rb (by decide)
    have hS1 : W9.cell? ⟨N, 3, none⟩ = some tv ∧ W9.cell? ⟨M, 0, none⟩ = some (.string t) ∧ W9.cell? ⟨M, 1, none⟩ = some (.int .i64 x) ∧ W9.cell? ⟨M, 2, none⟩ = some (.int .i64 4) ∧ W9.cell? ⟨M, 3, none⟩ = some (.int .i64 0) ∧ W9.cell? ⟨M, 4, none⟩ = some (.int .i64 0) ∧ W9.cell? ⟨M, 5, none⟩ = some (.int .i64 0) ∧ W9.cell? ⟨M, 6, none⟩ = some (.string (t2.extract 1 t2.size)) := ⟨d3, y0, y1, y2, y3, y4, y5, y6⟩
    have HFA : Hid (∀ o, (W9.alloc o).frozen? ⟨N, 3, none⟩ = false) := fun o => (World.frozen?_alloc_past _ _ _ hNlt).trans g3
    have HCA : Hid (∀ o, (W9.alloc o).cell? ⟨N, 3, none⟩ = some tv ∧ (W9.alloc o).cell? ⟨M, 0, none⟩ = some (.string t) ∧ (W9.alloc o).cell? ⟨M, 1, none⟩ = some (.int .i64 x) ∧ (W9.alloc o).cell? ⟨M, 2, none⟩ = some (.int .i64 4) ∧ (W9.alloc o).cell? ⟨M, 3, none⟩ = some (.int .i64 0) ∧ (W9.alloc o).cell? ⟨M, 4, none⟩ = some (.int .i64 0) ∧ (W9.alloc o).cell? ⟨M, 5, none⟩ = some (.int .i64 0) ∧ (W9.alloc o).cell? ⟨M, 6, none⟩ = some (.string (t2.extract 1 t2.size))) := fun o =>
      ⟨(World.cell?_alloc_lt W9 o ⟨N, 3, none⟩ hNlt).trans d3, (World.cell?_alloc_lt W9 o ⟨M, 0, none⟩ hMlt).trans y0, (World.cell?_alloc_lt W9 o ⟨M, 1, none⟩ hMlt).trans y1, (World.cell?_alloc_lt W9 o ⟨M, 2, none⟩ hMlt).trans y2, (World.cell?_alloc_lt W9 o ⟨M, 3, none⟩ hMlt).trans y3, (World.cell?_alloc_lt W9 o ⟨M, 4, none⟩ hMlt).trans y4, (World.cell?_alloc_lt W9 o ⟨M, 5, none⟩ hMlt).trans y5, (World.cell?_alloc_lt W9 o ⟨M, 6, none⟩ hMlt).trans y6⟩
    have HTOK : Hid (ndCell { kind := 3, field := t.data.toList, op := x, form := 4, lo := 0, hi := 0, len := 0, pat := ((t2.extract 1 t2.size) : ByteArray).data.toList } = [.int .i64 3, .string t, .int .i64 x, .int .i64 4, .int .i64 0, .int .i64 0, .int .i64 0, .string (t2.extract 1 t2.size)]) := by
      show _ = _
      unfold ndCell
      simp only [ba_eta]
    have R1 := Lib.hid r1
    have R2 := Lib.hid r2
    have R3 := Lib.hid r3
    have R4 := Lib.hid r4
    have HS1 := Lib.hid hS1
    have HNE := Lib.hid hne
    have HNM := Lib.hid hneM
    clear r1 r2 r3 r4 rb y0 y1 y2 y3 y4 y5 y6 d3 g3 hS1 hne hneM
    (try go_wp2_with fail)
    refine wp_region_K 11 (fun w' => w'.cell? ⟨N, 3, none⟩ = some tv ∧ w'.cell? ⟨M, 0, none⟩ = some (.string t) ∧ w'.cell? ⟨M, 1, none⟩ = some (.int .i64 x) ∧ w'.cell? ⟨M, 2, none⟩ = some (.int .i64 4) ∧ w'.cell? ⟨M, 3, none⟩ = some (.int .i64 0) ∧ w'.cell? ⟨M, 4, none⟩ = some (.int .i64 0) ∧ w'.cell? ⟨M, 5, none⟩ = some (.int .i64 0) ∧ w'.cell? ⟨M, 6, none⟩ = some (.string (t2.extract 1 t2.size))) (by kernel_rfl) (fun hcl => ?_)
    have hS : (fun w' : World => w'.cell? ⟨N, 3, none⟩ = some tv ∧ w'.cell? ⟨M, 0, none⟩ = some (.string t) ∧ w'.cell? ⟨M, 1, none⟩ = some (.int .i64 x) ∧ w'.cell? ⟨M, 2, none⟩ = some (.int .i64 4) ∧ w'.cell? ⟨M, 3, none⟩ = some (.int .i64 0) ∧ w'.cell? ⟨M, 4, none⟩ = some (.int .i64 0) ∧ w'.cell? ⟨M, 5, none⟩ = some (.int .i64 0) ∧ w'.cell? ⟨M, 6, none⟩ = some (.string (t2.extract 1 t2.size))) W9.drew := HS1.out
    refine wpAnyK_take (i := 0) (v := ?_) hcl hS rfl (by kernel_rfl) (fun _ _ _ h => h) (by rfl) ?_ (fun hcl2 => ?_)
    rotate_left
    · (intro w hSw; (try dsimp only at hSw); first | (go_simp; done) | (go_simp; with_reducible rfl))
    (try simp only [Act.put, List.setIfInBounds_toArray, List.set_cons_zero, List.set_cons_succ])
    clear hcl; have hcl := hcl2; clear hcl2
    refine wpAnyK_take (i := 1) (v := ?_) hcl hS rfl (by kernel_rfl) (fun _ _ _ h => h) (by rfl) ?_ (fun hcl2 => ?_)
    rotate_left
    · (intro w hSw; (try dsimp only at hSw); first | (go_simp; done) | (go_simp; with_reducible rfl))
    (try simp only [Act.put, List.setIfInBounds_toArray, List.set_cons_zero, List.set_cons_succ])
    clear hcl; have hcl := hcl2; clear hcl2
    refine wpAnyK_take (i := 2) (v := ?_) hcl hS rfl (by kernel_rfl) (fun _ _ _ h => h) (by rfl) ?_ (fun hcl2 => ?_)
    rotate_left
    · (intro w hSw; (try dsimp only at hSw); first | (go_simp; done) | (go_simp; with_reducible rfl))
    (try simp only [Act.put, List.setIfInBounds_toArray, List.set_cons_zero, List.set_cons_succ])
    clear hcl; have hcl := hcl2; clear hcl2
    refine wpAnyK_take (i := 3) (v := ?_) hcl hS rfl (by kernel_rfl) (fun _ _ _ h => h) (by rfl) ?_ (fun hcl2 => ?_)
    rotate_left
    · (intro w hSw; (try dsimp only at hSw); first | (go_simp; done) | (go_simp; with_reducible rfl))
    (try simp only [Act.put, List.setIfInBounds_toArray, List.set_cons_zero, List.set_cons_succ])
    clear hcl; have hcl := hcl2; clear hcl2
    refine wpAnyK_take (i := 4) (v := ?_) hcl hS rfl (by kernel_rfl) (fun _ _ _ h => h) (by rfl) ?_ (fun hcl2 => ?_)
    rotate_left
    · (intro w hSw; (try dsimp only at hSw); first | (go_simp; done) | (go_simp; with_reducible rfl))
    (try simp only [Act.put, List.setIfInBounds_toArray, List.set_cons_zero, List.set_cons_succ])
    clear hcl; have hcl := hcl2; clear hcl2
    refine wpAnyK_take (i := 5) (v := ?_) hcl hS rfl (by kernel_rfl) (fun _ _ _ h => h) (by rfl) ?_ (fun hcl2 => ?_)
    rotate_left
    · (intro w hSw; (try dsimp only at hSw); first | (go_simp; done) | (go_simp; with_reducible rfl))
    (try simp only [Act.put, List.setIfInBounds_toArray, List.set_cons_zero, List.set_cons_succ])
    clear hcl; have hcl := hcl2; clear hcl2
    refine wpAnyK_take (i := 6) (v := ?_) hcl hS rfl (by kernel_rfl) (fun _ _ _ h => h) (by rfl) ?_ (fun hcl2 => ?_)
    rotate_left
    · (intro w hSw; (try dsimp only at hSw); first | (go_simp; done) | (go_simp; with_reducible rfl))
    (try simp only [Act.put, List.setIfInBounds_toArray, List.set_cons_zero, List.set_cons_succ])
    clear hcl; have hcl := hcl2; clear hcl2
    refine wpAnyK_one (i := 7) hcl (by kernel_rfl) rfl (by rfl) (fun K hK => ?_)
    go_simp
    refine hK.out _ _ (Or.inr (HCA.out _)) (fun hcl2 => ?_)
    clear hK K hcl hS
    have hcl := hcl2
    clear hcl2
    refine wpAnyK_one (i := 8) hcl (by kernel_rfl) rfl (by rfl) (fun K hK => ?_)
    refine wp_nd _ _ (by rfl) (N + 1) tv ns (by rfl) ((R3.out.alloc _).drew) ⟨W9.heap.size, 0, none⟩ 1 { kind := 3, field := t.data.toList, op := x, form := 4, lo := 0, hi := 0, len := 0, pat := ((t2.extract 1 t2.size) : ByteArray).data.toList } (by rfl) (by rw [HTOK.out]; exact World.news_of_block (cs := #[.int .i64 3, .string t, .int .i64 x, .int .i64 4, .int .i64 0, .int .i64 0, .int .i64 0, .string (t2.extract 1 t2.size)]) (t := 56) (fr := (0, 0)) (heap_alloc_new W9 _)) (by omega) (by simp; omega) (W9.heap.size + 1) (by simp) ?_
    intro gg cp w1 hown1 hgrow hat hlt
    have f3' : w1.frozen? ⟨N, 3, none⟩ = false := (hgrow.frozen_far ⟨N, 3, none⟩ (by simp; omega) (Ne.symm HNE.out)).trans (HFA.out _)
    have far : ∀ j, w1.cell? ⟨M, j, none⟩ = _ := fun j => hgrow.cell_far ⟨M, j, none⟩ (by simp; omega) (Ne.symm HNM.out)
    have hS1 : w1.cell? ⟨N, 3, none⟩ = some tv ∧ w1.cell? ⟨M, 0, none⟩ = some (.string t) ∧ w1.cell? ⟨M, 1, none⟩ = some (.int .i64 x) ∧ w1.cell? ⟨M, 2, none⟩ = some (.int .i64 4) ∧ w1.cell? ⟨M, 3, none⟩ = some (.int .i64 0) ∧ w1.cell? ⟨M, 4, none⟩ = some (.int .i64 0) ∧ w1.cell? ⟨M, 5, none⟩ = some (.int .i64 0) ∧ w1.cell? ⟨M, 6, none⟩ = some (.string (t2.extract 1 t2.size)) :=
      ⟨(hgrow.cell_far ⟨N, 3, none⟩ (by simp; omega) (Ne.symm HNE.out)).trans (HCA.out _).1, (far 0).trans (HCA.out _).2.1, (far 1).trans (HCA.out _).2.2.1, (far 2).trans (HCA.out _).2.2.2.1, (far 3).trans (HCA.out _).2.2.2.2.1, (far 4).trans (HCA.out _).2.2.2.2.2.1, (far 5).trans (HCA.out _).2.2.2.2.2.2.1, (far 6).trans (HCA.out _).2.2.2.2.2.2.2⟩
    have c3' := hS1.1
    refine hK.out _ _ (Or.inr hS1) (fun hcl2 => ?_)
    clear hK K hcl far
    have hcl := hcl2
    clear hcl2
    have hS : (fun w' : World => w'.cell? ⟨N, 3, none⟩ = some tv ∧ w'.cell? ⟨M, 0, none⟩ = some (.string t) ∧ w'.cell? ⟨M, 1, none⟩ = some (.int .i64 x) ∧ w'.cell? ⟨M, 2, none⟩ = some (.int .i64 4) ∧ w'.cell? ⟨M, 3, none⟩ = some (.int .i64 0) ∧ w'.cell? ⟨M, 4, none⟩ = some (.int .i64 0) ∧ w'.cell? ⟨M, 5, none⟩ = some (.int .i64 0) ∧ w'.cell? ⟨M, 6, none⟩ = some (.string (t2.extract 1 t2.size))) w1 := hS1
    (try simp only [Act.put, List.setIfInBounds_toArray, List.set_cons_zero, List.set_cons_succ])
    refine wpAnyK_take (i := 9) (v := ?_) hcl hS rfl (by kernel_rfl) (fun _ _ _ h => h) (by rfl) ?_ (fun hcl2 => ?_)
    rotate_left
    · (intro w hSw; (try dsimp only at hSw); first | (go_simp; done) | (go_simp; with_reducible rfl))
    (try simp only [Act.put, List.setIfInBounds_toArray, List.set_cons_zero, List.set_cons_succ])
    clear hcl; have hcl := hcl2; clear hcl2
    refine wpAnyK_take (i := 10) (v := ?_) hcl hS rfl (by kernel_rfl) (fun _ _ _ h => h) (by rfl) ?_ (fun hcl2 => ?_)
    rotate_left
    · (intro w hSw; (try dsimp only at hSw); first | (go_simp; done) | (go_simp; with_reducible rfl))
    (try simp only [Act.put, List.setIfInBounds_toArray, List.set_cons_zero, List.set_cons_succ])
    clear hcl; have hcl := hcl2; clear hcl2
    clear hS1
    refine wpAnyK_one (i := 11) hcl (by kernel_rfl) rfl (by rfl) (fun K hK => ?_)
    go_simp
    refine hK.out _ _ (Or.inl (by kernel_rfl)) (fun hcl2 => ?_)
    clear hK K hcl hcl2 hS
    refine wpAnyK_done (by kernel_rfl) ?_ _
    have hfin := FSt.putN (w := (W9.alloc (.cells #[.int .i64 3, .string t, .int .i64 x, .int .i64 4, .int .i64 0, .int .i64 0, .int .i64 0, .string (t2.extract 1 t2.size)] 56)).drew) ((R1.out.alloc _).drewN 1) (World.ownsRow.alloc R2.out _) (World.ownsRow.alloc R3.out _) ((R4.out.alloc (by omega) _).drew) hown1 hgrow
    have HFIN := Lib.hid hfin
    clear hfin hown1 hgrow hat hlt c3' f3'
    go_wp2_with fail
    first | go_end0 | ((try simp only [Exit.inBlock, Exit.then]); refine bodyPost_ret (results_none rfl _ _ _) rfl ?_)
    have hf := HFIN.out
    rw [HTX.out] at hf
    exact FTEnd_ok HRR.out hf
end
end Go.Proofs.YtdmpapoabeljfaaGreatDoor
