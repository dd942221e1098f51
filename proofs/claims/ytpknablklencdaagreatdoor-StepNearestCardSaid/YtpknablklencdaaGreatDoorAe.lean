/-
  Texts joined: Uq Ad Ae.
-/
import Derived.Test.YtpknablklencdaaGreatDoorUb
import Derived.Test.YtpknablklencdaaGreatDoorAb
import Derived.Maps.AppendAt

set_option linter.unusedVariables false
set_option linter.unusedSimpArgs false
set_option maxRecDepth 100000
set_option maxHeartbeats 4000000
namespace Go.Proofs.YtpknablklencdaaGreatDoor
open Go.RowKit
theorem law10_ints (A1 A2 : Option Addr) (cap1 cap2 : Nat) (l : List Int) (w : World) (k1 : IV w A1 l) (k2 : IV w A2 l) (hl : l.length ≤ 4611686018427387904) :
    Calls Tryz.prog 13 #[.slice A1 l.length cap1, .slice A2 l.length cap2] w fun e w' => e = .returned (.bool true) ∧ Below w.heap.size w w' := by
  have K1 := Lib.hid k1
  have K2 := Lib.hid k2
  obtain ⟨n, hn⟩ : ∃ n, l.length = n := ⟨_, rfl⟩
  rw [hn] at hl ⊢
  have HN := Lib.hid hn
  have q0 : ((n : Int) != (n : Int)) = false := by rw [bne_eq_false_iff_eq]
  have n1 : (n : Int) ≤ 4611686018427387904 := by omega
  clear k1 k2 hn
  go_enter Tryz.func13, Tryz.ntmps13
  go_wp2_with fail
  go_loopw [5] (fun v5 wr => Below w.heap.size w wr ∧ ∃ i : Nat, v5 = .int .i64 (i : Int) ∧ i ≤ n) (fun v5 _ => n - (intOf v5).toNat)
  case atStart => exact ⟨Below.refl _ _, 0, rfl, by omega⟩
  case round =>
    obtain ⟨hb, i, rfl, hi⟩ := hrel
    have HB := Lib.hid hb
    by_cases hlt : i < n
    · have z1 : decide ((i : Int) < n) = true := decide_eq_true (by omega)
      have z1b : decide (i < n) = true := decide_eq_true hlt
      have z2 : (i : Int) < n := by omega
      have z3 : (0 : Int) ≤ (i : Int) := by omega
      obtain ⟨d, hd⟩ : ∃ d, l[i]? = some d := ⟨_, List.getElem?_eq_getElem (by rw [HN.out]; exact hlt)⟩
      obtain ⟨g1, o1, rfl, hg1, a0⟩ := (K1.out.more hb).at hd
      obtain ⟨g2, o2, rfl, hg2, b0⟩ := (K2.out.more hb).at hd
      clear hb hd hg1 hg2
      go_wp2_with fail
      go_quiet (fail)
      go_wp2_with fail
      go_roundw
      case rel => exact ⟨below_drewN HB.out _, i + 1, by rfl, by omega⟩
      case measure => simp [intOf]; omega
    · have z1 : decide ((i : Int) < n) = false := decide_eq_false (by omega)
      have z1b : decide (i < n) = false := decide_eq_false hlt
      clear hb hlt hi
      go_wp2_with fail
      go_ret
      exact ⟨rfl, HB.out⟩

theorem iinfo : (Tryz.prog.info? 3).map (fun i => (i.zero, i.size, i.bytes)) = some (some (.int .i64 0), 1, 8) := by kernel_rfl
def InR (w : World) (B : Nat) (v : Value) (l : List Int) : Prop := w.ownsRow B 3 1 v l.length (l.map (Value.int .i64))
theorem in_view {w : World} {B : Nat} {v : Value} {l : List Int} (h : InR w B v l) : ∃ A cap, v = .slice A l.length cap ∧ l.length ≤ cap ∧ IV w A l := by
  rcases h.2 with ⟨rfl, hn⟩ | ⟨g, cap, cur, hv, hg, hh, hle, hcm, r⟩
  · refine ⟨none, 0, by rw [hn], by omega, ?_⟩
    intro i d hd
    have : l = [] := List.length_eq_zero_iff.1 hn
    subst this
    simp at hd
  · refine ⟨some ⟨g, 0, none⟩, cap, hv, hle, ?_⟩
    intro i z hz
    refine ⟨g, 0, [.int .i64 z], rfl, (World.ownsRow.lt h g (by rw [hv]; rfl)).2, rfl, rfl, ?_⟩
    intro f u hu
    have hf : f = 0 := by have := (List.getElem?_eq_some_iff.1 hu).1; simpa using this
    subst hf
    have hi : i < l.length := (List.getElem?_eq_some_iff.1 hz).1
    have h2 : w.ownsRow B 3 1 (.slice (some ⟨g, 0, none⟩) l.length cap) l.length (l.map (Value.int .i64)) := by rw [← hv]; exact h
    rw [Nat.zero_add, Nat.mul_one, Nat.add_zero, h2.cellAt i (by omega), List.getElem?_map, hz]
    simpa using hu
end Go.Proofs.YtpknablklencdaaGreatDoor

set_option linter.unusedVariables false
set_option linter.unusedSimpArgs false
set_option maxRecDepth 100000
set_option maxHeartbeats 4000000
namespace Go.Proofs.YtpknablklencdaaGreatDoor
open Go.RowKit
theorem results_cell2 {P : Program} {fn : Func} {p q : Tmp} {ty : TypeId} (h : fn.results = #[.cell p ty, .cell q ty]) (tmps : Array Value) (w : World) (g g' : Nat) (t : TypeId) (cs cs' : Array Value) (d : TypeDesc)
    (hp : tmps.getD p undef = .pointer (some ⟨g, 0, none⟩)) (hq : tmps.getD q undef = .pointer (some ⟨g', 0, none⟩)) (hg : w.heap[g]? = some (.cells cs t (0, 0))) (hg' : w.heap[g']? = some (.cells cs' t (0, 0)))
    (hu : P.underlying ty = some d) (hd : (match d with | .struct _ | .array _ _ => true | _ => false) = true) (hi : (P.info? ty).map (·.size) = some cs.size) (hi' : (P.info? ty).map (·.size) = some cs'.size) :
    (results fn tmps).run P w = .ok (.tuple #[.agg cs, .agg cs']) w := by
  have hp' : tmps[p]?.getD undef = .pointer (some ⟨g, 0, none⟩) := by simpa using hp
  have hq' : tmps[q]?.getD undef = .pointer (some ⟨g', 0, none⟩) := by simpa using hq
  simp [results, h, hp', hq', asAddr, run_loadVar_row w g t ty cs (0, 0) d hg hu hd hi, run_loadVar_row w g' t ty cs' (0, 0) d hg' hu hd hi', Sem.run_bind, Result.andThen]
theorem in_below {A B : World} {b : Nat} {v : Value} {l : List Int} (h : InR A b v l) (hb : Below A.heap.size A B) : InR B b v l := by
  refine World.ownsRow.kept h (grown_of_below hb) ?_
  cases hv : v.ownBlock with
  | none => exact .inl rfl
  | some k => exact .inr (by simp)
theorem in_mono {A : World} {b b' : Nat} {v : Value} {l : List Int} (h : InR A b v l) (hb : b' ≤ b) : InR A b' v l := by
  refine ⟨h.1, ?_⟩
  rcases h.2 with h | ⟨g, cap, cur, h1, h2, h3⟩
  · exact Or.inl h
  · exact Or.inr ⟨g, cap, cur, h1, Nat.le_trans hb h2, h3⟩
theorem in_nil (A : World) (b : Nat) : InR A b (.slice none 0 0) [] := World.ownsRow_nil _ _ _ _
theorem in_set {A : World} {b : Nat} {v : Value} {l : List Int} (h : InR A b v l) {p : Addr} (hp : p.block < b) (u : Value) : InR (A.setCell p u) b v l := ownsRow_setCell_below h hp u
theorem in_drew {A : World} {b : Nat} {v : Value} {l : List Int} (h : InR A b v l) : InR A.drew b v l := h
theorem clone_int {B : Nat} {v : Value} {l : List Int} (w : World) (h : InR w B v l) (hl : l.length ≤ 1000000) :
    Calls Tryz.prog 40 #[v] w fun e w' => ∃ v', e = .returned v' ∧ InR w' w.heap.size v' l ∧ Below w.heap.size w w' := by
  have H := Lib.hid h
  rcases h.2 with ⟨rfl, hn⟩ | ⟨g, cap, cur, rfl, hg, hh, hle, hcm, r⟩
  · have : l = [] := List.length_eq_zero_iff.1 hn
    subst this
    have hnil : ∀ w : World, (binOp .eql 38 (.slice none 0 0) (.slice none 0 0)).run Tryz.prog w = .ok (.bool true) w := fun _ => rfl
    clear h H hn hl
    go_enter Tryz.func40, Tryz.ntmps40
    go_wp2
    go_ret
    exact ⟨_, rfl, in_nil _ _, Below.refl _ _⟩
  · obtain ⟨n, hn⟩ : ∃ n, l.length = n := ⟨_, rfl⟩
    have HC : Hid (∀ j u, (l.map (Value.int .i64))[j]? = some u → w.cell? ((⟨g, 0, none⟩ : Addr).add j) = some u) := Lib.hid (fun j u hj => by
      have h2 : w.ownsRow B 3 1 (.slice (some ⟨g, 0, none⟩) l.length cap) l.length (l.map (Value.int .i64)) := h
      rw [xadd_plain, Nat.zero_add, h2.cellAt j (by have := (List.getElem?_eq_some_iff.1 hj).1; simpa using this)]
      exact hj)
    have HGL := Lib.hid (show g < w.heap.size from (Array.getElem?_eq_some_iff.1 hh).1)
    have HN := Lib.hid hn
    rw [hn] at hl ⊢
    have HL := Lib.hid hl
    have hnil : ∀ w : World, (binOp .eql 38 (.slice (some ⟨g, 0, none⟩) n cap) (.slice none 0 0)).run Tryz.prog w = .ok (.bool false) w := fun _ => rfl
    obtain ⟨i0, hi0, hz0, hz1, hz2⟩ := info_parts iinfo
    have HO : Hid ((w.alloc (.cells #[] 3)).ownsRow w.heap.size 3 1 (.slice (some ⟨w.heap.size, 0, none⟩) 0 0) 0 []) := Lib.hid ⟨rfl, .inr ⟨w.heap.size, 0, #[], rfl, Nat.le_refl _, heap_alloc_new w _, Nat.le_refl _, by decide, rfl, rfl⟩⟩
    have HC2 : Hid (∀ j u, (l.map (Value.int .i64))[j]? = some u → (w.alloc (.cells #[] 3)).cell? ((⟨g, 0, none⟩ : Addr).add j) = some u) := Lib.hid (fun j u hj => by
      have h1 := HC.out j u hj
      rw [xadd_plain] at h1 ⊢
      exact (((Below.refl w.heap.size w).alloc (Nat.le_refl _) _).cell (p := ⟨g, 0 + j, none⟩) HGL.out).trans h1)
    have HS : Hid (∀ u ∈ l.map (Value.int .i64), u.oneCell' = true) := Lib.hid (fun u hu => by obtain ⟨x, _, rfl⟩ := List.mem_map.1 hu; rfl)
    clear h H hg hh hle hcm r hn hl
    go_enter Tryz.func40, Tryz.ntmps40
    go_wp2_with (at_builtin; refine wpList_append_own_at _ rfl _ _ 38 rfl w.heap.size 3 i0 (.int .i64 0) 1 8 Tryz.underlying38 hi0 hz0 hz1 hz2 rfl (by decide) (.slice (some ⟨w.heap.size, 0, none⟩) 0 0) 0 [] rfl HO.out ⟨g, 0, none⟩ n cap (l.map (Value.int .i64)) rfl (by have := HN.out; simpa using this) HC2.out HS.out (by have := HL.out; unfold maxLen; omega) (by have := HL.out; omega) (by rw [World.size_alloc]; omega) ?_; intro v' w' hown' hgrow _ _)
    go_ret
    refine ⟨_, rfl, ?_, ?_⟩
    · unfold InR
      rw [HN.out]
      simpa using hown'
    · exact ((Below.refl w.heap.size w).alloc (Nat.le_refl _) _).grown hgrow (by rw [World.size_alloc]; omega) (fun k e => Nat.le_of_eq (by simpa [Value.ownBlock] using e))

theorem last_get {l : List Int} (h : l ≠ []) : l[l.length - 1]? = some (l.getLastD 0) := by
  rw [← List.getLast?_eq_getElem?, List.getLastD_eq_getLast?, List.getLast?_eq_some_getLast h]
  rfl
theorem blk_at {w : World} {n : Nat} {t : TypeId} {cs : Array Value} (h : w.heap.size = n) : Blk (w.alloc (.cells cs t)) n t cs := by rw [← h]; exact Blk.new _ _ _
theorem step_last {B : Nat} {v1 v2 : Value} {P : List Int} (h : ByteArray) (w : World) (h1 : InR w B v1 P) (hne : P ≠ []) (hl : P.length ≤ 1000000) :
    Calls Tryz.prog 27 #[.agg #[v1, v2, .string h]] w fun e w' => e = .returned (.agg #[.int .i64 (P.getLastD 0), .string h]) ∧ Below w.heap.size w w' := by
  obtain ⟨N, hN⟩ : ∃ N, w.heap.size = N := ⟨_, rfl⟩
  rcases h1.2 with ⟨_, hn⟩ | ⟨g, cap, cur, rfl, hg, hh, hle, hcm, r⟩
  · exact absurd (List.length_eq_zero_iff.1 hn) hne
  obtain ⟨n, hn⟩ : ∃ n, P.length = n + 1 := ⟨P.length - 1, by have := List.length_pos_iff.2 hne; omega⟩
  obtain ⟨z, hz⟩ : ∃ z, P.getLastD 0 = z := ⟨_, rfl⟩
  have hc : w.cell? ⟨g, n, none⟩ = some (.int .i64 z) := by
    have h2 : w.ownsRow B 3 1 (.slice (some ⟨g, 0, none⟩) P.length cap) P.length (P.map (Value.int .i64)) := h1
    rw [h2.cellAt n (by omega), List.getElem?_map, show n = P.length - 1 by omega, last_get hne, hz]
    rfl
  have hgl : g < w.heap.size := (Array.getElem?_eq_some_iff.1 hh).1
  obtain ⟨W, hW⟩ : ∃ W, (w.alloc (.cells #[.slice (some ⟨g, 0, none⟩) (n + 1) cap, v2, .string h] 40)).alloc (.cells #[.int .i64 0, .string ⟨#[]⟩] 28) = W := ⟨_, rfl⟩
  have hWb : Below w.heap.size w W := by rw [← hW]; exact ((Below.refl _ _).alloc (Nat.le_refl _) _).alloc (by simp) _
  have hk1 : Blk W N 40 #[.slice (some ⟨g, 0, none⟩) (n + 1) cap, v2, .string h] := by rw [← hW, ← hN]; exact (Blk.new w _ _).alloc _
  have hk2 : Blk W (N + 1) 28 #[.int .i64 0, .string ⟨#[]⟩] := by rw [← hW]; exact blk_at (by rw [World.size_alloc]; omega)
  rw [hz]
  rw [hn] at hl ⊢
  have n0 : (0 : Int) ≤ (n : Int) := by omega
  have n1 : (n : Int) < (n : Int) + 1 := by omega
  have HC := Lib.hid ((hWb.cell (p := ⟨g, n, none⟩) hgl).trans hc)
  have HK1 := Lib.hid hk1
  have HK2 := Lib.hid hk2
  have HWB := Lib.hid hWb
  have HN := Lib.hid hN
  have HL := Lib.hid hl
  clear h1 hne hl hg hh hle hcm r hn hz hc hgl hWb hk1 hk2
  go_enter Tryz.func27, Tryz.ntmps27
  go_wp2_with fail
  have z1 : IntKind.i64.wrap (n : Int) = (n : Int) := by have := HL.out; rw [IntKind.wrap_i64]; omega
  have hQp : True := trivial
  refine wp_region_K 11 (fun w' => w'.cell? ⟨N, 0, none⟩ = some (.slice (some ⟨g, 0, none⟩) (n + 1) cap) ∧ w'.cell? ⟨N, 2, none⟩ = some (.string h) ∧ w'.cell? ⟨g, n, none⟩ = some (.int .i64 z)) (by kernel_rfl) (fun hcl => ?_)
  have hS : (fun w' : World => w'.cell? ⟨N, 0, none⟩ = some (.slice (some ⟨g, 0, none⟩) (n + 1) cap) ∧ w'.cell? ⟨N, 2, none⟩ = some (.string h) ∧ w'.cell? ⟨g, n, none⟩ = some (.int .i64 z)) W.drew := ⟨HK1.out.cell 0, HK1.out.cell 2, HC.out⟩
  refine tk 0 ?_ hcl hS ?_ (fun hcl2 => ?_); rotate_left
  · (intro w hSw; (try dsimp only at hSw); first | (go_simp; done) | (go_simp; with_reducible rfl))
  (try simp only [ly]); (try simp only [Act.put, pu]); clear hcl; have hcl := hcl2; clear hcl2
  refine tk 1 ?_ hcl hS ?_ (fun hcl2 => ?_); rotate_left
  · (intro w hSw; (try dsimp only at hSw); first | (go_simp; done) | (go_simp; with_reducible rfl))
  (try simp only [ly]); (try simp only [Act.put, pu]); clear hcl; have hcl := hcl2; clear hcl2
  refine tk 2 ?_ hcl hS ?_ (fun hcl2 => ?_); rotate_left
  · (intro w hSw; (try dsimp only at hSw); first | (go_simp; done) | (go_simp; with_reducible rfl))
  (try simp only [ly]); (try simp only [Act.put, pu]); clear hcl; have hcl := hcl2; clear hcl2
  refine tk 3 ?_ hcl hS ?_ (fun hcl2 => ?_); rotate_left
  · (intro w hSw; (try dsimp only at hSw); first | (go_simp; done) | (go_simp; with_reducible rfl))
  (try simp only [ly]); (try simp only [Act.put, pu]); clear hcl; have hcl := hcl2; clear hcl2
  refine tk 4 ?_ hcl hS ?_ (fun hcl2 => ?_); rotate_left
  · (intro w hSw; (try dsimp only at hSw); first | (go_simp; done) | (go_simp; with_reducible rfl))
  (try simp only [ly]); (try simp only [Act.put, pu]); clear hcl; have hcl := hcl2; clear hcl2
  refine tk 5 ?_ hcl hS ?_ (fun hcl2 => ?_); rotate_left
  · (intro w hSw; (try dsimp only at hSw); first | (go_simp; done) | (go_simp; with_reducible rfl))
  (try simp only [ly]); (try simp only [Act.put, pu]); clear hcl; have hcl := hcl2; clear hcl2
  refine tk 6 ?_ hcl hS ?_ (fun hcl2 => ?_); rotate_left
  · (intro w hSw; (try dsimp only at hSw); first | (go_simp; done) | (go_simp; with_reducible rfl))
  (try simp only [ly]); (try simp only [Act.put, pu]); clear hcl; have hcl := hcl2; clear hcl2
  refine tk 7 ?_ hcl hS ?_ (fun hcl2 => ?_); rotate_left
  · (intro w hSw; (try dsimp only at hSw); first | (go_simp; done) | (go_simp; with_reducible rfl))
  (try simp only [ly]); (try simp only [Act.put, pu]); clear hcl; have hcl := hcl2; clear hcl2
  refine tk 8 ?_ hcl hS ?_ (fun hcl2 => ?_); rotate_left
  · (intro w hSw; (try dsimp only at hSw); first | (go_simp; done) | (go_simp; with_reducible rfl))
  (try simp only [ly]); (try simp only [Act.put, pu]); clear hcl; have hcl := hcl2; clear hcl2
  refine tk 9 ?_ hcl hS ?_ (fun hcl2 => ?_); rotate_left
  · (intro w hSw; (try dsimp only at hSw); first | (go_simp; done) | (go_simp; with_reducible rfl))
  (try simp only [ly]); (try simp only [Act.put, pu]); clear hcl; have hcl := hcl2; clear hcl2
  refine tk 10 ?_ hcl hS ?_ (fun hcl2 => ?_); rotate_left
  · (intro w hSw; (try dsimp only at hSw); first | (go_simp; done) | (go_simp; with_reducible rfl))
  (try simp only [ly]); (try simp only [Act.put, pu]); clear hcl; have hcl := hcl2; clear hcl2
  clear hS
  have c0 : W.cell? ⟨N + 1, 0, none⟩ = some (.int .i64 0) := HK2.out.cell 0
  have c1 : W.cell? ⟨N + 1, 1, none⟩ = some (.string ⟨#[]⟩) := HK2.out.cell 1
  have f0 : W.frozen? ⟨N + 1, 0, none⟩ = false := HK2.out.frozen 0
  have f1 : W.frozen? ⟨N + 1, 1, none⟩ = false := HK2.out.frozen 1
  refine wpAnyK_one (i := 11) hcl (by kernel_rfl) rfl (by rfl) (fun K hK => ?_)
  go_simp
  refine hK.out _ _ (Or.inl (by kernel_rfl)) (fun hcl2 => ?_)
  clear hK K hcl hcl2
  refine wpAnyK_done (by kernel_rfl) ?_ _
  (try simp only [Act.put, pu])
  go_wp2
  refine bodyPost_ret (results_cell_row rfl _ _ (N + 1) 28 #[.int .i64 z, .string h] (0, 0) _ rfl (((HK2.out.set_ 0 (.int .i64 z)).set_ 1 (.string h))) Tryz.underlying28 rfl (by kernel_rfl)) rfl ⟨rfl, ?_⟩
  exact ((HWB.out.setCell (p := ⟨N + 1, 0, none⟩) (by have := HN.out; show _ ≤ N + 1; omega) _).setCell (p := ⟨N + 1, 1, none⟩) (by have := HN.out; show _ ≤ N + 1; omega) _).drew
structure Two (B : Nat) (W : World) (x y : Value) (P E : List Int) : Prop where
  fst : InR W B x P
  snd : InR W B y E
  apart : ∀ b, x.ownBlock = some b → y.ownBlock ≠ some b
theorem Two.symm {B : Nat} {W : World} {x y : Value} {P E : List Int} (h : Two B W x y P E) : Two B W y x E P := ⟨h.snd, h.fst, fun b hy hx => h.apart b hx hy⟩
theorem Two.cloned {B : Nat} {W W' : World} {x y : Value} {P E : List Int} (hx : InR W B x P) (hB : B ≤ W.heap.size) (hb : Below W.heap.size W W') (hy : InR W' W.heap.size y E) : Two B W' x y P E :=
  ⟨in_below hx hb, in_mono hy hB, fun b h1 h2 => by
    have l1 := (World.ownsRow.lt hx b h1).2
    have l2 := (World.ownsRow.lt hy b h2).1
    omega⟩
theorem Two.set {B : Nat} {W : World} {x y : Value} {P E : List Int} (h : Two B W x y P E) {p : Addr} (hp : p.block < B) (u : Value) : Two B (W.setCell p u) x y P E := ⟨in_set h.fst hp u, in_set h.snd hp u, h.apart⟩
theorem wpList_two {ops : Array Oper} {rest : List Oper} {o : Oper} {a : Act} {Q : Exit → Act → World → Prop} (hgd : o.guard = none) (s r : Operand)
    (ho : o.op = .call { callee := .builtin .append, args := #[s, r], argTypes := #[38, 38] })
    (B : Nat) (x y : Value) (P E : List Int) (hs : a.eval s = x) (W : World) (c : Int) (hr : a.eval r = .slice (some ⟨W.heap.size, 0, none⟩) 1 1) (hT : Two B W x y P E) (hB : B ≤ W.heap.size) (hl : P.length ≤ 1000000)
    (h : ∀ x' w', Two B w' x' y (P ++ [c]) E → Below B W w' → wpList Tryz.prog ops Q rest (a.put o.dst x') w') : wpList Tryz.prog ops Q (o :: rest) a (W.alloc (.cells #[.int .i64 c] 3)) := by
  obtain ⟨i0, hi0, hz0, hz1, hz2⟩ := info_parts iinfo
  refine wpList_append_own_at _ hgd s r 38 ho B 3 i0 (.int .i64 0) 1 8 Tryz.underlying38 hi0 hz0 hz1 hz2 rfl (by decide) x P.length (P.map (Value.int .i64)) hs (World.ownsRow.alloc hT.fst _) ⟨W.heap.size, 0, none⟩ 1 1 [.int .i64 c] hr rfl ?_ ?_ (by unfold maxLen; omega) (by omega) (by rw [World.size_alloc]; omega) ?_
  · intro j u hj
    exact World.news_of_block (heap_alloc_new W (.cells #[.int .i64 c] 3)) j u (by simpa using hj)
  · intro u hu
    rcases List.mem_cons.1 hu with rfl | hu
    · rfl
    · cases hu
  · intro x' w' hown' hgrow _ hat
    refine h x' w' ⟨?_, ?_, fun b h1 h2 => ?_⟩ ?_
    · unfold InR
      rw [List.length_append, List.map_append]
      exact hown'
    · refine World.ownsRow.kept (World.ownsRow.alloc hT.snd _) hgrow ?_
      cases hy : y.ownBlock with
      | none => exact .inl rfl
      | some k => exact .inr (fun e => hT.apart k e.symm hy)
    · rcases hat with e | e
      · exact hT.apart b (e.symm.trans h1) h2
      · have l2 := (World.ownsRow.lt hT.snd b h2).2
        rw [World.size_alloc, h1] at e
        injection e with e
        omega
    · exact ((Below.refl B W).alloc hB _).grown hgrow (by rw [World.size_alloc]; omega) (fun g e => (World.ownsRow.lt hT.fst g e).1)
theorem in_slice {B : Nat} {W : World} {v : Value} {l : List Int} (h : InR W B v l) : ∃ A k c, v = .slice A k c := by
  obtain ⟨A, c, rfl, _⟩ := in_view h
  exact ⟨A, _, c, rfl⟩
end Go.Proofs.YtpknablklencdaaGreatDoor

set_option linter.unusedVariables false
set_option linter.unusedSimpArgs false
set_option maxRecDepth 100000
set_option maxHeartbeats 8000000
namespace Go.Proofs.YtpknablklencdaaGreatDoor
open Go.RowKit
def OnEnd (P E : List Int) (m : Sp.Mv) (w : World) (r : Ending) (w' : World) : Prop :=
  ∃ s1 s2 q1 q2, r = .returned (.tuple #[.agg #[s1, s2, .string m.header], .agg #[q1, q2, .string m.header]]) ∧ InR w' w.heap.size s1 (P ++ Sp.ifL m.out) ∧ InR w' w.heap.size s2 (E ++ Sp.ifL m.entry) ∧ InR w' w.heap.size q1 (P ++ Sp.ifL m.out ++ Sp.ifL m.inn) ∧ InR w' w.heap.size q2 (E ++ Sp.ifL m.entry) ∧ Below w.heap.size w w'
theorem OnEnd.of {P E P2 E2 P3 : List Int} {e o i : Int} {hd : ByteArray} {w w' : World} {s1 s2 q1 q2 : Value} {B : Nat} (hP : P ++ Sp.ifL o = P2) (hE : E ++ Sp.ifL e = E2) (hQ : P2 ++ Sp.ifL i = P3) (hB : w.heap.size ≤ B) (h1 : InR w' B s1 P2) (h2 : InR w' B s2 E2) (h3 : InR w' B q1 P3) (h4 : InR w' B q2 E2) (hb : Below w.heap.size w w') :
    OnEnd P E ⟨e, o, i, hd⟩ w (.returned (.tuple #[.agg #[s1, s2, .string hd], .agg #[q1, q2, .string hd]])) w' :=
  ⟨s1, s2, q1, q2, rfl, in_mono (by rw [hP]; exact h1) hB, in_mono (by rw [hE]; exact h2) hB, in_mono (by rw [hP, hQ]; exact h3) hB, in_mono (by rw [hE]; exact h4) hB, hb⟩
theorem in_under {A C : World} {b B : Nat} {v : Value} {l : List Int} (h : InR A b v l) (hk : ∀ k, v.ownBlock = some k → k < B) (hb : Below B A C) : InR C b v l := by
  refine ⟨h.1, ?_⟩
  rcases h.2 with h | ⟨g, cap, cur, rfl, h2, h3, h4⟩
  · exact Or.inl h
  · exact Or.inr ⟨g, cap, cur, rfl, h2, (hb.block g (hk g rfl)).trans h3, h4⟩
theorem step_on {B : Nat} {v1 v2 : Value} {P E : List Int} (h : ByteArray) (m : Sp.Mv) (w : World) (h1 : InR w B v1 P) (h2 : InR w B v2 E) (l1 : P.length ≤ 999990) (l2 : E.length ≤ 999990)
    (hm : (m.entry < 0 ∧ m.out < 0 ∧ 0 ≤ m.inn) ∨ (0 ≤ m.entry ∧ 0 ≤ m.out)) :
    Calls Tryz.prog 28 #[.agg #[v1, v2, .string h], mvC m] w (OnEnd P E m w) := by
  obtain ⟨e, o, i, hd⟩ := m
  simp only [] at hm
  obtain ⟨N, hN⟩ : ∃ N, w.heap.size = N := ⟨_, rfl⟩
  obtain ⟨V, hV⟩ : ∃ V, (((w.alloc (.cells #[v1, v2, .string h] 40)).alloc (.cells #[.int .i64 e, .int .i64 o, .int .i64 i, .string hd] 66)).alloc (.cells #[.slice none 0 0, .slice none 0 0, .string ⟨#[]⟩] 40)).alloc (.cells #[.slice none 0 0, .slice none 0 0, .string ⟨#[]⟩] 40) = V := ⟨_, rfl⟩
  have hVb : Below N w V := by rw [← hV, ← hN]; exact ((((Below.refl _ _).alloc (Nat.le_refl _) _).alloc (by simp) _).alloc (by simp; omega) _).alloc (by simp; omega) _
  have hVs : V.heap.size = N + 4 := by rw [← hV, ← hN]; simp
  have hk1 : Blk V N 40 #[v1, v2, .string h] := by rw [← hV, ← hN]; exact (((Blk.new w _ _).alloc _).alloc _).alloc _
  have hk2 : Blk V (N + 1) 66 #[.int .i64 e, .int .i64 o, .int .i64 i, .string hd] := by rw [← hV]; exact ((blk_at (by rw [World.size_alloc]; omega)).alloc _).alloc _
  have hk3 : Blk V (N + 2) 40 #[.slice none 0 0, .slice none 0 0, .string ⟨#[]⟩] := by rw [← hV]; exact (blk_at (by rw [World.size_alloc, World.size_alloc]; omega)).alloc _
  have hk4 : Blk V (N + 3) 40 #[.slice none 0 0, .slice none 0 0, .string ⟨#[]⟩] := by rw [← hV]; exact blk_at (by rw [World.size_alloc, World.size_alloc, World.size_alloc]; omega)
  have H1 := Lib.hid (in_below (B := V) h1 (by rw [hN]; exact hVb))
  have H2 := Lib.hid (in_below (B := V) h2 (by rw [hN]; exact hVb))
  have HK1 := Lib.hid hk1
  have HK2 := Lib.hid hk2
  have HK3 := Lib.hid hk3
  have HK4 := Lib.hid hk4
  have HVB := Lib.hid hVb
  have HVS := Lib.hid hVs
  have HN := Lib.hid hN
  have HL1 := Lib.hid l1
  have HL2 := Lib.hid l2
  have HM := Lib.hid hm
  have hmv_ : mvC ⟨e, o, i, hd⟩ = .agg #[.int .i64 e, .int .i64 o, .int .i64 i, .string hd] := rfl
  rw [hmv_]
  clear hmv_ h1 h2 hk1 hk2 hk3 hk4 hVb hVs l1 l2 hm
  go_enter Tryz.func28, Tryz.ntmps28
  go_wp2_with fail
  refine wp_region_K 5 (fun w' => w'.cell? ⟨N, 0, none⟩ = some v1 ∧ w'.cell? ⟨N, 1, none⟩ = some v2) (by kernel_rfl) (fun hcl => ?_)
  have hS : (fun w' : World => w'.cell? ⟨N, 0, none⟩ = some v1 ∧ w'.cell? ⟨N, 1, none⟩ = some v2) V.drew := ⟨HK1.out.cell 0, HK1.out.cell 1⟩
  refine tk 0 ?_ hcl hS ?_ (fun hcl2 => ?_); rotate_left
  · (intro w hSw; (try dsimp only at hSw); first | (go_simp; done) | (go_simp; with_reducible rfl))
  (try simp only [ly]); (try simp only [Act.put, pu]); clear hcl; have hcl := hcl2; clear hcl2
  refine tk 1 ?_ hcl hS ?_ (fun hcl2 => ?_); rotate_left
  · (intro w hSw; (try dsimp only at hSw); first | (go_simp; done) | (go_simp; with_reducible rfl))
  (try simp only [ly]); (try simp only [Act.put, pu]); clear hcl; have hcl := hcl2; clear hcl2
  refine tk 3 ?_ hcl hS ?_ (fun hcl2 => ?_); rotate_left
  · (intro w hSw; (try dsimp only at hSw); first | (go_simp; done) | (go_simp; with_reducible rfl))
  (try simp only [ly]); (try simp only [Act.put, pu]); clear hcl; have hcl := hcl2; clear hcl2
  refine tk 4 ?_ hcl hS ?_ (fun hcl2 => ?_); rotate_left
  · (intro w hSw; (try dsimp only at hSw); first | (go_simp; done) | (go_simp; with_reducible rfl))
  (try simp only [ly]); (try simp only [Act.put, pu]); clear hcl; have hcl := hcl2; clear hcl2
  clear hS
  refine wpAnyK_one (i := 2) hcl (by kernel_rfl) rfl (by rfl) (fun K hK => ?_)
  go_simp
  refine (clone_int V.drew (in_drew H1.out) (by have := HL1.out; omega)).mono ?_
  rintro r W5 ⟨x, rfl, hx, hb5⟩
  have hb5' : Below V.heap.size V W5 := ((Below.refl V.heap.size V).drew).trans hb5
  have HX := Lib.hid hx
  have HB5 := Lib.hid hb5'
  have hS5 : W5.cell? ⟨N, 0, none⟩ = some v1 ∧ W5.cell? ⟨N, 1, none⟩ = some v2 := ⟨(hb5'.cell (p := ⟨N, 0, none⟩) HK1.out.lt).trans (HK1.out.cell 0), (hb5'.cell (p := ⟨N, 1, none⟩) HK1.out.lt).trans (HK1.out.cell 1)⟩
  clear hx hb5 hb5'
  refine hK.out _ _ (Or.inr hS5) (fun hcl2 => ?_)
  clear hK K hcl hS5
  have hcl := hcl2
  clear hcl2
  refine wpAnyK_one (i := 5) hcl (by kernel_rfl) rfl (by rfl) (fun K hK => ?_)
  go_simp
  refine (clone_int W5 (in_below H2.out HB5.out) (by have := HL2.out; omega)).mono ?_
  rintro r W6 ⟨y, rfl, hy, hb6⟩
  have HT : Hid (Two V.heap.size W6 x y P E) := Lib.hid (Two.cloned HX.out HB5.out.size hb6 hy)
  have HB6 := Lib.hid (HB5.out.trans (hb6.mono HB5.out.size))
  clear hy hb6
  refine hK.out _ _ (Or.inl (by kernel_rfl)) (fun hcl2 => ?_)
  clear hK K hcl HX HB5
  have hcl := hcl2
  clear hcl2
  refine wpAnyK_one (i := 6) hcl (by kernel_rfl) rfl (by rfl) (fun K hK => ?_)
  go_simp
  refine hK.out _ _ (Or.inl (by kernel_rfl)) (fun hcl2 => ?_)
  clear hK K hcl
  have hcl := hcl2
  clear hcl2
  refine wpAnyK_one (i := 7) hcl (by kernel_rfl) rfl (by rfl) (fun K hK => ?_)
  go_simp
  refine hK.out _ _ (Or.inl (by kernel_rfl)) (fun hcl2 => ?_)
  clear hK K hcl hcl2
  refine wpAnyK_done (by kernel_rfl) ?_ _
  have hV6 : V.heap.size ≤ W6.heap.size := HB6.out.size
  replace HK2 := Lib.hid (HK2.out.below HB6.out HK2.out.lt)
  replace HK3 := Lib.hid (HK3.out.below HB6.out HK3.out.lt)
  replace HK4 := Lib.hid (HK4.out.below HB6.out HK4.out.lt)
  replace HT : Hid (Two (N + 4) W6 x y P E) := Lib.hid (by have := HT.out; rw [HVS.out] at this; exact this)
  replace HVB := Lib.hid (HVB.out.trans (HB6.out.mono (by have := HVS.out; omega)))
  have HS6 := Lib.hid (show N + 4 ≤ W6.heap.size by have := HVS.out; omega)
  clear HK1 H1 H2 HB6 hV6 hV HVS
  obtain ⟨xA, xk, xc, rfl⟩ := in_slice HT.out.fst
  obtain ⟨yA, yk, yc, rfl⟩ := in_slice HT.out.snd
  have m0 : W6.cell? ⟨N + 1, 0, none⟩ = some (.int .i64 e) := HK2.out.cell 0
  have m1 : W6.cell? ⟨N + 1, 1, none⟩ = some (.int .i64 o) := HK2.out.cell 1
  rcases HM.out with hm | hm
  · obtain ⟨g1, g2, g3⟩ := hm
    have t1 : decide (e ≥ 0) = false := decide_eq_false (by omega)
    have t2 : decide (o ≥ 0) = false := decide_eq_false (by omega)
    have t3 : decide (i ≥ 0) = true := decide_eq_true (by omega)
    have HP : Hid (P ++ Sp.ifL o = P) := Lib.hid (by rw [Sp.ifL_no (by omega), List.append_nil])
    have HE : Hid (E ++ Sp.ifL e = E) := Lib.hid (by rw [Sp.ifL_no (by omega), List.append_nil])
    have HQ : Hid (P ++ Sp.ifL i = P ++ [i]) := Lib.hid (by rw [Sp.ifL_yes (by omega)])
    clear g1 g2 g3 HM
    have m2 : W6.cell? ⟨N + 1, 2, none⟩ = some (.int .i64 i) := HK2.out.cell 2
    have m3 : W6.cell? ⟨N + 1, 3, none⟩ = some (.string hd) := HK2.out.cell 3
    have f0 : W6.frozen? ⟨N + 1 + 1, 0, none⟩ = false := HK3.out.frozen 0
    have f1 : W6.frozen? ⟨N + 1 + 1, 1, none⟩ = false := HK3.out.frozen 1
    have f2 : W6.frozen? ⟨N + 1 + 1, 2, none⟩ = false := HK3.out.frozen 2
    have c0 : W6.cell? ⟨N + 1 + 1, 0, none⟩ = some (.slice none 0 0) := HK3.out.cell 0
    have c1 : W6.cell? ⟨N + 1 + 1, 1, none⟩ = some (.slice none 0 0) := HK3.out.cell 1
    have c2 : W6.cell? ⟨N + 1 + 1, 2, none⟩ = some (.string ⟨#[]⟩) := HK3.out.cell 2
    go_wp2_with fail
    clear m2 m3 f0 f1 f2 c0 c1 c2 t1 t2
    obtain ⟨Wa, hWa⟩ : ∃ Wa, ((W6.setCell ⟨N + 1 + 1, 0, none⟩ (.slice xA xk xc)).setCell ⟨N + 1 + 1, 1, none⟩ (.slice yA yk yc)).setCell ⟨N + 1 + 1, 2, none⟩ (.string hd) = Wa := ⟨_, rfl⟩
    rw [hWa]
    have HT7 : Hid (Two (N + 4) Wa (.slice xA xk xc) (.slice yA yk yc) P E) := Lib.hid (by rw [← hWa]; exact ((HT.out.set (p := ⟨N + 1 + 1, 0, none⟩) (by show N + 1 + 1 < N + 4; omega) _).set (p := ⟨N + 1 + 1, 1, none⟩) (by show N + 1 + 1 < N + 4; omega) _).set (p := ⟨N + 1 + 1, 2, none⟩) (by show N + 1 + 1 < N + 4; omega) _)
    have HM7 : Hid (Blk Wa (N + 1) 66 #[.int .i64 e, .int .i64 o, .int .i64 i, .string hd]) := Lib.hid (by rw [← hWa]; exact ((HK2.out.far (p := ⟨N + 1 + 1, 0, none⟩) (by show N + 1 ≠ N + 1 + 1; omega) _).far (p := ⟨N + 1 + 1, 1, none⟩) (by show N + 1 ≠ N + 1 + 1; omega) _).far (p := ⟨N + 1 + 1, 2, none⟩) (by show N + 1 ≠ N + 1 + 1; omega) _)
    have HS7 : Hid (Blk Wa (N + 2) 40 #[(.slice xA xk xc), (.slice yA yk yc), .string hd]) := Lib.hid (by rw [← hWa]; exact ((HK3.out.set_ 0 _).set_ 1 _).set_ 2 _)
    have HW7 : Hid (Blk Wa (N + 3) 40 #[.slice none 0 0, .slice none 0 0, .string ⟨#[]⟩]) := Lib.hid (by rw [← hWa]; exact ((HK4.out.far (p := ⟨N + 1 + 1, 0, none⟩) (by show N + 3 ≠ N + 1 + 1; omega) _).far (p := ⟨N + 1 + 1, 1, none⟩) (by show N + 3 ≠ N + 1 + 1; omega) _).far (p := ⟨N + 1 + 1, 2, none⟩) (by show N + 3 ≠ N + 1 + 1; omega) _)
    have HB7 : Hid (Below N w Wa) := Lib.hid (by rw [← hWa]; exact ((HVB.out.setCell (p := ⟨N + 1 + 1, 0, none⟩) (by show N ≤ N + 1 + 1; omega) _).setCell (p := ⟨N + 1 + 1, 1, none⟩) (by show N ≤ N + 1 + 1; omega) _).setCell (p := ⟨N + 1 + 1, 2, none⟩) (by show N ≤ N + 1 + 1; omega) _)
    have HZ7 : Hid (N + 4 ≤ Wa.heap.size) := Lib.hid (by have := HW7.out.lt; omega)
    clear HT HK2 HK3 HK4 HVB HS6 hWa
    refine wp_region_K 7 (fun w' => w'.cell? ⟨N + 1, 3, none⟩ = some (.string hd)) (by kernel_rfl) (fun hcl => ?_)
    have hS : (fun w' : World => w'.cell? ⟨N + 1, 3, none⟩ = some (.string hd)) Wa.drew := HM7.out.cell 3
    refine tk 0 ?_ hcl hS ?_ (fun hcl2 => ?_); rotate_left
    · (intro w hSw; (try dsimp only at hSw); first | (go_simp; done) | (go_simp; with_reducible rfl))
    (try simp only [ly]); (try simp only [Act.put, pu]); clear hcl; have hcl := hcl2; clear hcl2
    refine tk 2 ?_ hcl hS ?_ (fun hcl2 => ?_); rotate_left
    · (intro w hSw; (try dsimp only at hSw); first | (go_simp; done) | (go_simp; with_reducible rfl))
    (try simp only [ly]); (try simp only [Act.put, pu]); clear hcl; have hcl := hcl2; clear hcl2
    refine tk 4 ?_ hcl hS ?_ (fun hcl2 => ?_); rotate_left
    · (intro w hSw; (try dsimp only at hSw); first | (go_simp; done) | (go_simp; with_reducible rfl))
    (try simp only [ly]); (try simp only [Act.put, pu]); clear hcl; have hcl := hcl2; clear hcl2
    refine tk 5 ?_ hcl hS ?_ (fun hcl2 => ?_); rotate_left
    · (intro w hSw; (try dsimp only at hSw); first | (go_simp; done) | (go_simp; with_reducible rfl))
    (try simp only [ly]); (try simp only [Act.put, pu]); clear hcl; have hcl := hcl2; clear hcl2
    clear hS
    refine wpAnyK_one (i := 1) hcl (by kernel_rfl) rfl (by rfl) (fun K hK => ?_)
    go_simp
    refine (clone_int Wa.drew (in_drew HT7.out.fst) (by have := HL1.out; omega)).mono ?_
    rintro r W8 ⟨q1, rfl, hq1, hb8⟩
    have hb8' : Below Wa.heap.size Wa W8 := ((Below.refl Wa.heap.size Wa).drew).trans hb8
    obtain ⟨qA, qk, qc, rfl⟩ := in_slice hq1
    have HX := Lib.hid hq1
    have HB8 := Lib.hid hb8'
    refine hK.out _ _ (Or.inr ((hb8'.cell (p := ⟨N + 1, 3, none⟩) HM7.out.lt).trans (HM7.out.cell 3))) (fun hcl2 => ?_)
    clear hK K hcl hq1 hb8 hb8'
    have hcl := hcl2
    clear hcl2
    refine wpAnyK_one (i := 3) hcl (by kernel_rfl) rfl (by rfl) (fun K hK => ?_)
    go_simp
    refine (clone_int W8 (in_below HT7.out.snd HB8.out) (by have := HL2.out; omega)).mono ?_
    rintro r W9 ⟨q2, rfl, hq2, hb9⟩
    obtain ⟨rA, rk, rc, rfl⟩ := in_slice hq2
    have HT9 : Hid (Two Wa.heap.size W9 (.slice qA qk qc) (.slice rA rk rc) P E) := Lib.hid (Two.cloned HX.out HB8.out.size hb9 hq2)
    have HB9 : Hid (Below Wa.heap.size Wa W9) := Lib.hid (HB8.out.trans (hb9.mono HB8.out.size))
    refine hK.out _ _ (Or.inr ((HB9.out.cell (p := ⟨N + 1, 3, none⟩) HM7.out.lt).trans (HM7.out.cell 3))) (fun hcl2 => ?_)
    clear hK K hcl hq2 hb9
    have hcl := hcl2
    clear hcl2
    refine wpAnyK_one (i := 6) hcl (by kernel_rfl) rfl (by rfl) (fun K hK => ?_)
    go_simp
    refine hK.out _ _ (Or.inr ((HB9.out.cell (p := ⟨N + 1, 3, none⟩) HM7.out.lt).trans (HM7.out.cell 3))) (fun hcl2 => ?_)
    clear hK K hcl
    have hcl := hcl2
    clear hcl2
    have HM9 : Hid (Blk W9 (N + 1) 66 #[.int .i64 e, .int .i64 o, .int .i64 i, .string hd]) := Lib.hid (HM7.out.below HB9.out HM7.out.lt)
    have HS9 : Hid (Blk W9 (N + 2) 40 #[(.slice xA xk xc), (.slice yA yk yc), .string hd]) := Lib.hid (HS7.out.below HB9.out HS7.out.lt)
    have HW9 : Hid (Blk W9 (N + 3) 40 #[.slice none 0 0, .slice none 0 0, .string ⟨#[]⟩]) := Lib.hid (HW7.out.below HB9.out HW7.out.lt)
    have f0 : W9.frozen? ⟨N + 1 + 1 + 1, 0, none⟩ = false := HW9.out.frozen 0
    have f1 : W9.frozen? ⟨N + 1 + 1 + 1, 1, none⟩ = false := HW9.out.frozen 1
    have f2 : W9.frozen? ⟨N + 1 + 1 + 1, 2, none⟩ = false := HW9.out.frozen 2
    have c0 : W9.cell? ⟨N + 1 + 1 + 1, 0, none⟩ = some (.slice none 0 0) := HW9.out.cell 0
    have c1 : W9.cell? ⟨N + 1 + 1 + 1, 1, none⟩ = some (.slice none 0 0) := HW9.out.cell 1
    have c2 : W9.cell? ⟨N + 1 + 1 + 1, 2, none⟩ = some (.string ⟨#[]⟩) := HW9.out.cell 2
    refine wpAnyK_one (i := 7) hcl (by kernel_rfl) rfl (by rfl) (fun K hK => ?_)
    go_simp
    refine hK.out _ _ (Or.inl (by kernel_rfl)) (fun hcl2 => ?_)
    clear hK K hcl hcl2 f0 f1 f2 c0 c1 c2
    refine wpAnyK_done (by kernel_rfl) ?_ _
    obtain ⟨Wb, hWb⟩ : ∃ Wb, ((W9.setCell ⟨N + 1 + 1 + 1, 0, none⟩ (.slice qA qk qc)).setCell ⟨N + 1 + 1 + 1, 1, none⟩ (.slice rA rk rc)).setCell ⟨N + 1 + 1 + 1, 2, none⟩ (.string hd) = Wb := ⟨_, rfl⟩
    rw [hWb]
    have HTb : Hid (Two Wa.heap.size Wb (.slice qA qk qc) (.slice rA rk rc) P E) := Lib.hid (by have := HZ7.out; rw [← hWb]; exact ((HT9.out.set (p := ⟨N + 1 + 1 + 1, 0, none⟩) (by show N + 1 + 1 + 1 < _; omega) _).set (p := ⟨N + 1 + 1 + 1, 1, none⟩) (by show N + 1 + 1 + 1 < _; omega) _).set (p := ⟨N + 1 + 1 + 1, 2, none⟩) (by show N + 1 + 1 + 1 < _; omega) _)
    have HMb : Hid (Blk Wb (N + 1) 66 #[.int .i64 e, .int .i64 o, .int .i64 i, .string hd]) := Lib.hid (by rw [← hWb]; exact ((HM9.out.far (p := ⟨N + 1 + 1 + 1, 0, none⟩) (by show N + 1 ≠ N + 1 + 1 + 1; omega) _).far (p := ⟨N + 1 + 1 + 1, 1, none⟩) (by show N + 1 ≠ N + 1 + 1 + 1; omega) _).far (p := ⟨N + 1 + 1 + 1, 2, none⟩) (by show N + 1 ≠ N + 1 + 1 + 1; omega) _)
    have HSb : Hid (Blk Wb (N + 2) 40 #[(.slice xA xk xc), (.slice yA yk yc), .string hd]) := Lib.hid (by rw [← hWb]; exact ((HS9.out.far (p := ⟨N + 1 + 1 + 1, 0, none⟩) (by show N + 2 ≠ N + 1 + 1 + 1; omega) _).far (p := ⟨N + 1 + 1 + 1, 1, none⟩) (by show N + 2 ≠ N + 1 + 1 + 1; omega) _).far (p := ⟨N + 1 + 1 + 1, 2, none⟩) (by show N + 2 ≠ N + 1 + 1 + 1; omega) _)
    have HWb : Hid (Blk Wb (N + 3) 40 #[.slice qA qk qc, .slice rA rk rc, .string hd]) := Lib.hid (by rw [← hWb]; exact ((HW9.out.set_ 0 _).set_ 1 _).set_ 2 _)
    have HBb : Hid (Below N w Wb) := Lib.hid (by
      have := HZ7.out
      rw [← hWb]
      exact (((HB7.out.trans (HB9.out.mono (by omega))).setCell (p := ⟨N + 1 + 1 + 1, 0, none⟩) (by show N ≤ N + 1 + 1 + 1; omega) _).setCell (p := ⟨N + 1 + 1 + 1, 1, none⟩) (by show N ≤ N + 1 + 1 + 1; omega) _).setCell (p := ⟨N + 1 + 1 + 1, 2, none⟩) (by show N ≤ N + 1 + 1 + 1; omega) _)
    have HRb : Hid (InR Wb (N + 4) (.slice xA xk xc) P ∧ InR Wb (N + 4) (.slice yA yk yc) E) := Lib.hid (by
      have h9 : InR W9 (N + 4) (.slice xA xk xc) P ∧ InR W9 (N + 4) (.slice yA yk yc) E := ⟨in_below HT7.out.fst HB9.out, in_below HT7.out.snd HB9.out⟩
      rw [← hWb]
      exact ⟨in_set (in_set (in_set h9.1 (p := ⟨N + 1 + 1 + 1, 0, none⟩) (by show N + 1 + 1 + 1 < _; omega) _) (p := ⟨N + 1 + 1 + 1, 1, none⟩) (by show N + 1 + 1 + 1 < _; omega) _) (p := ⟨N + 1 + 1 + 1, 2, none⟩) (by show N + 1 + 1 + 1 < _; omega) _, in_set (in_set (in_set h9.2 (p := ⟨N + 1 + 1 + 1, 0, none⟩) (by show N + 1 + 1 + 1 < _; omega) _) (p := ⟨N + 1 + 1 + 1, 1, none⟩) (by show N + 1 + 1 + 1 < _; omega) _) (p := ⟨N + 1 + 1 + 1, 2, none⟩) (by show N + 1 + 1 + 1 < _; omega) _⟩)
    have HZb : Hid (Wa.heap.size ≤ Wb.heap.size) := Lib.hid (by have := HB9.out.size; rw [← hWb]; simpa using this)
    have HLX : Hid (∀ k, Value.ownBlock (.slice xA xk xc) = some k → k < Wa.heap.size) := Lib.hid (fun k e => (World.ownsRow.lt HT7.out.fst k e).2)
    have HLY : Hid (∀ k, Value.ownBlock (.slice yA yk yc) = some k → k < Wa.heap.size) := Lib.hid (fun k e => (World.ownsRow.lt HT7.out.snd k e).2)
    clear HT9 HM9 HS9 HW9 HB9 HB8 HX HT7 HM7 HS7 HW7 HB7 hWb
    have m2b : Wb.cell? ⟨N + 1, 2, none⟩ = some (.int .i64 i) := HMb.out.cell 2
    have d0b : Wb.cell? ⟨N + 1 + 1 + 1, 0, none⟩ = some (.slice qA qk qc) := HWb.out.cell 0
    go_wp2_with (at_builtin; refine wpList_two rfl _ _ rfl Wa.heap.size (.slice qA qk qc) (.slice rA rk rc) P E rfl Wb i rfl HTb.out HZb.out (by have := HL1.out; omega) ?_; intro x' w' hT' hb'; obtain ⟨zA, zk, zc, rfl⟩ := in_slice hT'.fst; have hkw := HWb.out.below hb' (by have := HZ7.out; omega); have d0 : w'.cell? ⟨N + 1 + 1 + 1, 0, none⟩ = some (.slice qA qk qc) := hkw.cell 0; have g0 : w'.frozen? ⟨N + 1 + 1 + 1, 0, none⟩ = false := hkw.frozen 0; have HKW := Lib.hid hkw; have HTW := Lib.hid hT'; have HBW := Lib.hid hb'; clear hkw hT' hb')
    clear d0 g0 d0b
    obtain ⟨Wc, hWc⟩ : ∃ Wc, w'.setCell ⟨N + 1 + 1 + 1, 0, none⟩ (.slice zA zk zc) = Wc := ⟨_, rfl⟩
    rw [hWc]
    have HTc : Hid (Two Wa.heap.size Wc (.slice zA zk zc) (.slice rA rk rc) (P ++ [i]) E) := Lib.hid (by have := HZ7.out; rw [← hWc]; exact HTW.out.set (p := ⟨N + 1 + 1 + 1, 0, none⟩) (by show N + 1 + 1 + 1 < _; omega) _)
    have HSc : Hid (Blk Wc (N + 2) 40 #[(.slice xA xk xc), (.slice yA yk yc), .string hd]) := Lib.hid (by have := HZ7.out; rw [← hWc]; exact (HSb.out.below HBW.out (by omega)).far (p := ⟨N + 1 + 1 + 1, 0, none⟩) (by show N + 2 ≠ N + 1 + 1 + 1; omega) _)
    have HWc : Hid (Blk Wc (N + 3) 40 #[.slice zA zk zc, .slice rA rk rc, .string hd]) := Lib.hid (by rw [← hWc]; exact HKW.out.set_ 0 _)
    have HRc : Hid (InR Wc (N + 4) (.slice xA xk xc) P ∧ InR Wc (N + 4) (.slice yA yk yc) E) := Lib.hid (by
      have h9 : InR w' (N + 4) (.slice xA xk xc) P ∧ InR w' (N + 4) (.slice yA yk yc) E := ⟨in_under HRb.out.1 HLX.out HBW.out, in_under HRb.out.2 HLY.out HBW.out⟩
      rw [← hWc]
      exact ⟨in_set h9.1 (p := ⟨N + 1 + 1 + 1, 0, none⟩) (by show N + 1 + 1 + 1 < _; omega) _, in_set h9.2 (p := ⟨N + 1 + 1 + 1, 0, none⟩) (by show N + 1 + 1 + 1 < _; omega) _⟩)
    have HBc : Hid (Below N w Wc) := Lib.hid (by have := HZ7.out; rw [← hWc]; exact (HBb.out.trans (HBW.out.mono (by omega))).setCell (p := ⟨N + 1 + 1 + 1, 0, none⟩) (by show N ≤ N + 1 + 1 + 1; omega) _)
    clear HTb HSb HWb HRb HBb HMb HKW HTW HBW hWc HZb m2b
    have c0 : Wc.cell? ⟨N + 1 + 1, 0, none⟩ = some (.slice xA xk xc) := HSc.out.cell 0
    have c1 : Wc.cell? ⟨N + 1 + 1, 1, none⟩ = some (.slice yA yk yc) := HSc.out.cell 1
    have c2 : Wc.cell? ⟨N + 1 + 1, 2, none⟩ = some (.string hd) := HSc.out.cell 2
    have d0 : Wc.cell? ⟨N + 1 + 1 + 1, 0, none⟩ = some (.slice zA zk zc) := HWc.out.cell 0
    have d1 : Wc.cell? ⟨N + 1 + 1 + 1, 1, none⟩ = some (.slice rA rk rc) := HWc.out.cell 1
    have d2 : Wc.cell? ⟨N + 1 + 1 + 1, 2, none⟩ = some (.string hd) := HWc.out.cell 2
    (try go_wp2_with fail)
    refine wp_region_K 3 (fun w' => Blk w' (N + 1 + 1) 40 #[(.slice xA xk xc), (.slice yA yk yc), .string hd] ∧ Blk w' (N + 1 + 1 + 1) 40 #[(.slice zA zk zc), .slice rA rk rc, .string hd]) (by kernel_rfl) (fun hcl => ?_)
    have hS : (fun w' : World => Blk w' (N + 1 + 1) 40 #[(.slice xA xk xc), (.slice yA yk yc), .string hd] ∧ Blk w' (N + 1 + 1 + 1) 40 #[(.slice zA zk zc), .slice rA rk rc, .string hd]) Wc.drew := ⟨HSc.out, HWc.out⟩
    refine wpAnyK_take (i := 0) (v := .agg #[(.slice xA xk xc), (.slice yA yk yc), .string hd]) hcl hS rfl (by kernel_rfl) (fun _ _ _ h => h) (by rfl) (fun wq hSw => ?_) (fun hcl2 => ?_)
    · have e0 : wq.cell? ⟨N + 1 + 1, 0, none⟩ = some (.slice xA xk xc) := hSw.1.cell 0
      have e1 : wq.cell? ⟨N + 1 + 1, 1, none⟩ = some (.slice yA yk yc) := hSw.1.cell 1
      have e2 : wq.cell? ⟨N + 1 + 1, 2, none⟩ = some (.string hd) := hSw.1.cell 2
      clear hcl hS hSw
      go_simp
    (try simp only [ly])
    (try simp only [Act.put, pu])
    clear hcl
    have hcl := hcl2
    clear hcl2
    refine wpAnyK_take (i := 1) (v := .agg #[(.slice zA zk zc), .slice rA rk rc, .string hd]) hcl hS rfl (by kernel_rfl) (fun _ _ _ h => h) (by rfl) (fun wq hSw => ?_) (fun hcl2 => ?_)
    · have e0 : wq.cell? ⟨N + 1 + 1 + 1, 0, none⟩ = some (.slice zA zk zc) := hSw.2.cell 0
      have e1 : wq.cell? ⟨N + 1 + 1 + 1, 1, none⟩ = some (.slice rA rk rc) := hSw.2.cell 1
      have e2 : wq.cell? ⟨N + 1 + 1 + 1, 2, none⟩ = some (.string hd) := hSw.2.cell 2
      clear hcl hS hSw
      go_simp
    (try simp only [ly])
    (try simp only [Act.put, pu])
    clear hcl
    have hcl := hcl2
    clear hcl2
    clear hS
    have f0 : Wc.frozen? ⟨N + 1 + 1, 0, none⟩ = false := HSc.out.frozen 0
    have f1 : Wc.frozen? ⟨N + 1 + 1, 1, none⟩ = false := HSc.out.frozen 1
    have f2 : Wc.frozen? ⟨N + 1 + 1, 2, none⟩ = false := HSc.out.frozen 2
    refine wpAnyK_one (i := 2) hcl (by kernel_rfl) rfl (by rfl) (fun K hK => ?_)
    go_simp
    obtain ⟨We, hWe⟩ : ∃ We, ((Wc.setCell ⟨N + 1 + 1, 0, none⟩ (.slice xA xk xc)).setCell ⟨N + 1 + 1, 1, none⟩ (.slice yA yk yc)).setCell ⟨N + 1 + 1, 2, none⟩ (.string hd) = We := ⟨_, rfl⟩
    rw [hWe]
    have HSe : Hid (Blk We (N + 2) 40 #[(.slice xA xk xc), (.slice yA yk yc), .string hd]) := Lib.hid (by rw [← hWe]; exact ((HSc.out.set_ 0 _).set_ 1 _).set_ 2 _)
    have HWe : Hid (Blk We (N + 3) 40 #[(.slice zA zk zc), .slice rA rk rc, .string hd]) := Lib.hid (by rw [← hWe]; exact ((HWc.out.far (p := ⟨N + 1 + 1, 0, none⟩) (by show N + 3 ≠ N + 1 + 1; omega) _).far (p := ⟨N + 1 + 1, 1, none⟩) (by show N + 3 ≠ N + 1 + 1; omega) _).far (p := ⟨N + 1 + 1, 2, none⟩) (by show N + 3 ≠ N + 1 + 1; omega) _)
    have HRe : Hid ((InR We (N + 4) (.slice xA xk xc) P ∧ InR We (N + 4) (.slice yA yk yc) E) ∧ InR We (N + 4) (.slice zA zk zc) (P ++ [i]) ∧ InR We (N + 4) (.slice rA rk rc) E) := Lib.hid (by
      have g : ∀ (v : Value) (l : List Int), InR Wc (N + 4) v l → InR We (N + 4) v l := fun v l hv => by
        rw [← hWe]
        exact in_set (in_set (in_set hv (p := ⟨N + 1 + 1, 0, none⟩) (by show N + 1 + 1 < _; omega) _) (p := ⟨N + 1 + 1, 1, none⟩) (by show N + 1 + 1 < _; omega) _) (p := ⟨N + 1 + 1, 2, none⟩) (by show N + 1 + 1 < _; omega) _
      exact ⟨⟨g _ _ HRc.out.1, g _ _ HRc.out.2⟩, g _ _ (in_mono HTc.out.fst HZ7.out), g _ _ (in_mono HTc.out.snd HZ7.out)⟩)
    have HBe : Hid (Below N w We) := Lib.hid (by rw [← hWe]; exact ((HBc.out.setCell (p := ⟨N + 1 + 1, 0, none⟩) (by show N ≤ N + 1 + 1; omega) _).setCell (p := ⟨N + 1 + 1, 1, none⟩) (by show N ≤ N + 1 + 1; omega) _).setCell (p := ⟨N + 1 + 1, 2, none⟩) (by show N ≤ N + 1 + 1; omega) _)
    clear HSc HWc HRc HTc HBc hWe f0 f1 f2 c0 c1 c2 d0 d1 d2
    refine hK.out _ _ (Or.inr ⟨HSe.out, HWe.out⟩) (fun hcl2 => ?_)
    clear hK K hcl
    have hcl := hcl2
    clear hcl2
    have f0 : We.frozen? ⟨N + 1 + 1 + 1, 0, none⟩ = false := HWe.out.frozen 0
    have f1 : We.frozen? ⟨N + 1 + 1 + 1, 1, none⟩ = false := HWe.out.frozen 1
    have f2 : We.frozen? ⟨N + 1 + 1 + 1, 2, none⟩ = false := HWe.out.frozen 2
    have c0 : We.cell? ⟨N + 1 + 1 + 1, 0, none⟩ = some (.slice zA zk zc) := HWe.out.cell 0
    have c1 : We.cell? ⟨N + 1 + 1 + 1, 1, none⟩ = some (.slice rA rk rc) := HWe.out.cell 1
    have c2 : We.cell? ⟨N + 1 + 1 + 1, 2, none⟩ = some (.string hd) := HWe.out.cell 2
    refine wpAnyK_one (i := 3) hcl (by kernel_rfl) rfl (by rfl) (fun K hK => ?_)
    go_simp
    obtain ⟨Wf, hWf⟩ : ∃ Wf, ((We.setCell ⟨N + 1 + 1 + 1, 0, none⟩ (.slice zA zk zc)).setCell ⟨N + 1 + 1 + 1, 1, none⟩ (.slice rA rk rc)).setCell ⟨N + 1 + 1 + 1, 2, none⟩ (.string hd) = Wf := ⟨_, rfl⟩
    rw [hWf]
    have HSf : Hid (Blk Wf (N + 2) 40 #[(.slice xA xk xc), (.slice yA yk yc), .string hd]) := Lib.hid (by rw [← hWf]; exact ((HSe.out.far (p := ⟨N + 1 + 1 + 1, 0, none⟩) (by show N + 2 ≠ N + 1 + 1 + 1; omega) _).far (p := ⟨N + 1 + 1 + 1, 1, none⟩) (by show N + 2 ≠ N + 1 + 1 + 1; omega) _).far (p := ⟨N + 1 + 1 + 1, 2, none⟩) (by show N + 2 ≠ N + 1 + 1 + 1; omega) _)
    have HWf : Hid (Blk Wf (N + 3) 40 #[(.slice zA zk zc), .slice rA rk rc, .string hd]) := Lib.hid (by rw [← hWf]; exact ((HWe.out.set_ 0 _).set_ 1 _).set_ 2 _)
    have HRf : Hid ((InR Wf (N + 4) (.slice xA xk xc) P ∧ InR Wf (N + 4) (.slice yA yk yc) E) ∧ InR Wf (N + 4) (.slice zA zk zc) (P ++ [i]) ∧ InR Wf (N + 4) (.slice rA rk rc) E) := Lib.hid (by
      have g : ∀ (v : Value) (l : List Int), InR We (N + 4) v l → InR Wf (N + 4) v l := fun v l hv => by
        rw [← hWf]
        exact in_set (in_set (in_set hv (p := ⟨N + 1 + 1 + 1, 0, none⟩) (by show N + 1 + 1 + 1 < _; omega) _) (p := ⟨N + 1 + 1 + 1, 1, none⟩) (by show N + 1 + 1 + 1 < _; omega) _) (p := ⟨N + 1 + 1 + 1, 2, none⟩) (by show N + 1 + 1 + 1 < _; omega) _
      exact ⟨⟨g _ _ HRe.out.1.1, g _ _ HRe.out.1.2⟩, g _ _ HRe.out.2.1, g _ _ HRe.out.2.2⟩)
    have HBf : Hid (Below N w Wf) := Lib.hid (by rw [← hWf]; exact ((HBe.out.setCell (p := ⟨N + 1 + 1 + 1, 0, none⟩) (by show N ≤ N + 1 + 1 + 1; omega) _).setCell (p := ⟨N + 1 + 1 + 1, 1, none⟩) (by show N ≤ N + 1 + 1 + 1; omega) _).setCell (p := ⟨N + 1 + 1 + 1, 2, none⟩) (by show N ≤ N + 1 + 1 + 1; omega) _)
    clear HSe HWe HRe HBe hWf f0 f1 f2 c0 c1 c2
    refine hK.out _ _ (Or.inl (by kernel_rfl)) (fun hcl2 => ?_)
    clear hK K hcl hcl2
    refine wpAnyK_done (by kernel_rfl) ?_ _
    go_wp2_with fail
    refine bodyPost_ret (results_cell2 rfl _ _ (N + 1 + 1) (N + 1 + 1 + 1) 40 #[(.slice xA xk xc), (.slice yA yk yc), .string hd] #[(.slice zA zk zc), .slice rA rk rc, .string hd] _ rfl rfl HSf.out HWf.out Tryz.underlying40 rfl (by kernel_rfl) (by kernel_rfl)) rfl ?_
    exact OnEnd.of (B := N + 4) HP.out HE.out HQ.out (by have := HN.out; omega) HRf.out.1.1 HRf.out.1.2 HRf.out.2.1 HRf.out.2.2 (by rw [HN.out]; exact HBf.out.drew)
  · obtain ⟨g1, g2⟩ := hm
    have t1 : decide (e ≥ 0) = true := decide_eq_true (by omega)
    have t2 : decide (o ≥ 0) = true := decide_eq_true (by omega)
    have HP : Hid (P ++ Sp.ifL o = P ++ [o]) := Lib.hid (by rw [Sp.ifL_yes (by omega)])
    have HE : Hid (E ++ Sp.ifL e = E ++ [e]) := Lib.hid (by rw [Sp.ifL_yes (by omega)])
    clear g1 g2 HM
    go_wp2_with (at_builtin; first
      | (have _t := tok2
         refine wpList_two rfl _ _ rfl (N + 4) (.slice xA xk xc) (.slice vA vk vc) P (E ++ [e]) rfl w1 o rfl HT1.out.symm HS1.out (by have := HL1.out; omega) ?_
         intro x' w2 hT2 hb2
         obtain ⟨uA, uk, uc, rfl⟩ := in_slice hT2.fst
         have HT2 := Lib.hid hT2
         have HB2 := Lib.hid (HB1.out.trans hb2)
         have hm2 := HK2.out.below HB2.out (by omega)
         have m2b : w2.cell? ⟨N + 1, 3, none⟩ = some (.string hd) := hm2.cell 3
         have hs2 := HK3.out.below HB2.out (by omega)
         have f0 : w2.frozen? ⟨N + 1 + 1, 0, none⟩ = false := hs2.frozen 0
         have f1 : w2.frozen? ⟨N + 1 + 1, 1, none⟩ = false := hs2.frozen 1
         have f2 : w2.frozen? ⟨N + 1 + 1, 2, none⟩ = false := hs2.frozen 2
         have c0 : w2.cell? ⟨N + 1 + 1, 0, none⟩ = some (.slice none 0 0) := hs2.cell 0
         have c1 : w2.cell? ⟨N + 1 + 1, 1, none⟩ = some (.slice none 0 0) := hs2.cell 1
         have c2 : w2.cell? ⟨N + 1 + 1, 2, none⟩ = some (.string ⟨#[]⟩) := hs2.cell 2
         have HM2 := Lib.hid hm2
         have HS2 := Lib.hid hs2
         clear hT2 hb2 hm2 hs2 tok2)
      | (refine wpList_two rfl _ _ rfl (N + 4) (.slice yA yk yc) (.slice xA xk xc) E P rfl W6 e rfl HT.out.symm HS6.out (by have := HL2.out; omega) ?_
         intro y' w1 hT1 hb1
         obtain ⟨vA, vk, vc, rfl⟩ := in_slice hT1.fst
         have HT1 := Lib.hid hT1
         have HB1 := Lib.hid hb1
         have HS1 := Lib.hid (Nat.le_trans HS6.out hb1.size)
         have tok2 := Lib.hid (show True from trivial)
         have m1b : w1.cell? ⟨N + 1, 1, none⟩ = some (.int .i64 o) := (HK2.out.below hb1 (by omega)).cell 1
         clear hT1 hb1))
    clear m2b f0 f1 f2 c0 c1 c2
    replace HT : Hid (Two (N + 4) w2 (.slice uA uk uc) (.slice vA vk vc) (P ++ [o]) (E ++ [e])) := HT2
    replace HK2 := HM2
    replace HK3 := HS2
    replace HK4 := Lib.hid (HK4.out.below HB2.out (by omega))
    replace HVB := Lib.hid (HVB.out.trans (HB2.out.mono (by omega)))
    replace HS6 := Lib.hid (Nat.le_trans HS6.out HB2.out.size)
    clear HT1 HS1 HB1 HB2 HT2 HM2 HS2
    obtain ⟨Wa, hWa⟩ : ∃ Wa, ((w2.setCell ⟨N + 1 + 1, 0, none⟩ (.slice uA uk uc)).setCell ⟨N + 1 + 1, 1, none⟩ (.slice vA vk vc)).setCell ⟨N + 1 + 1, 2, none⟩ (.string hd) = Wa := ⟨_, rfl⟩
    rw [hWa]
    have HT7 : Hid (Two (N + 4) Wa (.slice uA uk uc) (.slice vA vk vc) (P ++ [o]) (E ++ [e])) := Lib.hid (by rw [← hWa]; exact ((HT.out.set (p := ⟨N + 1 + 1, 0, none⟩) (by show N + 1 + 1 < N + 4; omega) _).set (p := ⟨N + 1 + 1, 1, none⟩) (by show N + 1 + 1 < N + 4; omega) _).set (p := ⟨N + 1 + 1, 2, none⟩) (by show N + 1 + 1 < N + 4; omega) _)
    have HM7 : Hid (Blk Wa (N + 1) 66 #[.int .i64 e, .int .i64 o, .int .i64 i, .string hd]) := Lib.hid (by rw [← hWa]; exact ((HK2.out.far (p := ⟨N + 1 + 1, 0, none⟩) (by show N + 1 ≠ N + 1 + 1; omega) _).far (p := ⟨N + 1 + 1, 1, none⟩) (by show N + 1 ≠ N + 1 + 1; omega) _).far (p := ⟨N + 1 + 1, 2, none⟩) (by show N + 1 ≠ N + 1 + 1; omega) _)
    have HS7 : Hid (Blk Wa (N + 2) 40 #[(.slice uA uk uc), (.slice vA vk vc), .string hd]) := Lib.hid (by rw [← hWa]; exact ((HK3.out.set_ 0 _).set_ 1 _).set_ 2 _)
    have HW7 : Hid (Blk Wa (N + 3) 40 #[.slice none 0 0, .slice none 0 0, .string ⟨#[]⟩]) := Lib.hid (by rw [← hWa]; exact ((HK4.out.far (p := ⟨N + 1 + 1, 0, none⟩) (by show N + 3 ≠ N + 1 + 1; omega) _).far (p := ⟨N + 1 + 1, 1, none⟩) (by show N + 3 ≠ N + 1 + 1; omega) _).far (p := ⟨N + 1 + 1, 2, none⟩) (by show N + 3 ≠ N + 1 + 1; omega) _)
    have HB7 : Hid (Below N w Wa) := Lib.hid (by rw [← hWa]; exact ((HVB.out.setCell (p := ⟨N + 1 + 1, 0, none⟩) (by show N ≤ N + 1 + 1; omega) _).setCell (p := ⟨N + 1 + 1, 1, none⟩) (by show N ≤ N + 1 + 1; omega) _).setCell (p := ⟨N + 1 + 1, 2, none⟩) (by show N ≤ N + 1 + 1; omega) _)
    have HZ7 : Hid (N + 4 ≤ Wa.heap.size) := Lib.hid (by have := HW7.out.lt; omega)
    clear HT HK2 HK3 HK4 HVB HS6 hWa
    refine wp_region_K 7 (fun w' => w'.cell? ⟨N + 1, 3, none⟩ = some (.string hd)) (by kernel_rfl) (fun hcl => ?_)
    have hS : (fun w' : World => w'.cell? ⟨N + 1, 3, none⟩ = some (.string hd)) Wa.drew := HM7.out.cell 3
    refine tk 0 ?_ hcl hS ?_ (fun hcl2 => ?_); rotate_left
    · (intro w hSw; (try dsimp only at hSw); first | (go_simp; done) | (go_simp; with_reducible rfl))
    (try simp only [ly]); (try simp only [Act.put, pu]); clear hcl; have hcl := hcl2; clear hcl2
    refine tk 2 ?_ hcl hS ?_ (fun hcl2 => ?_); rotate_left
    · (intro w hSw; (try dsimp only at hSw); first | (go_simp; done) | (go_simp; with_reducible rfl))
    (try simp only [ly]); (try simp only [Act.put, pu]); clear hcl; have hcl := hcl2; clear hcl2
    refine tk 4 ?_ hcl hS ?_ (fun hcl2 => ?_); rotate_left
    · (intro w hSw; (try dsimp only at hSw); first | (go_simp; done) | (go_simp; with_reducible rfl))
    (try simp only [ly]); (try simp only [Act.put, pu]); clear hcl; have hcl := hcl2; clear hcl2
    refine tk 5 ?_ hcl hS ?_ (fun hcl2 => ?_); rotate_left
    · (intro w hSw; (try dsimp only at hSw); first | (go_simp; done) | (go_simp; with_reducible rfl))
    (try simp only [ly]); (try simp only [Act.put, pu]); clear hcl; have hcl := hcl2; clear hcl2
    clear hS
    refine wpAnyK_one (i := 1) hcl (by kernel_rfl) rfl (by rfl) (fun K hK => ?_)
    go_simp
    refine (clone_int Wa.drew (in_drew HT7.out.fst) (by have := HL1.out; simp only [List.length_append, List.length_singleton]; omega)).mono ?_
    rintro r W8 ⟨q1, rfl, hq1, hb8⟩
    have hb8' : Below Wa.heap.size Wa W8 := ((Below.refl Wa.heap.size Wa).drew).trans hb8
    obtain ⟨qA, qk, qc, rfl⟩ := in_slice hq1
    have HX := Lib.hid hq1
    have HB8 := Lib.hid hb8'
    refine hK.out _ _ (Or.inr ((hb8'.cell (p := ⟨N + 1, 3, none⟩) HM7.out.lt).trans (HM7.out.cell 3))) (fun hcl2 => ?_)
    clear hK K hcl hq1 hb8 hb8'
    have hcl := hcl2
    clear hcl2
    refine wpAnyK_one (i := 3) hcl (by kernel_rfl) rfl (by rfl) (fun K hK => ?_)
    go_simp
    refine (clone_int W8 (in_below HT7.out.snd HB8.out) (by have := HL2.out; simp only [List.length_append, List.length_singleton]; omega)).mono ?_
    rintro r W9 ⟨q2, rfl, hq2, hb9⟩
    obtain ⟨rA, rk, rc, rfl⟩ := in_slice hq2
    have HT9 : Hid (Two Wa.heap.size W9 (.slice qA qk qc) (.slice rA rk rc) (P ++ [o]) (E ++ [e])) := Lib.hid (Two.cloned HX.out HB8.out.size hb9 hq2)
    have HB9 : Hid (Below Wa.heap.size Wa W9) := Lib.hid (HB8.out.trans (hb9.mono HB8.out.size))
    refine hK.out _ _ (Or.inr ((HB9.out.cell (p := ⟨N + 1, 3, none⟩) HM7.out.lt).trans (HM7.out.cell 3))) (fun hcl2 => ?_)
    clear hK K hcl hq2 hb9
    have hcl := hcl2
    clear hcl2
    refine wpAnyK_one (i := 6) hcl (by kernel_rfl) rfl (by rfl) (fun K hK => ?_)
    go_simp
    refine hK.out _ _ (Or.inr ((HB9.out.cell (p := ⟨N + 1, 3, none⟩) HM7.out.lt).trans (HM7.out.cell 3))) (fun hcl2 => ?_)
    clear hK K hcl
    have hcl := hcl2
    clear hcl2
    have HM9 : Hid (Blk W9 (N + 1) 66 #[.int .i64 e, .int .i64 o, .int .i64 i, .string hd]) := Lib.hid (HM7.out.below HB9.out HM7.out.lt)
    have HS9 : Hid (Blk W9 (N + 2) 40 #[(.slice uA uk uc), (.slice vA vk vc), .string hd]) := Lib.hid (HS7.out.below HB9.out HS7.out.lt)
    have HW9 : Hid (Blk W9 (N + 3) 40 #[.slice none 0 0, .slice none 0 0, .string ⟨#[]⟩]) := Lib.hid (HW7.out.below HB9.out HW7.out.lt)
    have f0 : W9.frozen? ⟨N + 1 + 1 + 1, 0, none⟩ = false := HW9.out.frozen 0
    have f1 : W9.frozen? ⟨N + 1 + 1 + 1, 1, none⟩ = false := HW9.out.frozen 1
    have f2 : W9.frozen? ⟨N + 1 + 1 + 1, 2, none⟩ = false := HW9.out.frozen 2
    have c0 : W9.cell? ⟨N + 1 + 1 + 1, 0, none⟩ = some (.slice none 0 0) := HW9.out.cell 0
    have c1 : W9.cell? ⟨N + 1 + 1 + 1, 1, none⟩ = some (.slice none 0 0) := HW9.out.cell 1
    have c2 : W9.cell? ⟨N + 1 + 1 + 1, 2, none⟩ = some (.string ⟨#[]⟩) := HW9.out.cell 2
    refine wpAnyK_one (i := 7) hcl (by kernel_rfl) rfl (by rfl) (fun K hK => ?_)
    go_simp
    refine hK.out _ _ (Or.inl (by kernel_rfl)) (fun hcl2 => ?_)
    clear hK K hcl hcl2 f0 f1 f2 c0 c1 c2
    refine wpAnyK_done (by kernel_rfl) ?_ _
    obtain ⟨Wb, hWb⟩ : ∃ Wb, ((W9.setCell ⟨N + 1 + 1 + 1, 0, none⟩ (.slice qA qk qc)).setCell ⟨N + 1 + 1 + 1, 1, none⟩ (.slice rA rk rc)).setCell ⟨N + 1 + 1 + 1, 2, none⟩ (.string hd) = Wb := ⟨_, rfl⟩
    rw [hWb]
    have HTb : Hid (Two Wa.heap.size Wb (.slice qA qk qc) (.slice rA rk rc) (P ++ [o]) (E ++ [e])) := Lib.hid (by have := HZ7.out; rw [← hWb]; exact ((HT9.out.set (p := ⟨N + 1 + 1 + 1, 0, none⟩) (by show N + 1 + 1 + 1 < _; omega) _).set (p := ⟨N + 1 + 1 + 1, 1, none⟩) (by show N + 1 + 1 + 1 < _; omega) _).set (p := ⟨N + 1 + 1 + 1, 2, none⟩) (by show N + 1 + 1 + 1 < _; omega) _)
    have HMb : Hid (Blk Wb (N + 1) 66 #[.int .i64 e, .int .i64 o, .int .i64 i, .string hd]) := Lib.hid (by rw [← hWb]; exact ((HM9.out.far (p := ⟨N + 1 + 1 + 1, 0, none⟩) (by show N + 1 ≠ N + 1 + 1 + 1; omega) _).far (p := ⟨N + 1 + 1 + 1, 1, none⟩) (by show N + 1 ≠ N + 1 + 1 + 1; omega) _).far (p := ⟨N + 1 + 1 + 1, 2, none⟩) (by show N + 1 ≠ N + 1 + 1 + 1; omega) _)
    have HSb : Hid (Blk Wb (N + 2) 40 #[(.slice uA uk uc), (.slice vA vk vc), .string hd]) := Lib.hid (by rw [← hWb]; exact ((HS9.out.far (p := ⟨N + 1 + 1 + 1, 0, none⟩) (by show N + 2 ≠ N + 1 + 1 + 1; omega) _).far (p := ⟨N + 1 + 1 + 1, 1, none⟩) (by show N + 2 ≠ N + 1 + 1 + 1; omega) _).far (p := ⟨N + 1 + 1 + 1, 2, none⟩) (by show N + 2 ≠ N + 1 + 1 + 1; omega) _)
    have HWb : Hid (Blk Wb (N + 3) 40 #[.slice qA qk qc, .slice rA rk rc, .string hd]) := Lib.hid (by rw [← hWb]; exact ((HW9.out.set_ 0 _).set_ 1 _).set_ 2 _)
    have HBb : Hid (Below N w Wb) := Lib.hid (by
      have := HZ7.out
      rw [← hWb]
      exact (((HB7.out.trans (HB9.out.mono (by omega))).setCell (p := ⟨N + 1 + 1 + 1, 0, none⟩) (by show N ≤ N + 1 + 1 + 1; omega) _).setCell (p := ⟨N + 1 + 1 + 1, 1, none⟩) (by show N ≤ N + 1 + 1 + 1; omega) _).setCell (p := ⟨N + 1 + 1 + 1, 2, none⟩) (by show N ≤ N + 1 + 1 + 1; omega) _)
    have HRb : Hid (InR Wb (N + 4) (.slice uA uk uc) (P ++ [o]) ∧ InR Wb (N + 4) (.slice vA vk vc) (E ++ [e])) := Lib.hid (by
      have h9 : InR W9 (N + 4) (.slice uA uk uc) (P ++ [o]) ∧ InR W9 (N + 4) (.slice vA vk vc) (E ++ [e]) := ⟨in_below HT7.out.fst HB9.out, in_below HT7.out.snd HB9.out⟩
      rw [← hWb]
      exact ⟨in_set (in_set (in_set h9.1 (p := ⟨N + 1 + 1 + 1, 0, none⟩) (by show N + 1 + 1 + 1 < _; omega) _) (p := ⟨N + 1 + 1 + 1, 1, none⟩) (by show N + 1 + 1 + 1 < _; omega) _) (p := ⟨N + 1 + 1 + 1, 2, none⟩) (by show N + 1 + 1 + 1 < _; omega) _, in_set (in_set (in_set h9.2 (p := ⟨N + 1 + 1 + 1, 0, none⟩) (by show N + 1 + 1 + 1 < _; omega) _) (p := ⟨N + 1 + 1 + 1, 1, none⟩) (by show N + 1 + 1 + 1 < _; omega) _) (p := ⟨N + 1 + 1 + 1, 2, none⟩) (by show N + 1 + 1 + 1 < _; omega) _⟩)
    have HZb : Hid (Wa.heap.size ≤ Wb.heap.size) := Lib.hid (by have := HB9.out.size; rw [← hWb]; simpa using this)
    have HLX : Hid (∀ k, Value.ownBlock (.slice uA uk uc) = some k → k < Wa.heap.size) := Lib.hid (fun k e => (World.ownsRow.lt HT7.out.fst k e).2)
    have HLY : Hid (∀ k, Value.ownBlock (.slice vA vk vc) = some k → k < Wa.heap.size) := Lib.hid (fun k e => (World.ownsRow.lt HT7.out.snd k e).2)
    clear HT9 HM9 HS9 HW9 HB9 HB8 HX HT7 HM7 HS7 HW7 HB7 hWb
    have m2b : Wb.cell? ⟨N + 1, 2, none⟩ = some (.int .i64 i) := HMb.out.cell 2
    have d0b : Wb.cell? ⟨N + 1 + 1 + 1, 0, none⟩ = some (.slice qA qk qc) := HWb.out.cell 0
    by_cases g3 : 0 ≤ i
    · have t3 : decide (i ≥ 0) = true := decide_eq_true (by omega)
      have HQ : Hid ((P ++ [o]) ++ Sp.ifL i = (P ++ [o]) ++ [i]) := Lib.hid (by rw [Sp.ifL_yes g3])
      clear g3
      go_wp2_with (at_builtin; refine wpList_two rfl _ _ rfl Wa.heap.size (.slice qA qk qc) (.slice rA rk rc) (P ++ [o]) (E ++ [e]) rfl Wb i rfl HTb.out HZb.out (by have := HL1.out; simp only [List.length_append, List.length_singleton]; omega) ?_; intro x' w' hT' hb'; obtain ⟨zA, zk, zc, rfl⟩ := in_slice hT'.fst; have hkw := HWb.out.below hb' (by have := HZ7.out; omega); have d0 : w'.cell? ⟨N + 1 + 1 + 1, 0, none⟩ = some (.slice qA qk qc) := hkw.cell 0; have g0 : w'.frozen? ⟨N + 1 + 1 + 1, 0, none⟩ = false := hkw.frozen 0; have HKW := Lib.hid hkw; have HTW := Lib.hid hT'; have HBW := Lib.hid hb'; clear hkw hT' hb')
      clear d0 g0 d0b
      obtain ⟨Wc, hWc⟩ : ∃ Wc, w'.setCell ⟨N + 1 + 1 + 1, 0, none⟩ (.slice zA zk zc) = Wc := ⟨_, rfl⟩
      rw [hWc]
      have HTc : Hid (Two Wa.heap.size Wc (.slice zA zk zc) (.slice rA rk rc) ((P ++ [o]) ++ [i]) (E ++ [e])) := Lib.hid (by have := HZ7.out; rw [← hWc]; exact HTW.out.set (p := ⟨N + 1 + 1 + 1, 0, none⟩) (by show N + 1 + 1 + 1 < _; omega) _)
      have HSc : Hid (Blk Wc (N + 2) 40 #[(.slice uA uk uc), (.slice vA vk vc), .string hd]) := Lib.hid (by have := HZ7.out; rw [← hWc]; exact (HSb.out.below HBW.out (by omega)).far (p := ⟨N + 1 + 1 + 1, 0, none⟩) (by show N + 2 ≠ N + 1 + 1 + 1; omega) _)
      have HWc : Hid (Blk Wc (N + 3) 40 #[.slice zA zk zc, .slice rA rk rc, .string hd]) := Lib.hid (by rw [← hWc]; exact HKW.out.set_ 0 _)
      have HRc : Hid (InR Wc (N + 4) (.slice uA uk uc) (P ++ [o]) ∧ InR Wc (N + 4) (.slice vA vk vc) (E ++ [e])) := Lib.hid (by
        have h9 : InR w' (N + 4) (.slice uA uk uc) (P ++ [o]) ∧ InR w' (N + 4) (.slice vA vk vc) (E ++ [e]) := ⟨in_under HRb.out.1 HLX.out HBW.out, in_under HRb.out.2 HLY.out HBW.out⟩
        rw [← hWc]
        exact ⟨in_set h9.1 (p := ⟨N + 1 + 1 + 1, 0, none⟩) (by show N + 1 + 1 + 1 < _; omega) _, in_set h9.2 (p := ⟨N + 1 + 1 + 1, 0, none⟩) (by show N + 1 + 1 + 1 < _; omega) _⟩)
      have HBc : Hid (Below N w Wc) := Lib.hid (by have := HZ7.out; rw [← hWc]; exact (HBb.out.trans (HBW.out.mono (by omega))).setCell (p := ⟨N + 1 + 1 + 1, 0, none⟩) (by show N ≤ N + 1 + 1 + 1; omega) _)
      clear HTb HSb HWb HRb HBb HMb HKW HTW HBW hWc HZb m2b
      have c0 : Wc.cell? ⟨N + 1 + 1, 0, none⟩ = some (.slice uA uk uc) := HSc.out.cell 0
      have c1 : Wc.cell? ⟨N + 1 + 1, 1, none⟩ = some (.slice vA vk vc) := HSc.out.cell 1
      have c2 : Wc.cell? ⟨N + 1 + 1, 2, none⟩ = some (.string hd) := HSc.out.cell 2
      have d0 : Wc.cell? ⟨N + 1 + 1 + 1, 0, none⟩ = some (.slice zA zk zc) := HWc.out.cell 0
      have d1 : Wc.cell? ⟨N + 1 + 1 + 1, 1, none⟩ = some (.slice rA rk rc) := HWc.out.cell 1
      have d2 : Wc.cell? ⟨N + 1 + 1 + 1, 2, none⟩ = some (.string hd) := HWc.out.cell 2
      (try go_wp2_with fail)
      refine wp_region_K 3 (fun w' => Blk w' (N + 1 + 1) 40 #[(.slice uA uk uc), (.slice vA vk vc), .string hd] ∧ Blk w' (N + 1 + 1 + 1) 40 #[(.slice zA zk zc), .slice rA rk rc, .string hd]) (by kernel_rfl) (fun hcl => ?_)
      have hS : (fun w' : World => Blk w' (N + 1 + 1) 40 #[(.slice uA uk uc), (.slice vA vk vc), .string hd] ∧ Blk w' (N + 1 + 1 + 1) 40 #[(.slice zA zk zc), .slice rA rk rc, .string hd]) Wc.drew := ⟨HSc.out, HWc.out⟩
      refine wpAnyK_take (i := 0) (v := .agg #[(.slice uA uk uc), (.slice vA vk vc), .string hd]) hcl hS rfl (by kernel_rfl) (fun _ _ _ h => h) (by rfl) (fun wq hSw => ?_) (fun hcl2 => ?_)
      · have e0 : wq.cell? ⟨N + 1 + 1, 0, none⟩ = some (.slice uA uk uc) := hSw.1.cell 0
        have e1 : wq.cell? ⟨N + 1 + 1, 1, none⟩ = some (.slice vA vk vc) := hSw.1.cell 1
        have e2 : wq.cell? ⟨N + 1 + 1, 2, none⟩ = some (.string hd) := hSw.1.cell 2
        clear hcl hS hSw
        go_simp
      (try simp only [ly])
      (try simp only [Act.put, pu])
      clear hcl
      have hcl := hcl2
      clear hcl2
      refine wpAnyK_take (i := 1) (v := .agg #[(.slice zA zk zc), .slice rA rk rc, .string hd]) hcl hS rfl (by kernel_rfl) (fun _ _ _ h => h) (by rfl) (fun wq hSw => ?_) (fun hcl2 => ?_)
      · have e0 : wq.cell? ⟨N + 1 + 1 + 1, 0, none⟩ = some (.slice zA zk zc) := hSw.2.cell 0
        have e1 : wq.cell? ⟨N + 1 + 1 + 1, 1, none⟩ = some (.slice rA rk rc) := hSw.2.cell 1
        have e2 : wq.cell? ⟨N + 1 + 1 + 1, 2, none⟩ = some (.string hd) := hSw.2.cell 2
        clear hcl hS hSw
        go_simp
      (try simp only [ly])
      (try simp only [Act.put, pu])
      clear hcl
      have hcl := hcl2
      clear hcl2
      clear hS
      have f0 : Wc.frozen? ⟨N + 1 + 1, 0, none⟩ = false := HSc.out.frozen 0
      have f1 : Wc.frozen? ⟨N + 1 + 1, 1, none⟩ = false := HSc.out.frozen 1
      have f2 : Wc.frozen? ⟨N + 1 + 1, 2, none⟩ = false := HSc.out.frozen 2
      refine wpAnyK_one (i := 2) hcl (by kernel_rfl) rfl (by rfl) (fun K hK => ?_)
      go_simp
      obtain ⟨We, hWe⟩ : ∃ We, ((Wc.setCell ⟨N + 1 + 1, 0, none⟩ (.slice uA uk uc)).setCell ⟨N + 1 + 1, 1, none⟩ (.slice vA vk vc)).setCell ⟨N + 1 + 1, 2, none⟩ (.string hd) = We := ⟨_, rfl⟩
      rw [hWe]
      have HSe : Hid (Blk We (N + 2) 40 #[(.slice uA uk uc), (.slice vA vk vc), .string hd]) := Lib.hid (by rw [← hWe]; exact ((HSc.out.set_ 0 _).set_ 1 _).set_ 2 _)
      have HWe : Hid (Blk We (N + 3) 40 #[(.slice zA zk zc), .slice rA rk rc, .string hd]) := Lib.hid (by rw [← hWe]; exact ((HWc.out.far (p := ⟨N + 1 + 1, 0, none⟩) (by show N + 3 ≠ N + 1 + 1; omega) _).far (p := ⟨N + 1 + 1, 1, none⟩) (by show N + 3 ≠ N + 1 + 1; omega) _).far (p := ⟨N + 1 + 1, 2, none⟩) (by show N + 3 ≠ N + 1 + 1; omega) _)
      have HRe : Hid ((InR We (N + 4) (.slice uA uk uc) (P ++ [o]) ∧ InR We (N + 4) (.slice vA vk vc) (E ++ [e])) ∧ InR We (N + 4) (.slice zA zk zc) ((P ++ [o]) ++ [i]) ∧ InR We (N + 4) (.slice rA rk rc) (E ++ [e])) := Lib.hid (by
        have g : ∀ (v : Value) (l : List Int), InR Wc (N + 4) v l → InR We (N + 4) v l := fun v l hv => by
          rw [← hWe]
          exact in_set (in_set (in_set hv (p := ⟨N + 1 + 1, 0, none⟩) (by show N + 1 + 1 < _; omega) _) (p := ⟨N + 1 + 1, 1, none⟩) (by show N + 1 + 1 < _; omega) _) (p := ⟨N + 1 + 1, 2, none⟩) (by show N + 1 + 1 < _; omega) _
        exact ⟨⟨g _ _ HRc.out.1, g _ _ HRc.out.2⟩, g _ _ (in_mono HTc.out.fst HZ7.out), g _ _ (in_mono HTc.out.snd HZ7.out)⟩)
      have HBe : Hid (Below N w We) := Lib.hid (by rw [← hWe]; exact ((HBc.out.setCell (p := ⟨N + 1 + 1, 0, none⟩) (by show N ≤ N + 1 + 1; omega) _).setCell (p := ⟨N + 1 + 1, 1, none⟩) (by show N ≤ N + 1 + 1; omega) _).setCell (p := ⟨N + 1 + 1, 2, none⟩) (by show N ≤ N + 1 + 1; omega) _)
      clear HSc HWc HRc HTc HBc hWe f0 f1 f2 c0 c1 c2 d0 d1 d2
      refine hK.out _ _ (Or.inr ⟨HSe.out, HWe.out⟩) (fun hcl2 => ?_)
      clear hK K hcl
      have hcl := hcl2
      clear hcl2
      have f0 : We.frozen? ⟨N + 1 + 1 + 1, 0, none⟩ = false := HWe.out.frozen 0
      have f1 : We.frozen? ⟨N + 1 + 1 + 1, 1, none⟩ = false := HWe.out.frozen 1
      have f2 : We.frozen? ⟨N + 1 + 1 + 1, 2, none⟩ = false := HWe.out.frozen 2
      have c0 : We.cell? ⟨N + 1 + 1 + 1, 0, none⟩ = some (.slice zA zk zc) := HWe.out.cell 0
      have c1 : We.cell? ⟨N + 1 + 1 + 1, 1, none⟩ = some (.slice rA rk rc) := HWe.out.cell 1
      have c2 : We.cell? ⟨N + 1 + 1 + 1, 2, none⟩ = some (.string hd) := HWe.out.cell 2
      refine wpAnyK_one (i := 3) hcl (by kernel_rfl) rfl (by rfl) (fun K hK => ?_)
      go_simp
      obtain ⟨Wf, hWf⟩ : ∃ Wf, ((We.setCell ⟨N + 1 + 1 + 1, 0, none⟩ (.slice zA zk zc)).setCell ⟨N + 1 + 1 + 1, 1, none⟩ (.slice rA rk rc)).setCell ⟨N + 1 + 1 + 1, 2, none⟩ (.string hd) = Wf := ⟨_, rfl⟩
      rw [hWf]
      have HSf : Hid (Blk Wf (N + 2) 40 #[(.slice uA uk uc), (.slice vA vk vc), .string hd]) := Lib.hid (by rw [← hWf]; exact ((HSe.out.far (p := ⟨N + 1 + 1 + 1, 0, none⟩) (by show N + 2 ≠ N + 1 + 1 + 1; omega) _).far (p := ⟨N + 1 + 1 + 1, 1, none⟩) (by show N + 2 ≠ N + 1 + 1 + 1; omega) _).far (p := ⟨N + 1 + 1 + 1, 2, none⟩) (by show N + 2 ≠ N + 1 + 1 + 1; omega) _)
      have HWf : Hid (Blk Wf (N + 3) 40 #[(.slice zA zk zc), .slice rA rk rc, .string hd]) := Lib.hid (by rw [← hWf]; exact ((HWe.out.set_ 0 _).set_ 1 _).set_ 2 _)
      have HRf : Hid ((InR Wf (N + 4) (.slice uA uk uc) (P ++ [o]) ∧ InR Wf (N + 4) (.slice vA vk vc) (E ++ [e])) ∧ InR Wf (N + 4) (.slice zA zk zc) ((P ++ [o]) ++ [i]) ∧ InR Wf (N + 4) (.slice rA rk rc) (E ++ [e])) := Lib.hid (by
        have g : ∀ (v : Value) (l : List Int), InR We (N + 4) v l → InR Wf (N + 4) v l := fun v l hv => by
          rw [← hWf]
          exact in_set (in_set (in_set hv (p := ⟨N + 1 + 1 + 1, 0, none⟩) (by show N + 1 + 1 + 1 < _; omega) _) (p := ⟨N + 1 + 1 + 1, 1, none⟩) (by show N + 1 + 1 + 1 < _; omega) _) (p := ⟨N + 1 + 1 + 1, 2, none⟩) (by show N + 1 + 1 + 1 < _; omega) _
        exact ⟨⟨g _ _ HRe.out.1.1, g _ _ HRe.out.1.2⟩, g _ _ HRe.out.2.1, g _ _ HRe.out.2.2⟩)
      have HBf : Hid (Below N w Wf) := Lib.hid (by rw [← hWf]; exact ((HBe.out.setCell (p := ⟨N + 1 + 1 + 1, 0, none⟩) (by show N ≤ N + 1 + 1 + 1; omega) _).setCell (p := ⟨N + 1 + 1 + 1, 1, none⟩) (by show N ≤ N + 1 + 1 + 1; omega) _).setCell (p := ⟨N + 1 + 1 + 1, 2, none⟩) (by show N ≤ N + 1 + 1 + 1; omega) _)
      clear HSe HWe HRe HBe hWf f0 f1 f2 c0 c1 c2
      refine hK.out _ _ (Or.inl (by kernel_rfl)) (fun hcl2 => ?_)
      clear hK K hcl hcl2
      refine wpAnyK_done (by kernel_rfl) ?_ _
      go_wp2_with fail
      refine bodyPost_ret (results_cell2 rfl _ _ (N + 1 + 1) (N + 1 + 1 + 1) 40 #[(.slice uA uk uc), (.slice vA vk vc), .string hd] #[(.slice zA zk zc), .slice rA rk rc, .string hd] _ rfl rfl HSf.out HWf.out Tryz.underlying40 rfl (by kernel_rfl) (by kernel_rfl)) rfl ?_
      exact OnEnd.of (B := N + 4) HP.out HE.out HQ.out (by have := HN.out; omega) HRf.out.1.1 HRf.out.1.2 HRf.out.2.1 HRf.out.2.2 (by rw [HN.out]; exact HBf.out.drew)
    · have t3 : decide (i ≥ 0) = false := decide_eq_false (by omega)
      have HQ : Hid ((P ++ [o]) ++ Sp.ifL i = (P ++ [o])) := Lib.hid (by rw [Sp.ifL_no g3, List.append_nil])
      clear g3
      go_wp2_with fail
      have c0 : Wb.cell? ⟨N + 1 + 1, 0, none⟩ = some (.slice uA uk uc) := HSb.out.cell 0
      have c1 : Wb.cell? ⟨N + 1 + 1, 1, none⟩ = some (.slice vA vk vc) := HSb.out.cell 1
      have c2 : Wb.cell? ⟨N + 1 + 1, 2, none⟩ = some (.string hd) := HSb.out.cell 2
      have d0 : Wb.cell? ⟨N + 1 + 1 + 1, 0, none⟩ = some (.slice qA qk qc) := HWb.out.cell 0
      have d1 : Wb.cell? ⟨N + 1 + 1 + 1, 1, none⟩ = some (.slice rA rk rc) := HWb.out.cell 1
      have d2 : Wb.cell? ⟨N + 1 + 1 + 1, 2, none⟩ = some (.string hd) := HWb.out.cell 2
      (try go_wp2_with fail)
      refine wp_region_K 3 (fun w' => Blk w' (N + 1 + 1) 40 #[(.slice uA uk uc), (.slice vA vk vc), .string hd] ∧ Blk w' (N + 1 + 1 + 1) 40 #[(.slice qA qk qc), .slice rA rk rc, .string hd]) (by kernel_rfl) (fun hcl => ?_)
      have hS : (fun w' : World => Blk w' (N + 1 + 1) 40 #[(.slice uA uk uc), (.slice vA vk vc), .string hd] ∧ Blk w' (N + 1 + 1 + 1) 40 #[(.slice qA qk qc), .slice rA rk rc, .string hd]) Wb.drew := ⟨HSb.out, HWb.out⟩
      refine wpAnyK_take (i := 0) (v := .agg #[(.slice uA uk uc), (.slice vA vk vc), .string hd]) hcl hS rfl (by kernel_rfl) (fun _ _ _ h => h) (by rfl) (fun wq hSw => ?_) (fun hcl2 => ?_)
      · have e0 : wq.cell? ⟨N + 1 + 1, 0, none⟩ = some (.slice uA uk uc) := hSw.1.cell 0
        have e1 : wq.cell? ⟨N + 1 + 1, 1, none⟩ = some (.slice vA vk vc) := hSw.1.cell 1
        have e2 : wq.cell? ⟨N + 1 + 1, 2, none⟩ = some (.string hd) := hSw.1.cell 2
        clear hcl hS hSw
        go_simp
      (try simp only [ly])
      (try simp only [Act.put, pu])
      clear hcl
      have hcl := hcl2
      clear hcl2
      refine wpAnyK_take (i := 1) (v := .agg #[(.slice qA qk qc), .slice rA rk rc, .string hd]) hcl hS rfl (by kernel_rfl) (fun _ _ _ h => h) (by rfl) (fun wq hSw => ?_) (fun hcl2 => ?_)
      · have e0 : wq.cell? ⟨N + 1 + 1 + 1, 0, none⟩ = some (.slice qA qk qc) := hSw.2.cell 0
        have e1 : wq.cell? ⟨N + 1 + 1 + 1, 1, none⟩ = some (.slice rA rk rc) := hSw.2.cell 1
        have e2 : wq.cell? ⟨N + 1 + 1 + 1, 2, none⟩ = some (.string hd) := hSw.2.cell 2
        clear hcl hS hSw
        go_simp
      (try simp only [ly])
      (try simp only [Act.put, pu])
      clear hcl
      have hcl := hcl2
      clear hcl2
      clear hS
      have f0 : Wb.frozen? ⟨N + 1 + 1, 0, none⟩ = false := HSb.out.frozen 0
      have f1 : Wb.frozen? ⟨N + 1 + 1, 1, none⟩ = false := HSb.out.frozen 1
      have f2 : Wb.frozen? ⟨N + 1 + 1, 2, none⟩ = false := HSb.out.frozen 2
      refine wpAnyK_one (i := 2) hcl (by kernel_rfl) rfl (by rfl) (fun K hK => ?_)
      go_simp
      obtain ⟨We, hWe⟩ : ∃ We, ((Wb.setCell ⟨N + 1 + 1, 0, none⟩ (.slice uA uk uc)).setCell ⟨N + 1 + 1, 1, none⟩ (.slice vA vk vc)).setCell ⟨N + 1 + 1, 2, none⟩ (.string hd) = We := ⟨_, rfl⟩
      rw [hWe]
      have HSe : Hid (Blk We (N + 2) 40 #[(.slice uA uk uc), (.slice vA vk vc), .string hd]) := Lib.hid (by rw [← hWe]; exact ((HSb.out.set_ 0 _).set_ 1 _).set_ 2 _)
      have HWe : Hid (Blk We (N + 3) 40 #[(.slice qA qk qc), .slice rA rk rc, .string hd]) := Lib.hid (by rw [← hWe]; exact ((HWb.out.far (p := ⟨N + 1 + 1, 0, none⟩) (by show N + 3 ≠ N + 1 + 1; omega) _).far (p := ⟨N + 1 + 1, 1, none⟩) (by show N + 3 ≠ N + 1 + 1; omega) _).far (p := ⟨N + 1 + 1, 2, none⟩) (by show N + 3 ≠ N + 1 + 1; omega) _)
      have HRe : Hid ((InR We (N + 4) (.slice uA uk uc) (P ++ [o]) ∧ InR We (N + 4) (.slice vA vk vc) (E ++ [e])) ∧ InR We (N + 4) (.slice qA qk qc) (P ++ [o]) ∧ InR We (N + 4) (.slice rA rk rc) (E ++ [e])) := Lib.hid (by
        have g : ∀ (v : Value) (l : List Int), InR Wb (N + 4) v l → InR We (N + 4) v l := fun v l hv => by
          rw [← hWe]
          exact in_set (in_set (in_set hv (p := ⟨N + 1 + 1, 0, none⟩) (by show N + 1 + 1 < _; omega) _) (p := ⟨N + 1 + 1, 1, none⟩) (by show N + 1 + 1 < _; omega) _) (p := ⟨N + 1 + 1, 2, none⟩) (by show N + 1 + 1 < _; omega) _
        exact ⟨⟨g _ _ HRb.out.1, g _ _ HRb.out.2⟩, g _ _ (in_mono HTb.out.fst HZ7.out), g _ _ (in_mono HTb.out.snd HZ7.out)⟩)
      have HBe : Hid (Below N w We) := Lib.hid (by rw [← hWe]; exact ((HBb.out.setCell (p := ⟨N + 1 + 1, 0, none⟩) (by show N ≤ N + 1 + 1; omega) _).setCell (p := ⟨N + 1 + 1, 1, none⟩) (by show N ≤ N + 1 + 1; omega) _).setCell (p := ⟨N + 1 + 1, 2, none⟩) (by show N ≤ N + 1 + 1; omega) _)
      clear HSb HWb HRb HTb HBb hWe f0 f1 f2 c0 c1 c2 d0 d1 d2
      refine hK.out _ _ (Or.inr ⟨HSe.out, HWe.out⟩) (fun hcl2 => ?_)
      clear hK K hcl
      have hcl := hcl2
      clear hcl2
      have f0 : We.frozen? ⟨N + 1 + 1 + 1, 0, none⟩ = false := HWe.out.frozen 0
      have f1 : We.frozen? ⟨N + 1 + 1 + 1, 1, none⟩ = false := HWe.out.frozen 1
      have f2 : We.frozen? ⟨N + 1 + 1 + 1, 2, none⟩ = false := HWe.out.frozen 2
      have c0 : We.cell? ⟨N + 1 + 1 + 1, 0, none⟩ = some (.slice qA qk qc) := HWe.out.cell 0
      have c1 : We.cell? ⟨N + 1 + 1 + 1, 1, none⟩ = some (.slice rA rk rc) := HWe.out.cell 1
      have c2 : We.cell? ⟨N + 1 + 1 + 1, 2, none⟩ = some (.string hd) := HWe.out.cell 2
      refine wpAnyK_one (i := 3) hcl (by kernel_rfl) rfl (by rfl) (fun K hK => ?_)
      go_simp
      obtain ⟨Wf, hWf⟩ : ∃ Wf, ((We.setCell ⟨N + 1 + 1 + 1, 0, none⟩ (.slice qA qk qc)).setCell ⟨N + 1 + 1 + 1, 1, none⟩ (.slice rA rk rc)).setCell ⟨N + 1 + 1 + 1, 2, none⟩ (.string hd) = Wf := ⟨_, rfl⟩
      rw [hWf]
      have HSf : Hid (Blk Wf (N + 2) 40 #[(.slice uA uk uc), (.slice vA vk vc), .string hd]) := Lib.hid (by rw [← hWf]; exact ((HSe.out.far (p := ⟨N + 1 + 1 + 1, 0, none⟩) (by show N + 2 ≠ N + 1 + 1 + 1; omega) _).far (p := ⟨N + 1 + 1 + 1, 1, none⟩) (by show N + 2 ≠ N + 1 + 1 + 1; omega) _).far (p := ⟨N + 1 + 1 + 1, 2, none⟩) (by show N + 2 ≠ N + 1 + 1 + 1; omega) _)
      have HWf : Hid (Blk Wf (N + 3) 40 #[(.slice qA qk qc), .slice rA rk rc, .string hd]) := Lib.hid (by rw [← hWf]; exact ((HWe.out.set_ 0 _).set_ 1 _).set_ 2 _)
      have HRf : Hid ((InR Wf (N + 4) (.slice uA uk uc) (P ++ [o]) ∧ InR Wf (N + 4) (.slice vA vk vc) (E ++ [e])) ∧ InR Wf (N + 4) (.slice qA qk qc) (P ++ [o]) ∧ InR Wf (N + 4) (.slice rA rk rc) (E ++ [e])) := Lib.hid (by
        have g : ∀ (v : Value) (l : List Int), InR We (N + 4) v l → InR Wf (N + 4) v l := fun v l hv => by
          rw [← hWf]
          exact in_set (in_set (in_set hv (p := ⟨N + 1 + 1 + 1, 0, none⟩) (by show N + 1 + 1 + 1 < _; omega) _) (p := ⟨N + 1 + 1 + 1, 1, none⟩) (by show N + 1 + 1 + 1 < _; omega) _) (p := ⟨N + 1 + 1 + 1, 2, none⟩) (by show N + 1 + 1 + 1 < _; omega) _
        exact ⟨⟨g _ _ HRe.out.1.1, g _ _ HRe.out.1.2⟩, g _ _ HRe.out.2.1, g _ _ HRe.out.2.2⟩)
      have HBf : Hid (Below N w Wf) := Lib.hid (by rw [← hWf]; exact ((HBe.out.setCell (p := ⟨N + 1 + 1 + 1, 0, none⟩) (by show N ≤ N + 1 + 1 + 1; omega) _).setCell (p := ⟨N + 1 + 1 + 1, 1, none⟩) (by show N ≤ N + 1 + 1 + 1; omega) _).setCell (p := ⟨N + 1 + 1 + 1, 2, none⟩) (by show N ≤ N + 1 + 1 + 1; omega) _)
      clear HSe HWe HRe HBe hWf f0 f1 f2 c0 c1 c2
      refine hK.out _ _ (Or.inl (by kernel_rfl)) (fun hcl2 => ?_)
      clear hK K hcl hcl2
      refine wpAnyK_done (by kernel_rfl) ?_ _
      go_wp2_with fail
      refine bodyPost_ret (results_cell2 rfl _ _ (N + 1 + 1) (N + 1 + 1 + 1) 40 #[(.slice uA uk uc), (.slice vA vk vc), .string hd] #[(.slice qA qk qc), .slice rA rk rc, .string hd] _ rfl rfl HSf.out HWf.out Tryz.underlying40 rfl (by kernel_rfl) (by kernel_rfl)) rfl ?_
      exact OnEnd.of (B := N + 4) HP.out HE.out HQ.out (by have := HN.out; omega) HRf.out.1.1 HRf.out.1.2 HRf.out.2.1 HRf.out.2.2 (by rw [HN.out]; exact HBf.out.drew)

end Go.Proofs.YtpknablklencdaaGreatDoor
