/-
  Laws for THE WALK of scan.speak (chapter 3): a scope with one label; rows of bytes that are kept; a step of the quoted text.
-/
import Derived.Test.YtjedoipbllcfdaaDoorWl
import Derived.Lib.OthersKept
set_option linter.unusedVariables false
set_option linter.unusedSimpArgs false
set_option maxRecDepth 100000
set_option maxHeartbeats 4000000
namespace Go.Proofs.YtjedoipbllcfdaaDoor
open Go.RowKit

/-- A scope that begins with a piece, then the label to which the rest jumps back. -/
theorem wp_scope_again {P : Program} {a : Act} {w : World} {Q : Exit → Act → World → Prop} {first R : Code} (l : Nat) (J : Act → World → Prop) (μ : Act → World → Nat)
    (hf : findLabel (first.seq ((Code.label l).seq R)) l = some (Code.skip.seq R))
    (h0 : first.wp P (Exit.then J fun _ _ _ => False) a w)
    (pass : ∀ a w, J a w → R.wp P (Exit.jump l (fun a' w' => J a' w' ∧ μ a' w' < μ a w) Q) a w) : (Code.scope (first.seq ((Code.label l).seq R))).wp P Q a w := by
  refine wp_scope_jumps l J μ hf ?_ ?_
  · refine wp_seq (Code.wp_mono ?_ h0)
    intro e a' w' h
    cases e with
    | normal =>
      refine wp_seq (wp_label ?_)
      refine Code.wp_mono ?_ (pass a' w' h)
      intro e2 a2 w2 h2
      cases e2 with
      | goto l' => exact ⟨h2.1, h2.2.1⟩
      | _ => exact h2
    | _ => exact h.elim
  · intro a' w' hJ
    exact wp_seq (wp_skip (pass a' w' hJ))

theorem ownsRowF_keep {w w' : World} {B : Nat} {v : Value} {n : Nat} {xs : List Value} {e : TypeId} (h : w.ownsRowF B e 1 v n xs) (hk : ∀ g, v.ownBlock = some g → w'.heap[g]? = w.heap[g]?) : w'.ownsRowF B e 1 v n xs := by
  obtain ⟨h1, h2⟩ := h
  refine ⟨h1, ?_⟩
  rcases h2 with h2 | ⟨g, cap, cur, fz, rfl, hbg, hg, r⟩
  · exact Or.inl h2
  · exact Or.inr ⟨g, cap, cur, fz, rfl, hbg, (hk g rfl).trans hg, r⟩
theorem ownsRowF_below {w w' : World} {B : Nat} {v : Value} {n : Nat} {xs : List Value} {e : TypeId} (h : w.ownsRowF B e 1 v n xs) (hb : Below w.heap.size w w') : w'.ownsRowF B e 1 v n xs :=
  ownsRowF_keep h fun g hg => hb.block g (h.lt g hg).2
theorem ownsRowF_iterAt {w : World} {B : Nat} {v : Value} {n : Nat} {xs : List Value} {e : TypeId} (h : w.ownsRowF B e 1 v n xs) {k : Nat} {t : ByteArray} {pos p' : Nat} (hi : w.heap[k]? = some (.stringIter t pos)) : (w.iterAt k t p').ownsRowF B e 1 v n xs := by
  refine ownsRowF_keep h fun g hg => ?_
  obtain ⟨c, fz, hc⟩ := Lib.ownsRowF_kind h g hg
  have hne : g ≠ k := by rintro rfl; rw [hi] at hc; cases hc
  exact Lib.iterAt_other w k g t p' hne
/-- An iterator stays while a row of bytes is appended to. -/
theorem iter_grown {w w' : World} {B : Nat} {v : Value} {n : Nat} {xs : List Value} {e : TypeId} {k : Nat} {t : ByteArray} {pos : Nat} (h : w.ownsRowF B e 1 v n xs) (hi : w.heap[k]? = some (.stringIter t pos)) {o : Obj} (hg : (w.alloc o).grownBy w' v.ownBlock) : w'.heap[k]? = some (.stringIter t pos) := by
  have hk : k < w.heap.size := (Array.getElem?_eq_some_iff.1 hi).1
  have h1 : (w.alloc o).heap[k]? = w.heap[k]? := Below.heap_alloc w o k hk
  rw [hg.block k (by simp; omega) ?_, h1, hi]
  intro e'
  obtain ⟨c, fz, hc⟩ := Lib.ownsRowF_kind h k e'.symm
  rw [hi] at hc
  cases hc
theorem below_grownF {w w' a : World} {B : Nat} {v : Value} {n : Nat} {xs : List Value} {e : TypeId} (hb : Below B a w) (hB : B ≤ w.heap.size) (h : w.ownsRowF B e 1 v n xs) {o : Obj} (hg : (w.alloc o).grownBy w' v.ownBlock) : Below B a w' :=
  (hb.alloc hB o).grown hg (by simp; omega) (fun k hk => (h.lt k hk).1)
theorem iter_below {w w' : World} {k : Nat} {t : ByteArray} {pos : Nat} (hi : w.heap[k]? = some (.stringIter t pos)) (hb : Below w.heap.size w w') : w'.heap[k]? = some (.stringIter t pos) :=
  (hb.block k (Array.getElem?_eq_some_iff.1 hi).1).trans hi

theorem dec_tests (l : List UInt8) (c : UInt8) (r : List UInt8) (h : l = c :: r) (n : Nat) (hn : n < 128) : ((Sp.dec l).1 = n ↔ c.toNat = n) ∧ ((Sp.dec l).1 < n ↔ c.toNat < n) := by
  subst h
  rcases Nat.lt_or_ge c.toNat 128 with hc | hc
  · rw [Sp.dec_ascii c r hc]
    exact ⟨Iff.rfl, Iff.rfl⟩
  · have := Sp.dec_high c r hc
    omega

/-- What speak hands back. -/
def SpkEnd (s : ByteArray) (lines : Bool) (W : World) (e : Ending) (w' : World) : Prop :=
  ((Sp.speakV lines s.data.toList).1 = 0 → ∃ v, e = .returned (.tuple #[v, .int .i64 (Sp.speakV lines s.data.toList).2.2, .int .i64 0]) ∧ w'.ownsRowF W.heap.size 5 1 v (Sp.speakV lines s.data.toList).2.1.length (Lib.byteCells (Sp.speakV lines s.data.toList).2.1) ∧ Below W.heap.size W w') ∧
  ((Sp.speakV lines s.data.toList).1 ≠ 0 → e = .returned (.tuple #[.slice none 0 0, .int .i64 (Sp.speakV lines s.data.toList).2.2, .int .i64 (Sp.speakV lines s.data.toList).1]) ∧ Below W.heap.size W w')
theorem SpkEnd_bad {s : ByteArray} {lines : Bool} {W w' : World} {c p : Nat} {b : List UInt8} (h : Sp.speakV lines s.data.toList = (c, b, p)) (hc : c ≠ 0) {x y : Int} (hx : x = p) (hy : y = c) (hb : Below W.heap.size W w') :
    SpkEnd s lines W (.returned (.tuple #[.slice none 0 0, .int .i64 x, .int .i64 y])) w' := by
  subst hx; subst hy
  unfold SpkEnd
  rw [h]
  exact ⟨fun h0 => absurd h0 hc, fun _ => ⟨rfl, hb⟩⟩
theorem SpkEnd_ok {s : ByteArray} {lines : Bool} {W w' : World} {p : Nat} {b : List UInt8} {v : Value} (h : Sp.speakV lines s.data.toList = (0, b, p)) {x : Int} (hx : x = p) (ho : w'.ownsRowF W.heap.size 5 1 v b.length (Lib.byteCells b)) (hb : Below W.heap.size W w') :
    SpkEnd s lines W (.returned (.tuple #[v, .int .i64 x, .int .i64 0])) w' := by
  subst hx
  unfold SpkEnd
  rw [h]
  exact ⟨fun _ => ⟨v, rfl, ho, hb⟩, fun h0 => absurd rfl h0⟩

/-- At the label: so much has been said, and the rest says the rest. -/
def SpkJ (s : ByteArray) (lines : Bool) (W : World) (v : Value) (at_ : Nat) (acc : List UInt8) (w' : World) : Prop :=
  1 ≤ at_ ∧ at_ ≤ s.size ∧ acc.length ≤ at_ ∧ w'.ownsRowF W.heap.size 5 1 v acc.length (Lib.byteCells acc) ∧ Below W.heap.size W w' ∧
    ∃ f, s.size - at_ ≤ f ∧ Sp.speakF lines f (s.data.toList.drop at_) at_ acc = Sp.speakV lines s.data.toList
end Go.Proofs.YtjedoipbllcfdaaDoor
