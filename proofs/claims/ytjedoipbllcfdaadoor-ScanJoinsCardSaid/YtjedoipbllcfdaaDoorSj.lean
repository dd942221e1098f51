/-
  A LAW ON SCOPES WITH SEVERAL LABELS (no program in sight): what holds at each jump, and a measure that every pass from a label lowers.
-/
import Derived.ScopeJumps
set_option linter.unusedVariables false
namespace Go.Proofs.YtjedoipbllcfdaaDoor

/-- As Q; by a goto to a label: what holds there; by a goto to no label of these: no way out. -/
def jumps (ls : List Nat) (J : Nat → Act → World → Prop) (Q : Exit → Act → World → Prop) : Exit → Act → World → Prop
  | .goto l, a, w => l ∈ ls ∧ J l a w
  | e, a, w => Q e a w

theorem wp_scope_labels {P : Program} {a : Act} {w : World} {Q : Exit → Act → World → Prop} {c : Code} (ls : List Nat) (J : Nat → Act → World → Prop) (μ : Nat → Act → World → Nat)
    (first : c.wp P (jumps ls J Q) a w)
    (pass : ∀ l, l ∈ ls → ∃ r, findLabel c l = some r ∧ ∀ a w, J l a w → r.wp P (jumps ls (fun l' a' w' => J l' a' w' ∧ μ l' a' w' < μ l a w) Q) a w) : (Code.scope c).wp P Q a w := by
  intro b k cs
  have hg : ∀ l r, findLabel c l = some r → gotoIn l (.inScope c :: k) = some (.code r :: .inScope c :: k) := fun l r h => by simp [gotoIn, h]
  have key : ∀ n l r a w, l ∈ ls → findLabel c l = some r → μ l a w = n → J l a w → ∃ e a' w', Q e a' w' ∧ Arrives P (lone (b.at a (.code r :: .inScope c :: k)) cs w) b k cs e a' w' := by
    intro n
    induction n using Nat.strongRecOn with
    | _ n ih =>
      intro l r a w hl hr hn hJ
      obtain ⟨r0, hr0, hp⟩ := pass l hl
      obtain rfl : r0 = r := Option.some.inj (hr0.symm.trans hr)
      obtain ⟨e, a₁, w₁, hq, harr⟩ := hp a w hJ b (.inScope c :: k) cs
      cases e with
      | normal => exact ⟨.normal, a₁, w₁, hq, Steps.trans harr (.one step_inScope)⟩
      | exit id => exact ⟨.exit id, a₁, w₁, hq, fun k' hk => harr k' (by simp [exitTo, hk])⟩
      | goto l' =>
        obtain ⟨hs, hJ', hlt⟩ := hq
        obtain ⟨r', hr', _⟩ := pass l' hs
        obtain ⟨e₂, a₂, w₂, hq₂, harr₂⟩ := ih _ (by omega) l' r' a₁ w₁ hs hr' rfl hJ'
        exact ⟨e₂, a₂, w₂, hq₂, .of_steps (harr _ (hg l' r' hr')) harr₂⟩
      | ret => exact ⟨_, a₁, w₁, hq, harr⟩
      | panic ch => exact ⟨_, a₁, w₁, hq, harr⟩
      | outgrown => exact ⟨_, a₁, w₁, hq, harr⟩
  obtain ⟨e, a₁, w₁, hq, harr⟩ := first b (.inScope c :: k) cs
  cases e with
  | normal => exact ⟨.normal, a₁, w₁, hq, .head step_scope (Steps.trans harr (.one step_inScope))⟩
  | exit id => exact ⟨.exit id, a₁, w₁, hq, fun k' hk => .head step_scope (harr k' (by simp [exitTo, hk]))⟩
  | goto l' =>
    obtain ⟨hs, hJ'⟩ := hq
    obtain ⟨r', hr', _⟩ := pass l' hs
    obtain ⟨e₂, a₂, w₂, hq₂, harr₂⟩ := key _ l' r' a₁ w₁ hs hr' rfl hJ'
    exact ⟨e₂, a₂, w₂, hq₂, .of_steps (.head step_scope (harr _ (hg l' r' hr'))) harr₂⟩
  | ret => exact ⟨_, a₁, w₁, hq, .of_steps (.one step_scope) harr⟩
  | panic ch => exact ⟨_, a₁, w₁, hq, .of_steps (.one step_scope) harr⟩
  | outgrown => exact ⟨_, a₁, w₁, hq, .of_steps (.one step_scope) harr⟩
theorem wp_label_seq {P : Program} {a : Act} {w : World} {Q : Exit → Act → World → Prop} {l : Nat} {r : Code} (h : r.wp P Q a w) : ((Code.label l).seq r).wp P Q a w := wp_seq (wp_label h)
/-- Two pieces, then a label behind which the rest begins. -/
theorem wp_scope_labels2 {P : Program} {a : Act} {w : World} {Q : Exit → Act → World → Prop} {A B R : Code} (l0 : Nat) (ls : List Nat) (J : Nat → Act → World → Prop) (μ : Nat → Act → World → Nat)
    (hl0 : l0 ∈ ls) (hf : findLabel (A.seq (B.seq ((Code.label l0).seq R))) l0 = some (Code.skip.seq R))
    (h0 : A.wp P (Exit.then (fun a w => B.wp P (Exit.then (J l0) fun _ _ _ => False) a w) fun _ _ _ => False) a w)
    (pass0 : ∀ a w, J l0 a w → R.wp P (jumps ls (fun l' a' w' => J l' a' w' ∧ μ l' a' w' < μ l0 a w) Q) a w)
    (pass : ∀ l, l ∈ ls → l ≠ l0 → ∃ r, findLabel (A.seq (B.seq ((Code.label l0).seq R))) l = some r ∧ ∀ a w, J l a w → r.wp P (jumps ls (fun l' a' w' => J l' a' w' ∧ μ l' a' w' < μ l a w) Q) a w) :
    (Code.scope (A.seq (B.seq ((Code.label l0).seq R)))).wp P Q a w := by
  have drop : ∀ {l a w} (e : Exit) (a' : Act) (w' : World), jumps ls (fun l' a' w' => J l' a' w' ∧ μ l' a' w' < μ l a w) Q e a' w' → jumps ls J Q e a' w' := by
    intro l a w e a' w' h
    cases e with
    | goto l' => exact ⟨h.1, h.2.1⟩
    | _ => exact h
  refine wp_scope_labels ls J μ ?_ ?_
  · refine wp_seq (Code.wp_mono ?_ h0)
    intro e a1 w1 h
    cases e with
    | normal =>
      refine wp_seq (Code.wp_mono ?_ h)
      intro e2 a2 w2 h2
      cases e2 with
      | normal => exact wp_seq (wp_label (Code.wp_mono (fun e a w h => drop e a w h) (pass0 a2 w2 h2)))
      | _ => exact h2.elim
    | _ => exact h.elim
  · intro l hl
    by_cases he : l = l0
    · subst he
      exact ⟨_, hf, fun a w hJ => wp_seq (wp_skip (pass0 a w hJ))⟩
    · exact pass l hl he
end Go.Proofs.YtjedoipbllcfdaaDoor
