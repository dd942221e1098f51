/-
  A slice that came in, read as a list by its elements' own reading; what the form's reach says of it.
-/
import Derived.Test.YtpknablklencdaaGreatDoorGl
import Derived.Carry
import Derived.ChangeArms
import Derived.Deep.Slices
import Derived.SizedLaws
set_option linter.unusedVariables false
set_option linter.unusedSimpArgs false
set_option maxRecDepth 100000
set_option maxHeartbeats 4000000
namespace Go.Proofs.YtpknablklencdaaGreatDoor
open Go.ChangeShapes Go.WideShapes Go.ChangeAt Go.RowKit

section
variable {H : Type} {enc : TypeId × Value → H} {w : World} {base : Nat} {spare : Nat → Bool} {held : Bool}

theorem xcell_lt {w : World} {a : Addr} {v : Value} (h : w.cell? a = some v) : a.block < w.heap.size := by
  rcases Nat.lt_or_ge a.block w.heap.size with hlt | hge
  · exact hlt
  · unfold World.cell? at h
    rw [Array.getElem?_eq_none hge] at h
    cases h
theorem xadd_plain (g o n : Nat) : (⟨g, o, none⟩ : Addr).add n = ⟨g, o + n, none⟩ := by
  unfold Addr.add
  split
  · rename_i h
    rw [h, Nat.add_zero]
  · rfl
/-- A list by its elements. -/
theorem xlist_of {α : Type} {p : Nat → α → Prop} : ∀ n : Nat, (∀ i, i < n → ∃ a, p i a) → ∃ l : List α, l.length = n ∧ ∀ i a, l[i]? = some a → p i a
  | 0, _ => ⟨[], rfl, fun i a h => by simp at h⟩
  | n + 1, h => by
    obtain ⟨l, hl, hp⟩ := xlist_of n (fun i hi => h i (by omega))
    obtain ⟨a, ha⟩ := h n (by omega)
    refine ⟨l ++ [a], by simp [hl], fun i b hb => ?_⟩
    rcases Nat.lt_or_ge i n with hi | hi
    · rw [List.getElem?_append_left (by omega)] at hb
      exact hp i b hb
    · rw [List.getElem?_append_right (by omega)] at hb
      have : i - l.length = 0 := by
        rcases Nat.eq_zero_or_pos (i - l.length) with h0 | h0
        · exact h0
        · rw [List.getElem?_eq_none (by simp; omega)] at hb
          cases hb
      rw [this] at hb
      injection hb with hb
      subst hb
      rw [show i = n by omega]
      exact ha

/-- All of a datum's weights are within the reach. -/
def Light (P : Program) (t : TypeId) (d : DataW H) : Prop := ∀ n ∈ d.weights P t, n ≤ reachBytes
/-- A list in memory: its elements stand side by side, each of k cells that read as R says. -/
def LView {α : Type} (k : Nat) (R : World → α → List Value → Prop) (w : World) (A : Option Addr) (al : List α) : Prop :=
  ∀ i a, al[i]? = some a → ∃ g o cs, A = some ⟨g, o, none⟩ ∧ g < w.heap.size ∧ cs.length = k ∧ R w a cs ∧ ∀ f u, cs[f]? = some u → w.cell? ⟨g, o + i * k + f, none⟩ = some u
theorem mem_weightsAllx {P : Program} {e : TypeId} : ∀ {l : List (DataW H)} {d : DataW H}, d ∈ l → ∀ n ∈ d.weights P e, n ∈ DataW.weightsAll P e l
  | x :: r, d, hd, n, hn => by
    rw [DataW.weightsAll, List.mem_append]
    rcases List.mem_cons.1 hd with rfl | hd
    · exact Or.inl hn
    · exact Or.inr (mem_weightsAllx hd n hn)
/-- A slice, by its elements. -/
theorem slice_open {α : Type} {P : Program} {ts te : TypeId} {k : Nat} (hu : P.underlying ts = some (.slice te)) (hk : P.cellsOf te = k) (hk0 : 0 < k) (R : World → α → List Value → Prop) (Sz : α → Prop)
    (hop : ∀ fuel cs x, DataW.trod enc P w base spare held fuel te cs = some x → cs.length = k → ∃ a, R w a cs ∧ (Light P te x.1 → Sz a))
    {fuel : Nat} {cs : List Value} {x : DataW H × List MemPlace} (h : DataW.trod enc P w base spare held fuel ts cs = some x) :
    ∃ (A : Option Addr) (cap : Nat) (al : List α), cs = [.slice A al.length cap] ∧ al.length ≤ cap ∧ cap ≤ maxLen ∧ LView k R w A al ∧ (al = [] → A = none ∨ True) ∧ (Light P ts x.1 → al.length * P.bytesOf te ≤ reachBytes ∧ ∀ a ∈ al, Sz a) := by
  rcases DataW.trod_slice hu h with ⟨rfl, rfl⟩ | ⟨a, len, cap, elems, rest, n, _, rfl, rfl, hb, hlc, hcm, hel, hat, _, _⟩
  · exact ⟨none, 0, [], rfl, Nat.le_refl _, by unfold maxLen; omega, fun i z hz => by simp at hz, fun _ => Or.inr trivial, fun _ => ⟨by simp, fun a ha => by cases ha⟩⟩
  · rw [hk] at hat
    have key : ∀ i, i < len → ∃ z : α, ∃ cs, cs.length = k ∧ R w z cs ∧ (∀ f u, cs[f]? = some u → w.cell? ((a.add (i * k)).add f) = some u) ∧ ∃ e, elems[i]? = some e ∧ (Light P te e.1 → Sz z) := by
      intro i hi
      have e := hat i hi
      have hil : i < elems.length := by omega
      rw [List.getElem?_eq_getElem hil] at e
      obtain ⟨cs, hcs, ht⟩ := Option.bind_eq_some_iff.1 e
      obtain ⟨_, hsz, hc⟩ := World.cells?_some hcs
      obtain ⟨z, hz, hz2⟩ := hop n cs _ ht hsz
      refine ⟨z, cs, hsz, hz, ?_, elems[i], List.getElem?_eq_getElem hil, hz2⟩
      intro f u hf
      have hfl : f < k := by have := (List.getElem?_eq_some_iff.1 hf).1; omega
      rw [hc f hfl, hf]
    obtain ⟨al, hl, hp⟩ := xlist_of len key
    refine ⟨some a, cap, al, by rw [hl], by omega, hcm, fun i z hz => ?_, fun _ => Or.inr trivial, fun hw => ⟨?_, fun z hz => ?_⟩⟩
    · obtain ⟨cs, hcl, hR, hc, _⟩ := hp i z hz
      have hil : i < len := by have := (List.getElem?_eq_some_iff.1 hz).1; omega
      obtain ⟨z0, cs0, hl0, _, hc0, _⟩ := key 0 (by omega)
      have k0 := hc0 0 (cs0[0]'(by omega)) (List.getElem?_eq_getElem (by omega))
      have hsp : a.spot = none := by
        rw [show (a.add (0 * k)).add 0 = a by rw [Nat.zero_mul]; rfl] at k0
        exact World.cell?_spot (a := a) k0
      obtain ⟨g, o, sp⟩ := a
      simp only at hsp
      subst hsp
      have ki := hc 0 (cs[0]'(by omega)) (List.getElem?_eq_getElem (by omega))
      rw [xadd_plain, xadd_plain] at ki
      refine ⟨g, o, cs, rfl, xcell_lt ki, hcl, hR, fun f u hf => ?_⟩
      have := hc f u hf
      rw [xadd_plain, xadd_plain] at this
      exact this
    · have := hw ((elems.length + rest.length) * P.bytesOf te) (by simp [DataW.weights, hu])
      refine Nat.le_trans (Nat.mul_le_mul_right _ ?_) this
      omega
    · obtain ⟨i, hi⟩ := List.mem_iff_getElem?.1 hz
      obtain ⟨cs, _, _, _, e, he, hs⟩ := hp i z hi
      refine hs (fun n hn => hw n ?_)
      rw [DataW.weights, hu]
      simp only []
      refine List.mem_cons_of_mem _ (List.mem_append_left _ (mem_weightsAllx (d := e.1) (List.mem_map.2 ⟨e, List.mem_of_getElem? he, rfl⟩) _ hn))
theorem string_open {P : Program} {t : TypeId} (hu : P.underlying t = some .string) : ∀ fuel cs x, DataW.trod enc P w base spare held fuel t cs = some x → cs.length = 1 → ∃ a : ByteArray, cs = [.string a] ∧ (Light P t x.1 → a.size ≤ reachBytes) := by
  intro fuel cs x h _
  obtain ⟨s, hs0, hs1, _⟩ := DataW.trod_string hu (x := x) h
  refine ⟨s, hs0, fun hl => ?_⟩
  have := hl s.data.toList.length (by rw [hs1]; simp [DataW.weights])
  simpa using this
theorem light_of {P : Program} {ts : List TypeId} {ds : List (DataW H)} (h : (DataW.weightsEach P ts ds).all (· ≤ reachBytes) = true) {j : Nat} {t : TypeId} {d : DataW H} (ht : ts[j]? = some t) (hj : ds[j]? = some d) : Light P t d := by
  intro n hn
  have := List.all_eq_true.1 h _ (DataW.weights_mem_each ht hj n hn)
  simpa using this
end
end Go.Proofs.YtpknablklencdaaGreatDoor
