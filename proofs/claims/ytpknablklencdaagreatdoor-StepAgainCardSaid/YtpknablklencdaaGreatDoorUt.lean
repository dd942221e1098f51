/-
  The network of reachlaw10.tiny is a network; what step.Next tells of it (chapter 10; no program in sight).
-/
import Derived.Test.YtpknablklencdaaGreatDoorMs
set_option linter.unusedVariables false
set_option linter.unusedSimpArgs false
set_option maxRecDepth 100000
namespace Go.Proofs.YtpknablklencdaaGreatDoor
open Go.RowKit
namespace Sp
def tinyN : Net where
  bits := 1
  ports := [⟨⟨#[82, 46, 97]⟩, 0, true, -1⟩, ⟨⟨#[82, 46, 98]⟩, 0, false, 0⟩]
  tables := [[⟨⟨#[101]⟩, [0], [⟨#[120]⟩], ⟨#[48]⟩, [1]⟩]]
  guards := [[], []]
def tinyH : ByteArray := ⟨#[49]⟩
theorem tiny_two {α : Type} {a b x : α} {i : Nat} (h : [a, b][i]? = some x) : (i = 0 ∧ x = a) ∨ (i = 1 ∧ x = b) := by
  match i, h with
  | 0, h => simp at h; exact Or.inl ⟨rfl, h.symm⟩
  | 1, h => simp at h; exact Or.inr ⟨rfl, h.symm⟩
  | i + 2, h => simp at h
theorem tiny_one {α : Type} {a x : α} {i : Nat} (h : [a][i]? = some x) : i = 0 ∧ x = a := by
  match i, h with
  | 0, h => simp at h; exact ⟨rfl, h.symm⟩
  | i + 1, h => simp at h
theorem tiny_tok1 : TokenOk ⟨#[82, 46, 97]⟩ := ⟨by decide, by decide, by decide, by decide, (1, [10], 1, 4), 1, 1, by decide⟩
theorem tiny_tok2 : TokenOk ⟨#[82, 46, 98]⟩ := ⟨by decide, by decide, by decide, by decide, (1, [10], 1, 4), 1, 1, by decide⟩
theorem tiny_ports : PortsOk tinyN := by
  intro i p hp
  rcases tiny_two hp with ⟨rfl, rfl⟩ | ⟨rfl, rfl⟩
  · exact ⟨tiny_tok1, by decide, Or.inl rfl, fun j r hj => absurd hj (by omega)⟩
  · refine ⟨tiny_tok2, by decide, Or.inr ⟨rfl, by decide, _, rfl, rfl⟩, fun j r hj hr => ?_⟩
    rcases tiny_two hr with ⟨rfl, rfl⟩ | ⟨rfl, rfl⟩
    · intro e
      exact absurd (congrArg (fun b : ByteArray => b.data.toList) e) (by decide)
    · omega
theorem tiny_guards : GuardsOk tinyN := by
  refine ⟨by decide, fun g hg => ?_⟩
  have : g = [] := by
    rcases List.mem_cons.1 hg with h | h
    · exact h
    · rcases List.mem_cons.1 h with h | h
      · exact h
      · cases h
  subst this
  exact ⟨by decide, fun l hl => by cases hl⟩
theorem tiny_cubes : CubesOk 1 [⟨#[120]⟩] := by
  refine ⟨by decide, fun c hc => ?_⟩
  obtain rfl : c = ⟨#[120]⟩ := by simpa using hc
  exact ⟨by decide, by decide⟩
theorem tiny_entry : EntryOk tinyN 0 ⟨⟨#[101]⟩, [0], [⟨#[120]⟩], ⟨#[48]⟩, [1]⟩ where
  name := by decide
  nouts := by decide
  cubes := tiny_cubes
  word := ⟨by decide, by decide⟩
  ins := fun i p hp => by
    obtain ⟨rfl, rfl⟩ := tiny_one hp
    exact ⟨⟨by decide, _, rfl, rfl, rfl⟩, fun p' h0 => absurd h0 (by omega)⟩
  outs := fun i q hq => by
    obtain ⟨rfl, rfl⟩ := tiny_one hq
    exact ⟨⟨by decide, _, rfl, rfl, rfl⟩, fun j hj => absurd hj (by omega)⟩
theorem tiny_tables : TablesOk tinyN := by
  refine ⟨by decide, fun b t ht => ?_⟩
  obtain ⟨rfl, rfl⟩ := tiny_one ht
  refine ⟨by decide, fun e he => ?_⟩
  obtain rfl : e = ⟨⟨#[101]⟩, [0], [⟨#[120]⟩], ⟨#[48]⟩, [1]⟩ := by simpa using he
  exact tiny_entry
theorem tiny_ok : NetOk tinyN where
  bits := by decide
  ntables := by decide
  nports := by decide
  nguards := rfl
  ports := tiny_ports
  guards := tiny_guards
  tables := tiny_tables
theorem tiny_state : StateOk tinyN 0 tinyH where
  port := by decide
  bits := by decide
  digits := fun i c hc => by
    obtain ⟨rfl, rfl⟩ := tiny_one (a := (49 : UInt8)) hc
    exact Or.inr rfl
theorem tiny_check : checkE tinyN 0 tinyH = 0 := by unfold checkE; rw [tb_yes tiny_ok, tb_yes tiny_state]; rfl
theorem tiny_entryV : entryV tinyN 0 tinyH = 0 := by decide
theorem tiny_states : stV (movesV tinyN 0 tinyH) = [(1, ⟨#[48]⟩), (0, ⟨#[48]⟩)] := by rfl
theorem tiny_szd : Szd tinyN where
  np := by decide
  nt := by decide
  ng := by decide
  ports := fun p hp => by
    rcases List.mem_cons.1 hp with h | h
    · subst h; decide
    · rcases List.mem_cons.1 h with h | h
      · subst h; decide
      · cases h
  guards := fun g hg => by
    have : g = [] := by
      rcases List.mem_cons.1 hg with h | h
      · exact h
      · rcases List.mem_cons.1 h with h | h
        · exact h
        · cases h
    subst this
    exact ⟨by decide, fun l hl => by cases hl⟩
  tables := fun t ht => by
    obtain rfl : t = [⟨⟨#[101]⟩, [0], [⟨#[120]⟩], ⟨#[48]⟩, [1]⟩] := by
      rcases List.mem_cons.1 ht with h | h
      · exact h
      · cases h
    refine ⟨by decide, fun e he => ?_⟩
    obtain rfl : e = ⟨⟨#[101]⟩, [0], [⟨#[120]⟩], ⟨#[48]⟩, [1]⟩ := by
      rcases List.mem_cons.1 he with h | h
      · exact h
      · cases h
    refine ⟨by decide, by decide, by decide, by decide, by decide, fun s hs => ?_⟩
    obtain rfl : s = ⟨#[120]⟩ := by
      rcases List.mem_cons.1 hs with h | h
      · exact h
      · cases h
    decide
end Sp
end Go.Proofs.YtpknablklencdaaGreatDoor
