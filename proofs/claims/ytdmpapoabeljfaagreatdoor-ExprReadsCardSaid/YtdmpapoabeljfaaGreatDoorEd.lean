/-
  Plain laws: the bounds of what a reader of expressions comes to (no program in sight; chapter 5).
-/
import Derived.Test.YtdmpapoabeljfaaGreatDoorEb
set_option linter.unusedVariables false
set_option linter.unusedSimpArgs false
set_option maxRecDepth 100000
set_option maxHeartbeats 2000000
namespace Go.Proofs.YtdmpapoabeljfaaGreatDoor
namespace Sp

theorem kd_lt {T : List Pt} {i : Nat} (h : kdAt T i ≠ 0) : i < T.length := by
  unfold kdAt at h
  split at h
  · rename_i t ht
    exact (List.getElem?_eq_some_iff.1 ht).1
  · exact absurd rfl h
theorem sg_lt {T : List Pt} {i : Nat} {s : List UInt8} (h : sgAt T i s = true) : i < T.length := by
  unfold sgAt at h
  split at h
  · rename_i t ht
    exact (List.getElem?_eq_some_iff.1 ht).1
  · cases h
theorem op_lt {T : List Pt} {i : Nat} (h : opAt T i ≠ 0) : i < T.length := by
  unfold opAt at h
  repeat' split at h
  all_goals first | exact absurd rfl h | (exact sg_lt (by assumption))
theorem num_lt {T : List Pt} {i v : Nat} (h : numAt T i = some v) : i < T.length := by
  unfold numAt at h
  split at h
  · rename_i hc
    exact kd_lt (by rw [hc.1]; decide)
  · cases h
/-- What a reader may come to. -/
def RdB (T : List Pt) (ns : List Nd) (m : Nat) : Rd → Prop
  | .bad c q => q ≤ T.length ∧ c ≤ 100 ∧ 0 < c
  | .ok q ns' m' => q ≤ T.length ∧ m' ≤ 64 ∧ m ≤ m' ∧ ns'.length + m = ns.length + m'
def Bnd (T : List Pt) (F : Nat → List Nd → Nat → Rd) : Prop := ∀ p ns m, p ≤ T.length → m ≤ 64 → RdB T ns m (F p ns m)

def TRB (T : List Pt) : TR → Prop
  | .bad q => q ≤ T.length
  | .ok q _ => q ≤ T.length
theorem test_bd (T : List Pt) (name : List UInt8) (p : Nat) (hp : p ≤ T.length) : TRB T (testV T name p) := by
  unfold testV
  split
  · exact hp
  · rename_i h0
    have h1 := op_lt h0
    split
    · rename_i h5
      have h2 := kd_lt (T := T) (i := p + 1) (by rw [h5.2]; decide)
      split
      · show p + 2 ≤ _
        omega
      · show p + 1 ≤ _
        omega
    · split
      · show p + 1 ≤ _
        omega
      · rename_i v hv
        have h2 := num_lt hv
        split
        · rename_i hs
          have h3 := sg_lt hs.2
          split
          · show p + 3 ≤ _
            omega
          · rename_i u hu
            have h4 := num_lt hu
            show p + 4 ≤ _
            omega
        · split
          · rename_i hs
            have h3 := sg_lt hs.2
            split
            · show p + 3 ≤ _
              omega
            · rename_i u hu
              have h4 := num_lt hu
              show p + 4 ≤ _
              omega
          · show p + 2 ≤ _
            omega
theorem leaf_bd (T : List Pt) : Bnd T (leafV T) := by
  intro p ns m hp hm
  unfold leafV
  split
  · rename_i hk
    have h1 := kd_lt (T := T) (i := p) (by rw [hk.1]; decide)
    split
    · exact ⟨hp, by omega, by omega⟩
    · split
      · refine ⟨by omega, by omega, by omega, ?_⟩
        simp only [List.length_append, List.length_singleton]
        omega
      · split
        · refine ⟨by omega, by omega, by omega, ?_⟩
          simp only [List.length_append, List.length_singleton]
          omega
        · have ht := test_bd T (txAt T p) (p + 1) (by omega)
          split
          · rename_i q hq
            rw [hq] at ht
            exact ⟨ht, by omega, by omega⟩
          · rename_i q n hq
            rw [hq] at ht
            refine ⟨ht, by omega, by omega, ?_⟩
            simp only [List.length_append, List.length_singleton]
            omega
  · exact ⟨hp, by omega, by omega⟩
theorem RdB.more {T : List Pt} {ns ns0 : List Nd} {m m0 : Nat} {r : Rd} (h : RdB T ns0 m0 r) (h1 : m ≤ m0) (h2 : ns0.length + m = ns.length + m0) : RdB T ns m r := by
  cases r with
  | bad c q => exact h
  | ok q ns' m' =>
    obtain ⟨a, b, c, d⟩ := h
    exact ⟨a, b, by omega, by omega⟩
theorem loop_bd {T : List Pt} {F : Nat → List Nd → Nat → Rd} (hF : Bnd T F) (s : List UInt8) (k : Int) : ∀ n, Bnd T (loopV T F s k n) := by
  intro n
  induction n with
  | zero =>
    intro p ns m hp hm
    unfold loopV
    split
    · exact ⟨hp, by omega, by omega⟩
    · exact ⟨hp, hm, by omega, rfl⟩
  | succ n ih =>
    intro p ns m hp hm
    unfold loopV
    split
    · rename_i hs
      have hlt := sg_lt hs
      split
      · exact ⟨hp, by omega, by omega⟩
      · have hf := hF (p + 1) ns (m + 1) (by omega) (by omega)
        split
        · rename_i c q hq
          rw [hq] at hf
          exact hf
        · rename_i q ns' m' hq
          rw [hq] at hf
          obtain ⟨a, b, c, d⟩ := hf
          exact (ih q (ns' ++ [nd k]) m' a b).more (by omega) (by simp only [List.length_append, List.length_singleton]; omega)
    · exact ⟨hp, hm, by omega, rfl⟩
theorem chain_bd {T : List Pt} {F : Nat → List Nd → Nat → Rd} (hF : Bnd T F) (s : List UInt8) (k : Int) : Bnd T (chainV T F s k) := by
  intro p ns m hp hm
  have hf := hF p ns m hp hm
  unfold chainV
  split
  · rename_i c q hq
    rw [hq] at hf
    exact hf
  · rename_i q ns' m' hq
    rw [hq] at hf
    obtain ⟨a, b, c, d⟩ := hf
    exact (loop_bd hF s k (64 - m') q ns' m' a b).more c d
theorem or_bd {T : List Pt} {F : Nat → List Nd → Nat → Rd} (hF : Bnd T F) : Bnd T (orV T F) := chain_bd (chain_bd hF _ _) _ _
theorem fac_bd (T : List Pt) : ∀ d, Bnd T (facV T d) := by
  intro d
  induction d with
  | zero =>
    intro p ns m hp hm
    unfold facV
    split
    · exact ⟨hp, by omega, by omega⟩
    · split
      · exact ⟨hp, by omega, by omega⟩
      · exact leaf_bd T p ns m hp hm
  | succ d ih =>
    intro p ns m hp hm
    unfold facV
    split
    · rename_i hs
      have hlt := sg_lt hs
      split
      · exact ⟨hp, by omega, by omega⟩
      · have hf := ih (p + 1) ns (m + 1) (by omega) (by omega)
        split
        · rename_i c q hq
          rw [hq] at hf
          exact hf
        · rename_i q ns' m' hq
          rw [hq] at hf
          obtain ⟨a, b, c, e⟩ := hf
          refine ⟨a, b, by omega, ?_⟩
          simp only [List.length_append, List.length_singleton]
          omega
    · split
      · rename_i hs
        have hlt := sg_lt hs
        have hf := or_bd ih (p + 1) ns m (by omega) hm
        split
        · rename_i c q hq
          rw [hq] at hf
          exact hf
        · rename_i q ns' m' hq
          rw [hq] at hf
          obtain ⟨a, b, c, e⟩ := hf
          split
          · rename_i hs2
            have := sg_lt hs2
            exact ⟨by omega, b, c, e⟩
          · exact ⟨a, by omega, by omega⟩
      · exact leaf_bd T p ns m hp hm
theorem read_bd (T : List Pt) (p : Nat) (hp : p ≤ T.length) : RdB T [] 0 (readV T p) := or_bd (fac_bd T 32) p [] 0 hp (by omega)
end Sp
end Go.Proofs.YtdmpapoabeljfaaGreatDoor
