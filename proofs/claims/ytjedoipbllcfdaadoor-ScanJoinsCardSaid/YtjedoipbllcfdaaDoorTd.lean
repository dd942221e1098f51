/-
  What the walk of the machine's run stands on (chapter 3).
-/
import Derived.Test.YtjedoipbllcfdaaDoorTb
import Derived.Test.YtjedoipbllcfdaaDoorSj
import Derived.Test.YtjedoipbllcfdaaDoorWn
set_option linter.unusedVariables false
set_option linter.unusedSimpArgs false
set_option maxRecDepth 100000
set_option maxHeartbeats 4000000
namespace Go.Proofs.YtjedoipbllcfdaaDoor
open Go.RowKit

/-- The frame of run at its labels. -/
def RunF (N : Nat) (a : Act) : Prop := ∃ (u3 u4 u5 u6 u7 u8 u9 u10 u11 u12 u13 u14 u15 u16 u17 u18 u19 u20 u21 u22 u23 u24 u25 u26 u27 u28 u29 u30 u31 u32 u33 u34 u35 u36 u37 u38 u39 u40 u41 u42 u43 u44 u45 u46 u47 u48 u49 u50 u51 u52 u53 u54 u55 u56 u57 u58 u59 u60 u61 u62 u63 u64 u65 u66 u67 u68 u69 u70 u71 u72 u73 u74 u75 u76 u77 u78 u79 u80 u81 u82 u83 u84 u85 : Value), a = { tmps := #[.pointer (some ⟨N, 0, none⟩), undef, .int .i64 0, u3, u4, u5, u6, u7, u8, u9, u10, u11, u12, u13, u14, u15, u16, u17, u18, u19, u20, u21, u22, u23, u24, u25, u26, u27, u28, u29, u30, u31, u32, u33, u34, u35, u36, u37, u38, u39, u40, u41, u42, u43, u44, u45, u46, u47, u48, u49, u50, u51, u52, u53, u54, u55, u56, u57, u58, u59, u60, u61, u62, u63, u64, u65, u66, u67, u68, u69, u70, u71, u72, u73, u74, u75, u76, u77, u78, u79, u80, u81, u82, u83, u84, u85], defers := [] }
theorem RunF_mk {N : Nat} {u3 u4 u5 u6 u7 u8 u9 u10 u11 u12 u13 u14 u15 u16 u17 u18 u19 u20 u21 u22 u23 u24 u25 u26 u27 u28 u29 u30 u31 u32 u33 u34 u35 u36 u37 u38 u39 u40 u41 u42 u43 u44 u45 u46 u47 u48 u49 u50 u51 u52 u53 u54 u55 u56 u57 u58 u59 u60 u61 u62 u63 u64 u65 u66 u67 u68 u69 u70 u71 u72 u73 u74 u75 u76 u77 u78 u79 u80 u81 u82 u83 u84 u85 : Value} : RunF N { tmps := #[.pointer (some ⟨N, 0, none⟩), undef, .int .i64 0, u3, u4, u5, u6, u7, u8, u9, u10, u11, u12, u13, u14, u15, u16, u17, u18, u19, u20, u21, u22, u23, u24, u25, u26, u27, u28, u29, u30, u31, u32, u33, u34, u35, u36, u37, u38, u39, u40, u41, u42, u43, u44, u45, u46, u47, u48, u49, u50, u51, u52, u53, u54, u55, u56, u57, u58, u59, u60, u61, u62, u63, u64, u65, u66, u67, u68, u69, u70, u71, u72, u73, u74, u75, u76, u77, u78, u79, u80, u81, u82, u83, u84, u85], defers := [] } := ⟨_, _, _, _, _, _, _, _, _, _, _, _, _, _, _, _, _, _, _, _, _, _, _, _, _, _, _, _, _, _, _, _, _, _, _, _, _, _, _, _, _, _, _, _, _, _, _, _, _, _, _, _, _, _, _, _, _, _, _, _, _, _, _, _, _, _, _, _, _, _, _, _, _, _, _, _, _, _, _, _, _, _, _, rfl⟩
theorem RunF_wp {N : Nat} {c : Code} {P : Program} {Q : Exit → Act → World → Prop} {w : World} (h : ∀ u3 u4 u5 u6 u7 u8 u9 u10 u11 u12 u13 u14 u15 u16 u17 u18 u19 u20 u21 u22 u23 u24 u25 u26 u27 u28 u29 u30 u31 u32 u33 u34 u35 u36 u37 u38 u39 u40 u41 u42 u43 u44 u45 u46 u47 u48 u49 u50 u51 u52 u53 u54 u55 u56 u57 u58 u59 u60 u61 u62 u63 u64 u65 u66 u67 u68 u69 u70 u71 u72 u73 u74 u75 u76 u77 u78 u79 u80 u81 u82 u83 u84 u85 : Value, c.wp P Q { tmps := #[.pointer (some ⟨N, 0, none⟩), undef, .int .i64 0, u3, u4, u5, u6, u7, u8, u9, u10, u11, u12, u13, u14, u15, u16, u17, u18, u19, u20, u21, u22, u23, u24, u25, u26, u27, u28, u29, u30, u31, u32, u33, u34, u35, u36, u37, u38, u39, u40, u41, u42, u43, u44, u45, u46, u47, u48, u49, u50, u51, u52, u53, u54, u55, u56, u57, u58, u59, u60, u61, u62, u63, u64, u65, u66, u67, u68, u69, u70, u71, u72, u73, u74, u75, u76, u77, u78, u79, u80, u81, u82, u83, u84, u85], defers := [] } w) : ∀ a, RunF N a → c.wp P Q a w := by
  rintro a ⟨u3, u4, u5, u6, u7, u8, u9, u10, u11, u12, u13, u14, u15, u16, u17, u18, u19, u20, u21, u22, u23, u24, u25, u26, u27, u28, u29, u30, u31, u32, u33, u34, u35, u36, u37, u38, u39, u40, u41, u42, u43, u44, u45, u46, u47, u48, u49, u50, u51, u52, u53, u54, u55, u56, u57, u58, u59, u60, u61, u62, u63, u64, u65, u66, u67, u68, u69, u70, u71, u72, u73, u74, u75, u76, u77, u78, u79, u80, u81, u82, u83, u84, u85, rfl⟩
  exact h u3 u4 u5 u6 u7 u8 u9 u10 u11 u12 u13 u14 u15 u16 u17 u18 u19 u20 u21 u22 u23 u24 u25 u26 u27 u28 u29 u30 u31 u32 u33 u34 u35 u36 u37 u38 u39 u40 u41 u42 u43 u44 u45 u46 u47 u48 u49 u50 u51 u52 u53 u54 u55 u56 u57 u58 u59 u60 u61 u62 u63 u64 u65 u66 u67 u68 u69 u70 u71 u72 u73 u74 u75 u76 u77 u78 u79 u80 u81 u82 u83 u84 u85
def labClass (l : Nat) : Nat := if l = 0 then 1 else if l = 1 then 3 else if l = 2 then 2 else if l = 3 then 4 else 0
/-- So far the machine has come: what is to come makes the whole's answer. -/
def RunI (s : ByteArray) (p line col : Nat) (op : Bool) (acc : List Sp.Tok) : Prop :=
  p ≤ s.size ∧ line ≤ p + 1 ∧ col ≤ p + 1 ∧ acc.length ≤ p ∧ Sp.runV (s.data.toList.drop p) line col op acc = Sp.runV s.data.toList 1 1 false []
def RunJ (W0 : World) (N : Nat) (s : ByteArray) (l : Nat) (a : Act) (w : World) : Prop :=
  RunF N a ∧ ∃ p line col op acc, MSt W0 N s p line col op acc w ∧ RunI s p line col op acc ∧ (l = 4 ∨ Sp.classV (s.data.toList.drop p) = labClass l)
/-- Where the machine stands. -/
def machAt (N : Nat) (w : World) : Nat := match w.cell? ⟨N, 1, none⟩ with | some (.int _ n) => n.toNat | _ => 0
theorem machAt_of {W0 : World} {N : Nat} {s : ByteArray} {p line col : Nat} {op : Bool} {acc : List Sp.Tok} {w : World} (h : MSt W0 N s p line col op acc w) : machAt N w = p := by
  obtain ⟨tv, hm, _, _⟩ := h
  have : w.cell? ⟨N, 1, none⟩ = some (.int .i64 p) := hm.cell 1
  unfold machAt
  rw [this]
  simp
/-- What run hands back. -/
def RunEnd (W0 : World) (N : Nat) (s : ByteArray) (e : Ending) (w : World) : Prop :=
  e = .returned (.int .i64 ((Sp.runV s.data.toList 1 1 false []).2.1 : Nat)) ∧ ∃ p line col op acc, MSt W0 N s p line col op acc w ∧
    ((Sp.runV s.data.toList 1 1 false []).2.1 = 0 → acc = (Sp.runV s.data.toList 1 1 false []).1) ∧ ((Sp.runV s.data.toList 1 1 false []).2.1 ≠ 0 → (Sp.runV s.data.toList 1 1 false []).2.2 = (line, col))

def runMu (s : ByteArray) (N l : Nat) (w : World) : Nat := if l = 4 then 2 * (s.size + 1 - machAt N w) + 1 else 2 * (s.size + 1 - machAt N w)
theorem runMu_lt {s : ByteArray} {N : Nat} (l l' p k : Nat) {w w' : World} (h1 : (l ≠ 4 ∧ 0 < k) ∨ (l = 4 ∧ (0 < k ∨ l' ≠ 4))) (h2 : p + k ≤ s.size + 1) (h3 : p ≤ s.size) (h4 : machAt N w = p) (h5 : machAt N w' = p + k) : runMu s N l' w' < runMu s N l w := by
  unfold runMu
  rw [h4, h5]
  split <;> split <;> omega
theorem endT_le (op : Bool) (acc : List Sp.Tok) (line col : Nat) : (Sp.endT op acc line col).length ≤ acc.length + 1 := by
  unfold Sp.endT
  cases op <;> simp

theorem mst_drew {W0 w : World} {N : Nat} {s : ByteArray} {p line col : Nat} {op : Bool} {acc : List Sp.Tok} (h : MSt W0 N s p line col op acc w) : MSt W0 N s p line col op acc w.drew := by
  obtain ⟨tv, h1, h2, h3⟩ := h
  exact ⟨tv, h1, h2, h3.drew⟩
theorem mst_drewN {W0 w : World} {N : Nat} {s : ByteArray} {p line col : Nat} {op : Bool} {acc : List Sp.Tok} (h : MSt W0 N s p line col op acc w) (n : Nat) : MSt W0 N s p line col op acc (w.drewN n) := by
  obtain ⟨tv, h1, h2, h3⟩ := h
  exact ⟨tv, h1, h2, below_drewN' h3 n⟩
theorem ownsRow_below {w w' : World} {B : Nat} {e : TypeId} {size : Nat} {v : Value} {n : Nat} {xs : List Value} (h : w.ownsRow B e size v n xs) (hb : Below w.heap.size w w') : w'.ownsRow B e size v n xs := by
  refine World.ownsRow.kept h (only_of_below hb none) ?_
  cases hv : v.ownBlock with
  | none => exact Or.inl rfl
  | some k => exact Or.inr (by simp)
theorem mst_below {W0 w w' : World} {N : Nat} {s : ByteArray} {p line col : Nat} {op : Bool} {acc : List Sp.Tok} (h : MSt W0 N s p line col op acc w) (hb : Below w.heap.size w w') : MSt W0 N s p line col op acc w' := by
  obtain ⟨tv, h1, h2, h3⟩ := h
  exact ⟨tv, h1.below hb h1.lt, ownsRow_below h2 hb, h3.trans (hb.mono (by have := h1.lt; omega))⟩
theorem mst_lt {W0 w : World} {N : Nat} {s : ByteArray} {p line col : Nat} {op : Bool} {acc : List Sp.Tok} (h : MSt W0 N s p line col op acc w) : N < w.heap.size := by
  obtain ⟨tv, h1, h2, h3⟩ := h
  exact h1.lt
theorem mst_cells {W0 w : World} {N : Nat} {s : ByteArray} {p line col : Nat} {op : Bool} {acc : List Sp.Tok} (h : MSt W0 N s p line col op acc w) : w.cell? ⟨N, 0, none⟩ = some (.string s) ∧ w.cell? ⟨N, 1, none⟩ = some (.int .i64 p) := by
  obtain ⟨tv, h1, h2, h3⟩ := h
  exact ⟨h1.cell 0, h1.cell 1⟩
theorem mst_gs {W0 w : World} {N : Nat} {s : ByteArray} {p line col : Nat} {op : Bool} {acc : List Sp.Tok} (h : MSt W0 N s p line col op acc w) (hG : Gs W0) (hN : W0.heap.size = N) : Gs w := by
  obtain ⟨tv, h1, h2, h3⟩ := h
  subst hN
  exact hG.below h3
/-- Inside a comment. -/
theorem com_in {l : List UInt8} {j : Nat} (h : j < Sp.comV l) : ∃ h2 : j < l.length, l[j]'h2 ≠ 10 := by
  have h2 : j < l.length := Nat.lt_of_lt_of_le h (Sp.comV_le l)
  refine ⟨h2, ?_⟩
  have := Sp.takeWhile_bt (fun x => decide (x ≠ 10)) l j h
  rw [List.getD_eq_getElem?_getD, List.getElem?_eq_getElem h2] at this
  simpa using this
theorem com_end {l : List UInt8} (h : Sp.comV l < l.length) : l[Sp.comV l]'h = 10 := by
  have := Sp.tw_stop (fun x => decide (x ≠ 10)) l h
  rw [List.getD_eq_getElem?_getD] at this
  have e : (l.takeWhile (fun x => decide (x ≠ 10))).length = Sp.comV l := rfl
  rw [e, List.getElem?_eq_getElem h] at this
  simpa using this
end Go.Proofs.YtjedoipbllcfdaaDoor
