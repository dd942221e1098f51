/-
  What stands side by side in the law ScanIsNew, loop by loop (chapter 3).
-/
import Derived.Test.YtgikgppblkpojaaDoorIb
import Derived.Laws.MakeOwn
set_option linter.unusedVariables false
set_option linter.unusedSimpArgs false
set_option maxRecDepth 100000
set_option maxHeartbeats 4000000
namespace Go.Proofs.YtgikgppblkpojaaDoor
open Go.RowKit

def z0 : ZTok := (0, ⟨#[]⟩, 0, 0)
def zeroCs : Array Value := #[.int .i64 0, .string ⟨#[]⟩, .int .i64 0, .int .i64 0]
theorem made_cells (m : Nat) : (madeCells zeroCs (m * 4)).toList = (List.replicate m z0).flatMap tc := by
  apply List.ext_getElem?
  intro i
  rcases Nat.lt_or_ge i (m * 4) with hi | hi
  · have h4 : i = i / 4 * 4 + i % 4 := by omega
    have h1 : (List.replicate m z0)[i / 4]? = some z0 := by rw [List.getElem?_replicate, if_pos (by omega)]
    have h2 := tcs_get (List.replicate m z0) (i / 4) z0 (i % 4) h1 (by omega)
    rw [← h4] at h2
    rw [h2]
    unfold madeCells
    rw [Array.getElem?_toList, Array.getElem?_map, Array.getElem?_range, if_pos hi]
    rcases (show i % 4 = 0 ∨ i % 4 = 1 ∨ i % 4 = 2 ∨ i % 4 = 3 by omega) with h | h | h | h
    all_goals
      simp only [Option.map_some]
      rw [show i % zeroCs.size = i % 4 from rfl, h]
      rfl
  · rw [List.getElem?_eq_none (by rw [Array.length_toList, size_madeCells]; omega), List.getElem?_eq_none (by rw [tcs_len, List.length_replicate]; omega)]
theorem trow_made (w : World) (m : Nat) (hm : m ≤ 1000000) : TRow (w.alloc (.cells (madeCells zeroCs (m * 4)) 29)) w.heap.size (.slice (some ⟨w.heap.size, 0, none⟩) m m) (List.replicate m z0) := by
  have h := World.ownsRow_lit (base := w.heap.size) (e := 29) (size := 4) w (madeCells zeroCs (m * 4)) m (Nat.le_refl _) (by unfold maxLen; omega) (size_madeCells _ _)
  unfold TRow
  rw [List.length_replicate, ← made_cells]
  exact h
theorem tokinfo : (Tryd.prog.info? 29).map (fun i => (i.zero, i.size, i.bytes)) = some (some (.agg #[.int .i64 0, .string ⟨#[]⟩, .int .i64 0, .int .i64 0]), 4, 40) := by kernel_rfl
theorem run_mk_toks (kl kc : IntKind) (n : Nat) (h : n ≤ 4398046511104) (w : World) :
    (Instr.makeSlice 23 (.int kl (n : Nat)) (.int kc (n : Nat))).run Tryd.prog w = .ok (.slice (some ⟨w.heap.size, 0, none⟩) n n) (w.alloc (.cells (madeCells zeroCs (n * 4)) 29)) := by
  obtain ⟨i, hi, hz, h4, h40⟩ := info_parts tokinfo
  have hb : (i.bytes : Int) * (n : Int) ≤ 281474976710656 := by rw [h40]; omega
  have hr := run_make (P := Tryd.prog) w 23 29 i _ Tryd.underlying23 hi hz kl kc n n (by omega) (by omega) hb (by omega)
  simp only [Int.toNat_natCast, h4] at hr
  exact hr

/-- Strings that came in. -/
def SView (w : World) (H : Nat) (A : Option Addr) (ss : List ByteArray) : Prop :=
  ∀ i s, ss[i]? = some s → ∃ g o, A = some ⟨g, o, none⟩ ∧ g < H ∧ w.cell? ⟨g, o + i, none⟩ = some (.string s)
theorem SView.below {w w' : World} {H B : Nat} {A : Option Addr} {ss : List ByteArray} (h : SView w H A ss) (hb : Below B w w') (hH : H ≤ B) : SView w' H A ss := by
  intro i s hs
  obtain ⟨g, o, h1, h2, h3⟩ := h i s hs
  exact ⟨g, o, h1, h2, (hb.cell (p := ⟨g, o + i, none⟩) (by show g < B; omega)).trans h3⟩
/-- The tokens of a text. -/
def tks (s : ByteArray) : List ZTok := (Sp.scanV s.data.toList).1.map zOf
theorem tks_len (s : ByteArray) : (tks s).length ≤ 16385 := by
  unfold tks
  rw [List.length_map]
  rcases Nat.lt_or_ge 16384 s.data.toList.length with h | h
  · have : Sp.scanV s.data.toList = ([], 2, 0, 0) := by unfold Sp.scanV; rw [if_pos h]
    rw [this]
    simp
  · have := (Sp.scanV_bound s.data.toList h).1
    omega
/-- Scan: new tokens. -/
theorem scan_new (s : ByteArray) (w : World) (hG : Gs w) (hs : s.size ≤ 9223372036854775807) :
    Calls Tryd.prog 4 #[.string s] w fun e w' => ∃ A cap c n m, e = .returned (.tuple #[.slice A (tks s).length cap, .int .i64 c, .int .i64 n, .int .i64 m]) ∧ TRow w' w.heap.size (.slice A (tks s).length cap) (tks s) ∧ Below w.heap.size w w' := by
  refine (scan_scan s w hG hs).mono ?_
  rintro e w' ⟨tv, rfl, ht, hb⟩
  have h := trow_of_toks ht
  obtain ⟨A, cap, rfl, _⟩ := trow_form h
  exact ⟨A, cap, _, _, _, rfl, h, hb⟩
theorem trow_mono {w : World} {B B' : Nat} {v : Value} {zs : List ZTok} (h : TRow w B v zs) (hb : B' ≤ B) : TRow w B' v zs := by
  refine ⟨h.1, ?_⟩
  rcases h.2 with h1 | ⟨g, cap, cur, hv, h1, h2⟩
  · exact Or.inl h1
  · exact Or.inr ⟨g, cap, cur, hv, by omega, h2⟩

/-- Behind i rounds of the first loop: the lists and their copies, by turns. -/
def P1 (T : Nat → List ZTok) (L : List It) (l1 l2 : List Value) (i : Nat) : Prop :=
  L.length = 2 * i ∧ l1.length = i ∧ l2.length = i ∧ ∀ j, j < i → ∃ A c h, l1[j]? = some (.slice A (T j).length c) ∧ L[2 * j]? = some (.one (.slice A (T j).length c) (T j)) ∧ l2[j]? = some (.slice (some ⟨h, 0, none⟩) (T j).length (T j).length) ∧ L[2 * j + 1]? = some (.one (.slice (some ⟨h, 0, none⟩) (T j).length (T j).length) (T j))
theorem P1_nil (T : Nat → List ZTok) : P1 T [] [] [] 0 := ⟨rfl, rfl, rfl, fun j h => by omega⟩
theorem P1_step {T : Nat → List ZTok} {L : List It} {l1 l2 : List Value} {i : Nat} (h : P1 T L l1 l2 i) (A : Option Addr) (c g : Nat) :
    P1 T (L ++ [.one (.slice A (T i).length c) (T i)] ++ [.one (.slice (some ⟨g, 0, none⟩) (T i).length (T i).length) (T i)]) (l1 ++ [.slice A (T i).length c]) (l2 ++ [.slice (some ⟨g, 0, none⟩) (T i).length (T i).length]) (i + 1) := by
  obtain ⟨h1, h2, h3, h4⟩ := h
  refine ⟨by simp; omega, by simp; omega, by simp; omega, fun j hj => ?_⟩
  rcases Nat.lt_or_ge j i with hji | hji
  · obtain ⟨A', c', g', a1, a2, a3, a4⟩ := h4 j hji
    refine ⟨A', c', g', ?_, ?_, ?_, ?_⟩
    · rw [List.getElem?_append_left (by omega)]; exact a1
    · rw [List.append_assoc, List.getElem?_append_left (by omega)]; exact a2
    · rw [List.getElem?_append_left (by omega)]; exact a3
    · rw [List.append_assoc, List.getElem?_append_left (by omega)]; exact a4
  · obtain rfl : j = i := by omega
    refine ⟨A, c, g, ?_, ?_, ?_, ?_⟩
    · rw [List.getElem?_append_right (by omega), h2]; simp
    · rw [List.append_assoc, List.getElem?_append_right (by omega), h1]; simp
    · rw [List.getElem?_append_right (by omega), h3]; simp
    · rw [List.append_assoc, List.getElem?_append_right (by omega), h1, show 2 * j + 1 - 2 * j = 1 by omega]; rfl

theorem at1 (a b c x y : It) (L : List It) : (a :: b :: c :: (L ++ [x] ++ [y]))[L.length + 3]? = some x := by
  rw [List.getElem?_cons_succ, List.getElem?_cons_succ, List.getElem?_cons_succ, List.append_assoc, List.getElem?_append_right (Nat.le_refl _), Nat.sub_self]
  rfl
theorem at2 (a b c x y : It) (L : List It) : (a :: b :: c :: (L ++ [x] ++ [y]))[L.length + 4]? = some y := by
  rw [List.getElem?_cons_succ, List.getElem?_cons_succ, List.getElem?_cons_succ, List.append_assoc, List.getElem?_append_right (by omega), show L.length + 1 - L.length = 1 by omega]
  rfl
theorem set2 (a b c x y y' : It) (L : List It) : (a :: b :: c :: (L ++ [x] ++ [y])).set (L.length + 4) y' = a :: b :: c :: (L ++ [x] ++ [y']) := by
  rw [List.set_cons_succ, List.set_cons_succ, List.set_cons_succ, List.set_append_right _ _ (by simp), show L.length + 1 - (L ++ [x]).length = 0 by simp]
  rfl
/-- Four cells of one block. -/
theorem four_grown (w : World) (g a : Nat) (u1 u2 u3 u4 : Value) : w.grownBy ((((w.setCell ⟨g, a, none⟩ u1).setCell ⟨g, a + 1, none⟩ u2).setCell ⟨g, a + 2, none⟩ u3).setCell ⟨g, a + 3, none⟩ u4) (some g) :=
  only_setCell (only_setCell (only_setCell (only_setCell (World.grownBy.refl w _) (p := ⟨g, a, none⟩) (Or.inl rfl) _) (p := ⟨g, a + 1, none⟩) (Or.inl rfl) _) (p := ⟨g, a + 2, none⟩) (Or.inl rfl) _) (p := ⟨g, a + 3, none⟩) (Or.inl rfl) _
theorem full_eq {ws zs : List ZTok} {m : Nat} (h1 : ws.length = m) (h2 : zs.length = m) (h : ∀ j, j < m → ws[j]? = zs[j]?) : ws = zs := by
  apply List.ext_getElem?
  intro j
  rcases Nat.lt_or_ge j m with hj | hj
  · exact h j hj
  · rw [List.getElem?_eq_none (by omega), List.getElem?_eq_none (by omega)]
/-- A row of a family, to be read and written. -/
theorem trow_open {w : World} {B n cap : Nat} {A : Option Addr} {zs : List ZTok} (h : TRow w B (.slice A n cap) zs) (hp : 0 < n) : ∃ g, A = some ⟨g, 0, none⟩ := by
  obtain ⟨A', cap', hv, h1, h2⟩ := trow_form h
  injection hv with hA hn _
  subst hA
  cases A with
  | none => rw [h2 rfl] at hn; simp at hn; omega
  | some a => obtain ⟨g, rfl⟩ := h1 a rfl; exact ⟨g, rfl⟩
end Go.Proofs.YtgikgppblkpojaaDoor
