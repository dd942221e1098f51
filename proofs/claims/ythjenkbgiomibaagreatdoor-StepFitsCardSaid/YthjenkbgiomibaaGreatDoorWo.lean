/-
  THE WALK of scan.Unquote, of reachref3.Unquote and of the law ScanUnquotes (chapter 3).
-/
import Derived.Test.YthjenkbgiomibaaGreatDoorPa
import Derived.Test.YthjenkbgiomibaaGreatDoorWk
import Derived.Test.YthjenkbgiomibaaGreatDoorWb
set_option linter.unusedVariables false
set_option linter.unusedSimpArgs false
set_option maxRecDepth 100000
set_option maxHeartbeats 4000000
namespace Go.Proofs.YthjenkbgiomibaaGreatDoor
open Go.RowKit

/-- A row of bytes lies in a slice of its length. -/
theorem own_slice {w : World} {B : Nat} {v : Value} {n : Nat} {xs : List Value} (h : w.ownsRowF B 5 1 v n xs) : ∃ o cap, v = .slice o n cap := by
  rcases h.2 with ⟨rfl, rfl⟩ | ⟨g, cap, cur, fz, rfl, hbg, _⟩
  · have := h.1
    simp at this
    subst this
    exact ⟨_, _, rfl⟩
  · exact ⟨_, _, rfl⟩
/-- Such a row's text. -/
theorem own_string {w : World} {B : Nat} {v : Value} {b : List UInt8} (h : w.ownsRowF B 5 1 v b.length (Lib.byteCells b)) :
    (convert 83 9 v).run Tryz.prog w = .ok (.string ⟨b.toArray⟩) w := by
  rcases h.2 with ⟨rfl, hx⟩ | ⟨g, cap, cur, fz, rfl, hbg, _⟩
  · have hb : b = [] := by
      exact List.length_eq_zero_iff.1 hx
    subst hb
    exact run_convert_bytes_nil (P := Tryz.prog) (w := w) 83 5 Tryz.underlying83 Tryz.underlying5 0 0 9 Tryz.underlying9
  · refine run_convert_bytes_back w 83 9 5 ⟨g, 0, none⟩ cap b Tryz.underlying83 Tryz.underlying5 Tryz.underlying9 ?_
    intro j hj
    refine (h.cells (g := g) rfl) j _ ?_
    simp [Lib.byteCells, hj]

/-- What Unquote hands back. -/
def UnqEnd (s : ByteArray) (W : World) (e : Ending) (w' : World) : Prop :=
  e = .returned (.tuple #[.string ⟨(Sp.unquoteV s.data.toList).1.toArray⟩, .int .i64 (Sp.unquoteV s.data.toList).2.1, .int .i64 (Sp.unquoteV s.data.toList).2.2]) ∧ Below W.heap.size W w'
theorem UnqEnd_of {s : ByteArray} {W w' : World} {c p : Nat} {b : List UInt8} (h : Sp.unquoteV s.data.toList = (b, c, p)) {x : ByteArray} {y z : Int} (hx : x = ⟨b.toArray⟩) (hy : y = c) (hz : z = p) (hb : Below W.heap.size W w') :
    UnqEnd s W (.returned (.tuple #[.string x, .int .i64 y, .int .i64 z])) w' := by
  subst hx; subst hy; subst hz
  unfold UnqEnd
  rw [h]
  exact ⟨rfl, hb⟩
theorem insR_zero (s : ByteArray) : insR s 0 = Sp.speakV false s.data.toList := by
  unfold insR Sp.speakV
  rw [Lib.size_eq]


theorem unq_long {l : List UInt8} (h : 16384 < l.length) : Sp.unquoteV l = ([], 2, 0) := by unfold Sp.unquoteV; rw [if_pos h]
theorem unq_head {l : List UInt8} (h : ¬ 16384 < l.length) (h2 : l.head? ≠ some 34) : Sp.unquoteV l = ([], 32, 0) := by unfold Sp.unquoteV; rw [if_neg h, if_pos h2]
theorem unq_rest {l : List UInt8} (h : ¬ 16384 < l.length) (h2 : l.head? = some 34) {c p : Nat} {b : List UInt8} (hs : Sp.speakV false l = (c, b, p)) :
    Sp.unquoteV l = if c ≠ 0 then ([], c, p) else if p < l.length then ([], 32, p) else if 256 < b.length then ([], 37, 0) else (b, 0, 0) := by
  unfold Sp.unquoteV
  rw [if_neg h, if_neg (by rw [h2]; simp)]
  simp only [hs]
theorem head_at (s : ByteArray) (h : 0 < s.size) : s.data.toList.head? = some (s[0]'h) := by
  have h2 := Sp.drop_cons s 0 h
  rw [List.drop_zero] at h2
  rw [h2]
  rfl
end Go.Proofs.YthjenkbgiomibaaGreatDoor
