/-
  THE WALK of scan.Scan (chapter 3).
-/
import Derived.Test.YtjedoipbllcfdaaDoorTe
import Derived.Deep.QuietTactic
import Derived.BigQuiet
set_option linter.unusedVariables false
set_option linter.unusedSimpArgs false
set_option maxRecDepth 100000
set_option maxHeartbeats 2000000
namespace Go.Proofs.YtjedoipbllcfdaaDoor
open Go.RowKit

theorem ownsRow_base {w : World} {B B' : Nat} {e : TypeId} {size : Nat} {v : Value} {n : Nat} {xs : List Value} (h : w.ownsRow B e size v n xs) (hB : B' ≤ B) : w.ownsRow B' e size v n xs := by
  refine ⟨h.1, ?_⟩
  rcases h.2 with h2 | ⟨g, cap, cur, hv, hg, r⟩
  · exact Or.inl h2
  · exact Or.inr ⟨g, cap, cur, hv, by omega, r⟩

/-- What Scan hands back. -/
def ScanEnd (s : ByteArray) (W : World) (e : Ending) (w' : World) : Prop :=
  ∃ tv, e = .returned (.tuple #[tv, .int .i64 ((Sp.scanV s.data.toList).2.1 : Nat), .int .i64 ((Sp.scanV s.data.toList).2.2.1 : Nat), .int .i64 ((Sp.scanV s.data.toList).2.2.2 : Nat)]) ∧ Toks w' W.heap.size tv (Sp.scanV s.data.toList).1 ∧ Below W.heap.size W w'
theorem ScanEnd_of {s : ByteArray} {W w' : World} {ts : List Sp.Tok} {c n m : Nat} (h : Sp.scanV s.data.toList = (ts, c, n, m)) {tv : Value} {x y z : Int} (hx : x = c) (hy : y = n) (hz : z = m) (ht : Toks w' W.heap.size tv ts) (hb : Below W.heap.size W w') :
    ScanEnd s W (.returned (.tuple #[tv, .int .i64 x, .int .i64 y, .int .i64 z])) w' := by
  subst hx; subst hy; subst hz
  unfold ScanEnd
  rw [h]
  exact ⟨tv, rfl, ht, hb⟩
theorem toks_nil (w : World) (B : Nat) : Toks w B (.slice none 0 0) [] := World.ownsRow_nil w B _ _

theorem scan_scan (s : ByteArray) (w : World) (hG : Gs w) (hs : s.size ≤ 9223372036854775807) :
    Calls Tryd.prog 16 #[.string s] w (ScanEnd s w) := by
  have hsl := Lib.size_eq s
  by_cases h1 : 16384 < s.size
  · have hv : Sp.scanV s.data.toList = ([], 2, 0, 0) := by unfold Sp.scanV; rw [if_pos (by omega)]
    have HU := Lib.hid hv
    have q1 : decide ((s.size : Int) > 16384) = true := decide_eq_true (by omega)
    clear hsl hv hG
    go_enter Tryd.func16, Tryd.ntmps16
    go_wp2
    refine bodyPost_ret (results_tmp4 rfl _ _ _) rfl ?_
    exact ScanEnd_of HU.out rfl rfl rfl (toks_nil _ _) (Below.refl _ _)
  have q1 : decide ((s.size : Int) > 16384) = false := decide_eq_false (by omega)
  have hV := Sp.scanV_run s.data.toList (by omega)
  have hcd := Sp.runV_code _ s.data.toList 1 1 false [] (Nat.le_refl _)
  have hm0 : MSt w w.heap.size s 0 1 1 false [] (w.alloc (.cells #[.string s, .int .i64 0, .int .i64 1, .int .i64 1, .bool false, .slice none 0 0] 60)) :=
    ⟨.slice none 0 0, Blk.new w _ _, World.ownsRow_nil _ _ _ _, (Below.refl _ _).alloc (Nat.le_refl _) _⟩
  have hrun := mach_run w s w.heap.size _ (by omega) hG rfl hm0
  unfold RunEnd at hrun
  obtain ⟨ts, c, ln, cl, hr⟩ : ∃ ts c ln cl, Sp.runV s.data.toList 1 1 false [] = (ts, c, ln, cl) := ⟨_, _, _, _, rfl⟩
  rw [hr] at hV hrun hcd
  simp only [] at hrun hcd
  have HV := Lib.hid hV
  have HR := Lib.hid hrun
  by_cases hc : c = 0
  · have q2 : ((c : Int) != 0) = false := by rw [bne_eq_false_iff_eq]; omega
    have h00 := hcd.1 hc
    have HC := Lib.hid hc
    have H00 := Lib.hid h00
    clear hG hsl hV hm0 hrun hr hcd hc h00
    go_enter Tryd.func16, Tryd.ntmps16
    go_wp2_with (go_at_call 30; refine HR.out.mono ?_; rintro e w1 ⟨rfl, p, line, col, op, acc, ⟨tv, hm, ht, hb⟩, ha, _⟩; have c5 : w1.cell? ⟨w.heap.size, 5, none⟩ = some tv := hm.cell 5)
    refine bodyPost_ret (results_tmp4 rfl _ _ _) rfl ?_
    have hacc := ha HC.out
    have h0 := H00.out
    simp only [Prod.mk.injEq] at h0
    refine ScanEnd_of HV.out (by have := HC.out; omega) (by have := h0.1; omega) (by have := h0.2; omega) ?_ hb
    rw [← hacc]
    exact ownsRow_base ht (Nat.le_succ _)
  · have q2 : ((c : Int) != 0) = true := by rw [bne_iff_ne]; omega
    have h00 := hcd.2 hc
    have HC := Lib.hid hc
    have H00 := Lib.hid h00
    clear hG hsl hV hm0 hrun hr hcd hc h00
    go_enter Tryd.func16, Tryd.ntmps16
    go_wp2_with (go_at_call 30; refine HR.out.mono ?_; rintro e w1 ⟨rfl, p, line, col, op, acc, ⟨tv, hm, ht, hb⟩, _, ha⟩; have c2 : w1.cell? ⟨w.heap.size, 2, none⟩ = some (.int .i64 line) := hm.cell 2; have c3 : w1.cell? ⟨w.heap.size, 3, none⟩ = some (.int .i64 col) := hm.cell 3)
    go_quiet (fail)
    go_wp2
    refine bodyPost_ret (results_tmp4 rfl _ _ _) rfl ?_
    have hacc := ha HC.out
    simp only [Prod.mk.injEq] at hacc
    refine ScanEnd_of HV.out rfl (by have := hacc.1; omega) (by have := hacc.2; omega) ?_ (below_drewN' hb _)
    rw [H00.out]
    exact toks_nil _ _
end Go.Proofs.YtjedoipbllcfdaaDoor
