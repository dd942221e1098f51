/-
  A STATE IS APPENDED to the row of states that a round's body writes (chapter 10).
-/
import Derived.Test.YtpknablklencdaaGreatDoorMs
import Derived.Maps.OwnIn
import Derived.Lib.OwnKind
set_option linter.unusedVariables false
set_option linter.unusedSimpArgs false
set_option maxRecDepth 100000
set_option maxHeartbeats 4000000
namespace Go.Proofs.YtpknablklencdaaGreatDoor
open Go.RowKit
theorem info_state : (Tryz.prog.info? 28).map (fun i => (i.zero, i.size, i.bytes)) = some (some (.agg #[.int .i64 0, .string ⟨#[]⟩]), 2, 24) := by kernel_rfl
structure StEnd (n0 Bo : Nat) (v' : Value) (xs : List (Int × ByteArray)) (W W2 : World) : Prop where
  box : Boxed W2 Bo 32 v'
  row : StR W2 n0 v' xs
  others : KeepsOthers W W2
  save : SaveRow n0 Bo W W2
  below : Below n0 W W2
theorem st_blk {W : World} {n0 Bo Bx : Nat} {v : Value} {xs : List (Int × ByteArray)} {T : TypeId} {cs : Array Value} (hT : T ≠ 28) (hv : Boxed W Bo 32 v) (hrow : StR W n0 v xs) (hk : Blk W Bx T cs) : rowAt W Bo ≠ some Bx := by
  rw [rowAt_box hv]
  intro e
  obtain ⟨c1, f1, h1⟩ := Lib.ownsRow_kind hrow Bx e
  unfold Blk at hk
  rw [hk] at h1
  injection h1 with h1
  injection h1 with _ h2
  exact hT h2
theorem StEnd.blk {n0 Bo Bx : Nat} {v v' : Value} {xs ys : List (Int × ByteArray)} {W W2 : World} {T : TypeId} {cs : Array Value} (h : StEnd n0 Bo v' ys W W2) (hT : T ≠ 28) (hv : Boxed W Bo 32 v) (hrow : StR W n0 v xs) (hk : Blk W Bx T cs) (hne : Bx ≠ Bo) : Blk W2 Bx T cs :=
  h.save.keep Bx _ hne hk rfl (st_blk hT hv hrow hk)
theorem st_append {F : Fence} {nF : Nat} {ops : Array Oper} {rest : List Oper} {o : Oper} {a : Act} {Q : Exit → Act → World → Prop} (W : World) (hgd : o.guard = none) (s x : Operand)
    (ho : o.op = .call { callee := .builtin .append, args := #[s, x], argTypes := #[32, 32] })
    (n0 Bo : Nat) (v : Value) (xs : List (Int × ByteArray)) (y : Int × ByteArray) (hs : a.eval s = v) (hx : a.eval x = .slice (some ⟨W.heap.size, 0, none⟩) 1 1) (hv : Boxed W Bo 32 v) (hrow : StR W n0 v xs) (hn0 : n0 ≤ W.heap.size) (hB : n0 ≤ Bo) (hl : xs.length ≤ 1000000)
    (h : ∀ (g cap : Nat) (w1 : World), Boxed w1 Bo 32 v → StEnd n0 Bo (.slice (some ⟨g, 0, none⟩) (xs.length + 1) cap) (xs ++ [y]) W (w1.setCell ⟨Bo, 0, none⟩ (.slice (some ⟨g, 0, none⟩) (xs.length + 1) cap)) →
      wpListIn F nF Tryz.prog ops Q rest (a.put o.dst (.slice (some ⟨g, 0, none⟩) (xs.length + 1) cap)) w1) :
    wpListIn F nF Tryz.prog ops Q (o :: rest) a (W.alloc (.cells #[.int .i64 y.1, .string y.2] 28)) := by
  obtain ⟨i0, hi0, hz0, hz1, hz2⟩ := info_parts info_state
  refine wpListIn_append_own_at _ hgd s x 32 ho n0 28 i0 _ 2 24 Tryz.underlying32 hi0 hz0 hz1 hz2 rfl (by omega) v xs.length (xs.flatMap stC) hs (World.ownsRow.alloc hrow _) ⟨W.heap.size, 0, none⟩ 1 1 (stC y) hx rfl ?_ ?_ (by unfold maxLen; omega) (by omega) (by rw [World.size_alloc]; omega) ?_
  · intro j u hj
    exact World.news_of_block (heap_alloc_new W (.cells #[.int .i64 y.1, .string y.2] 28)) j u (by simpa [stC] using hj)
  · intro u hu
    unfold stC at hu
    rcases List.mem_cons.1 hu with rfl | hu
    · rfl
    · rcases List.mem_cons.1 hu with rfl | hu
      · rfl
      · cases hu
  · intro v' w1 hown' hgrow _ hat
    obtain ⟨g, cap, rfl⟩ := ownsRow_succ hown'
    obtain ⟨hv1, hv2, hr2, hk2, hb2⟩ := hv.appended (by decide) hrow hn0 hB hown' hgrow
    refine h g cap w1 hv1 ⟨hv2, ?_, hk2, ⟨hb2, ?_, ?_⟩, hb2⟩
    · unfold StR
      rw [List.length_append, List.flatMap_append]
      simpa using hr2
    · rw [rowAt_box hv2, rowAt_box hv]
      rcases hat with e | e
      · exact Or.inl e
      · right
        intro r hr
        rw [e, World.size_alloc] at hr
        injection hr with hr
        omega
    · intro b ob hb ho' hc hr
      rw [rowAt_box hv] at hr
      have hlt := heap_lt ho'
      have e1 : (W.alloc (.cells #[.int .i64 y.1, .string y.2] 28)).heap[b]? = some ob := (Below.heap_alloc W _ b hlt).trans ho'
      have e2 := (hgrow.block b (heap_lt e1) (fun e => hr e.symm)).trans e1
      exact (Below.heap_setCell w1 _ _ b hb).trans e2
end Go.Proofs.YtpknablklencdaaGreatDoor
