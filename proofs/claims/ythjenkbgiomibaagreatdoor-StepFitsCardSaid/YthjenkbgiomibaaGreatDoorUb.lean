/-
  THE WALKS of reachlaw10's written, states (chapter 10).
-/
import Derived.Test.YthjenkbgiomibaaGreatDoorUa
import Derived.Test.YthjenkbgiomibaaGreatDoorMv
import Derived.Test.YthjenkbgiomibaaGreatDoorMc
set_option linter.unusedVariables false
set_option linter.unusedSimpArgs false
set_option maxRecDepth 100000
set_option maxHeartbeats 4000000
namespace Go.Proofs.YthjenkbgiomibaaGreatDoor
open Go.RowKit
theorem binfo2 : (Tryz.prog.info? 5).map (fun i => (i.zero, i.size, i.bytes)) = some (some (.int .u8 0), 1, 1) := by kernel_rfl
/-- Bytes of the call's own. -/
def ByR (w : World) (B : Nat) (v : Value) (acc : List UInt8) : Prop := w.ownsRow B 5 1 v acc.length (Lib.byteCells acc)
theorem own_string2 {w : World} {B : Nat} {v : Value} {b : List UInt8} (h : ByR w B v b) :
    (convert 83 9 v).run Tryz.prog w = .ok (.string ⟨b.toArray⟩) w := by
  rcases h.2 with ⟨rfl, hx⟩ | ⟨g, cap, cur, rfl, _⟩
  · have hb : b = [] := List.length_eq_zero_iff.1 hx
    subst hb
    exact run_convert_bytes_nil (P := Tryz.prog) (w := w) 83 5 Tryz.underlying83 Tryz.underlying5 0 0 9 Tryz.underlying9
  · refine run_convert_bytes_back w 83 9 5 ⟨g, 0, none⟩ cap b Tryz.underlying83 Tryz.underlying5 Tryz.underlying9 ?_
    intro j hj
    refine (World.ownsRow.cells h (g := g) rfl) j _ ?_
    simp [Lib.byteCells, hj]
/-- append(l, c). -/
theorem wpList_byte {ops : Array Oper} {rest : List Oper} {o : Oper} {a : Act} {Q : Exit → Act → World → Prop} (hgd : o.guard = none) (s x : Operand)
    (ho : o.op = .call { callee := .builtin .append, args := #[s, x], argTypes := #[83, 83] })
    (B : Nat) (v : Value) (acc : List UInt8) (hs : a.eval s = v) (W : World) (c : UInt8) (hx : a.eval x = .slice (some ⟨W.heap.size, 0, none⟩) 1 1) (hown : ByR W B v acc) (hB : B ≤ W.heap.size) (hl : acc.length ≤ 1000000000)
    (h : ∀ v' w', ByR w' B v' (acc ++ [c]) → Below B W w' → wpList Tryz.prog ops Q rest (a.put o.dst v') w') : wpList Tryz.prog ops Q (o :: rest) a (W.alloc (.cells #[.int .u8 (c.toNat : Int)] 5)) := by
  obtain ⟨i0, hi0, hz0, hz1, hz2⟩ := info_parts binfo2
  refine wpList_append_own _ hgd s x 83 ho B 5 i0 (.int .u8 0) 1 1 Tryz.underlying83 hi0 hz0 hz1 hz2 rfl (by decide) v acc.length (Lib.byteCells acc) hs (World.ownsRow.alloc hown _) ⟨W.heap.size, 0, none⟩ 1 1 [.int .u8 (c.toNat : Int)] hx rfl ?_ ?_ (by unfold maxLen; omega) (by omega) (by rw [World.size_alloc]; omega) ?_
  · intro j u hj
    exact World.news_of_block (heap_alloc_new W (.cells #[.int .u8 (c.toNat : Int)] 5)) j u (by simpa using hj)
  · intro u hu
    rcases List.mem_cons.1 hu with rfl | hu
    · rfl
    · cases hu
  · intro v' w' hown' hgrow _
    refine h v' w' ?_ ?_
    · unfold ByR
      rw [List.length_append, Lib.byteCells_append]
      exact hown'
    · exact ((Below.refl B W).alloc hB _).grown hgrow (by rw [World.size_alloc]; omega) (fun g e => (World.ownsRow.lt hown g e).1)
theorem law10_written (word hd : ByteArray) (w : World) (hw : word.size = hd.size) (hh : hd.size ≤ 1000000) :
    Calls Tryz.prog 16 #[.string hd, .string word] w fun e w' => e = .returned (.string (Sp.wordV word hd)) ∧ Below w.heap.size w w' := by
  obtain ⟨n, hn⟩ : ∃ n, hd.size = n := ⟨_, rfl⟩
  rw [hn] at hw hh
  have HN := Lib.hid hn
  have HW := Lib.hid hw
  obtain ⟨L, hL⟩ : ∃ L, Sp.wrL word.data.toList hd.data.toList = L := ⟨_, rfl⟩
  have hLl : L.length = n := by rw [← hL, Sp.wrL_len]; exact hn
  have HL := Lib.hid hL
  have HLL := Lib.hid hLl
  clear hw hn hL hLl
  go_enter Tryz.func16, Tryz.ntmps16
  go_wp2
  go_loopw [5, 6] (fun v5 v6 wr => ∃ (v : Value) (i : Nat), v = v5 ∧ v6 = .int .i64 (i : Int) ∧ i ≤ n ∧ Below w.heap.size w wr ∧ ByR wr w.heap.size v (L.take i)) (fun _ v6 _ => n - (intOf v6).toNat)
  case atStart => exact ⟨_, 0, rfl, rfl, Nat.zero_le _, Below.refl _ _, World.ownsRow_nil _ _ _ _⟩
  case round =>
    obtain ⟨v, i, rfl, rfl, hi, hb, hbv⟩ := hrel
    have HB := Lib.hid hb
    have HV := Lib.hid hbv
    have i0 : (0 : Int) ≤ (i : Int) := by omega
    have hwz := HW.out
    have hnz := HN.out
    by_cases hlt : i < n
    · have hih : i < hd.size := by omega
      have hiw : i < word.size := by omega
      have p1 : decide ((i : Int) < (hd.size : Int)) = true := decide_eq_true (by omega)
      have p2 : decide (i < hd.size) = true := decide_eq_true hih
      have p3 : (i : Int) < (hd.size : Int) := by omega
      have p4 : (i : Int) < (word.size : Int) := by omega
      have p5 : decide ((i : Int) < (word.size : Int)) = true := decide_eq_true p4
      have p6 : decide (i < word.size) = true := decide_eq_true hiw
      have z1 : IntKind.i64.wrap ((i : Int) + 1) = (i : Int) + 1 := by rw [IntKind.wrap_i64]; omega
      have gw : word.data.toList[i]? = some (word[i]'hiw) := by rw [List.getElem?_eq_getElem (show i < word.data.toList.length from hiw)]; rfl
      have gh : hd.data.toList[i]? = some (hd[i]'hih) := by rw [List.getElem?_eq_getElem (show i < hd.data.toList.length from hih)]; rfl
      have hLi := Sp.wrL_at _ _ i _ _ gw gh
      rw [HL.out] at hLi
      have htk : L.take (i + 1) = L.take i ++ [Sp.wrB (word[i]'hiw) (hd[i]'hih)] := by rw [List.take_add_one, hLi]; rfl
      have hal : (L.take i).length ≤ 1000000000 := by rw [List.length_take]; omega
      have b1 := UInt8.toNat_lt (word[i]'hiw)
      have b2 := UInt8.toNat_lt (hd[i]'hih)
      have HI := Lib.hid (show i + 1 ≤ n by omega)
      have HAL := Lib.hid hal
      by_cases hx : word[i]'hiw = 120
      · have x1 : (((word[i]'hiw).toNat : Int) == 120) = true := by rw [hx]; rfl
        have htk2 : L.take (i + 1) = L.take i ++ [hd[i]'hih] := by rw [htk, Sp.wrB, if_pos hx]
        have HTK := Lib.hid htk2
        clear hb hi hlt hbv gw gh hx hwz hnz hLi htk hal htk2
        go_wp2_with (at_builtin; refine wpList_byte rfl _ _ rfl w.heap.size v (L.take i) rfl wr (hd[i]'hih) rfl HV.out HB.out.size HAL.out ?_; intro v' w' hr' hb')
        go_roundw
        case rel => exact ⟨_, i + 1, rfl, by rfl, HI.out, HB.out.trans hb', by rw [HTK.out]; exact hr'⟩
        case measure => have := HI.out; simp [intOf]; omega
      · have x1 : (((word[i]'hiw).toNat : Int) == 120) = false := by rw [beq_eq_false_iff_ne]; intro e; exact hx (UInt8.toNat_inj.1 (by rw [show (120 : UInt8).toNat = 120 from rfl]; omega))
        have htk2 : L.take (i + 1) = L.take i ++ [word[i]'hiw] := by rw [htk, Sp.wrB, if_neg hx]
        have HTK := Lib.hid htk2
        clear hb hi hlt hbv gw gh hx hwz hnz hLi htk hal htk2
        go_wp2_with (at_builtin; refine wpList_byte rfl _ _ rfl w.heap.size v (L.take i) rfl wr (word[i]'hiw) rfl HV.out HB.out.size HAL.out ?_; intro v' w' hr' hb')
        go_roundw
        case rel => exact ⟨_, i + 1, rfl, by rfl, HI.out, HB.out.trans hb', by rw [HTK.out]; exact hr'⟩
        case measure => have := HI.out; simp [intOf]; omega
    · have p1 : decide ((i : Int) < (hd.size : Int)) = false := decide_eq_false (by omega)
      have p2 : decide (i < hd.size) = false := decide_eq_false (by omega)
      have htk : L.take i = L := List.take_of_length_le (by have := HLL.out; omega)
      rw [htk] at hbv
      have hst := own_string2 hbv
      have hwv : Sp.wordV word hd = ⟨L.toArray⟩ := by unfold Sp.wordV; rw [HL.out]
      have HWV := Lib.hid hwv
      clear hb hi hlt hbv hwz hnz htk HV hwv
      go_wp2
      go_ret
      exact ⟨by rw [HWV.out]; rfl, HB.out⟩

def StateR (_ : World) (x : Int × ByteArray) (cs : List Value) : Prop := cs = stC x
/-- States in memory. -/
def STV (w : World) (A : Option Addr) (l : List (Int × ByteArray)) : Prop := LView 2 StateR w A l
theorem STV.more {w w' : World} {A : Option Addr} {l : List (Int × ByteArray)} (h : STV w A l) (hb : Below w.heap.size w w') : STV w' A l := LView.more h hb (fun _ _ h => h)
theorem STV.at {w : World} {A : Option Addr} {l : List (Int × ByteArray)} (h : STV w A l) {i : Nat} {x : Int × ByteArray} (hx : l[i]? = some x) : ∃ g o, A = some ⟨g, o, none⟩ ∧ g < w.heap.size ∧ w.cell? ⟨g, o + i * 2, none⟩ = some (.int .i64 x.1) ∧ w.cell? ⟨g, o + i * 2 + 1, none⟩ = some (.string x.2) := by
  obtain ⟨g, o, cs, hA, hg, hk, rfl, hc⟩ := h i x hx
  exact ⟨g, o, hA, hg, hc 0 _ rfl, hc 1 _ rfl⟩
theorem stCells_get : ∀ (zs : List (Int × ByteArray)) (i : Nat) (z : Int × ByteArray) (f : Nat), zs[i]? = some z → f < 2 → (zs.flatMap stC)[i * 2 + f]? = (stC z)[f]?
  | [], i, d, f, h, _ => by simp at h
  | x :: r, 0, d, f, h, hf => by
    simp at h
    subst h
    rw [List.flatMap_cons, List.getElem?_append_left (show 0 * 2 + f < (stC x).length by show _ < 2; omega)]
    simp
  | x :: r, i + 1, d, f, h, hf => by
    have ih := stCells_get r i d f (by simpa using h) hf
    rw [List.flatMap_cons, List.getElem?_append_right (show (stC x).length ≤ (i + 1) * 2 + f by show 2 ≤ _; omega)]
    have : (i + 1) * 2 + f - (stC x).length = i * 2 + f := by show (i + 1) * 2 + f - 2 = _; omega
    rw [this]
    exact ih
theorem st_view {w : World} {B : Nat} {v : Value} {zs : List (Int × ByteArray)} (h : StR w B v zs) : ∃ A cap, v = .slice A zs.length cap ∧ STV w A zs := by
  rcases h.2 with ⟨rfl, hn⟩ | ⟨g, cap, cur, hv, hg, hh, hle, hcm, r⟩
  · refine ⟨none, 0, by rw [hn], ?_⟩
    intro i d hd
    have : zs = [] := List.length_eq_zero_iff.1 hn
    subst this
    simp at hd
  · refine ⟨some ⟨g, 0, none⟩, cap, hv, ?_⟩
    intro i z hz
    refine ⟨g, 0, stC z, rfl, (World.ownsRow.lt h g (by rw [hv]; rfl)).2, rfl, rfl, ?_⟩
    intro f u hu
    have hf : f < 2 := (List.getElem?_eq_some_iff.1 hu).1
    have hlt : i * 2 + f < zs.length * 2 := by
      have : i < zs.length := (List.getElem?_eq_some_iff.1 hz).1
      omega
    have h2 : w.ownsRow B 28 2 (.slice (some ⟨g, 0, none⟩) zs.length cap) zs.length (zs.flatMap stC) := by rw [← hv]; exact h
    rw [Nat.zero_add, h2.cellAt (i * 2 + f) hlt, stCells_get zs i z f hz hf, hu]
/-- append(l, state). -/
theorem wpList_st {ops : Array Oper} {rest : List Oper} {o : Oper} {a : Act} {Q : Exit → Act → World → Prop} (hgd : o.guard = none) (s x : Operand)
    (ho : o.op = .call { callee := .builtin .append, args := #[s, x], argTypes := #[31, 31] })
    (B : Nat) (v : Value) (acc : List (Int × ByteArray)) (hs : a.eval s = v) (W : World) (c : Int × ByteArray) (hx : a.eval x = .slice (some ⟨W.heap.size, 0, none⟩) 1 1) (hown : StR W B v acc) (hB : B ≤ W.heap.size) (hl : acc.length ≤ 1000000000)
    (h : ∀ v' w', StR w' B v' (acc ++ [c]) → Below B W w' → (∀ (g : Nat) (T : TypeId) (cs : Array Value), T ≠ 28 → Blk W g T cs → Blk w' g T cs) → wpList Tryz.prog ops Q rest (a.put o.dst v') w') : wpList Tryz.prog ops Q (o :: rest) a (W.alloc (.cells #[.int .i64 c.1, .string c.2] 28)) := by
  obtain ⟨i0, hi0, hz0, hz1, hz2⟩ := info_parts info_state
  refine wpList_append_own _ hgd s x 31 ho B 28 i0 _ 2 24 Tryz.underlying31 hi0 hz0 hz1 hz2 rfl (by decide) v acc.length (acc.flatMap stC) hs (World.ownsRow.alloc hown _) ⟨W.heap.size, 0, none⟩ 1 1 (stC c) hx rfl ?_ ?_ (by unfold maxLen; omega) (by omega) (by rw [World.size_alloc]; omega) ?_
  · intro j u hj
    exact World.news_of_block (heap_alloc_new W (.cells #[.int .i64 c.1, .string c.2] 28)) j u (by simpa [stC] using hj)
  · intro u hu
    unfold stC at hu
    rcases List.mem_cons.1 hu with rfl | hu
    · rfl
    · rcases List.mem_cons.1 hu with rfl | hu
      · rfl
      · cases hu
  · intro v' w' hown' hgrow _
    refine h v' w' ?_ ?_ ?_
    · unfold StR
      rw [List.length_append, List.flatMap_append]
      simpa using hown'
    rotate_left
    · intro g T cs hT hk
      refine (hk.alloc _).grown hgrow (fun e => ?_)
      obtain ⟨c1, f1, h1⟩ := Lib.ownsRow_kind hown g e.symm
      unfold Blk at hk
      rw [hk] at h1
      injection h1 with h1
      injection h1 with _ h2
      exact hT h2
    · exact ((Below.refl B W).alloc hB _).grown hgrow (by rw [World.size_alloc]; omega) (fun g e => (World.ownsRow.lt hown g e).1)
/-- Equal lists of states are told alike. -/
theorem law10_states (v1 v2 : Value) (B1 B2 : Nat) (l : List (Int × ByteArray)) (w : World) (h1 : StR w B1 v1 l) (h2 : StR w B2 v2 l) (hl : l.length ≤ 1000000) :
    Calls Tryz.prog 10 #[v1, v2] w fun e w' => e = .returned (.bool true) ∧ Below w.heap.size w w' := by
  obtain ⟨A1, cap1, rfl, k1⟩ := st_view h1
  obtain ⟨A2, cap2, rfl, k2⟩ := st_view h2
  have K1 := Lib.hid k1
  have K2 := Lib.hid k2
  obtain ⟨n, hn⟩ : ∃ n, l.length = n := ⟨_, rfl⟩
  rw [hn] at hl ⊢
  have HN := Lib.hid hn
  have q0 : ((n : Int) != (n : Int)) = false := by rw [bne_eq_false_iff_eq]
  have n1 : (n : Int) ≤ 1000000 := by omega
  clear h1 h2 k1 k2 hn
  go_enter Tryz.func10, Tryz.ntmps10
  go_wp2_with fail
  go_loopw [5] (fun v5 wr => Below w.heap.size w wr ∧ ∃ i : Nat, v5 = .int .i64 (i : Int) ∧ i ≤ n) (fun v5 _ => n - (intOf v5).toNat)
  case atStart => exact ⟨Below.refl _ _, 0, rfl, by omega⟩
  case round =>
    obtain ⟨hb, i, rfl, hi⟩ := hrel
    have HB := Lib.hid hb
    by_cases hlt : i < n
    · have z1 : decide ((i : Int) < n) = true := decide_eq_true (by omega)
      have z1b : decide (i < n) = true := decide_eq_true hlt
      have z2 : (i : Int) < n := by omega
      have z3 : (0 : Int) ≤ (i : Int) := by omega
      obtain ⟨d, hd⟩ : ∃ d, l[i]? = some d := ⟨_, List.getElem?_eq_getElem (by rw [HN.out]; exact hlt)⟩
      obtain ⟨g1, o1, rfl, hg1, a0, a1⟩ := (K1.out.more hb).at hd
      obtain ⟨g2, o2, rfl, hg2, b0, b1⟩ := (K2.out.more hb).at hd
      obtain ⟨d1, d2⟩ := d
      simp only [] at a0 a1 b0 b1
      clear hb hd hg1 hg2
      go_wp2_with fail
      go_quiet (fail)
      go_wp2_with fail
      go_roundw
      case rel => exact ⟨below_drewN HB.out _, i + 1, by rfl, by omega⟩
      case measure => simp [intOf]; omega
    · have z1 : decide ((i : Int) < n) = false := decide_eq_false (by omega)
      have z1b : decide (i < n) = false := decide_eq_false hlt
      clear hb hlt hi
      go_wp2_with fail
      go_ret
      exact ⟨rfl, HB.out⟩
end Go.Proofs.YthjenkbgiomibaaGreatDoor
