/-
  Texts joined: Ha Ab Ae.
-/
import Derived.Test.YthnamoedpnknmaaGreatDoorMs
import Derived.Test.YthnamoedpnknmaaGreatDoorMw
import Derived.Test.YthnamoedpnknmaaGreatDoorUb
import Derived.Maps.AppendAt

set_option linter.unusedVariables false
set_option linter.unusedSimpArgs false
namespace Go.Proofs.YthnamoedpnknmaaGreatDoor
open Go.RowKit
namespace Sp
def hitM (x : Int) (m : Mv) : Bool := (m.out == x && decide (0 ≤ m.entry)) || (decide (m.out < 0) && m.inn == x)
def stepA (x : Int) (m : Mv) (a : Int) : Int := if (m.out == x && decide (0 ≤ m.entry)) = true then a + 1 else a
def followV (n : Net) : Nat → ByteArray → List Int → Int → Int → ByteArray × Int × Int
 | _, h, [], _, a => (h, a, 0)
 | p, h, x :: r, i, a => match (movesV n p h).find? (hitM x) with
  | none => (⟨#[]⟩, i, 101)
  | some m => followV n x.toNat m.header r (i + 1) (stepA x m a)
noncomputable def followT (n : Net) (p : Int) (h : ByteArray) (l : List Int) : ByteArray × Int × Int :=
 if 130 < l.length then (⟨#[]⟩, 0, 2) else if checkE n p h = 0 then (match l with
  | [] => (⟨#[]⟩, 0, 101)
  | x :: r => if p = x then followV n p.toNat h r 1 0 else (⟨#[]⟩, 0, 101)) else (⟨#[]⟩, 0, checkE n p h)
theorem followV_none {n : Net} {p : Nat} {h : ByteArray} {x : Int} {r : List Int} {i a : Int} (hn : ∀ m ∈ movesV n p h, hitM x m = false) : followV n p h (x :: r) i a = (⟨#[]⟩, i, 101) := by
 unfold followV
 rw [List.find?_eq_none.2 (fun m hm => by rw [hn m hm]; decide)]
theorem followV_some {n : Net} {p : Nat} {h : ByteArray} {x : Int} {r : List Int} {i a : Int} {pre : List Mv} {m : Mv} (hp : pre ++ [m] <+: movesV n p h) (hn : ∀ y ∈ pre, hitM x y = false) (hm : hitM x m = true) : followV n p h (x :: r) i a = followV n x.toNat m.header r (i + 1) (stepA x m a) := by
 obtain ⟨s, hs⟩ := hp
 have hf : (movesV n p h).find? (hitM x) = some m := by
  rw [← hs, List.find?_append, List.find?_append, List.find?_eq_none.2 (fun y hy => by rw [hn y hy]; decide)]
  simp [hm]
 conv => lhs; unfold followV
 rw [hf]
structure MvFine (n : Net) (h : ByteArray) (m : Mv) : Prop where
 size : m.header.size = h.size
 out : 0 ≤ m.out → m.out < (n.ports.length : Int)
 inn : 0 ≤ m.inn → m.inn < (n.ports.length : Int)
 entry : 0 ≤ m.entry → 0 ≤ m.out
 link : m.out < 0 → 0 ≤ m.inn
theorem dst_lt {n : Net} (hn : NetOk n) {p : Nat} {q : Port} (hq : n.ports[p]? = some q) (h0 : 0 ≤ q.dst) : q.dst < (n.ports.length : Int) := by
 rcases (hn.ports p q hq).dst with hd | ⟨_, _, r, hr, _⟩
 ·omega
 ·have := (List.getElem?_eq_some_iff.1 hr).1
  omega
theorem wordV_sz (word h : ByteArray) : (wordV word h).size = h.size := by
 show (wrL word.data.toList h.data.toList).toArray.size = _
 rw [List.size_toArray, wrL_len, Array.length_toList]
 rfl
theorem movesV_fine {n : Net} (hn : NetOk n) {p : Nat} {h : ByteArray} {m : Mv} (hm : m ∈ movesV n p h) : MvFine n h m := by
 unfold movesV at hm
 split at hm
 ·cases hm
 ·rename_i q hq
  split at hm
  ·split at hm
   ·rename_i hd
    obtain rfl : m = ⟨-1, -1, q.dst, h⟩ := by simpa using hm
    exact ⟨rfl, fun h0 => absurd h0 (by show ¬ (0 : Int) ≤ -1; decide), fun h0 => dst_lt hn hq h0, fun h0 => absurd h0 (by show ¬ (0 : Int) ≤ -1; decide), fun _ => hd⟩
   ·cases hm
  ·split at hm
   ·cases hm
   ·split at hm
    ·cases hm
    ·rename_i e he
     have hbx := (hn.ports p q hq).box
     have hbl : q.box.toNat < n.tables.length := by omega
     have ht : n.tables[q.box.toNat]? = some (n.tables[q.box.toNat]) := List.getElem?_eq_getElem hbl
     rw [List.getD_eq_getElem?_getD, ht] at he
     obtain ⟨o, ho, hmo⟩ := List.mem_filterMap.1 hm
     obtain ⟨i, hi⟩ := List.mem_iff_getElem?.1 ho
     obtain ⟨h1, q', h2, _⟩ := ((table_at hn ht (List.mem_of_getElem? he)).outs i o hi).1
     have h3 := (List.getElem?_eq_some_iff.1 h2).1
     unfold outMv at hmo
     split at hmo
     ·rename_i g r hg hr
      split at hmo
      ·injection hmo with hmo
       subst hmo
       exact ⟨wordV_sz _ _, fun _ => by show o < _; omega, fun h0 => dst_lt hn hr h0, fun _ => h1, fun h0 => absurd h1 (by have : o < 0 := h0; omega)⟩
      ·cases hmo
     ·cases hmo
theorem hit_lt {n : Net} {h : ByteArray} {m : Mv} {x : Int} (hf : MvFine n h m) (hm : hitM x m = true) : 0 ≤ x ∧ x < (n.ports.length : Int) := by
 unfold hitM at hm
 rw [Bool.or_eq_true, Bool.and_eq_true, Bool.and_eq_true, beq_iff_eq, beq_iff_eq, decide_eq_true_eq, decide_eq_true_eq] at hm
 rcases hm with ⟨h1, h2⟩ | ⟨h1, h2⟩
 ·have := hf.entry h2
  have := hf.out this
  omega
 ·have := hf.link h1
  have := hf.inn this
  omega
theorem fitsG_sz {g : List Guard} {h h' : ByteArray} (he : h'.size = h.size) (hf : fitsG g h) : fitsG g h' := ⟨fun l hl => ⟨(hf.1 l hl).1, fun c hc => by rw [he]; exact (hf.1 l hl).2 c hc⟩, hf.2⟩
theorem mvOk_sz {n : Net} {p : Nat} {h h' : ByteArray} (he : h'.size = h.size) (hm : MvOk n p h) : MvOk n p h' := by
 rcases hm with hx | ⟨q, g, t, ok⟩
 ·exact Or.inl hx
 ·refine Or.inr ⟨q, g, t, ok.hq, ok.hin, ok.hg, ok.hb, ok.ht, fitsG_sz he ok.hf, ?_, ok.htl, ok.hp, ok.hpp, ok.htt, by rw [he]; exact ok.hh, ok.hs, fun e hx => by rw [he]; exact ok.hw e hx, fun e hx => ?_⟩
  ·intro e hx
   obtain ⟨h1, h2, h3⟩ := ok.hft e hx
   exact ⟨h1, h2, fun c hc => by rw [he]; exact h3 c hc⟩
  ·obtain ⟨h1, h2⟩ := ok.ho e hx
   refine ⟨h1, fun o ho => ?_⟩
   obtain ⟨h3, g', q', h4, h5, h6⟩ := h2 o ho
   exact ⟨h3, g', q', h4, h5, fun k hk => h6 k (by rw [hk, he])⟩
structure StAt (n : Net) (h0 : ByteArray) (p : Nat) (h : ByteArray) : Prop where
 port : p < n.ports.length
 size : h.size = h0.size
theorem StAt.mvOk {n : Net} {p0 : Int} {h0 h : ByteArray} {p : Nat} (hn : NetOk n) (hs : StateOk n p0 h0) (h1 : StAt n h0 p h) : MvOk n p h :=
 mvOk_sz h1.size (mvOk_of (p := p) hn ⟨⟨by omega, by have := h1.port; omega⟩, hs.bits, hs.digits⟩)
theorem StAt.next {n : Net} {h0 h : ByteArray} {p : Nat} {x : Int} {m : Mv} (hn : NetOk n) (h1 : StAt n h0 p h) (hm : m ∈ movesV n p h) (hx : hitM x m = true) : StAt n h0 x.toNat m.header := by
 have hf := movesV_fine hn hm
 have := hit_lt hf hx
 exact ⟨by omega, by rw [hf.size, h1.size]⟩
theorem StAt.first {n : Net} {p : Nat} {h : ByteArray} (hs : StateOk n p h) : StAt n h p h := ⟨by have := hs.port; omega, rfl⟩
end Sp
end Go.Proofs.YthnamoedpnknmaaGreatDoor


set_option linter.unusedVariables false
set_option linter.unusedSimpArgs false
namespace Go.Proofs.YthnamoedpnknmaaGreatDoor
open Go.RowKit
namespace Sp
def portIn (n : Net) (k : Nat) : Bool := match n.ports[k]? with
 | some q => q.inn
 | none => false
theorem digits_word {n : Net} {w h : ByteArray} (hw : CubeOk n.bits w) (hh : ∀ (i : Nat) (c : UInt8), h.data.toList[i]? = some c → c = 48 ∨ c = 49) : ∀ (i : Nat) (c : UInt8), (wordV w h).data.toList[i]? = some c → c = 48 ∨ c = 49 := by
 intro i c hc
 have hcu : ∀ x ∈ w.data.toList, x = 48 ∨ x = 49 ∨ x = 120 := by
  intro x hx
  have h1 := hw.1
  unfold cubeE at h1
  split at h1
  ·cases h1
  ·split at h1
   ·cases h1
   ·split at h1
    ·rename_i h3
     have := List.all_eq_true.1 h3 x hx
     simp only [Bool.or_eq_true, beq_iff_eq] at this
     rcases this with (e | e) | e
     ·exact .inl e
     ·exact .inr (.inl e)
     ·exact .inr (.inr e)
    ·cases h1
 have key : ∀ (a b : List UInt8), (∀ x ∈ a, x = 48 ∨ x = 49 ∨ x = 120) → (∀ (i : Nat) (c : UInt8), b[i]? = some c → c = 48 ∨ c = 49) → ∀ (i : Nat) (c : UInt8), (wrL a b)[i]? = some c → c = 48 ∨ c = 49 := by
  intro a
  induction a with
  | nil => intro b _ hb i c hc; rw [show wrL [] b = b by cases b <;> rfl] at hc; exact hb i c hc
  | cons x a ih =>
   intro b ha hb i c hc
   cases b with
   | nil => rw [show wrL (x :: a) [] = [] from rfl] at hc; simp at hc
   | cons y b =>
    rw [show wrL (x :: a) (y :: b) = wrB x y :: wrL a b from rfl] at hc
    cases i with
    | zero =>
     have hc' : wrB x y = c := by simpa using hc
     unfold wrB at hc'
     split at hc'
     ·exact hb 0 c (by simpa using hc')
     ·rename_i hne
      rcases ha x List.mem_cons_self with e | e | e
      ·exact .inl (hc'.symm.trans e)
      ·exact .inr (hc'.symm.trans e)
      ·exact absurd e hne
    | succ i => exact ih b (fun z hz => ha z (List.mem_cons_of_mem _ hz)) (fun j d hd => hb (j + 1) d (by simpa using hd)) i c (by simpa using hc)
 exact key _ _ hcu hh i c (by simpa [wordV] using hc)
structure MvIn (n : Net) (k : Nat) (h : ByteArray) (m : Mv) : Prop where
 entry : 0 ≤ m.entry
 out : 0 ≤ m.out
 port : ∃ r, n.ports[m.out.toNat]? = some r ∧ r.inn = false ∧ m.inn = r.dst
 size : m.header.size = h.size
 digits : (∀ (i : Nat) (c : UInt8), h.data.toList[i]? = some c → c = 48 ∨ c = 49) → ∀ (i : Nat) (c : UInt8), m.header.data.toList[i]? = some c → c = 48 ∨ c = 49
 uniq : ∀ m' ∈ movesV n k h, m'.out = m.out → m' = m
theorem movesV_link {n : Net} {k : Nat} {h : ByteArray} {q : Port} (hq : n.ports[k]? = some q) (hin : q.inn = false) : movesV n k h = if 0 ≤ q.dst then [⟨-1, -1, q.dst, h⟩] else [] := by
 unfold movesV
 rw [hq]
 simp only [hin, if_true]
theorem movesV_in {n : Net} (hn : NetOk n) {k : Nat} {h : ByteArray} {q : Port} (hq : n.ports[k]? = some q) (hin : q.inn = true) : movesV n k h = [] ∨ ∃ t e num, n.tables[q.box.toNat]? = some t ∧ e ∈ t ∧ 0 ≤ num ∧ movesV n k h = e.outs.filterMap (outMv n num (wordV e.write h)) := by
 unfold movesV
 rw [hq]
 simp only [hin, Bool.true_eq_false, if_false]
 split
 ·exact .inl rfl
 ·split
  ·exact .inl rfl
  ·rename_i e he
   have hbx := (hn.ports k q hq).box
   have hbl : q.box.toNat < n.tables.length := by omega
   have ht : n.tables[q.box.toNat]? = some (n.tables[q.box.toNat]) := List.getElem?_eq_getElem hbl
   rw [List.getD_eq_getElem?_getD, ht] at he
   exact .inr ⟨_, e, _, ht, List.mem_of_getElem? he, Int.natCast_nonneg _, rfl⟩
theorem outMv_some {n : Net} {num : Int} {h : ByteArray} {o : Int} {m : Mv} (hm : outMv n num h o = some m) : m.entry = num ∧ m.out = o ∧ m.header = h ∧ ∃ r, n.ports[o.toNat]? = some r ∧ m.inn = r.dst := by
 unfold outMv at hm
 split at hm
 ·rename_i g r hg hr
  split at hm
  ·injection hm with hm
   subst hm
   exact ⟨rfl, rfl, rfl, r, hr, rfl⟩
  ·cases hm
 ·cases hm
theorem mvIn_of {n : Net} (hn : NetOk n) {k : Nat} {h : ByteArray} {q : Port} (hq : n.ports[k]? = some q) (hin : q.inn = true) {m : Mv} (hm : m ∈ movesV n k h) : MvIn n k h m := by
 rcases movesV_in hn (h := h) hq hin with e | ⟨t, e, num, ht, he, h0, hM⟩
 ·rw [e] at hm; cases hm
 have ho := table_at hn ht he
 have hmm := hm
 rw [hM] at hmm
 obtain ⟨o, hoo, hmo⟩ := List.mem_filterMap.1 hmm
 obtain ⟨e1, e2, e3, r, hr, e4⟩ := outMv_some hmo
 obtain ⟨i, hi⟩ := List.mem_iff_getElem?.1 hoo
 obtain ⟨g1, r', hr', g2, g3⟩ := (ho.outs i o hi).1
 rw [hr] at hr'
 injection hr' with hr'
 subst hr'
 refine ⟨by omega, by omega, ⟨r, by rw [e2]; exact hr, g2, e4⟩, by rw [e3]; exact wordV_sz _ _, fun hd => by rw [e3]; exact digits_word ho.word hd, fun m' hm' ho' => ?_⟩
 rw [hM] at hm'
 obtain ⟨o', _, hmo'⟩ := List.mem_filterMap.1 hm'
 obtain ⟨_, e2', _⟩ := outMv_some hmo'
 rw [show o' = o by omega, hmo] at hmo'
 injection hmo' with hx
 exact hx.symm
theorem find_uniq {α : Type} {f : α → Bool} {m : α} : ∀ {l : List α}, m ∈ l → f m = true → (∀ y ∈ l, f y = true → y = m) → l.find? f = some m
 | [], h, _, _ => by cases h
 | x :: l, h, hf, hu => by
  rw [List.find?_cons]
  cases hx : f x with
  | true => simp only; rw [hu x List.mem_cons_self hx]
  | false =>
   simp only
   rcases List.mem_cons.1 h with rfl | h
   ·rw [hf] at hx; cases hx
   ·exact find_uniq h hf (fun y hy => hu y (List.mem_cons_of_mem _ hy))
theorem followV_hit {n : Net} {k : Nat} {h : ByteArray} {x : Int} {r : List Int} {i a : Int} {m : Mv} (hf : (movesV n k h).find? (hitM x) = some m) : followV n k h (x :: r) i a = followV n x.toNat m.header r (i + 1) (stepA x m a) := by
 conv => lhs; unfold followV
 rw [hf]
end Sp
end Go.Proofs.YthnamoedpnknmaaGreatDoor

set_option linter.unusedVariables false
set_option linter.unusedSimpArgs false
namespace Go.Proofs.YthnamoedpnknmaaGreatDoor
open Go.RowKit
namespace Sp
end Sp
end Go.Proofs.YthnamoedpnknmaaGreatDoor


set_option linter.unusedVariables false
set_option linter.unusedSimpArgs false
set_option maxRecDepth 100000
set_option maxHeartbeats 4000000
namespace Go.Proofs.YthnamoedpnknmaaGreatDoor
open Go.RowKit
theorem ref10_in (A : Option Addr) (cap : Nat) (l : List Int) (x : Int) (w : World) (hv : IV w A l) (hl : l.length ≤ 4611686018427387904) :
  Calls Tryz.prog 85 #[.slice A l.length cap, .int .i64 x] w fun e w' => e = .returned (.bool (Sp.memB l x)) ∧ w' = w := by
 obtain ⟨n, hn⟩ : ∃ n, l.length = n := ⟨_, rfl⟩
 rw [hn] at hl ⊢
 have HN := Lib.hid hn
 have HV := Lib.hid hv
 clear hn hv
 go_enter Tryz.func85, Tryz.ntmps85
 go_wp2
 go_loop [5] (fun v8 => ∃ i : Nat, v8 = .int .i64 (i : Int) ∧ i ≤ n ∧ Hid (∀ (j : Nat) (y : Int), j < i → l[j]? = some y → (x == y) = false)) (fun v8 => n - (intOf v8).toNat)
 case atStart => exact ⟨0, rfl, Nat.zero_le _, Lib.hid (fun j y hj => by omega)⟩
 case round =>
  obtain ⟨i, rfl, hi, hno⟩ := hrel
  have i0 : (0 : Int) ≤ (i : Int) := by omega
  by_cases hlt : i < n
  ·have p1 : decide ((i : Int) < (n : Int)) = true := decide_eq_true (by omega)
   have p2 : decide (i < n) = true := decide_eq_true hlt
   have p3 : (i : Int) < (n : Int) := by omega
   obtain ⟨y, hy⟩ : ∃ y, l[i]? = some y := ⟨_, List.getElem?_eq_getElem (by rw [HN.out]; exact hlt)⟩
   obtain ⟨g, o, rfl, hg, c0⟩ := HV.out.at hy
   have z1 : IntKind.i64.wrap ((i : Int) + 1) = (i : Int) + 1 := by rw [IntKind.wrap_i64]; omega
   have HI := Lib.hid (show i + 1 ≤ n by omega)
   by_cases hxy : (x == y) = true
   ·have HY : Hid (Sp.memB l x = true) := Lib.hid (by
     unfold Sp.memB Sp.idxI
     rw [Sp.idxF_yes (f := fun y => x == y) hy hxy hno.out]
     exact decide_eq_true (by omega))
    have hxy2 : (y == x) = true := by rw [beq_iff_eq] at hxy ⊢; exact hxy.symm
    clear hi hlt hy hno hxy
    go_wp2
    go_ret
    exact ⟨by rw [HY.out]; rfl, rfl⟩
   ·have hxf : (x == y) = false := Bool.eq_false_iff.2 hxy
    have hyf : (y == x) = false := by rw [beq_eq_false_iff_ne] at hxf ⊢; exact fun e => hxf e.symm
    have hno2 : ∀ (j : Nat) (z : Int), j < i + 1 → l[j]? = some z → (x == z) = false := by
     intro j z hj hz
     by_cases hji : j = i
     ·subst hji
      rw [hy] at hz
      injection hz with hz
      rw [← hz]
      exact hxf
     ·exact hno.out j z (by omega) hz
    have HNO := Lib.hid hno2
    clear hi hlt hy hno hxy hno2 hxf
    go_wp2
    go_round
    case rel => exact ⟨i + 1, by rfl, HI.out, HNO⟩
    case measure => have := HI.out; simp [intOf]; omega
  ·have p1 : decide ((i : Int) < (n : Int)) = false := decide_eq_false (by omega)
   have p2 : decide (i < n) = false := decide_eq_false hlt
   have HY : Hid (Sp.memB l x = false) := Lib.hid (by
    unfold Sp.memB Sp.idxI
    rw [Sp.idxF_no (f := fun y => x == y) (l := l) (fun j y hj => hno.out j y (by have := (List.getElem?_eq_some_iff.1 hj).1; rw [HN.out] at this; omega) hj)]
    rfl)
   clear hi hlt hno
   go_wp2
   go_ret
   exact ⟨by rw [HY.out]; rfl, rfl⟩
theorem law10_ints (A1 A2 : Option Addr) (cap1 cap2 : Nat) (l : List Int) (w : World) (k1 : IV w A1 l) (k2 : IV w A2 l) (hl : l.length ≤ 4611686018427387904) :
  Calls Tryz.prog 19 #[.slice A1 l.length cap1, .slice A2 l.length cap2] w fun e w' => e = .returned (.bool true) ∧ Below w.heap.size w w' := by
 have K1 := Lib.hid k1
 have K2 := Lib.hid k2
 obtain ⟨n, hn⟩ : ∃ n, l.length = n := ⟨_, rfl⟩
 rw [hn] at hl ⊢
 have HN := Lib.hid hn
 have q0 : ((n : Int) != (n : Int)) = false := by rw [bne_eq_false_iff_eq]
 have n1 : (n : Int) ≤ 4611686018427387904 := by omega
 clear k1 k2 hn
 go_enter Tryz.func19, Tryz.ntmps19
 go_wp2_with fail
 go_loopw [5] (fun v5 wr => Below w.heap.size w wr ∧ ∃ i : Nat, v5 = .int .i64 (i : Int) ∧ i ≤ n) (fun v5 _ => n - (intOf v5).toNat)
 case atStart => exact ⟨Below.refl _ _, 0, rfl, by omega⟩
 case round =>
  obtain ⟨hb, i, rfl, hi⟩ := hrel
  have HB := Lib.hid hb
  by_cases hlt : i < n
  ·have z1 : decide ((i : Int) < n) = true := decide_eq_true (by omega)
   have z1b : decide (i < n) = true := decide_eq_true hlt
   have z2 : (i : Int) < n := by omega
   have z3 : (0 : Int) ≤ (i : Int) := by omega
   obtain ⟨d, hd⟩ : ∃ d, l[i]? = some d := ⟨_, List.getElem?_eq_getElem (by rw [HN.out]; exact hlt)⟩
   obtain ⟨g1, o1, rfl, hg1, a0⟩ := (K1.out.more hb).at hd
   obtain ⟨g2, o2, rfl, hg2, b0⟩ := (K2.out.more hb).at hd
   clear hb hd hg1 hg2
   go_wp2_with fail
   go_quiet (fail)
   go_wp2_with fail
   go_roundw
   case rel => exact ⟨below_drewN HB.out _, i + 1, by rfl, by omega⟩
   case measure => simp [intOf]; omega
  ·have z1 : decide ((i : Int) < n) = false := decide_eq_false (by omega)
   have z1b : decide (i < n) = false := decide_eq_false hlt
   clear hb hlt hi
   go_wp2_with fail
   go_ret
   exact ⟨rfl, HB.out⟩

theorem iinfo : (Tryz.prog.info? 3).map (fun i => (i.zero, i.size, i.bytes)) = some (some (.int .i64 0), 1, 8) := by kernel_rfl
def InR (w : World) (B : Nat) (v : Value) (l : List Int) : Prop := w.ownsRow B 3 1 v l.length (l.map (Value.int .i64))
theorem in_view {w : World} {B : Nat} {v : Value} {l : List Int} (h : InR w B v l) : ∃ A cap, v = .slice A l.length cap ∧ l.length ≤ cap ∧ IV w A l := by
 rcases h.2 with ⟨rfl, hn⟩ | ⟨g, cap, cur, hv, hg, hh, hle, hcm, r⟩
 ·refine ⟨none, 0, by rw [hn], by omega, ?_⟩
  intro i d hd
  have : l = [] := List.length_eq_zero_iff.1 hn
  subst this
  simp at hd
 ·refine ⟨some ⟨g, 0, none⟩, cap, hv, hle, ?_⟩
  intro i z hz
  refine ⟨g, 0, [.int .i64 z], rfl, (World.ownsRow.lt h g (by rw [hv]; rfl)).2, rfl, rfl, ?_⟩
  intro f u hu
  have hf : f = 0 := by have := (List.getElem?_eq_some_iff.1 hu).1; simpa using this
  subst hf
  have hi : i < l.length := (List.getElem?_eq_some_iff.1 hz).1
  have h2 : w.ownsRow B 3 1 (.slice (some ⟨g, 0, none⟩) l.length cap) l.length (l.map (Value.int .i64)) := by rw [← hv]; exact h
  rw [Nat.zero_add, Nat.mul_one, Nat.add_zero, h2.cellAt i (by omega), List.getElem?_map, hz]
  simpa using hu
theorem wpList_int {ops : Array Oper} {rest : List Oper} {o : Oper} {a : Act} {Q : Exit → Act → World → Prop} (hgd : o.guard = none) (s x : Operand)
  (ho : o.op = .call { callee := .builtin .append, args := #[s, x], argTypes := #[42, 42] })
  (B : Nat) (v : Value) (acc : List Int) (hs : a.eval s = v) (W : World) (c : Int) (hx : a.eval x = .slice (some ⟨W.heap.size, 0, none⟩) 1 1) (hown : InR W B v acc) (hB : B ≤ W.heap.size) (hl : acc.length * 8 ≤ 140737488355320)
  (h : ∀ v' w', InR w' B v' (acc ++ [c]) → Below B W w' → wpList Tryz.prog ops Q rest (a.put o.dst v') w') : wpList Tryz.prog ops Q (o :: rest) a (W.alloc (.cells #[.int .i64 c] 3)) := by
 obtain ⟨i0, hi0, hz0, hz1, hz2⟩ := info_parts iinfo
 refine wpList_append_own _ hgd s x 42 ho B 3 i0 (.int .i64 0) 1 8 Tryz.underlying42 hi0 hz0 hz1 hz2 rfl (by decide) v acc.length (acc.map (Value.int .i64)) hs (World.ownsRow.alloc hown _) ⟨W.heap.size, 0, none⟩ 1 1 [.int .i64 c] hx rfl ?_ ?_ (by unfold maxLen; omega) (by omega) (by rw [World.size_alloc]; omega) ?_
 ·intro j u hj
  exact World.news_of_block (heap_alloc_new W (.cells #[.int .i64 c] 3)) j u (by simpa using hj)
 ·intro u hu
  rcases List.mem_cons.1 hu with rfl | hu
  ·rfl
  ·cases hu
 ·intro v' w' hown' hgrow _
  refine h v' w' ?_ ?_
  ·unfold InR
   rw [List.length_append, List.map_append]
   exact hown'
  ·exact ((Below.refl B W).alloc hB _).grown hgrow (by rw [World.size_alloc]; omega) (fun g e => (World.ownsRow.lt hown g e).1)
theorem law10_copyInts (A : Option Addr) (cap : Nat) (l : List Int) (w : World) (hv : IV w A l) (hl : l.length * 8 ≤ 140737488355320) :
  Calls Tryz.prog 16 #[.slice A l.length cap] w fun e w' => ∃ v, e = .returned v ∧ InR w' w.heap.size v l ∧ Below w.heap.size w w' := by
 obtain ⟨n, hn⟩ : ∃ n, l.length = n := ⟨_, rfl⟩
 rw [hn] at hl ⊢
 have HN := Lib.hid hn
 have HV := Lib.hid hv
 have hl2 : (n : Int) ≤ 17592186044415 := by omega
 clear hn hv
 go_enter Tryz.func16, Tryz.ntmps16
 go_wp2
 go_loopw [3, 4] (fun v3 v4 wr => ∃ (v : Value) (i : Nat), v = v3 ∧ v4 = .int .i64 (i : Int) ∧ i ≤ n ∧ Below w.heap.size w wr ∧ InR wr w.heap.size v (l.take i)) (fun _ v4 _ => n - (intOf v4).toNat)
 case atStart => exact ⟨_, 0, rfl, rfl, Nat.zero_le _, Below.refl _ _, World.ownsRow_nil _ _ _ _⟩
 case round =>
  obtain ⟨v, i, rfl, rfl, hi, hb, hr⟩ := hrel
  have HB := Lib.hid hb
  have HR := Lib.hid hr
  have i0 : (0 : Int) ≤ (i : Int) := by omega
  by_cases hlt : i < n
  ·have p1 : decide ((i : Int) < (n : Int)) = true := decide_eq_true (by omega)
   have p2 : decide (i < n) = true := decide_eq_true hlt
   have p3 : (i : Int) < (n : Int) := by omega
   have z1 : IntKind.i64.wrap ((i : Int) + 1) = (i : Int) + 1 := by rw [IntKind.wrap_i64]; omega
   obtain ⟨y, hy⟩ : ∃ y, l[i]? = some y := ⟨_, List.getElem?_eq_getElem (by rw [HN.out]; exact hlt)⟩
   obtain ⟨g, o, rfl, hg, c0⟩ := (HV.out.more hb).at hy
   have htk : l.take (i + 1) = l.take i ++ [y] := by rw [List.take_add_one, hy]; rfl
   have HTK := Lib.hid htk
   have HI := Lib.hid (show i + 1 ≤ n by omega)
   have HLE := Lib.hid (show (l.take i).length * 8 ≤ 140737488355320 by rw [List.length_take]; omega)
   clear hi hlt hb hr hy hg htk
   go_wp2_with (at_builtin; refine wpList_int rfl _ _ rfl w.heap.size v (l.take i) rfl wr y rfl HR.out HB.out.size HLE.out ?_; intro v' w' hr' hb')
   go_roundw
   case rel => exact ⟨_, i + 1, rfl, by rfl, HI.out, HB.out.trans hb', by rw [HTK.out]; exact hr'⟩
   case measure => have := HI.out; simp [intOf]; omega
  ·have p1 : decide ((i : Int) < (n : Int)) = false := decide_eq_false (by omega)
   have p2 : decide (i < n) = false := decide_eq_false hlt
   have hfin : InR wr w.heap.size v l := by rw [List.take_of_length_le (by rw [HN.out]; omega)] at hr; exact hr
   have HF := Lib.hid hfin
   clear hi hlt hb hr hfin
   go_wp2
   go_ret
   exact ⟨_, rfl, HF.out, HB.out⟩
end Go.Proofs.YthnamoedpnknmaaGreatDoor

set_option linter.unusedVariables false
set_option linter.unusedSimpArgs false
set_option maxRecDepth 100000
set_option maxHeartbeats 4000000
namespace Go.Proofs.YthnamoedpnknmaaGreatDoor
open Go.RowKit
structure Two (B : Nat) (W : World) (x y : Value) (P E : List Int) : Prop where
 fst : InR W B x P
 snd : InR W B y E
 apart : ∀ b, x.ownBlock = some b → y.ownBlock ≠ some b
end Go.Proofs.YthnamoedpnknmaaGreatDoor

set_option linter.unusedVariables false
set_option linter.unusedSimpArgs false
set_option maxRecDepth 100000
set_option maxHeartbeats 8000000
namespace Go.Proofs.YthnamoedpnknmaaGreatDoor
open Go.RowKit
end Go.Proofs.YthnamoedpnknmaaGreatDoor
