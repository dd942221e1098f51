/-
  Texts joined: Ab Ac.
-/
import Derived.Test.YtpknablklencdaaGreatDoorHa
import Derived.Test.YtpknablklencdaaGreatDoorMw

set_option linter.unusedVariables false
set_option linter.unusedSimpArgs false
namespace Go.Proofs.YtpknablklencdaaGreatDoor
open Go.RowKit
namespace Sp
structure Path where
  ports : List Int
  entries : List Int
  header : ByteArray
def ifL (x : Int) : List Int := if 0 ≤ x then [x] else []
theorem ifL_yes {x : Int} (h : 0 ≤ x) : ifL x = [x] := if_pos h
theorem ifL_no {x : Int} (h : ¬ 0 ≤ x) : ifL x = [] := if_neg h
theorem ifL_len (x : Int) : (ifL x).length ≤ 1 := by unfold ifL; split <;> simp
def onP (p : Path) (m : Mv) : Path := ⟨p.ports ++ ifL m.out ++ ifL m.inn, p.entries ++ ifL m.entry, m.header⟩
def shortP (p : Path) (m : Mv) : Path := ⟨p.ports ++ ifL m.out, p.entries ++ ifL m.entry, m.header⟩
def lastP (p : Path) : Int := p.ports.getLastD 0
def portIn (n : Net) (k : Nat) : Bool := match n.ports[k]? with
  | some q => q.inn
  | none => false
def leafB (n : Net) (hops : Int) (p : Path) : Bool :=
  (movesV n (lastP p).toNat p.header).isEmpty || (if portIn n (lastP p).toNat = false then decide (1 < p.ports.length) else decide (hops ≤ (p.entries.length : Int)))
def walkV (n : Net) (hops : Int) : Nat → Path → List Path
  | 0, p => [p]
  | f + 1, p => if leafB n hops p = true then [p] else (movesV n (lastP p).toNat p.header).flatMap fun m => walkV n hops f (onP p m)
theorem walkV_leaf {n : Net} {hops : Int} {p : Path} (h : leafB n hops p = true) : ∀ f, walkV n hops f p = [p]
  | 0 => rfl
  | f + 1 => by unfold walkV; rw [if_pos h]
theorem walkV_on {n : Net} {hops : Int} {p : Path} (h : leafB n hops p = false) (f : Nat) : walkV n hops (f + 1) p = (movesV n (lastP p).toNat p.header).flatMap fun m => walkV n hops f (onP p m) := by
  rw [walkV, if_neg (by rw [h]; decide)]
noncomputable def pathsV (n : Net) (p : Int) (h : ByteArray) (hops : Int) : List Path :=
  if checkE n p h = 0 ∧ 0 ≤ hops ∧ hops ≤ 64 then walkV n hops (hops.toNat + 2) ⟨[p], [], h⟩ else []
theorem lastP_on (p : Path) (m : Mv) : lastP (onP p m) = if 0 ≤ m.inn then m.inn else if 0 ≤ m.out then m.out else lastP p := by
  unfold lastP onP ifL
  split <;> split <;> simp
theorem digits_word {n : Net} {w h : ByteArray} (hw : CubeOk n.bits w) (hh : ∀ (i : Nat) (c : UInt8), h.data.toList[i]? = some c → c = 48 ∨ c = 49) : ∀ (i : Nat) (c : UInt8), (wordV w h).data.toList[i]? = some c → c = 48 ∨ c = 49 := by
  intro i c hc
  have hcu : ∀ x ∈ w.data.toList, x = 48 ∨ x = 49 ∨ x = 120 := by
    intro x hx
    have h1 := hw.1
    unfold cubeE at h1
    split at h1
    · cases h1
    · split at h1
      · cases h1
      · split at h1
        · rename_i h3
          have := List.all_eq_true.1 h3 x hx
          simp only [Bool.or_eq_true, beq_iff_eq] at this
          rcases this with (e | e) | e
          · exact .inl e
          · exact .inr (.inl e)
          · exact .inr (.inr e)
        · cases h1
  have key : ∀ (a b : List UInt8), (∀ x ∈ a, x = 48 ∨ x = 49 ∨ x = 120) → (∀ (i : Nat) (c : UInt8), b[i]? = some c → c = 48 ∨ c = 49) → ∀ (i : Nat) (c : UInt8), (wrL a b)[i]? = some c → c = 48 ∨ c = 49 := by
    intro a
    induction a with
    | nil => intro b _ hb i c hc; rw [show wrL [] b = b by cases b <;> rfl] at hc; exact hb i c hc
    | cons x a ih =>
      intro b ha hb i c hc
      cases b with
      | nil => rw [show wrL (x :: a) [] = [] from rfl] at hc; simp at hc
      | cons y b =>
        rw [show wrL (x :: a) (y :: b) = wrB x y :: wrL a b from rfl] at hc
        cases i with
        | zero =>
          have hc' : wrB x y = c := by simpa using hc
          unfold wrB at hc'
          split at hc'
          · exact hb 0 c (by simpa using hc')
          · rename_i hne
            rcases ha x List.mem_cons_self with e | e | e
            · exact .inl (hc'.symm.trans e)
            · exact .inr (hc'.symm.trans e)
            · exact absurd e hne
        | succ i => exact ih b (fun z hz => ha z (List.mem_cons_of_mem _ hz)) (fun j d hd => hb (j + 1) d (by simpa using hd)) i c (by simpa using hc)
  exact key _ _ hcu hh i c (by simpa [wordV] using hc)
structure MvIn (n : Net) (k : Nat) (h : ByteArray) (m : Mv) : Prop where
  entry : 0 ≤ m.entry
  out : 0 ≤ m.out
  port : ∃ r, n.ports[m.out.toNat]? = some r ∧ r.inn = false ∧ m.inn = r.dst
  size : m.header.size = h.size
  digits : (∀ (i : Nat) (c : UInt8), h.data.toList[i]? = some c → c = 48 ∨ c = 49) → ∀ (i : Nat) (c : UInt8), m.header.data.toList[i]? = some c → c = 48 ∨ c = 49
  uniq : ∀ m' ∈ movesV n k h, m'.out = m.out → m' = m
theorem movesV_link {n : Net} {k : Nat} {h : ByteArray} {q : Port} (hq : n.ports[k]? = some q) (hin : q.inn = false) : movesV n k h = if 0 ≤ q.dst then [⟨-1, -1, q.dst, h⟩] else [] := by
  unfold movesV
  rw [hq]
  simp only [hin, if_true]
theorem movesV_in {n : Net} (hn : NetOk n) {k : Nat} {h : ByteArray} {q : Port} (hq : n.ports[k]? = some q) (hin : q.inn = true) : movesV n k h = [] ∨ ∃ t e num, n.tables[q.box.toNat]? = some t ∧ e ∈ t ∧ 0 ≤ num ∧ movesV n k h = e.outs.filterMap (outMv n num (wordV e.write h)) := by
  unfold movesV
  rw [hq]
  simp only [hin, Bool.true_eq_false, if_false]
  split
  · exact .inl rfl
  · split
    · exact .inl rfl
    · rename_i e he
      have hbx := (hn.ports k q hq).box
      have hbl : q.box.toNat < n.tables.length := by omega
      have ht : n.tables[q.box.toNat]? = some (n.tables[q.box.toNat]) := List.getElem?_eq_getElem hbl
      rw [List.getD_eq_getElem?_getD, ht] at he
      exact .inr ⟨_, e, _, ht, List.mem_of_getElem? he, Int.natCast_nonneg _, rfl⟩
theorem outMv_some {n : Net} {num : Int} {h : ByteArray} {o : Int} {m : Mv} (hm : outMv n num h o = some m) : m.entry = num ∧ m.out = o ∧ m.header = h ∧ ∃ r, n.ports[o.toNat]? = some r ∧ m.inn = r.dst := by
  unfold outMv at hm
  split at hm
  · rename_i g r hg hr
    split at hm
    · injection hm with hm
      subst hm
      exact ⟨rfl, rfl, rfl, r, hr, rfl⟩
    · cases hm
  · cases hm
theorem mvIn_of {n : Net} (hn : NetOk n) {k : Nat} {h : ByteArray} {q : Port} (hq : n.ports[k]? = some q) (hin : q.inn = true) {m : Mv} (hm : m ∈ movesV n k h) : MvIn n k h m := by
  rcases movesV_in hn (h := h) hq hin with e | ⟨t, e, num, ht, he, h0, hM⟩
  · rw [e] at hm; cases hm
  have ho := table_at hn ht he
  have hmm := hm
  rw [hM] at hmm
  obtain ⟨o, hoo, hmo⟩ := List.mem_filterMap.1 hmm
  obtain ⟨e1, e2, e3, r, hr, e4⟩ := outMv_some hmo
  obtain ⟨i, hi⟩ := List.mem_iff_getElem?.1 hoo
  obtain ⟨g1, r', hr', g2, g3⟩ := (ho.outs i o hi).1
  rw [hr] at hr'
  injection hr' with hr'
  subst hr'
  refine ⟨by omega, by omega, ⟨r, by rw [e2]; exact hr, g2, e4⟩, by rw [e3]; exact wordV_sz _ _, fun hd => by rw [e3]; exact digits_word ho.word hd, fun m' hm' ho' => ?_⟩
  rw [hM] at hm'
  obtain ⟨o', _, hmo'⟩ := List.mem_filterMap.1 hm'
  obtain ⟨_, e2', _⟩ := outMv_some hmo'
  rw [show o' = o by omega, hmo] at hmo'
  injection hmo' with hx
  exact hx.symm
theorem find_uniq {α : Type} {f : α → Bool} {m : α} : ∀ {l : List α}, m ∈ l → f m = true → (∀ y ∈ l, f y = true → y = m) → l.find? f = some m
  | [], h, _, _ => by cases h
  | x :: l, h, hf, hu => by
    rw [List.find?_cons]
    cases hx : f x with
    | true => simp only; rw [hu x List.mem_cons_self hx]
    | false =>
      simp only
      rcases List.mem_cons.1 h with rfl | h
      · rw [hf] at hx; cases hx
      · exact find_uniq h hf (fun y hy => hu y (List.mem_cons_of_mem _ hy))
theorem followV_hit {n : Net} {k : Nat} {h : ByteArray} {x : Int} {r : List Int} {i a : Int} {m : Mv} (hf : (movesV n k h).find? (hitM x) = some m) : followV n k h (x :: r) i a = followV n x.toNat m.header r (i + 1) (stepA x m a) := by
  conv => lhs; unfold followV
  rw [hf]
theorem follow_link {n : Net} {k : Nat} {h : ByteArray} {q : Port} (hq : n.ports[k]? = some q) (hin : q.inn = false) (hd : 0 ≤ q.dst) (r : List Int) (i a : Int) : followV n k h (q.dst :: r) i a = followV n q.dst.toNat h r (i + 1) a := by
  have hf : (movesV n k h).find? (hitM q.dst) = some ⟨-1, -1, q.dst, h⟩ := by
    rw [movesV_link hq hin, if_pos hd]
    have : hitM q.dst ⟨-1, -1, q.dst, h⟩ = true := by unfold hitM; simp
    rw [List.find?_cons, this]
  rw [followV_hit hf]
  have : stepA q.dst ⟨-1, -1, q.dst, h⟩ a = a := by
    unfold stepA
    rw [if_neg]
    simp
  rw [this]
theorem follow_move {n : Net} (hn : NetOk n) {k : Nat} {h : ByteArray} {q : Port} (hq : n.ports[k]? = some q) {m : Mv} (hm : m ∈ movesV n k h) (p : Path) (r : List Int) (i a : Int) :
    followV n k h (ifL m.out ++ ifL m.inn ++ r) i a = followV n (lastP (onP p m)).toNat m.header r (i + ((ifL m.out ++ ifL m.inn).length : Int)) (a + ((ifL m.entry).length : Int)) := by
  rw [lastP_on]
  cases hin : q.inn with
  | false =>
    rw [movesV_link hq hin] at hm
    split at hm
    · rename_i hd
      obtain rfl : m = ⟨-1, -1, q.dst, h⟩ := by simpa using hm
      simp only [ifL_no (show ¬ (0 : Int) ≤ -1 by decide), ifL_yes hd, if_pos hd, List.nil_append, List.singleton_append, List.length_singleton, List.length_nil]
      rw [follow_link hq hin hd]
      simp
    · cases hm
  | true =>
    have hM := mvIn_of hn hq hin hm
    obtain ⟨s, hs, hsi, hdst⟩ := hM.port
    have hf : (movesV n k h).find? (hitM m.out) = some m := by
      refine find_uniq hm ?_ (fun y hy hh => ?_)
      · unfold hitM
        simp [hM.entry]
      · have hY := mvIn_of hn hq hin hy
        have h1 := hY.out
        unfold hitM at hh
        simp only [Bool.or_eq_true, Bool.and_eq_true, beq_iff_eq, decide_eq_true_eq] at hh
        rcases hh with ⟨e, _⟩ | ⟨e, _⟩
        · exact hM.uniq y hy e
        · omega
    have hst : stepA m.out m a = a + 1 := by
      unfold stepA
      rw [if_pos (by simp [hM.entry])]
    rw [ifL_yes hM.out, ifL_yes hM.entry]
    by_cases hd : 0 ≤ m.inn
    · rw [ifL_yes hd, if_pos hd]
      simp only [List.singleton_append, List.cons_append, List.nil_append, List.length_cons, List.length_nil]
      rw [followV_hit hf, hst, hdst, follow_link hs hsi (by omega)]
      congr 1
      omega
    · rw [ifL_no hd, if_neg hd, if_pos hM.out]
      simp only [List.singleton_append, List.cons_append, List.nil_append, List.append_nil, List.length_cons, List.length_nil]
      rw [followV_hit hf, hst]
      rfl
def Reached (n : Net) (s : Nat) (h : ByteArray) (p : Path) : Prop := ∃ l, p.ports = (s : Int) :: l ∧ ∀ (r : List Int) (i a : Int), followV n s h (l ++ r) i a = followV n (lastP p).toNat p.header r (i + (l.length : Int)) (a + (p.entries.length : Int))
structure POk (n : Net) (hops : Int) (p : Path) : Prop where
  st : StateOk n (lastP p) p.header
  ne : p.ports ≠ []
  ents : (p.entries.length : Int) ≤ hops
  len : p.ports.length ≤ 2 * p.entries.length + 2
  one : portIn n (lastP p).toNat = false → 1 < p.ports.length → movesV n (lastP p).toNat p.header = []
theorem POk.port {n : Net} {hops : Int} {p : Path} (h : POk n hops p) : ∃ q, n.ports[(lastP p).toNat]? = some q ∧ portIn n (lastP p).toNat = q.inn := by
  obtain ⟨q, hq⟩ := port_at h.st
  exact ⟨q, hq, by unfold portIn; rw [hq]⟩
theorem Reached.next {n : Net} (hn : NetOk n) {s : Nat} {h : ByteArray} {p : Path} (hr : Reached n s h p) {q : Port} (hq : n.ports[(lastP p).toNat]? = some q) {m : Mv} (hm : m ∈ movesV n (lastP p).toNat p.header) : Reached n s h (onP p m) := by
  obtain ⟨l, hl, hf⟩ := hr
  refine ⟨l ++ (ifL m.out ++ ifL m.inn), by show p.ports ++ ifL m.out ++ ifL m.inn = _; rw [hl]; simp, fun r i a => ?_⟩
  rw [List.append_assoc, hf, follow_move hn hq hm p]
  show followV n _ m.header r _ _ = followV n _ m.header r (i + ((l ++ (ifL m.out ++ ifL m.inn)).length : Int)) (a + ((p.entries ++ ifL m.entry).length : Int))
  obtain ⟨X, hX⟩ : ∃ X, ifL m.out ++ ifL m.inn = X := ⟨_, rfl⟩
  rw [hX]
  have e1 : (l ++ X).length = l.length + X.length := List.length_append
  have e2 : (p.entries ++ ifL m.entry).length = p.entries.length + (ifL m.entry).length := List.length_append
  rw [e1, e2]
  congr 1 <;> omega
def needP (n : Net) (hops : Int) (p : Path) : Nat := (hops - (p.entries.length : Int)).toNat + (if portIn n (lastP p).toNat = false ∧ p.ports.length ≤ 1 then 2 else 1)
theorem POk.next {n : Net} (hn : NetOk n) {hops : Int} {p : Path} (h : POk n hops p) (hl : leafB n hops p = false) {m : Mv} (hm : m ∈ movesV n (lastP p).toNat p.header) : POk n hops (onP p m) ∧ needP n hops (onP p m) < needP n hops p := by
  obtain ⟨q, hq, hqi⟩ := h.port
  have hf := movesV_fine hn hm
  unfold leafB at hl
  rw [Bool.or_eq_false_iff] at hl
  have hlen := h.len
  have hne : 1 ≤ p.ports.length := by cases hp : p.ports with | nil => exact absurd hp h.ne | cons _ _ => simp
  have hbits := h.st.bits
  cases hin : q.inn with
  | false =>
    rw [hqi, hin, if_pos rfl, decide_eq_false_iff_not] at hl
    rw [movesV_link hq hin] at hm
    split at hm
    · rename_i hd
      obtain rfl : m = ⟨-1, -1, q.dst, p.header⟩ := by simpa using hm
      have hlast : lastP (onP p ⟨-1, -1, q.dst, p.header⟩) = q.dst := by rw [lastP_on, if_pos hd]
      have hpo : (onP p ⟨-1, -1, q.dst, p.header⟩).ports.length = p.ports.length + 1 := by
        unfold onP
        simp only [ifL_no (show ¬ (0 : Int) ≤ -1 by decide), ifL_yes hd, List.append_nil, List.length_append, List.length_singleton]
      have hen : (onP p ⟨-1, -1, q.dst, p.header⟩).entries = p.entries := by
        unfold onP
        simp only [ifL_no (show ¬ (0 : Int) ≤ -1 by decide), List.append_nil]
      rcases (hn.ports _ q hq).dst with e | ⟨_, _, r, hr, hri⟩
      · omega
      have hpi : portIn n (lastP (onP p ⟨-1, -1, q.dst, p.header⟩)).toNat = true := by unfold portIn; rw [hlast, hr]; exact hri
      refine ⟨⟨?_, ?_, ?_, ?_, ?_⟩, ?_⟩
      · rw [hlast]
        exact ⟨⟨hd, hf.inn hd⟩, hbits, h.st.digits⟩
      · intro e; rw [e] at hpo; simp at hpo
      · rw [hen]; exact h.ents
      · rw [hen, hpo]; omega
      · intro e; rw [hpi] at e; cases e
      · unfold needP
        rw [hen, hpi, hqi, hin, if_neg (by simp), if_pos ⟨rfl, by omega⟩]
        omega
    · cases hm
  | true =>
    rw [hqi, hin, if_neg (by simp), decide_eq_false_iff_not] at hl
    have hM := mvIn_of hn hq hin hm
    obtain ⟨s, hs, hsi, hdst⟩ := hM.port
    have hen : (onP p m).entries.length = p.entries.length + 1 := by
      unfold onP
      simp only [ifL_yes hM.entry, List.length_append, List.length_singleton]
    have hpo : (onP p m).ports.length = p.ports.length + 1 + (ifL m.inn).length := by
      unfold onP
      simp only [ifL_yes hM.out, List.length_append, List.length_singleton]
    have hil := ifL_len m.inn
    have hst : StateOk n (lastP (onP p m)) (onP p m).header := by
      refine ⟨?_, by show ((m.header.size : Nat) : Int) = _; rw [hM.size]; exact hbits, hM.digits h.st.digits⟩
      rw [lastP_on]
      split
      · rename_i e; exact ⟨e, hf.inn e⟩
      · rw [if_pos hM.out]; exact ⟨hM.out, hf.out hM.out⟩
    refine ⟨⟨hst, ?_, by omega, by omega, ?_⟩, ?_⟩
    · intro e; rw [e] at hpo; simp only [List.length_nil] at hpo; omega
    · intro e1 e2
      by_cases hd : 0 ≤ m.inn
      · exfalso
        rcases (hn.ports _ s hs).dst with e | ⟨_, _, r, hr, hri⟩
        · omega
        · rw [lastP_on, if_pos hd, hdst] at e1
          unfold portIn at e1
          rw [hr] at e1
          simp only at e1
          rw [hri] at e1
          cases e1
      · rw [lastP_on, if_neg hd, if_pos hM.out, movesV_link hs hsi, if_neg (by omega)]
    · unfold needP
      rw [hen, hqi, hin, if_neg (by rw [hpo]; omega), if_neg (by simp)]
      omega
theorem POk.first {n : Net} {p : Int} {h : ByteArray} (hs : StateOk n p h) {hops : Int} (hh : 0 ≤ hops) : POk n hops ⟨[p], [], h⟩ :=
  ⟨hs, by simp, by simpa using hh, by simp, fun _ h => by simp at h⟩
theorem needP_first (n : Net) (p : Int) (h : ByteArray) (hops : Int) : needP n hops ⟨[p], [], h⟩ ≤ hops.toNat + 2 := by
  unfold needP
  simp only [List.length_nil]
  split <;> omega
theorem Reached.first (n : Net) (s : Nat) (h : ByteArray) : Reached n s h ⟨[(s : Int)], [], h⟩ := ⟨[], rfl, fun r i a => by
  show followV n s h r i a = followV n ((s : Int)).toNat h r (i + 0) (a + 0)
  rw [Int.toNat_natCast, Int.add_zero, Int.add_zero]⟩
structure Whole (n : Net) (s : Nat) (h : ByteArray) (hops : Int) (p : Path) : Prop where
  ok : POk n hops p
  reached : Reached n s h p
  leaf : leafB n hops p = true
theorem walk_whole {n : Net} (hn : NetOk n) {s : Nat} {h : ByteArray} {hops : Int} : ∀ (f : Nat) (p : Path), POk n hops p → Reached n s h p → needP n hops p ≤ f → ∀ q ∈ walkV n hops f p, Whole n s h hops q
  | 0, p, hp, _, hf, q, hq => by unfold needP at hf; split at hf <;> omega
  | f + 1, p, hp, hr, hf, q, hq => by
    cases hl : leafB n hops p with
    | true =>
      rw [walkV_leaf hl] at hq
      obtain rfl : q = p := by simpa using hq
      exact ⟨hp, hr, hl⟩
    | false =>
      rw [walkV_on hl] at hq
      obtain ⟨m, hm, hq⟩ := List.mem_flatMap.1 hq
      obtain ⟨h1, h2⟩ := hp.next hn hl hm
      obtain ⟨pq, hpq, _⟩ := hp.port
      exact walk_whole hn f (onP p m) h1 (hr.next hn hpq hm) (by omega) q hq
theorem paths_whole {n : Net} {s : Nat} {h : ByteArray} {hops : Int} {q : Path} (hq : q ∈ pathsV n (s : Int) h hops) : Whole n s h hops q := by
  unfold pathsV at hq
  split at hq
  · rename_i hc
    obtain ⟨hn, hs⟩ := checkE_zero hc.1
    exact walk_whole hn _ _ (POk.first hs hc.2.1) (Reached.first n s h) (needP_first _ _ _ _) q hq
  · cases hq
end Sp
end Go.Proofs.YtpknablklencdaaGreatDoor

set_option linter.unusedVariables false
set_option linter.unusedSimpArgs false
namespace Go.Proofs.YtpknablklencdaaGreatDoor
open Go.RowKit
namespace Sp
theorem Whole.ports_len {n : Net} {s : Nat} {h : ByteArray} {hops : Int} {q : Path} (hw : Whole n s h hops q) (hh : hops ≤ 64) : 1 ≤ q.ports.length ∧ q.ports.length ≤ 130 := by
  have h1 := hw.ok.len
  have h2 := hw.ok.ents
  obtain ⟨l, hl, _⟩ := hw.reached
  refine ⟨by rw [hl]; simp, by omega⟩
theorem followT_at {n : Net} {s : Nat} {h : ByteArray} (hc : checkE n (s : Int) h = 0) {l : List Int} (hl : l.length ≤ 129) : followT n (s : Int) h ((s : Int) :: l) = followV n s h l 1 0 := by
  unfold followT
  rw [if_neg (by rw [List.length_cons]; omega), if_pos hc]
  simp only
  rw [if_pos trivial, Int.toNat_natCast]
theorem Whole.follow {n : Net} {s : Nat} {h : ByteArray} {hops : Int} {q : Path} (hw : Whole n s h hops q) : ∃ l, q.ports = (s : Int) :: l ∧ followV n s h l 1 0 = (q.header, (q.entries.length : Int), 0) := by
  obtain ⟨l, hl, hf⟩ := hw.reached
  refine ⟨l, hl, ?_⟩
  have := hf [] 1 0
  rw [List.append_nil] at this
  rw [this]
  simp [followV]
theorem walk_prefix {n : Net} {hops : Int} : ∀ (f : Nat) (p : Path), ∀ q ∈ walkV n hops f p, p.ports <+: q.ports
  | 0, p, q, hq => by rw [walkV] at hq; obtain rfl : q = p := (by simpa using hq); exact List.prefix_refl _
  | f + 1, p, q, hq => by
    cases hl : leafB n hops p with
    | true => rw [walkV_leaf hl] at hq; obtain rfl : q = p := (by simpa using hq); exact List.prefix_refl _
    | false =>
      rw [walkV_on hl] at hq
      obtain ⟨m, hm, hq⟩ := List.mem_flatMap.1 hq
      refine List.IsPrefix.trans ?_ (walk_prefix f (onP p m) q hq)
      exact ⟨ifL m.out ++ ifL m.inn, by show _ = p.ports ++ ifL m.out ++ ifL m.inn; rw [List.append_assoc]⟩
end Sp
end Go.Proofs.YtpknablklencdaaGreatDoor
