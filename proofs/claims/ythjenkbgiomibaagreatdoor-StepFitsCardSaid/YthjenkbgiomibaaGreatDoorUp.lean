/-
  How far reachlaw10.StepFits has come when it looks at an entry (chapter 10; no program in sight).
-/
import Derived.Test.YthjenkbgiomibaaGreatDoorUt
set_option linter.unusedVariables false
set_option linter.unusedSimpArgs false
namespace Go.Proofs.YthjenkbgiomibaaGreatDoor
open Go.RowKit
namespace Sp
/-- The entry that fits stands ahead of the place i of the table b. -/
def doneB (n : Net) (p : Nat) (h : ByteArray) (q : Port) (b i : Nat) : Bool := (q.inn && decide (0 ≤ fitN n p h)) && (decide (q.box.toNat < b) || (decide (q.box.toNat = b) && decide (fitN n p h < (i : Int))))
def fdV (n : Net) (p : Nat) (h : ByteArray) (q : Port) (b i : Nat) : Int := if doneB n p h q b i = true then entryV n p h else -1
def wlV (n : Net) (p : Nat) (h : ByteArray) (q : Port) (b i : Nat) : List (Int × ByteArray) := if doneB n p h q b i = true ∨ q.inn = false then stV (movesV n p h) else []
section
variable {n : Net} {p : Nat} {h : ByteArray} {q : Port} {b i : Nat}
theorem doneB_iff : doneB n p h q b i = true ↔ (q.inn = true ∧ 0 ≤ fitN n p h) ∧ (q.box.toNat < b ∨ q.box.toNat = b ∧ fitN n p h < (i : Int)) := by
  unfold doneB
  simp only [Bool.and_eq_true, Bool.or_eq_true, decide_eq_true_eq]
theorem doneB_congr {b' i' : Nat} (hh : (q.inn = true ∧ 0 ≤ fitN n p h) → ((q.box.toNat < b ∨ q.box.toNat = b ∧ fitN n p h < (i : Int)) ↔ (q.box.toNat < b' ∨ q.box.toNat = b' ∧ fitN n p h < (i' : Int)))) : doneB n p h q b i = doneB n p h q b' i' := by
  rw [Bool.eq_iff_iff, doneB_iff, doneB_iff]
  constructor
  · intro hx; exact ⟨hx.1, (hh hx.1).1 hx.2⟩
  · intro hx; exact ⟨hx.1, (hh hx.1).2 hx.2⟩
theorem done_start : doneB n p h q 0 0 = false := by
  rw [Bool.eq_false_iff]
  intro hx
  have := doneB_iff.1 hx
  omega
theorem done_no (hno : ¬ (q.inn = true ∧ q.box.toNat = b ∧ fitN n p h = (i : Int))) : doneB n p h q b (i + 1) = doneB n p h q b i := by
  refine doneB_congr fun hx => ?_
  have : ¬ (q.box.toNat = b ∧ fitN n p h = (i : Int)) := fun e => hno ⟨hx.1, e⟩
  omega
theorem done_yes (h1 : q.inn = true) (h2 : q.box.toNat = b) (h3 : fitN n p h = (i : Int)) : doneB n p h q b i = false ∧ doneB n p h q b (i + 1) = true := by
  refine ⟨?_, doneB_iff.2 ⟨⟨h1, by omega⟩, Or.inr ⟨h2, by omega⟩⟩⟩
  rw [Bool.eq_false_iff]
  intro hx
  have := doneB_iff.1 hx
  omega
theorem done_table {l : Nat} (hf : q.inn = true → 0 ≤ fitN n p h → q.box.toNat = b → fitN n p h < (l : Int)) : doneB n p h q b l = doneB n p h q (b + 1) 0 := by
  refine doneB_congr fun hx => ?_
  have := hf hx.1 hx.2
  omega
theorem fitN_eq {g : List Guard} {t : List Entry} (hg : n.guards[p]? = some g) (hq : n.ports[p]? = some q) (ht : n.tables[q.box.toNat]? = some t) : fitN n p h = if letsB g h = true then fitI t p h else -1 := by
  unfold fitN
  rw [hg, hq]
  simp only [List.getD_eq_getElem?_getD, ht]
  rfl
theorem fitI_lt {t : List Entry} (hf : 0 ≤ fitI t p h) : fitI t p h < (t.length : Int) := by
  obtain ⟨e, he, _⟩ := idxF_find (f := fun e => fitsE e p h) (l := t) hf
  have := (List.getElem?_eq_some_iff.1 he).1
  unfold fitI at hf ⊢
  omega
theorem fitN_lt {g : List Guard} {t : List Entry} (hg : n.guards[p]? = some g) (hq : n.ports[p]? = some q) (ht : n.tables[q.box.toNat]? = some t) (hf : 0 ≤ fitN n p h) : fitN n p h < (t.length : Int) := by
  rw [fitN_eq hg hq ht] at hf ⊢
  split at hf
  · rename_i hl; rw [if_pos hl]; exact fitI_lt hf
  · omega
/-- An entry is the one that is applied just if it fits and none was found. -/
theorem fits_here {g : List Guard} {t : List Entry} {e : Entry} (hg : n.guards[p]? = some g) (hq : n.ports[p]? = some q) (ht : n.tables[q.box.toNat]? = some t) (he : t[i]? = some e) (hl : letsB g h = true) (hin : q.inn = true) (hd : doneB n p h q q.box.toNat i = false) : fitsE e p h = true ↔ fitN n p h = (i : Int) := by
  have hfe := fitN_eq hg hq ht (h := h)
  rw [if_pos hl] at hfe
  have hdd : ¬ (0 ≤ fitN n p h ∧ fitN n p h < (i : Int)) := by
    intro hx
    rw [doneB_iff.2 ⟨⟨hin, hx.1⟩, Or.inr ⟨rfl, hx.2⟩⟩] at hd
    cases hd
  constructor
  · intro hf
    rcases Int.lt_or_le (fitN n p h) 0 with hneg | hpos
    · exfalso
      have hno : ∀ (j : Nat) (x : Entry), j < i → t[j]? = some x → fitsE x p h = true → False := by
        intro j
        induction j using Nat.strongRecOn with
        | _ j ih =>
          intro x hj hx hfx
          have := idxF_yes (f := fun e => fitsE e p h) hx hfx (fun k y hk hy => Bool.eq_false_iff.2 (fun hz => ih k hk y (by omega) hy hz))
          have : fitI t p h = (j : Int) := this
          omega
      have := idxF_yes (f := fun e => fitsE e p h) he hf (fun k y hk hy => Bool.eq_false_iff.2 (fun hz => hno k y hk hy hz))
      have : fitI t p h = (i : Int) := this
      omega
    · rw [hfe] at hpos hdd ⊢
      obtain ⟨x, hx, hfx, hno⟩ := idxF_find (f := fun e => fitsE e p h) (l := t) hpos
      rcases Int.lt_or_le (i : Int) (fitI t p h) with hlt | hge
      · have h2 : fitsE e p h = false := hno i e hlt he
        rw [hf] at h2
        cases h2
      · omega
  · intro hf
    rw [hfe] at hf
    obtain ⟨x, hx, hfx, _⟩ := idxF_find (f := fun e => fitsE e p h) (l := t) (by show 0 ≤ fitI t p h; omega)
    have e1 : (idxF (fun e => fitsE e p h) t).toNat = i := by show (fitI t p h).toNat = i; omega
    rw [e1, he] at hx
    injection hx with hx
    rw [hx]
    exact hfx
theorem entryV_at (hq : n.ports[p]? = some q) (hin : q.inn = true) (hf : fitN n p h = (i : Int)) : entryV n p h = (numB n q.box.toNat i : Int) := by
  unfold entryV
  rw [hq]
  simp only [hin, hf, Int.toNat_natCast]
  rw [if_neg (by decide), if_neg (by omega)]
theorem fd_found (hq : n.ports[p]? = some q) (hd : doneB n p h q b i = true) : 0 ≤ fdV n p h q b i := by
  unfold fdV
  rw [if_pos hd]
  have := (doneB_iff.1 hd).1
  unfold entryV
  rw [hq]
  simp only [this.1]
  rw [if_neg (by decide), if_neg (by omega)]
  omega
theorem fd_not (hd : doneB n p h q b i = false) : fdV n p h q b i = -1 := by unfold fdV; rw [if_neg (by rw [hd]; decide)]
theorem movesV_link (hq : n.ports[p]? = some q) (hin : q.inn = false) : movesV n p h = if 0 ≤ q.dst then [⟨-1, -1, q.dst, h⟩] else [] := by
  unfold movesV
  rw [hq]
  simp only [hin]
  rw [if_pos trivial]
theorem movesV_entry {t : List Entry} {e : Entry} (hq : n.ports[p]? = some q) (hin : q.inn = true) (ht : n.tables[q.box.toNat]? = some t) (he : t[i]? = some e) (hf : fitN n p h = (i : Int)) : movesV n p h = e.outs.filterMap (outMv n (numB n q.box.toNat i) (wordV e.write h)) := by
  unfold movesV
  rw [hq]
  simp only [hin, hf, Int.toNat_natCast, List.getD_eq_getElem?_getD, ht]
  rw [if_neg (by decide), if_neg (by omega)]
  simp only [Option.getD_some, he]
theorem wl_start (hq : n.ports[p]? = some q) : wlV n p h q 0 0 = if q.inn = false ∧ 0 ≤ q.dst then [(q.dst, h)] else [] := by
  unfold wlV
  rw [done_start]
  by_cases hin : q.inn = false
  · rw [if_pos (Or.inr hin), movesV_link hq hin]
    by_cases hd : 0 ≤ q.dst
    · rw [if_pos hd, if_pos ⟨hin, hd⟩]
      unfold stV stM
      simp [hd]
    · rw [if_neg hd, if_neg (fun hx => hd hx.2)]
      rfl
  · rw [if_neg (by rintro (hx | hx); cases hx; exact hin hx), if_neg (fun hx => hin hx.1)]
theorem wl_no (hd : doneB n p h q b i = false) (hin : q.inn = true) : wlV n p h q b i = [] := by
  unfold wlV
  rw [if_neg (by rw [hd, hin]; simp)]
theorem wl_yes (hd : doneB n p h q b i = true) : wlV n p h q b i = stV (movesV n p h) := by
  unfold wlV
  rw [if_pos (Or.inl hd)]
theorem fd_yes (hd : doneB n p h q b i = true) : fdV n p h q b i = entryV n p h := by
  unfold fdV
  rw [if_pos hd]
theorem done_end (hq : n.ports[p]? = some q) (hb : q.box.toNat < b) : fdV n p h q b 0 = entryV n p h ∧ wlV n p h q b 0 = stV (movesV n p h) := by
  by_cases hin : q.inn = true
  · by_cases hf : 0 ≤ fitN n p h
    · have hd : doneB n p h q b 0 = true := doneB_iff.2 ⟨⟨hin, hf⟩, Or.inl hb⟩
      exact ⟨fd_yes (i := 0) hd, wl_yes (i := 0) hd⟩
    · have hd : doneB n p h q b 0 = false := Bool.eq_false_iff.2 (fun hx => hf (doneB_iff.1 hx).1.2)
      rw [fd_not hd, wl_no hd hin]
      unfold entryV movesV
      rw [hq]
      simp only [hin]
      rw [if_neg (by decide), if_pos (by omega), if_neg (by decide), if_pos (by omega)]
      exact ⟨rfl, rfl⟩
  · have hin' : q.inn = false := Bool.eq_false_iff.2 hin
    have hd : doneB n p h q b 0 = false := Bool.eq_false_iff.2 (fun hx => hin (doneB_iff.1 hx).1.1)
    rw [fd_not hd]
    unfold wlV
    rw [if_pos (Or.inr hin')]
    unfold entryV
    rw [hq]
    simp only [hin']
    rw [if_pos trivial]
    exact ⟨rfl, trivial⟩
theorem numB_succ : numB n b (i + 1) = numB n b i + 1 := by unfold numB; omega
theorem numB_table {t : List Entry} (ht : n.tables[b]? = some t) : numB n b t.length = numB n (b + 1) 0 := by
  unfold numB
  rw [List.take_add_one, ht, List.map_append, List.sum_append]
  simp
  omega
theorem fd_congr {b' i' : Nat} (hd : doneB n p h q b i = doneB n p h q b' i') : fdV n p h q b i = fdV n p h q b' i' := by unfold fdV; rw [hd]
theorem wl_congr {b' i' : Nat} (hd : doneB n p h q b i = doneB n p h q b' i') : wlV n p h q b i = wlV n p h q b' i' := by unfold wlV; rw [hd]
/-- What one out-port adds. -/
theorem out_states {g : List Guard} {r : Port} {o : Nat} {num : Int} {wd : ByteArray} (hg : n.guards[o]? = some g) (hr : n.ports[o]? = some r) : stV ([(o : Int)].filterMap (outMv n num wd)) = if letsB g wd = true then ((o : Int), wd) :: (if 0 ≤ r.dst then [(r.dst, wd)] else []) else [] := by
  rw [List.filterMap_cons]
  simp only [outMv, Int.toNat_natCast, hg, hr, List.filterMap_nil]
  by_cases hl : letsB g wd = true
  · rw [if_pos hl, if_pos hl]
    unfold stV stM
    have : (0 : Int) ≤ (o : Int) := by omega
    simp [this]
  · rw [if_neg hl, if_neg hl]
    rfl
end
end Sp
end Go.Proofs.YthjenkbgiomibaaGreatDoor
