/-
  PLAIN LEAN, no program in sight: escapes (chapter 3) by their bytes.
-/
import Derived.Test.YtjedoipbllcfdaaDoorSpR
set_option linter.unusedVariables false
set_option linter.unusedSimpArgs false
namespace Go.Proofs.YtjedoipbllcfdaaDoor
namespace Sp

theorem hexZ_pos (c : UInt8) (h : hexv c < 16) : hexZ c = hexv c := by unfold hexZ; rw [if_pos h]
theorem hexZ_neg (c : UInt8) (h : ¬ hexv c < 16) : hexZ c = -1 := by unfold hexZ; rw [if_neg h]

/-- The piece that begins with a backslash, by its bytes. -/
def brO (l : List UInt8) : Option (Nat × Nat) := if 2 < l.length ∧ bt l 2 = 123 then bracedV (l.drop 3) else none
def brK (l : List UInt8) : Nat := match brO l with | none => 0 | some (k, _) => k
def brN (l : List UInt8) : Nat := match brO l with | none => 0 | some (_, v) => v
def escK (l : List UInt8) : Nat := match escV l with | none => 0 | some (k, _) => k
def escB (l : List UInt8) : List UInt8 := match escV l with | none => [] | some (_, b) => b

def bracedR (m : List UInt8) (k : Nat) : Option (Nat × Nat) :=
  if k = 0 ∨ m.length ≤ k ∨ bt m k ≠ 125 ∨ validRune (digitsV 16 0 (m.take k)) = false then none else some (k + 4, digitsV 16 0 (m.take k))
def hexAll (m : List UInt8) : Bool := m.all (fun c => decide (hexv c < 16))
theorem hexAll_snoc (m : List UInt8) (k : Nat) (h : k < m.length) (ha : hexAll (m.take k) = true) (hx : hexv (m[k]'h) < 16) : hexAll (m.take (k + 1)) = true := by
  unfold hexAll at *
  rw [List.take_succ_eq_append_getElem h, List.all_append, ha]
  simp [hx]
theorem digits_snoc (base : Nat) (m : List UInt8) (k : Nat) (h : k < m.length) : digitsV base 0 (m.take (k + 1)) = base * digitsV base 0 (m.take k) + hexv (m[k]'h) := by
  rw [List.take_succ_eq_append_getElem h, digitsV_append]
  rfl
theorem hex_ne (c : UInt8) (h : hexv c < 16) : c ≠ 125 := by
  rintro rfl
  revert h
  decide
theorem takeWhile_all {p : UInt8 → Bool} : ∀ (d r : List UInt8), (∀ c ∈ d, p c = true) → (d ++ r).takeWhile p = d ++ r.takeWhile p
  | [], r, _ => rfl
  | c :: d, r, h => by
    rw [List.cons_append, List.takeWhile_cons, if_pos (h c (by simp)), takeWhile_all d r (fun x hx => h x (by simp [hx]))]
    rfl
/-- Reading at most six digits and looking for the bracket behind them is what 'bracedV' says. -/
theorem bracedR_eq (m : List UInt8) (k : Nat) (hk : k ≤ 6) (hl : k ≤ m.length) (ha : hexAll (m.take k) = true) (hend : k = m.length ∨ k = 6 ∨ ∃ h : k < m.length, ¬ hexv (m[k]'h) < 16) : bracedR m k = bracedV m := by
  have hmem : ∀ c ∈ m.take k, hexv c < 16 := fun c hc => of_decide_eq_true (List.all_eq_true.1 ha c hc)
  have hsplit : m = m.take k ++ m.drop k := (List.take_append_drop k m).symm
  have hlen : (m.take k).length = k := by rw [List.length_take]; omega
  by_cases hb : k < m.length ∧ bt m k = 125
  · obtain ⟨hkl, hb⟩ := hb
    have hc : m[k]'hkl = 125 := by
      have := bt_get m k hkl
      rw [hb] at this
      exact UInt8.toNat_inj.1 (by rw [← this]; rfl)
    have hd : m.drop k = 125 :: m.drop (k + 1) := by rw [List.drop_eq_getElem_cons hkl, hc]
    have htw : m.takeWhile (fun x => decide (x ≠ 125)) = m.take k := by
      have : (m.take k ++ m.drop k).takeWhile (fun x => decide (x ≠ 125)) = m.take k := by
        rw [takeWhile_all _ _ (fun c hc => decide_eq_true (hex_ne c (hmem c hc))), hd]
        simp
      rw [← hsplit] at this
      exact this
    have hall : m.all (fun x => decide (x ≠ 125)) = false := by
      rw [List.all_eq_false]
      exact ⟨125, by rw [← hc]; exact List.getElem_mem hkl, by simp⟩
    have hV : bracedV m = match basedV 16 6 (m.take k) with | none => none | some v => if validRune v then some ((m.take k).length + 4, v) else none := by
      unfold bracedV
      rw [if_neg (by rw [hall]; decide), htw]
      cases basedV 16 6 (m.take k) <;> rfl
    rw [hV, hlen]
    unfold bracedR basedV
    rw [hlen]
    by_cases h0 : k = 0
    · rw [if_pos (Or.inl h0), if_pos (Or.inl h0)]
    · have ha' : (m.take k).all (fun c => decide (hexv c < 16)) = true := ha
      have hno : ¬ (k = 0 ∨ 6 < k ∨ (m.take k).all (fun c => decide (hexv c < 16)) = false) := by
        rintro (h | h | h)
        · exact h0 h
        · omega
        · rw [ha'] at h; cases h
      rw [if_neg hno]
      by_cases hv : validRune (digitsV 16 0 (m.take k)) = true
      · rw [if_neg (by rintro (h | h | h | h); exact h0 h; omega; exact h hb; rw [hv] at h; cases h)]
        show _ = if _ then _ else _
        rw [if_pos hv]
      · have hv' : validRune (digitsV 16 0 (m.take k)) = false := by simpa using hv
        rw [if_pos (Or.inr (Or.inr (Or.inr hv')))]
        show _ = if _ then _ else _
        rw [if_neg hv]
  · have hR : bracedR m k = none := by
      unfold bracedR
      rw [if_pos]
      by_cases h : k < m.length
      · exact Or.inr (Or.inr (Or.inl (fun e => hb ⟨h, e⟩)))
      · exact Or.inr (Or.inl (by omega))
    rw [hR]
    unfold bracedV
    by_cases hall : m.all (fun x => decide (x ≠ 125)) = true
    · rw [if_pos hall]
    · rw [if_neg hall]
      have hbas : basedV 16 6 (m.takeWhile (fun x => decide (x ≠ 125))) = none := by
        unfold basedV
        rw [if_pos]
        -- the text before the bracket is longer than k and holds what stands at k
        have h1 : m.takeWhile (fun x => decide (x ≠ 125)) = m.take k ++ (m.drop k).takeWhile (fun x => decide (x ≠ 125)) := by
          have := takeWhile_all (p := fun x => decide (x ≠ 125)) (m.take k) (m.drop k) (fun c hc => decide_eq_true (hex_ne c (hmem c hc)))
          rw [← hsplit] at this
          exact this
        rcases hend with hend | hend | ⟨hkl, hend⟩
        · exfalso
          apply hall
          rw [hsplit, hend, List.drop_length, List.append_nil, List.take_length, List.all_eq_true]
          intro c hc
          have hmem2 := hmem c
          rw [hend, List.take_length] at hmem2
          exact decide_eq_true (hex_ne c (hmem2 hc))
        · right; left
          rw [h1, List.length_append, hlen]
          have hkl : k < m.length := by
            rcases Nat.lt_or_ge k m.length with h | h
            · exact h
            · exfalso
              apply hall
              have hkm : k = m.length := by omega
              rw [List.all_eq_true]
              intro c hc
              have hmem2 := hmem c
              rw [hkm, List.take_length] at hmem2
              exact decide_eq_true (hex_ne c (hmem2 hc))
          have hc : m[k]'hkl ≠ 125 := by
            intro e
            exact hb ⟨hkl, by rw [bt_get m k hkl, e]; rfl⟩
          rw [List.drop_eq_getElem_cons hkl, List.takeWhile_cons, if_pos (by simpa using hc)]
          simp
          omega
        · right; right
          have hc : m[k]'hkl ≠ 125 := by
            intro e
            exact hb ⟨hkl, by rw [bt_get m k hkl, e]; rfl⟩
          rw [h1, List.drop_eq_getElem_cons hkl, List.takeWhile_cons, if_pos (by simpa using hc), List.all_eq_false]
          exact ⟨m[k]'hkl, by simp, by simpa using hend⟩
      rw [hbas]

theorem tw_lt (p : UInt8 → Bool) : ∀ m : List UInt8, ¬ m.all p = true → (m.takeWhile p).length < m.length
  | [], h => absurd rfl h
  | c :: r, h => by
    rw [List.takeWhile_cons]
    by_cases hc : p c = true
    · rw [if_pos hc]
      have : ¬ r.all p = true := fun hr => h (by rw [List.all_cons, hc, hr]; rfl)
      have := tw_lt p r this
      simp only [List.length_cons]
      omega
    · rw [if_neg hc]
      simp
theorem bracedV_some {m : List UInt8} {k v : Nat} (h : bracedV m = some (k, v)) : 4 ≤ k ∧ k ≤ m.length + 3 ∧ v ≤ 1114111 ∧ (v < 55296 ∨ 57343 < v) := by
  unfold bracedV at h
  split at h
  · cases h
  · rename_i hall
    split at h
    · cases h
    · rename_i v' _
      split at h
      · rename_i hv
        injection h with h
        injection h with h1 h2
        subst h1; subst h2
        have := of_decide_eq_true hv
        have hl := tw_lt _ m hall
        exact ⟨by omega, by omega, by omega, by omega⟩
      · cases h
theorem brO_some {l : List UInt8} {k v : Nat} (h : brO l = some (k, v)) : 2 < l.length ∧ bracedV (l.drop 3) = some (k, v) := by
  unfold brO at h
  split at h
  · rename_i hc; exact ⟨hc.1, h⟩
  · cases h
theorem brO_k {l : List UInt8} {k v : Nat} (h : brO l = some (k, v)) : 4 ≤ k ∧ k ≤ l.length := by
  have h1 := brO_some h
  have h2 := bracedV_some h1.2
  rw [List.length_drop] at h2
  omega
theorem brO_v {l : List UInt8} {k v : Nat} (h : brO l = some (k, v)) : v ≤ 1114111 ∧ (v < 55296 ∨ 57343 < v) := (bracedV_some (brO_some h).2).2.2

/-- 'escV' by the bytes. -/
theorem escV_eq (l : List UInt8) : escV l =
    if l.length < 2 then none else if bt l 1 = 34 then some (2, [34]) else if bt l 1 = 92 then some (2, [92]) else if bt l 1 = 110 then some (2, [10]) else if bt l 1 = 114 then some (2, [13])
    else if bt l 1 = 116 then some (2, [9])
    else if bt l 1 = 120 then (if 3 < l.length ∧ hexv (l.getD 2 0) < 16 ∧ hexv (l.getD 3 0) < 16 then some (4, [(16 * hexv (l.getD 2 0) + hexv (l.getD 3 0)).toUInt8]) else none)
    else if bt l 1 = 117 then (match brO l with | none => none | some (k, v) => some (k, Lib.encodeRune (v : Nat)))
    else none := by
  have heq : ∀ (c : UInt8) (n : Nat), n < 256 → ((c = UInt8.ofNat n) = (c.toNat = n)) := by
    intro c n hn
    apply propext
    constructor
    · intro h; rw [h, UInt8.toNat_ofNat']; omega
    · intro h; apply UInt8.toNat_inj.1; rw [UInt8.toNat_ofNat', h]; omega
  rcases l with _ | ⟨a, _ | ⟨c, r⟩⟩
  · rfl
  · rfl
  · have e1 : bt (a :: c :: r) 1 = c.toNat := rfl
    rw [e1]
    rw [if_neg (by simp)]
    simp only [escV]
    have h34 := heq c 34 (by omega); have h92 := heq c 92 (by omega); have h110 := heq c 110 (by omega); have h114 := heq c 114 (by omega)
    have h116 := heq c 116 (by omega); have h120 := heq c 120 (by omega); have h117 := heq c 117 (by omega)
    have w34 : (UInt8.ofNat 34) = 34 := rfl
    have w92 : (UInt8.ofNat 92) = 92 := rfl
    have w110 : (UInt8.ofNat 110) = 110 := rfl
    have w114 : (UInt8.ofNat 114) = 114 := rfl
    have w116 : (UInt8.ofNat 116) = 116 := rfl
    have w120 : (UInt8.ofNat 120) = 120 := rfl
    have w117 : (UInt8.ofNat 117) = 117 := rfl
    rw [w34] at h34; rw [w92] at h92; rw [w110] at h110; rw [w114] at h114; rw [w116] at h116; rw [w120] at h120; rw [w117] at h117
    simp only [h34, h92, h110, h114, h116, h120, h117]
    by_cases k1 : c.toNat = 34
    · rw [if_pos k1, if_pos k1]
    by_cases k2 : c.toNat = 92
    · rw [if_neg k1, if_neg k1, if_pos k2, if_pos k2]
    by_cases k3 : c.toNat = 110
    · rw [if_neg k1, if_neg k1, if_neg k2, if_neg k2, if_pos k3, if_pos k3]
    by_cases k4 : c.toNat = 114
    · rw [if_neg k1, if_neg k1, if_neg k2, if_neg k2, if_neg k3, if_neg k3, if_pos k4, if_pos k4]
    by_cases k5 : c.toNat = 116
    · rw [if_neg k1, if_neg k1, if_neg k2, if_neg k2, if_neg k3, if_neg k3, if_neg k4, if_neg k4, if_pos k5, if_pos k5]
    rw [if_neg k1, if_neg k1, if_neg k2, if_neg k2, if_neg k3, if_neg k3, if_neg k4, if_neg k4, if_neg k5, if_neg k5]
    by_cases k6 : c.toNat = 120
    · rw [if_pos k6, if_pos k6]
      rcases r with _ | ⟨x, _ | ⟨y, r⟩⟩
      · rw [if_neg (by simp)]
      · rw [if_neg (by simp)]
      · have ex : (a :: c :: x :: y :: r).getD 2 0 = x := rfl
        have ey : (a :: c :: x :: y :: r).getD 3 0 = y := rfl
        rw [ex, ey]
        by_cases hh : hexv x < 16 ∧ hexv y < 16
        · rw [if_pos ⟨by simp, hh.1, hh.2⟩]
          show (if _ then _ else _) = _
          rw [if_pos hh]
        · rw [if_neg (fun h => hh h.2)]
          show (if _ then _ else _) = _
          rw [if_neg hh]
    rw [if_neg k6, if_neg k6]
    by_cases k7 : c.toNat = 117
    · rw [if_pos k7, if_pos k7]
      rcases r with _ | ⟨d, t⟩
      · rfl
      · have h123 := heq d 123 (by omega)
        have w123 : (UInt8.ofNat 123) = 123 := rfl
        rw [w123] at h123
        have ed : bt (a :: c :: d :: t) 2 = d.toNat := rfl
        unfold brO
        simp only [h123, ed]
        by_cases hd : d.toNat = 123
        · rw [if_pos hd, if_pos ⟨by simp, hd⟩]
          show _ = match bracedV t with | none => none | some (k, v) => some (k, Lib.encodeRune ↑v)
          cases bracedV t <;> rfl
        · rw [if_neg hd, if_neg (fun h => hd h.2)]
    rw [if_neg k7, if_neg k7]

end Sp
end Go.Proofs.YtjedoipbllcfdaaDoor
