/-
  THE WALK of reachref5.Read (chapter 5).
-/
import Derived.Test.YtdmpapoabeljfaaGreatDoorFj
import Derived.Test.YtdmpapoabeljfaaGreatDoorFk
import Derived.Test.YtdmpapoabeljfaaGreatDoorEk
set_option linter.unusedVariables false
set_option linter.unusedSimpArgs false
set_option maxRecDepth 100000
set_option maxHeartbeats 8000000
namespace Go.Proofs.YtdmpapoabeljfaaGreatDoor
open Go.RowKit

namespace Sp
theorem leaf_pos {T : List Pt} {p : Nat} {ns : List Nd} {m q : Nat} {ns' : List Nd} {m' : Nat} (h : leafV T p ns m = .ok q ns' m') : p < q ∧ ns'.length = ns.length + 1 ∧ m' = m + 1 ∧ m < 64 := by
  unfold leafV at h
  split at h
  · split at h
    · cases h
    · rename_i h64
      split at h
      · injection h with a b c; subst a b c; exact ⟨by omega, by simp, rfl, by omega⟩
      · split at h
        · injection h with a b c; subst a b c; exact ⟨by omega, by simp, rfl, by omega⟩
        · split at h
          · cases h
          · rename_i q2 n2 ht
            injection h with a b c
            subst a b c
            refine ⟨?_, by simp, rfl, by omega⟩
            unfold testV at ht
            repeat' split at ht
            all_goals first | (cases ht; done) | (injection ht with ht _; omega)
  · cases h
end Sp

/-- Where the reader stands, as memory says. -/
def atOf (w : World) (N : Nat) : Nat := match w.cell? ⟨N, 1, none⟩ with | some (.int _ x) => x.toNat | _ => 0
theorem atOf_eq {W0 w : World} {N n cap p m c : Nat} {A : Option Addr} {st : List UInt8} {ns : List Sp.Nd} (h : FSt W0 N A n cap p st ns m c w) : atOf w N = p := by
  obtain ⟨_, c1, _⟩ := h.cells
  unfold atOf
  rw [c1]
  rfl

/-- The state of Read's loop. -/
def RdJ (W0 : World) (N : Nat) (A : Option Addr) (n cap : Nat) (T : List Sp.Pt) (R : Sp.Rd) (want : Bool) (w : World) : Prop :=
  (∃ p st ns m, FSt W0 N A n cap p st ns m 0 w ∧ p ≤ n ∧ st.length + ns.length ≤ p ∧ m ≤ p ∧ (if want then Sp.RunP T (.want p st ns m) R else Sp.RunP T (.chain p st ns m) R)) ∨
  (∃ p c st ns m, FSt W0 N A n cap p st ns m c w ∧ c ≠ 0 ∧ R = .bad c p)
def rdMu (n : Nat) (w : World) (N : Nat) : Nat := match w.cell? ⟨N, 5, none⟩ with | some (.int _ 0) => n + 1 - atOf w N | _ => 0
theorem rdMu_go {W0 w : World} {N n cap p m : Nat} {A : Option Addr} {st : List UInt8} {ns : List Sp.Nd} (h : FSt W0 N A n cap p st ns m 0 w) : rdMu n w N = n + 1 - p := by
  obtain ⟨_, _, _, _, _, c5, _⟩ := h.cells
  unfold rdMu
  rw [c5, atOf_eq h]
  rfl
theorem rdMu_end {W0 w : World} {N n cap p m c : Nat} {A : Option Addr} {st : List UInt8} {ns : List Sp.Nd} (h : FSt W0 N A n cap p st ns m c w) (hc : c ≠ 0) : rdMu n w N = 0 := by
  obtain ⟨_, _, _, _, _, c5, _⟩ := h.cells
  unfold rdMu
  rw [c5]
  split
  · rename_i heq
    injection heq with heq
    injection heq with _ heq
    omega
  · rfl

theorem ref5_read (A : Option Addr) (n cap : Nat) (zs : List ZTok) (x : Int) (w : World) (hn : zs.length = n) (hnb : n ≤ 400000) (hv : ViewZ w w.heap.size A zs) (hts : ∀ z ∈ zs, z.2.1.size ≤ 9223372036854775807) :
    Calls Tryz.prog 7 #[.slice A n cap, .int .i64 x] w (ReadEnd w (Sp.readE (zs.map ptZ) x)) := by
  have hTl : (zs.map ptZ).length = n := by rw [List.length_map]; exact hn
  obtain ⟨R, hR⟩ : ∃ R, Sp.readE (zs.map ptZ) x = R := ⟨_, rfl⟩
  rw [hR]
  have hdef : R = if x < 0 ∨ (n : Int) < x then .bad 1 0 else Sp.readV (zs.map ptZ) x.toNat := by rw [← hR]; unfold Sp.readE; rw [hTl]
  by_cases h1 : x < 0
  · have q1 : decide (x < 0) = true := decide_eq_true h1
    have HR : Hid (R = .bad 1 0) := by show _ = _; rw [hdef, if_pos (Or.inl h1)]
    clear hdef hR hTl hn hv hts h1
    go_enter Tryz.func7, Tryz.ntmps7
    go_wp2
    go_ret3
    exact ReadEnd_bad HR.out rfl (Below.refl _ _)
  by_cases h2 : (n : Int) < x
  · have q1 : decide (x < 0) = false := decide_eq_false h1
    have q2 : decide (x > (n : Int)) = true := decide_eq_true h2
    have HR : Hid (R = .bad 1 0) := by show _ = _; rw [hdef, if_pos (Or.inr h2)]
    clear hdef hR hTl hn hv hts h1 h2
    go_enter Tryz.func7, Tryz.ntmps7
    go_wp2
    go_ret3
    exact ReadEnd_bad HR.out rfl (Below.refl _ _)
  obtain ⟨p, rfl⟩ : ∃ p : Nat, x = p := ⟨x.toNat, by omega⟩
  have hpn : p ≤ n := by omega
  rw [if_neg (fun h => h.elim h1 h2), Int.toNat_natCast] at hdef
  have q1 : decide ((p : Int) < 0) = false := decide_eq_false h1
  have q2 : decide ((p : Int) > (n : Int)) = false := decide_eq_false h2
  have q2b : decide (n < p) = false := decide_eq_false (by omega)
  obtain ⟨N, hN⟩ : ∃ N, w.heap.size = N := ⟨_, rfl⟩
  obtain ⟨W1, hW1⟩ : ∃ W1, w.alloc (.cells #[.slice A n cap, .int .i64 p, .slice none 0 0, .slice none 0 0, .int .i64 0, .int .i64 0] 51) = W1 := ⟨_, rfl⟩
  have hst : FSt w N A n cap p [] [] 0 0 W1 := by
    rw [← hW1, ← hN]
    exact ⟨.slice none 0 0, .slice none 0 0, Blk.new w _ _, World.ownsRow_nil _ _ _ _, World.ownsRow_nil _ _ _ _, (Below.refl _ _).alloc (Nat.le_refl _) _⟩
  rw [hN] at hv
  have hJ0 : RdJ w N A n cap (zs.map ptZ) R true W1 := Or.inl ⟨p, [], [], 0, hst, hpn, by simp, by omega, by rw [hdef]; exact Sp.read_run _ _⟩
  have HJ0 := Lib.hid hJ0
  have HW := Lib.hid hW1
  have HN := Lib.hid hN
  have HV := Lib.hid hv
  have HL := Lib.hid hn
  have HTS := Lib.hid hts
  have HTL := Lib.hid hTl
  clear hdef hR hTl hn hv hts h1 h2 hst hJ0 hW1 hN hpn
  go_enter Tryz.func7, Tryz.ntmps7
  go_wp2_with fail
  rw [HW.out, HN.out]
  clear q1 q2 q2b
  go_loopw [8, 9, 10] (fun v8 _ _ wr => ∃ want : Bool, v8 = .bool want ∧ RdJ w N A n cap (zs.map ptZ) R want wr) (fun _ _ _ wr => rdMu n wr N)
  case atStart => exact ⟨true, rfl, HJ0.out⟩
  case round =>
    obtain ⟨want, rfl, hJ⟩ := hrel
    rcases hJ with ⟨p, st, ns, m, h, hpn, hsl, hmp, hrun⟩ | ⟨p, c, st, ns, m, h, hc, hR⟩
    rotate_left
    · obtain ⟨_, d1, _, _, _, d5, _⟩ := h.cells
      have q1 : ((c : Int) == 0) = false := beq_eq_false_iff_ne.2 (by omega)
      have HBL := Lib.hid h.bel
      have HRR := Lib.hid hR
      clear h hc hR
      go_wp2_with fail
      go_quiet (fail)
      go_wp2_with fail
      go_ret3
      exact ReadEnd_bad HRR.out rfl (by rw [HN.out]; exact below_drewN' HBL.out _)
    obtain ⟨_, d1, _, _, _, d5, _⟩ := h.cells
    have HMU := Lib.hid (rdMu_go h)
    have hTLn := HTL.out
    cases want with
    | true =>
      simp only [if_true] at hrun
      by_cases s33 : Sp.sgAt (zs.map ptZ) p [33] = true
      · obtain ⟨c1, hc1⟩ : ∃ c1, c1 = if 32 ≤ Sp.cnt st then 53 else 0 := ⟨_, rfl⟩
        obtain ⟨c2, hc2⟩ : ∃ c2, c2 = if c1 = 0 ∧ 64 ≤ m then 51 else c1 := ⟨_, rfl⟩
        obtain ⟨q, hq⟩ : ∃ q, q = if c2 = 0 then p + 1 else p := ⟨_, rfl⟩
        have HO := Lib.hid (opd_bang h HL.out HV.out (by omega) (by omega) (by omega) s33 hc1 hc2 hq)
        have hlt := Sp.sg_lt s33
        have hnext : (c2 = 0 ∧ q = p + 1 ∧ Sp.RunP (zs.map ptZ) (.want (p + 1) (33 :: st) ns (m + 1)) R) ∨ (c2 ≠ 0 ∧ q = p ∧ R = .bad c2 p) := by
          by_cases h32 : 32 ≤ Sp.cnt st
          · rw [if_pos h32] at hc1
            subst hc1
            have e2 : c2 = 53 := by rw [hc2]; simp
            rw [e2, if_neg (by decide)] at hq
            exact Or.inr ⟨by omega, hq, by rw [e2]; exact hrun.inv_fin (by simp only [Sp.stepP, s33, if_true, if_pos h32])⟩
          · rw [if_neg h32] at hc1
            subst hc1
            by_cases h64 : 64 ≤ m
            · rw [if_pos ⟨rfl, h64⟩] at hc2
              rw [hc2, if_neg (by decide)] at hq
              exact Or.inr ⟨by omega, hq, by rw [hc2]; exact hrun.inv_fin (by simp only [Sp.stepP, s33, if_true, if_neg h32, if_pos h64])⟩
            · rw [if_neg (fun h => h64 h.2)] at hc2
              rw [if_pos hc2] at hq
              exact Or.inl ⟨hc2, hq, hrun.inv_more (by simp only [Sp.stepP, s33, if_true, if_neg h32, if_neg h64])⟩
        have HNX := Lib.hid hnext
        clear h hrun s33 hc1 hc2 hq hnext
        go_wp2_with fail
        refine HO.out.mono ?_
        rintro e w2 ⟨rfl, h2⟩
        have hJ2 : RdJ w N A n cap (zs.map ptZ) R true w2 ∧ rdMu n w2 N < n + 1 - p := by
          rcases HNX.out with ⟨e1, e2, e3⟩ | ⟨e1, e2, e3⟩
          · subst e1 e2
            exact ⟨Or.inl ⟨_, _, _, _, h2, by omega, by rw [List.length_cons]; omega, by omega, e3⟩, by rw [rdMu_go h2]; omega⟩
          · subst e2
            exact ⟨Or.inr ⟨_, _, _, _, _, h2, e1, e3⟩, by rw [rdMu_end h2 e1]; omega⟩
        have HJ2 := Lib.hid hJ2
        clear h2 hJ2 d1 d5
        go_wp2_with fail
        go_roundw
        case rel => exact ⟨true, by rfl, HJ2.out.1⟩
        case measure => rw [HMU.out]; exact HJ2.out.2
      rw [Bool.not_eq_true] at s33
      by_cases s40 : Sp.sgAt (zs.map ptZ) p [40] = true
      · obtain ⟨c1, hc1⟩ : ∃ c1, c1 = if 32 ≤ Sp.cnt st then 53 else 0 := ⟨_, rfl⟩
        obtain ⟨q, hq⟩ : ∃ q, q = if c1 = 0 then p + 1 else p := ⟨_, rfl⟩
        have HO := Lib.hid (opd_brk (c2 := 0) h HL.out HV.out (by omega) (by omega) (by omega) s33 s40 hc1 hq)
        have hlt := Sp.sg_lt s40
        have hnext : (c1 = 0 ∧ q = p + 1 ∧ Sp.RunP (zs.map ptZ) (.want (p + 1) (40 :: st) ns m) R) ∨ (c1 ≠ 0 ∧ q = p ∧ R = .bad c1 p) := by
          by_cases h32 : 32 ≤ Sp.cnt st
          · rw [if_pos h32] at hc1
            rw [hc1, if_neg (by decide)] at hq
            exact Or.inr ⟨by omega, hq, by rw [hc1]; exact hrun.inv_fin (by simp only [Sp.stepP, s33, s40, if_true, if_pos h32, Bool.false_eq_true, if_false])⟩
          · rw [if_neg h32] at hc1
            rw [if_pos hc1] at hq
            exact Or.inl ⟨hc1, hq, hrun.inv_more (by simp only [Sp.stepP, s33, s40, if_true, if_neg h32, Bool.false_eq_true, if_false])⟩
        have HNX := Lib.hid hnext
        clear h hrun s33 s40 hc1 hq hnext
        go_wp2_with fail
        refine HO.out.mono ?_
        rintro e w2 ⟨rfl, h2⟩
        have hJ2 : RdJ w N A n cap (zs.map ptZ) R true w2 ∧ rdMu n w2 N < n + 1 - p := by
          rcases HNX.out with ⟨e1, e2, e3⟩ | ⟨e1, e2, e3⟩
          · subst e1 e2
            exact ⟨Or.inl ⟨_, _, _, _, h2, by omega, by rw [List.length_cons]; omega, by omega, e3⟩, by rw [rdMu_go h2]; omega⟩
          · subst e2
            exact ⟨Or.inr ⟨_, _, _, _, _, h2, e1, e3⟩, by rw [rdMu_end h2 e1]; omega⟩
        have HJ2 := Lib.hid hJ2
        clear h2 hJ2 d1 d5
        go_wp2_with fail
        go_roundw
        case rel => exact ⟨true, by rfl, HJ2.out.1⟩
        case measure => rw [HMU.out]; exact HJ2.out.2
      rw [Bool.not_eq_true] at s40
      have hleaf := opd_leaf h HL.out HV.out HTS.out (by omega) (by omega) (by omega) s33 s40 (R := Sp.leafV (zs.map ptZ) p ns m) rfl
      have hbd : m ≤ 64 → Sp.RdB (zs.map ptZ) ns m (Sp.leafV (zs.map ptZ) p ns m) := fun hm => Sp.leaf_bd (zs.map ptZ) p ns m (by omega) hm
      cases hlf : Sp.leafV (zs.map ptZ) p ns m with
      | bad c q =>
        rw [hlf] at hleaf
        have HO : Hid (Calls Tryz.prog 19 #[.pointer (some ⟨N, 0, none⟩)] wr fun e w' => (∃ b, e = .returned (.bool b)) ∧ ∃ ns' m', FSt w N A n cap q st ns' m' c w') := hleaf
        have hR : R = .bad c q := hrun.inv_fin (by simp only [Sp.stepP, s33, s40, hlf, Bool.false_eq_true, if_false])
        have hc0 : c ≠ 0 := by
          unfold Sp.leafV at hlf
          intro e
          subst e
          repeat' split at hlf
          all_goals cases hlf
        have HRR := Lib.hid hR
        have q9 : ((c : Int) == 0) = false := beq_eq_false_iff_ne.2 (by omega)
        clear h hrun s33 s40 hlf hleaf hR hbd
        go_wp2_with fail
        refine HO.out.mono ?_
        rintro e w2 ⟨⟨b, rfl⟩, ns', m', h2⟩
        obtain ⟨_, e1, _, _, _, e5, _⟩ := h2.cells
        have hJ2 : RdJ w N A n cap (zs.map ptZ) R true w2 ∧ rdMu n w2 N < n + 1 - p :=
          ⟨Or.inr ⟨_, _, _, _, _, h2, hc0, HRR.out⟩, by rw [rdMu_end h2 hc0]; omega⟩
        have HJ2 := Lib.hid hJ2
        clear h2 hJ2 d1 d5 hc0
        cases b with
        | true =>
          go_wp2_with fail
          go_roundw
          case rel => exact ⟨true, by rfl, HJ2.out.1⟩
          case measure => rw [HMU.out]; exact HJ2.out.2
        | false =>
          go_wp2_with fail
          go_roundw
          case rel => exact ⟨true, by rfl, HJ2.out.1⟩
          case measure => rw [HMU.out]; exact HJ2.out.2
      | ok q ns' m' =>
        rw [hlf] at hleaf
        have HO : Hid (Calls Tryz.prog 19 #[.pointer (some ⟨N, 0, none⟩)] wr fun e w' => e = .returned (.bool true) ∧ FSt w N A n cap q st ns' m' 0 w') := hleaf
        obtain ⟨x1, x2, x3, x4⟩ := Sp.leaf_pos hlf
        obtain ⟨y1, _, _, _⟩ : Sp.RdB (zs.map ptZ) ns m (.ok q ns' m') := by rw [← hlf]; exact hbd (by omega)
        have hR := hrun.inv_more (s' := .chain q (Sp.popW Sp.isB st ns').1 (Sp.popW Sp.isB st ns').2 m') (by simp only [Sp.stepP, s33, s40, hlf, Bool.false_eq_true, if_false])
        have hpl := Sp.popW_len Sp.isB st ns'
        have HRR := Lib.hid hR
        have HDN := Lib.hid (fun W (h : FSt w N A n cap q st ns' m' 0 W) => f_done h (by omega))
        clear h hrun s33 s40 hlf hleaf hR hbd
        go_wp2_with fail
        refine HO.out.mono ?_
        rintro e w2 ⟨rfl, h2⟩
        obtain ⟨_, e1, _, _, _, e5, _⟩ := h2.cells
        have HD2 := Lib.hid (HDN.out _ h2)
        clear h2 d1 d5
        go_wp2_with fail
        refine HD2.out.mono ?_
        rintro e w3 ⟨rfl, h3⟩
        have hJ2 : RdJ w N A n cap (zs.map ptZ) R false w3 ∧ rdMu n w3 N < n + 1 - p :=
          ⟨Or.inl ⟨_, _, _, _, h3, by omega, by omega, by omega, HRR.out⟩, by rw [rdMu_go h3]; omega⟩
        have HJ2 := Lib.hid hJ2
        clear h3 hJ2 e1 e5
        go_wp2_with fail
        go_roundw
        case rel => exact ⟨false, by rfl, HJ2.out.1⟩
        case measure => rw [HMU.out]; exact HJ2.out.2
    | false =>
      simp only [Bool.false_eq_true, if_false] at hrun
      by_cases s38 : Sp.sgAt (zs.map ptZ) p [38] = true
      · obtain ⟨c1, hc1⟩ : ∃ c1, c1 = if 64 ≤ m then 51 else 0 := ⟨_, rfl⟩
        obtain ⟨q, hq⟩ : ∃ q, q = if c1 = 0 then p + 1 else p := ⟨_, rfl⟩
        have HO := Lib.hid (chn_amp h HL.out HV.out (by omega) (by omega) (by omega) s38 hc1 hq)
        have hlt := Sp.sg_lt s38
        have hpl := Sp.popW_len Sp.isA st ns
        have hnext : (c1 = 0 ∧ q = p + 1 ∧ Sp.RunP (zs.map ptZ) (.want (p + 1) (38 :: (Sp.popW Sp.isA st ns).1) (Sp.popW Sp.isA st ns).2 (m + 1)) R) ∨ (c1 ≠ 0 ∧ q = p ∧ R = .bad c1 p) := by
          by_cases h64 : 64 ≤ m
          · rw [if_pos h64] at hc1
            rw [hc1, if_neg (by decide)] at hq
            exact Or.inr ⟨by omega, hq, by rw [hc1]; exact hrun.inv_fin (by simp only [Sp.stepP, s38, if_true, if_pos h64])⟩
          · rw [if_neg h64] at hc1
            rw [if_pos hc1] at hq
            exact Or.inl ⟨hc1, hq, hrun.inv_more (by simp only [Sp.stepP, s38, if_true, if_neg h64])⟩
        have HNX := Lib.hid hnext
        clear h hrun s38 hc1 hq hnext
        go_wp2_with fail
        refine HO.out.mono ?_
        rintro e w2 ⟨rfl, h2⟩
        have hJ2 : RdJ w N A n cap (zs.map ptZ) R true w2 ∧ rdMu n w2 N < n + 1 - p := by
          rcases HNX.out with ⟨e1, e2, e3⟩ | ⟨e1, e2, e3⟩
          · subst e1 e2
            exact ⟨Or.inl ⟨_, _, _, _, h2, by omega, by rw [List.length_cons]; omega, by omega, e3⟩, by rw [rdMu_go h2]; omega⟩
          · subst e2
            exact ⟨Or.inr ⟨_, _, _, _, _, h2, e1, e3⟩, by rw [rdMu_end h2 e1]; omega⟩
        have HJ2 := Lib.hid hJ2
        clear h2 hJ2 d1 d5
        go_wp2_with fail
        go_roundw
        case rel => exact ⟨true, by rfl, HJ2.out.1⟩
        case measure => rw [HMU.out]; exact HJ2.out.2
      rw [Bool.not_eq_true] at s38
      by_cases s124 : Sp.sgAt (zs.map ptZ) p [124] = true
      · obtain ⟨c1, hc1⟩ : ∃ c1, c1 = if 64 ≤ m then 51 else 0 := ⟨_, rfl⟩
        obtain ⟨q, hq⟩ : ∃ q, q = if c1 = 0 then p + 1 else p := ⟨_, rfl⟩
        have HO := Lib.hid (chn_bar h HL.out HV.out (by omega) (by omega) (by omega) s38 s124 hc1 hq)
        have hlt := Sp.sg_lt s124
        have hpl := Sp.popW_len Sp.isAO st ns
        have hnext : (c1 = 0 ∧ q = p + 1 ∧ Sp.RunP (zs.map ptZ) (.want (p + 1) (124 :: (Sp.popW Sp.isAO st ns).1) (Sp.popW Sp.isAO st ns).2 (m + 1)) R) ∨ (c1 ≠ 0 ∧ q = p ∧ R = .bad c1 p) := by
          by_cases h64 : 64 ≤ m
          · rw [if_pos h64] at hc1
            rw [hc1, if_neg (by decide)] at hq
            exact Or.inr ⟨by omega, hq, by rw [hc1]; exact hrun.inv_fin (by simp only [Sp.stepP, s38, s124, if_true, if_pos h64, Bool.false_eq_true, if_false])⟩
          · rw [if_neg h64] at hc1
            rw [if_pos hc1] at hq
            exact Or.inl ⟨hc1, hq, hrun.inv_more (by simp only [Sp.stepP, s38, s124, if_true, if_neg h64, Bool.false_eq_true, if_false])⟩
        have HNX := Lib.hid hnext
        clear h hrun s38 s124 hc1 hq hnext
        go_wp2_with fail
        refine HO.out.mono ?_
        rintro e w2 ⟨rfl, h2⟩
        have hJ2 : RdJ w N A n cap (zs.map ptZ) R true w2 ∧ rdMu n w2 N < n + 1 - p := by
          rcases HNX.out with ⟨e1, e2, e3⟩ | ⟨e1, e2, e3⟩
          · subst e1 e2
            exact ⟨Or.inl ⟨_, _, _, _, h2, by omega, by rw [List.length_cons]; omega, by omega, e3⟩, by rw [rdMu_go h2]; omega⟩
          · subst e2
            exact ⟨Or.inr ⟨_, _, _, _, _, h2, e1, e3⟩, by rw [rdMu_end h2 e1]; omega⟩
        have HJ2 := Lib.hid hJ2
        clear h2 hJ2 d1 d5
        go_wp2_with fail
        go_roundw
        case rel => exact ⟨true, by rfl, HJ2.out.1⟩
        case measure => rw [HMU.out]; exact HJ2.out.2
      rw [Bool.not_eq_true] at s124
      by_cases hany : (st.any fun c => c == 40) = true
      · by_cases s41 : Sp.sgAt (zs.map ptZ) p [41] = true
        · have hlt := Sp.sg_lt s41
          have HO := Lib.hid (chn_close h HL.out HV.out s38 s124 _ (cls_ok h HL.out HV.out (by omega) (by omega) hany s41))
          have hR := hrun.inv_more (by simp only [Sp.stepP, s38, s124, hany, s41, if_true, Bool.false_eq_true, if_false]; rfl)
          have hpl := Sp.popW_len Sp.noP st ns
          have hpl2 := Sp.popW_len Sp.isB ((Sp.popW Sp.noP st ns).1.drop 1) (Sp.popW Sp.noP st ns).2
          rw [List.length_drop] at hpl2
          have HRR := Lib.hid hR
          clear h hrun s38 s124 s41 hany hR
          go_wp2_with fail
          refine HO.out.mono ?_
          rintro e w2 ⟨rfl, h2⟩
          have hJ2 : RdJ w N A n cap (zs.map ptZ) R false w2 ∧ rdMu n w2 N < n + 1 - p :=
            ⟨Or.inl ⟨_, _, _, _, h2, by omega, by omega, by omega, HRR.out⟩, by rw [rdMu_go h2]; omega⟩
          have HJ2 := Lib.hid hJ2
          clear h2 hJ2 d1 d5
          go_wp2_with fail
          go_roundw
          case rel => exact ⟨false, by rfl, HJ2.out.1⟩
          case measure => rw [HMU.out]; exact HJ2.out.2
        · rw [Bool.not_eq_true] at s41
          have HO := Lib.hid (chn_close h HL.out HV.out s38 s124 _ (cls_bad h HL.out HV.out (by omega) (by omega) hany s41))
          have hR : R = .bad 50 p := hrun.inv_fin (by simp only [Sp.stepP, s38, s124, hany, s41, if_true, Bool.false_eq_true, if_false])
          have HRR := Lib.hid hR
          clear h hrun s38 s124 s41 hany hR
          go_wp2_with fail
          refine HO.out.mono ?_
          rintro e w2 ⟨rfl, h2⟩
          have hJ2 : RdJ w N A n cap (zs.map ptZ) R false w2 ∧ rdMu n w2 N < n + 1 - p :=
            ⟨Or.inr ⟨_, _, _, _, _, h2, by decide, HRR.out⟩, by rw [rdMu_end h2 (by decide)]; omega⟩
          have HJ2 := Lib.hid hJ2
          clear h2 hJ2 d1 d5
          go_wp2_with fail
          go_roundw
          case rel => exact ⟨false, by rfl, HJ2.out.1⟩
          case measure => rw [HMU.out]; exact HJ2.out.2
      · rw [Bool.not_eq_true] at hany
        have HO := Lib.hid (chn_end h HL.out HV.out (by omega) (by omega) s38 s124 hany)
        have hR := hrun.inv_fin (r' := .ok p (Sp.popW (fun _ => true) st ns).2 m) (by simp only [Sp.stepP, s38, s124, hany, Bool.false_eq_true, if_false])
        have HRR := Lib.hid hR
        clear h hrun s38 s124 hany hR
        go_wp2_with fail
        refine HO.out.mono ?_
        rintro e w2 ⟨rfl, h2⟩
        obtain ⟨ov, tv, r1, r2, r3, r4⟩ := h2
        have e1 : w2.cell? ⟨N, 1, none⟩ = some (.int .i64 p) := r1.cell 1
        have e3 : w2.cell? ⟨N, 3, none⟩ = some tv := r1.cell 3
        have R3 := Lib.hid r3
        have R4 := Lib.hid r4
        clear r1 r2 r3 r4 d1 d5
        go_wp2_with fail
        go_quiet (fail)
        go_wp2_with fail
        go_ret3
        exact ReadEnd_ok HRR.out rfl (own_mono (by exact R3.out) (by rw [HN.out]; exact Nat.le_succ _)) (by rw [HN.out]; exact below_drewN' R4.out _)
end Go.Proofs.YtdmpapoabeljfaaGreatDoor
