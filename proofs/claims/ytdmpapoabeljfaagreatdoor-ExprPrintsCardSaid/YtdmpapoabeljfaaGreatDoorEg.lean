/-
  THE WALKS of the reader's methods chainAnd, chainOr (chapter 5).
-/
import Derived.Test.YtdmpapoabeljfaaGreatDoorEf
set_option linter.unusedVariables false
set_option linter.unusedSimpArgs false
set_option maxRecDepth 100000
set_option maxHeartbeats 4000000
namespace Go.Proofs.YtdmpapoabeljfaaGreatDoor
open Go.RowKit

namespace Sp
theorem loop_fuel {T : List Pt} {F : Nat → List Nd → Nat → Rd} (hF : Bnd T F) (s : List UInt8) (k : Int) : ∀ (a b p : Nat) (ns : List Nd) (m : Nat), p ≤ T.length → m ≤ 64 → 64 ≤ m + a → 64 ≤ m + b → loopV T F s k a p ns m = loopV T F s k b p ns m := by
  intro a
  induction a with
  | zero =>
    intro b p ns m hp hm h1 h2
    cases b with
    | zero => rfl
    | succ b =>
      simp only [loopV]
      rw [if_pos (show 64 ≤ m by omega)]
  | succ a ih =>
    intro b p ns m hp hm h1 h2
    cases b with
    | zero =>
      simp only [loopV]
      rw [if_pos (show 64 ≤ m by omega)]
    | succ b =>
      simp only [loopV]
      by_cases hs : sgAt T p s = true
      · rw [if_pos hs, if_pos hs]
        by_cases h64 : 64 ≤ m
        · rw [if_pos h64, if_pos h64]
        · rw [if_neg h64, if_neg h64]
          have hlt := sg_lt hs
          have hb := hF (p + 1) ns (m + 1) (by omega) (by omega)
          cases hf : F (p + 1) ns (m + 1) with
          | bad c q => rfl
          | ok q ns' m' =>
            rw [hf] at hb
            obtain ⟨x1, x2, x3, x4⟩ := hb
            exact ih b q (ns' ++ [nd k]) m' x1 x2 (by omega) (by omega)
      · rw [if_neg hs, if_neg hs]
theorem loop_no {T : List Pt} {F : Nat → List Nd → Nat → Rd} {s : List UInt8} {k : Int} {p : Nat} {ns : List Nd} {m : Nat} (n : Nat) (h : sgAt T p s = false) : loopV T F s k n p ns m = .ok p ns m := by
  cases n <;> simp [loopV, h]
theorem loop_full {T : List Pt} {F : Nat → List Nd → Nat → Rd} {s : List UInt8} {k : Int} {p : Nat} {ns : List Nd} {m : Nat} (n : Nat) (h : sgAt T p s = true) (hm : 64 ≤ m) : loopV T F s k n p ns m = .bad 51 p := by
  cases n <;> simp [loopV, h, hm]
theorem loop_bad {T : List Pt} {F : Nat → List Nd → Nat → Rd} {s : List UInt8} {k : Int} {p : Nat} {ns : List Nd} {m : Nat} (h : sgAt T p s = true) (hm : ¬ 64 ≤ m) {c q : Nat} (hf : F (p + 1) ns (m + 1) = .bad c q) : loopV T F s k (64 - m) p ns m = .bad c q := by
  obtain ⟨x, hx⟩ : ∃ x, 64 - m = x + 1 := ⟨63 - m, by omega⟩
  rw [hx]
  simp only [loopV, h, if_true, if_neg hm, hf]
theorem loop_ok {T : List Pt} {F : Nat → List Nd → Nat → Rd} (hB : Bnd T F) {s : List UInt8} {k : Int} {p : Nat} {ns : List Nd} {m : Nat} (h : sgAt T p s = true) (hm : ¬ 64 ≤ m) {q : Nat} {ns' : List Nd} {m' : Nat} (hf : F (p + 1) ns (m + 1) = .ok q ns' m') : loopV T F s k (64 - m) p ns m = loopV T F s k (64 - m') q (ns' ++ [nd k]) m' := by
  obtain ⟨x, hx⟩ : ∃ x, 64 - m = x + 1 := ⟨63 - m, by omega⟩
  have hlt := sg_lt h
  have hb := hB (p + 1) ns (m + 1) (by omega) (by omega)
  rw [hf] at hb
  obtain ⟨x1, x2, x3, x4⟩ := hb
  have h1 : loopV T F s k (x + 1) p ns m = loopV T F s k x q (ns' ++ [nd k]) m' := by simp only [loopV, h, if_true, if_neg hm, hf]
  rw [hx, h1]
  exact loop_fuel hB s k _ _ q _ m' x1 x2 (by omega) (by omega)
end Sp

/-- What the reader's methods come to. -/
def REnd (W0 : World) (N : Nat) (A : Option Addr) (n cap op : Nat) (r : Sp.Rd) (e : Ending) (w' : World) : Prop :=
  match r with
  | .ok q ns m => e = .returned (.bool true) ∧ RSt W0 N A n cap q m op ns w'
  | .bad c q => e = .returned (.bool false) ∧ RBad W0 N A n cap q c w'
theorem REnd_bad {W0 w' : World} {N n cap op c q : Nat} {A : Option Addr} {r : Sp.Rd} (hr : r = .bad c q) {b : Bool} (hb : b = false) (h : RBad W0 N A n cap q c w') : REnd W0 N A n cap op r (.returned (.bool b)) w' := by
  subst hr
  subst hb
  exact ⟨rfl, h⟩
theorem REnd_ok {W0 w' : World} {N n cap op q m : Nat} {ns : List Sp.Nd} {A : Option Addr} {r : Sp.Rd} (hr : r = .ok q ns m) {b : Bool} (hb : b = true) (h : RSt W0 N A n cap q m op ns w') : REnd W0 N A n cap op r (.returned (.bool b)) w' := by
  subst hr
  subst hb
  exact ⟨rfl, h⟩
def FacCalls (f : Nat) (W0 : World) (N : Nat) (A : Option Addr) (n cap op : Nat) (F : Nat → List Sp.Nd → Nat → Sp.Rd) : Prop :=
  ∀ p ns m w, p ≤ n → m ≤ 64 → ns.length ≤ m → RSt W0 N A n cap p m op ns w → Calls Tryz.prog f #[.pointer (some ⟨N, 0, none⟩)] w (REnd W0 N A n cap op (F p ns m))

section
variable {W0 w w' : World} {N n cap p m op : Nat} {A : Option Addr} {ns : List Sp.Nd}
theorem RSt.own (h : RSt W0 N A n cap p m op ns w) : N < w.heap.size := by
  obtain ⟨tv, h1, _⟩ := h
  exact h1.lt
theorem RSt.cells (h : RSt W0 N A n cap p m op ns w) : w.cell? ⟨N, 1, none⟩ = some (.int .i64 (p : Nat)) ∧ w.frozen? ⟨N, 1, none⟩ = false ∧ w.cell? ⟨N, 4, none⟩ = some (.int .i64 (op : Nat)) ∧ w.frozen? ⟨N, 4, none⟩ = false := by
  obtain ⟨tv, h1, _⟩ := h
  exact ⟨h1.cell 1, h1.frozen 1, h1.cell 4, h1.frozen 4⟩
theorem RSt.turn {m' op' p' : Nat} {tv : Value} (hr : Rdr w' N A n cap p' tv m' op' 0) (hn : Nds w (N + 1) tv ns) (hb : Below N W0 w) (hN : N < w.heap.size) (hg : w.grownBy w' (some N)) : RSt W0 N A n cap p' m' op' ns w' :=
  ⟨tv, hr, nds_grown hn hg, below_only hb (by omega) hg (fun g e => by injection e with e; omega)⟩
theorem RSt.at_ (h : RSt W0 N A n cap p m op ns w) : RSt W0 N A n cap (p + 1) m op ns (w.setCell ⟨N, 1, none⟩ (.int .i64 ((p : Int) + 1))) := by
  obtain ⟨tv, h1, h2, h3⟩ := h
  exact RSt.turn (h1.set_ 1 _) h2 h3 h1.lt (only_setCell (World.grownBy.refl w (some N)) (Or.inl rfl) _ (p := ⟨N, 1, none⟩))
theorem RSt.up (h : RSt W0 N A n cap p m op ns w) : RSt W0 N A n cap p m (op + 1) ns (w.setCell ⟨N, 4, none⟩ (.int .i64 ((op : Int) + 1))) := by
  obtain ⟨tv, h1, h2, h3⟩ := h
  exact RSt.turn (h1.set_ 4 _) h2 h3 h1.lt (only_setCell (World.grownBy.refl w (some N)) (Or.inl rfl) _ (p := ⟨N, 4, none⟩))
theorem RSt.opn (h : RSt W0 N A n cap p m op ns w) (op' : Nat) (x : Int) (hx : x = op') : RSt W0 N A n cap p m op' ns (w.setCell ⟨N, 4, none⟩ (.int .i64 x)) := by
  subst hx
  obtain ⟨tv, h1, h2, h3⟩ := h
  exact RSt.turn (h1.set_ 4 _) h2 h3 h1.lt (only_setCell (World.grownBy.refl w (some N)) (Or.inl rfl) _ (p := ⟨N, 4, none⟩))
end
/-- How many tokens have made a node, as memory says. -/
def madeOf (w : World) (N : Nat) : Nat := match w.cell? ⟨N, 3, none⟩ with | some (.int _ x) => x.toNat | _ => 0
theorem madeOf_eq {W0 w : World} {N n cap p m op : Nat} {A : Option Addr} {ns : List Sp.Nd} (h : RSt W0 N A n cap p m op ns w) : madeOf w N = m := by
  obtain ⟨tv, h1, _⟩ := h
  unfold madeOf
  rw [show w.cell? ⟨N, 3, none⟩ = some (.int .i64 (m : Nat)) from h1.cell 3]
  rfl

theorem st_sign {W0 w : World} {N n cap p m op : Nat} {A : Option Addr} {ns : List Sp.Nd} (hst : RSt W0 N A n cap p m op ns w) {zs : List ZTok} (X : ByteArray) (hn : zs.length = n) (hv : ViewZ W0 N A zs) {b : Bool} (hb : Sp.sgAt (zs.map ptZ) p X.data.toList = b) :
    Calls Tryz.prog 30 #[.pointer (some ⟨N, 0, none⟩), .string X] w fun e w' => e = .returned (.bool b) ∧ RSt W0 N A n cap p m op ns w' := by
  have hst' := hst
  obtain ⟨tv, h1, h2, h3⟩ := hst
  refine (expr_sign w N A n cap p tv m op 0 zs X N h1 hn (hv.below h3 (Nat.le_refl _))).mono ?_
  rintro e w' ⟨rfl, k, rfl⟩
  exact ⟨by rw [hb], hst'.drewN k⟩
theorem st_makes {W0 w : World} {N n cap p m op : Nat} {A : Option Addr} {ns : List Sp.Nd} (hst : RSt W0 N A n cap p m op ns w) (hm : ¬ 64 ≤ m) :
    Calls Tryz.prog 31 #[.pointer (some ⟨N, 0, none⟩)] w fun e w' => e = .returned (.bool true) ∧ RSt W0 N A n cap p (m + 1) op ns w' := by
  obtain ⟨tv, h1, h2, h3⟩ := hst
  refine (expr_makes w N A n cap p tv m op h1 hm).mono ?_
  rintro e w' ⟨rfl, g1, g2⟩
  exact ⟨rfl, RSt.turn g1 h2 h3 h1.lt g2⟩
theorem st_makes_no {W0 w : World} {N n cap p m op : Nat} {A : Option Addr} {ns : List Sp.Nd} (hst : RSt W0 N A n cap p m op ns w) (hm : 64 ≤ m) :
    Calls Tryz.prog 31 #[.pointer (some ⟨N, 0, none⟩)] w fun e w' => e = .returned (.bool false) ∧ RBad W0 N A n cap p 51 w' := by
  obtain ⟨tv, h1, h2, h3⟩ := hst
  refine (expr_makes_no w N A n cap p tv m op h1 hm).mono ?_
  rintro e w' ⟨rfl, g1, g2⟩
  exact ⟨rfl, tv, m, op, g1, below_only h3 (by have := h1.lt; omega) g2 (fun g e => by injection e with e; omega)⟩
theorem st_fail {W0 w : World} {N n cap p m op : Nat} {A : Option Addr} {ns : List Sp.Nd} (hst : RSt W0 N A n cap p m op ns w) (c : Nat) :
    Calls Tryz.prog 54 #[.pointer (some ⟨N, 0, none⟩), .int .i64 (c : Nat)] w fun e w' => e = .returned (.bool false) ∧ RBad W0 N A n cap p c w' := by
  obtain ⟨tv, h1, h2, h3⟩ := hst
  refine (expr_fail w N A n cap p tv m op 0 c h1).mono ?_
  rintro e w' ⟨rfl, g1, g2⟩
  exact ⟨rfl, tv, m, op, g1, below_only h3 (by have := h1.lt; omega) g2 (fun g e => by injection e with e; omega)⟩
theorem st_put0 {W0 w : World} {N n cap p m op : Nat} {A : Option Addr} {ns : List Sp.Nd} (hst : RSt W0 N A n cap p m op ns w) (hn : ns.length ≤ 100000) (k : Int) :
    Calls Tryz.prog 32 #[.pointer (some ⟨N, 0, none⟩), .int .i64 k, .agg #[.string ⟨#[]⟩, .int .i64 0, .int .i64 0, .int .i64 0, .int .i64 0, .int .i64 0, .string ⟨#[]⟩]] w fun e w' => e = .returned (.bool true) ∧ RSt W0 N A n cap p m op (ns ++ [Sp.nd k]) w' :=
  expr_put W0 N A n cap p m op ns w hst hn k ⟨#[]⟩ 0 0 0 0 0 ⟨#[]⟩

theorem expr_chainAnd (W0 : World) (N : Nat) (A : Option Addr) (n cap op : Nat) (zs : List ZTok) (hn : zs.length = n) (hnb : n ≤ 4611686018427387904) (hv : ViewZ W0 N A zs) (F : Nat → List Sp.Nd → Nat → Sp.Rd) (hF : FacCalls 53 W0 N A n cap op F) (hB : Sp.Bnd (zs.map ptZ) F) :
    FacCalls 29 W0 N A n cap op (Sp.chainV (zs.map ptZ) F [38] 5) := by
  intro p ns m w hp hm hns hst
  have hTl : (zs.map ptZ).length = n := by rw [List.length_map]; exact hn
  have hsg : ∀ {q m' : Nat} {ns' : List Sp.Nd} {W : World} {b : Bool}, RSt W0 N A n cap q m' op ns' W → Sp.sgAt (zs.map ptZ) q [38] = b → Calls Tryz.prog 30 #[.pointer (some ⟨N, 0, none⟩), .string ⟨#[38]⟩] W fun e w' => e = .returned (.bool b) ∧ RSt W0 N A n cap q m' op ns' w' := fun h hb => st_sign h ⟨#[38]⟩ hn hv hb
  obtain ⟨T, hT⟩ : ∃ T, zs.map ptZ = T := ⟨_, rfl⟩
  rw [hT] at hB hTl ⊢
  simp only [hT] at hsg
  have HSG := @Lib.hid _ @hsg
  have h0 := hF p ns m w hp hm hns hst
  have hb0 := hB p ns m (by omega) hm
  obtain ⟨R, hR⟩ : ∃ R, Sp.chainV T F [38] 5 p ns m = R := ⟨_, rfl⟩
  rw [hR]
  have HF := Lib.hid hF
  have HB := Lib.hid hB
  cases hf : F p ns m with
  | bad c q =>
    have hr : R = .bad c q := by rw [← hR]; simp only [Sp.chainV, hf]
    rw [hf] at h0
    have H0 := Lib.hid h0
    have HR := Lib.hid hr
    clear hR hr h0 hb0 hf hF hB hv hT hsg hst
    go_enter Tryz.func29, Tryz.ntmps29
    go_wp2_with (go_at_call 53; refine H0.out.mono ?_; rintro e w1 ⟨rfl, hbd⟩)
    go_ret
    exact REnd_bad HR.out rfl hbd
  | ok q ns1 m1 =>
    have hr : R = Sp.loopV T F [38] 5 (64 - m1) q ns1 m1 := by rw [← hR]; simp only [Sp.chainV, hf]
    rw [hf] at h0 hb0
    obtain ⟨x1, x2, x3, x4⟩ := hb0
    have H0 := Lib.hid h0
    have HR := Lib.hid hr
    clear hR hr h0 hf hF hB hv hT hsg hst
    go_enter Tryz.func29, Tryz.ntmps29
    go_wp2_with (go_at_call 53; refine H0.out.mono ?_; rintro e w1 ⟨rfl, hst1⟩)
    have HS1 := Lib.hid hst1
    have hNw := hst1.own
    clear hst1
    go_loopw [2] (fun v2 wr => v2 = .bool false ∧ ∃ (q : Nat) (ns' : List Sp.Nd) (m' : Nat), q ≤ n ∧ m' ≤ 64 ∧ ns'.length ≤ m' ∧ RSt W0 N A n cap q m' op ns' wr ∧ Hid (R = Sp.loopV T F [38] 5 (64 - m') q ns' m')) (fun _ wr => 64 - madeOf wr N)
    case atStart => exact ⟨rfl, q, ns1, m1, by omega, x2, by omega, HS1.out, HR.out⟩
    case round =>
      obtain ⟨rfl, q, ns', m', hq, hm', hns', hst, HL⟩ := hrel
      have hb1 := HB.out (q + 1) ns' (m' + 1)
      have hme := madeOf_eq hst
      have HME := Lib.hid hme
      have HST := Lib.hid hst
      clear hme hst
      cases hs : Sp.sgAt T q [38] with
      | false =>
        have hr := HL.out.trans (Sp.loop_no _ hs)
        have HR2 := Lib.hid hr
        have HC := Lib.hid (HSG.out HST.out hs)
        clear hr hs hb1
        go_wp2_with (go_at_call 30; refine HC.out.mono ?_; rintro e w2 ⟨rfl, h2⟩)
        go_ret
        exact REnd_ok HR2.out rfl h2
      | true =>
        have hlt := Sp.sg_lt hs
        by_cases h64 : 64 ≤ m'
        · have hr := HL.out.trans (Sp.loop_full _ hs h64)
          have HR2 := Lib.hid hr
          have HC := Lib.hid (HSG.out HST.out hs)
          have H64 := Lib.hid h64
          clear hr hs hb1 h64
          go_wp2_with (first
            | (go_at_call 30; refine HC.out.mono ?_; rintro e w2 ⟨rfl, h2⟩)
            | (go_at_call 31; refine (st_makes_no h2 H64.out).mono ?_; rintro e w3 ⟨rfl, h3⟩))
          go_ret
          exact REnd_bad HR2.out rfl h3
        · have hb2 := hb1 (by omega) (by omega)
          have HC := Lib.hid (HSG.out HST.out hs)
          have H64 := Lib.hid h64
          have hqn : q + 1 ≤ n := by omega
          have hqi : (q : Int) + 1 ≤ 4611686018427387904 := by omega
          have hq0 : (0 : Int) ≤ (q : Int) := by omega
          cases hf : F (q + 1) ns' (m' + 1) with
          | bad c q2 =>
            have hr := HL.out.trans (Sp.loop_bad hs h64 hf)
            have HR2 := Lib.hid hr
            have hcall : ∀ W, RSt W0 N A n cap (q + 1) (m' + 1) op ns' W → Calls Tryz.prog 53 #[.pointer (some ⟨N, 0, none⟩)] W fun e w' => e = .returned (.bool false) ∧ RBad W0 N A n cap q2 c w' := by
              intro W hW
              have := HF.out (q + 1) ns' (m' + 1) W hqn (by omega) (by omega) hW
              rw [hf] at this
              exact this
            have HCL := Lib.hid hcall
            clear hr hs hb1 hb2 hf hcall h64
            go_wp2_with (first
              | (go_at_call 30; refine HC.out.mono ?_; rintro e w2 ⟨rfl, h2⟩)
              | (go_at_call 31; refine (st_makes h2 H64.out).mono ?_; rintro e w3 ⟨rfl, h3⟩; obtain ⟨c1, f1, c4, f4⟩ := h3.cells)
              | (go_at_call 53; refine (HCL.out _ h3.at_).mono ?_; rintro e w4 ⟨rfl, h4⟩))
            go_ret
            exact REnd_bad HR2.out rfl h4
          | ok q2 ns2 m2 =>
            have hr := HL.out.trans (Sp.loop_ok HB.out hs h64 hf)
            have HR2 := Lib.hid hr
            rw [hf] at hb2
            obtain ⟨y1, y2, y3, y4⟩ := hb2
            have hcall : ∀ W, RSt W0 N A n cap (q + 1) (m' + 1) op ns' W → Calls Tryz.prog 53 #[.pointer (some ⟨N, 0, none⟩)] W fun e w' => e = .returned (.bool true) ∧ RSt W0 N A n cap q2 m2 op ns2 w' := by
              intro W hW
              have := HF.out (q + 1) ns' (m' + 1) W hqn (by omega) (by omega) hW
              rw [hf] at this
              exact this
            have HCL := Lib.hid hcall
            have hl2 : ns2.length ≤ 100000 := by omega
            clear hr hs hb1 hf hcall h64
            go_wp2_with (first
              | (go_at_call 30; refine HC.out.mono ?_; rintro e w2 ⟨rfl, h2⟩)
              | (go_at_call 31; refine (st_makes h2 H64.out).mono ?_; rintro e w3 ⟨rfl, h3⟩; obtain ⟨c1, f1, c4, f4⟩ := h3.cells)
              | (go_at_call 53; refine (HCL.out _ h3.at_).mono ?_; rintro e w4 ⟨rfl, h4⟩)
              | (go_at_call 32; refine (st_put0 h4 hl2 5).mono ?_; rintro e w5 ⟨rfl, h5⟩))
            go_roundw
            case rel => exact ⟨by first | rfl | trivial, q2, _, m2, by omega, y2, by rw [List.length_append, List.length_singleton]; omega, h5, HR2.out⟩
            case measure =>
              rw [madeOf_eq h5, HME.out]
              omega

theorem expr_chainOr (W0 : World) (N : Nat) (A : Option Addr) (n cap op : Nat) (zs : List ZTok) (hn : zs.length = n) (hnb : n ≤ 4611686018427387904) (hv : ViewZ W0 N A zs) (F : Nat → List Sp.Nd → Nat → Sp.Rd) (hF : FacCalls 29 W0 N A n cap op F) (hB : Sp.Bnd (zs.map ptZ) F) :
    FacCalls 18 W0 N A n cap op (Sp.chainV (zs.map ptZ) F [124] 6) := by
  intro p ns m w hp hm hns hst
  have hTl : (zs.map ptZ).length = n := by rw [List.length_map]; exact hn
  have hsg : ∀ {q m' : Nat} {ns' : List Sp.Nd} {W : World} {b : Bool}, RSt W0 N A n cap q m' op ns' W → Sp.sgAt (zs.map ptZ) q [124] = b → Calls Tryz.prog 30 #[.pointer (some ⟨N, 0, none⟩), .string ⟨#[124]⟩] W fun e w' => e = .returned (.bool b) ∧ RSt W0 N A n cap q m' op ns' w' := fun h hb => st_sign h ⟨#[124]⟩ hn hv hb
  obtain ⟨T, hT⟩ : ∃ T, zs.map ptZ = T := ⟨_, rfl⟩
  rw [hT] at hB hTl ⊢
  simp only [hT] at hsg
  have HSG := @Lib.hid _ @hsg
  have h0 := hF p ns m w hp hm hns hst
  have hb0 := hB p ns m (by omega) hm
  obtain ⟨R, hR⟩ : ∃ R, Sp.chainV T F [124] 6 p ns m = R := ⟨_, rfl⟩
  rw [hR]
  have HF := Lib.hid hF
  have HB := Lib.hid hB
  cases hf : F p ns m with
  | bad c q =>
    have hr : R = .bad c q := by rw [← hR]; simp only [Sp.chainV, hf]
    rw [hf] at h0
    have H0 := Lib.hid h0
    have HR := Lib.hid hr
    clear hR hr h0 hb0 hf hF hB hv hT hsg hst
    go_enter Tryz.func18, Tryz.ntmps18
    go_wp2_with (go_at_call 29; refine H0.out.mono ?_; rintro e w1 ⟨rfl, hbd⟩)
    go_ret
    exact REnd_bad HR.out rfl hbd
  | ok q ns1 m1 =>
    have hr : R = Sp.loopV T F [124] 6 (64 - m1) q ns1 m1 := by rw [← hR]; simp only [Sp.chainV, hf]
    rw [hf] at h0 hb0
    obtain ⟨x1, x2, x3, x4⟩ := hb0
    have H0 := Lib.hid h0
    have HR := Lib.hid hr
    clear hR hr h0 hf hF hB hv hT hsg hst
    go_enter Tryz.func18, Tryz.ntmps18
    go_wp2_with (go_at_call 29; refine H0.out.mono ?_; rintro e w1 ⟨rfl, hst1⟩)
    have HS1 := Lib.hid hst1
    have hNw := hst1.own
    clear hst1
    go_loopw [2] (fun v2 wr => v2 = .bool false ∧ ∃ (q : Nat) (ns' : List Sp.Nd) (m' : Nat), q ≤ n ∧ m' ≤ 64 ∧ ns'.length ≤ m' ∧ RSt W0 N A n cap q m' op ns' wr ∧ Hid (R = Sp.loopV T F [124] 6 (64 - m') q ns' m')) (fun _ wr => 64 - madeOf wr N)
    case atStart => exact ⟨rfl, q, ns1, m1, by omega, x2, by omega, HS1.out, HR.out⟩
    case round =>
      obtain ⟨rfl, q, ns', m', hq, hm', hns', hst, HL⟩ := hrel
      have hb1 := HB.out (q + 1) ns' (m' + 1)
      have hme := madeOf_eq hst
      have HME := Lib.hid hme
      have HST := Lib.hid hst
      clear hme hst
      cases hs : Sp.sgAt T q [124] with
      | false =>
        have hr := HL.out.trans (Sp.loop_no _ hs)
        have HR2 := Lib.hid hr
        have HC := Lib.hid (HSG.out HST.out hs)
        clear hr hs hb1
        go_wp2_with (go_at_call 30; refine HC.out.mono ?_; rintro e w2 ⟨rfl, h2⟩)
        go_ret
        exact REnd_ok HR2.out rfl h2
      | true =>
        have hlt := Sp.sg_lt hs
        by_cases h64 : 64 ≤ m'
        · have hr := HL.out.trans (Sp.loop_full _ hs h64)
          have HR2 := Lib.hid hr
          have HC := Lib.hid (HSG.out HST.out hs)
          have H64 := Lib.hid h64
          clear hr hs hb1 h64
          go_wp2_with (first
            | (go_at_call 30; refine HC.out.mono ?_; rintro e w2 ⟨rfl, h2⟩)
            | (go_at_call 31; refine (st_makes_no h2 H64.out).mono ?_; rintro e w3 ⟨rfl, h3⟩))
          go_ret
          exact REnd_bad HR2.out rfl h3
        · have hb2 := hb1 (by omega) (by omega)
          have HC := Lib.hid (HSG.out HST.out hs)
          have H64 := Lib.hid h64
          have hqn : q + 1 ≤ n := by omega
          have hqi : (q : Int) + 1 ≤ 4611686018427387904 := by omega
          have hq0 : (0 : Int) ≤ (q : Int) := by omega
          cases hf : F (q + 1) ns' (m' + 1) with
          | bad c q2 =>
            have hr := HL.out.trans (Sp.loop_bad hs h64 hf)
            have HR2 := Lib.hid hr
            have hcall : ∀ W, RSt W0 N A n cap (q + 1) (m' + 1) op ns' W → Calls Tryz.prog 29 #[.pointer (some ⟨N, 0, none⟩)] W fun e w' => e = .returned (.bool false) ∧ RBad W0 N A n cap q2 c w' := by
              intro W hW
              have := HF.out (q + 1) ns' (m' + 1) W hqn (by omega) (by omega) hW
              rw [hf] at this
              exact this
            have HCL := Lib.hid hcall
            clear hr hs hb1 hb2 hf hcall h64
            go_wp2_with (first
              | (go_at_call 30; refine HC.out.mono ?_; rintro e w2 ⟨rfl, h2⟩)
              | (go_at_call 31; refine (st_makes h2 H64.out).mono ?_; rintro e w3 ⟨rfl, h3⟩; obtain ⟨c1, f1, c4, f4⟩ := h3.cells)
              | (go_at_call 29; refine (HCL.out _ h3.at_).mono ?_; rintro e w4 ⟨rfl, h4⟩))
            go_ret
            exact REnd_bad HR2.out rfl h4
          | ok q2 ns2 m2 =>
            have hr := HL.out.trans (Sp.loop_ok HB.out hs h64 hf)
            have HR2 := Lib.hid hr
            rw [hf] at hb2
            obtain ⟨y1, y2, y3, y4⟩ := hb2
            have hcall : ∀ W, RSt W0 N A n cap (q + 1) (m' + 1) op ns' W → Calls Tryz.prog 29 #[.pointer (some ⟨N, 0, none⟩)] W fun e w' => e = .returned (.bool true) ∧ RSt W0 N A n cap q2 m2 op ns2 w' := by
              intro W hW
              have := HF.out (q + 1) ns' (m' + 1) W hqn (by omega) (by omega) hW
              rw [hf] at this
              exact this
            have HCL := Lib.hid hcall
            have hl2 : ns2.length ≤ 100000 := by omega
            clear hr hs hb1 hf hcall h64
            go_wp2_with (first
              | (go_at_call 30; refine HC.out.mono ?_; rintro e w2 ⟨rfl, h2⟩)
              | (go_at_call 31; refine (st_makes h2 H64.out).mono ?_; rintro e w3 ⟨rfl, h3⟩; obtain ⟨c1, f1, c4, f4⟩ := h3.cells)
              | (go_at_call 29; refine (HCL.out _ h3.at_).mono ?_; rintro e w4 ⟨rfl, h4⟩)
              | (go_at_call 32; refine (st_put0 h4 hl2 6).mono ?_; rintro e w5 ⟨rfl, h5⟩))
            go_roundw
            case rel => exact ⟨by first | rfl | trivial, q2, _, m2, by omega, y2, by rw [List.length_append, List.length_singleton]; omega, h5, HR2.out⟩
            case measure =>
              rw [madeOf_eq h5, HME.out]
              omega
end Go.Proofs.YtdmpapoabeljfaaGreatDoor
