/-
  The statement ExprPrintsCardSaid: every Print of any nodes is the reference's; the list, and what lies behind its end, is as it was, or as it was laid anew.
  Conditions: those of the given card alone (the listed package-level variables read as the program's text lays them).
-/
import Derived.Test.YtdmpapoabeljfaaGreatDoorKn
import Derived.Test.YtdmpapoabeljfaaGreatDoorGm
import Derived.Test.YtdmpapoabeljfaaGreatDoorGy
import Derived.Test.YtdmpapoabeljfaaGreatDoorGp
import Derived.SizedLaws
set_option linter.unusedVariables false
set_option linter.unusedSimpArgs false
set_option maxRecDepth 100000
set_option maxHeartbeats 2000000
namespace Go.Proofs.YtdmpapoabeljfaaGreatDoor.exprPrints
open Go.ChangeShapes Go.WideShapes Go.ChangeAt Go.RowKit
open Go.ChangeMaps (open_string shut_string)

theorem laidOut : laidOutB Tryz.prog = true := by kernel_rfl
theorem slice_value {W : World} {base : Nat} {v0 : Value} {A : Option Addr} {n cap : Nat} (hok : Value.okWide Tryz.prog W .any base 25 v0) (h : v0.cells.toList = [.slice A n cap]) : v0 = .slice A n cap := by
  obtain ⟨A', n', cap', rfl⟩ := okWide_slice Tryz.underlying25 hok
  simpa [Value.cells] using h

theorem laid_met (os : Os) (args : Array Value) : laidMetH Tryz.prog Rows.exprPrintsRow.laid ((World.laidAll Tryz.prog os Rows.exprPrintsRow.laid).forCall (fun _ _ => 0) ⟨#[], args, []⟩).memory := by
  rw [MakeChecks.laidMetH_plain _ _ _ (by kernel_rfl)]
  exact laidMet_laidAll _ (by kernel_rfl) (by kernel_rfl)

theorem witness_row (os : Os) {H : Type} (enc : TypeId × Value → H) :
    (OpenSpec.ofChange Rows.exprPrintsSpec).preRow enc Tryz.prog Tryz.f5 Rows.exprPrintsRow.domain false Rows.exprPrintsRow.laid ((World.laidAll Tryz.prog os Rows.exprPrintsRow.laid).forCall (fun _ _ => 0) ⟨#[], #[.slice none 0 0], []⟩).memory #[.slice none 0 0] := by
  have hw : (DataW.whole enc Tryz.prog ((World.laidAll Tryz.prog os Rows.exprPrintsRow.laid).forCall (fun _ _ => 0) ⟨#[], #[.slice none 0 0], []⟩).memory Tryz.f5.params.toList (OpenSpec.ofChange Rows.exprPrintsSpec).vars false #[(.slice none 0 0 : Value)].toList 8).map (fun x => (x.1, x.2.1)) =
      some ([.nil], []) := by kernel_rfl
  obtain ⟨⟨x1, x2, x3⟩, hx, hx1⟩ := Option.map_eq_some_iff.1 hw
  simp only [Prod.mk.injEq] at hx1
  obtain ⟨rfl, rfl⟩ := hx1
  exact OpenSpec.preRow_of_cond 8 hx (by kernel_rfl) (fun k hk => by cases hk) (by kernel_rfl) (laid_met os _)

theorem lifted (os : Os) (started : os.Started) (H : Type) (enc : TypeId × Value → H) (F : Stop.Interp) :
    ReturnsInHanded {} Tryz.checked os 5 .any ((OpenSpec.ofChange Rows.exprPrintsSpec).preRow enc Tryz.prog Tryz.f5 Rows.exprPrintsRow.domain false Rows.exprPrintsRow.laid) (((OpenSpec.ofChange Rows.exprPrintsSpec).at F).post enc Tryz.prog Tryz.f5 false true false false) := by
  have hok : Input.okWideB Tryz.checked.prog ((World.laidAll Tryz.prog os Rows.exprPrintsRow.laid).forCall (fun _ _ => 0) ⟨#[], #[.slice none 0 0], []⟩) 5 ⟨#[], #[.slice none 0 0], []⟩ = true := by kernel_rfl
  refine returnsInHanded_of_row (C := Tryz.checked) (s := OpenSpec.ofChange Rows.exprPrintsSpec) own started (by kernel_rfl) Tryz.func5
    ⟨World.laidAll Tryz.prog os Rows.exprPrintsRow.laid, fun _ _ => 0, ⟨#[], #[.slice none 0 0], []⟩, World.laidAll_os _ _ _, World.shaped_of_ZipB (by kernel_rfl) (by kernel_rfl), (Input.okWide_of_okWideB (base := 0) hok).1, (Input.okWide_of_okWideB hok).2, witness_row os enc, by
      simp only [Assume.holds]
      exact ⟨by simp, by simp, fun _ => Modest.zero, by simp, by simp⟩⟩ ?_
  intro W base args ds gs before hval0 hW _ _ hsz0 hL hsh _
  have hval : ∀ (j : Nat) t v, Tryz.f5.params[j]? = some t → args[j]? = some v → Value.okWide Tryz.prog W .any base t v := hval0
  have hW' := hW
  obtain ⟨p, q, hA0, hV0, rfl, _, _⟩ := hW
  have hA : DataW.TrodAll enc Tryz.prog W 0 (fun _ => true) true Tryz.f5.params.toList args.toList ds p := hA0
  have hsz : (DataW.weightsEach Tryz.prog (Tryz.f5.params.toList ++ (OpenSpec.ofChange Rows.exprPrintsSpec).bare.plain.varTypes Tryz.prog) (ds ++ gs)).all (· ≤ reachBytes) = true := hsz0
  rw [Tryz.params5] at hA hval hsz
  obtain ⟨v0, d0, rfl, rfl, h0⟩ := trodAll_one hA
  obtain ⟨rfl, rfl⟩ := trodVars_none hV0
  have h0k := h0
  obtain ⟨A, cap, ns, hv0, hml, hview, hdat⟩ := nodes_open h0
  obtain rfl : v0 = .slice A ns.length cap := slice_value (hval 0 25 v0 rfl rfl) hv0
  have hts : ∀ d ∈ ns, d.field.length ≤ 4611686018427387904 ∧ d.pat.length ≤ 4611686018427387904 := fun d hd => by have := nodes_sized hsz (j := 0) rfl rfl hdat d hd; unfold reachBytes at this; omega
  have hnb : ns.length ≤ 4611686018427387904 := by have := nodes_count hsz (j := 0) rfl rfl hdat; unfold reachBytes at this; omega
  have hlt : ∀ x ∈ p, x.block < W.heap.size := fun x hx => by have := hW'.lt x; simp at this hx ⊢; exact this hx
  clear hA0 hV0 hval0 hsz0
  have hG : Gs W := gs_of hL (by kernel_rfl) hsh (by simp [Rows.exprPrintsRow]) (by simp [Rows.exprPrintsRow]) (by simp [Rows.exprPrintsRow]) (by simp [Rows.exprPrintsRow]) (by simp [Rows.exprPrintsRow])
  have hT : Pow W := pow_of hL (by kernel_rfl) (by simp [Rows.exprPrintsRow])
  refine (law_prints A cap ns W hG hT hnb hview hts).mono ?_
  rintro e W' ⟨rfl, bel⟩
  have e1 : ((OpenSpec.ofChange Rows.exprPrintsSpec).at F).fn H ([d0] ++ []) = { results := [.lit (.bool true)], args := [d0] } := rfl
  refine ⟨_, rfl, _, _, _, [], p ++ [], [], hW', ?_, ?_, ?_, bel.frame _, fun h => by cases h⟩
  · rw [e1]; exact trodAll_mk1 (shut_bool Tryz.underlying4 _)
  · rw [e1]; rw [List.append_nil]; exact trodAll_mk1 (Below.trod laidOut (by kernel_rfl) (of_decide_eq_true (by kernel_rfl)) h0k bel hlt)
  · rw [e1]; rfl

theorem said : Rows.ExprPrintsSaid :=
  OpenClaim.holds_of_cond 5 Tryz.f5 rfl rfl rfl rfl rfl rfl rfl ⟨rfl, rfl, rfl, rfl, rfl⟩ rfl rfl rfl rfl rfl (by kernel_rfl) Tryz.func5 (by kernel_rfl)
    (of_decide_eq_true (by kernel_rfl)) (by unfold Func.isWrapper; first | (rw [if_pos (by decide +kernel)]; kernel_rfl) | (rw [if_neg (by decide +kernel)]; exact ⟨rfl, rfl⟩))
    (fun os started H enc _ F => by rw [OpenClaim.pre_eq_preRow]; exact lifted os started H enc F)

theorem plain (f : FuncId) (fn : Func) (hf : Tryz.pinned.checked.prog.funcNamed "reach/reachlaw5.ExprPrints" = some f) (hfn : Tryz.pinned.checked.prog.funcs[f]? = some fn) :
    true = Tryz.pinned.checked.prog.looks [] ∧ ∀ (j : Nat) t, fn.params[j]? = some t → Tryz.pinned.checked.prog.wantsStandIn t = false := by
  obtain rfl : f = 5 := Option.some.inj ((show Tryz.prog.funcNamed "reach/reachlaw5.ExprPrints" = some 5 by kernel_rfl).symm.trans hf) |>.symm
  obtain rfl : fn = Tryz.f5 := (Option.some.inj (Tryz.func5.symm.trans hfn)).symm
  refine ⟨by kernel_rfl, fun j t ht => ?_⟩
  rw [Tryz.params5] at ht
  obtain rfl : t = 25 := by simpa using Array.mem_of_getElem? ht
  exact (show Tryz.prog.wantsStandIn 25 = false by kernel_rfl)

theorem card : Rows.ExprPrintsCardSaid :=
  Claim7.holds_tied_plain_at .later [] _ _ _ _ said (fun _ h => by cases h) (by kernel_rfl) (fun _ h => by cases h) exprPrints_row_tie rfl ⟨rfl, rfl⟩ (by kernel_rfl) rfl plain (by kernel_rfl)
end Go.Proofs.YtdmpapoabeljfaaGreatDoor.exprPrints
