/-
  The statement ScanIsNewCardSaid: what Scan answers is new memory (chapter 3).
  Conditions: those of the given card alone (the listed package-level variables read as the program's text lays them).
-/
import Derived.Test.YtgikgppblkpojaaDoorId
import Derived.Test.YtgikgppblkpojaaDoorGm
import Derived.Test.YtgikgppblkpojaaDoorNs
import Derived.SizedLaws
set_option linter.unusedVariables false
set_option linter.unusedSimpArgs false
set_option maxRecDepth 100000
set_option maxHeartbeats 2000000
namespace Go.Proofs.YtgikgppblkpojaaDoor.scanIsNew
open Go.ChangeShapes Go.WideShapes Go.ChangeAt Go.RowKit
open Go.ChangeMaps (open_string shut_string)

theorem laidOut : laidOutB Tryd.prog = true := by kernel_rfl
theorem slice_value {W : World} {base : Nat} {v0 : Value} {A : Option Addr} {n cap : Nat} (hok : Value.okWide Tryd.prog W .any base 22 v0) (h : v0.cells.toList = [.slice A n cap]) : v0 = .slice A n cap := by
  obtain ⟨A', n', cap', rfl⟩ := okWide_slice Tryd.underlying22 hok
  simpa [Value.cells] using h

theorem laid_met (os : Os) (args : Array Value) : laidMetH Tryd.prog Rows.scanIsNewRow.laid ((World.laidAll Tryd.prog os Rows.scanIsNewRow.laid).forCall (fun _ _ => 0) ⟨#[], args, []⟩).memory := by
  rw [MakeChecks.laidMetH_plain _ _ _ (by kernel_rfl)]
  exact laidMet_laidAll _ (by kernel_rfl) (by kernel_rfl)

theorem witness_row (os : Os) {H : Type} (enc : TypeId × Value → H) :
    (OpenSpec.ofChange Rows.scanIsNewSpec).preRow enc Tryd.prog Tryd.f3 Rows.scanIsNewRow.domain false Rows.scanIsNewRow.laid ((World.laidAll Tryd.prog os Rows.scanIsNewRow.laid).forCall (fun _ _ => 0) ⟨#[], #[.slice none 0 0], []⟩).memory #[.slice none 0 0] := by
  have hw : (DataW.whole enc Tryd.prog ((World.laidAll Tryd.prog os Rows.scanIsNewRow.laid).forCall (fun _ _ => 0) ⟨#[], #[.slice none 0 0], []⟩).memory Tryd.f3.params.toList (OpenSpec.ofChange Rows.scanIsNewSpec).vars false #[(.slice none 0 0 : Value)].toList 8).map (fun x => (x.1, x.2.1)) =
      some ([.nil], []) := by kernel_rfl
  obtain ⟨⟨x1, x2, x3⟩, hx, hx1⟩ := Option.map_eq_some_iff.1 hw
  simp only [Prod.mk.injEq] at hx1
  obtain ⟨rfl, rfl⟩ := hx1
  exact OpenSpec.preRow_of_cond 8 hx (by kernel_rfl) (fun k hk => by cases hk) (by kernel_rfl) (laid_met os _)

theorem lifted (os : Os) (started : os.Started) (H : Type) (enc : TypeId × Value → H) (F : Stop.Interp) :
    ReturnsInHanded {} Tryd.checked os 3 .any ((OpenSpec.ofChange Rows.scanIsNewSpec).preRow enc Tryd.prog Tryd.f3 Rows.scanIsNewRow.domain false Rows.scanIsNewRow.laid) (((OpenSpec.ofChange Rows.scanIsNewSpec).at F).post enc Tryd.prog Tryd.f3 false true false false) := by
  have hok : Input.okWideB Tryd.checked.prog ((World.laidAll Tryd.prog os Rows.scanIsNewRow.laid).forCall (fun _ _ => 0) ⟨#[], #[.slice none 0 0], []⟩) 3 ⟨#[], #[.slice none 0 0], []⟩ = true := by kernel_rfl
  refine returnsInHanded_of_row (C := Tryd.checked) (s := OpenSpec.ofChange Rows.scanIsNewSpec) own started (by kernel_rfl) Tryd.func3
    ⟨World.laidAll Tryd.prog os Rows.scanIsNewRow.laid, fun _ _ => 0, ⟨#[], #[.slice none 0 0], []⟩, World.laidAll_os _ _ _, World.shaped_of_ZipB (by kernel_rfl) (by kernel_rfl), (Input.okWide_of_okWideB (base := 0) hok).1, (Input.okWide_of_okWideB hok).2, witness_row os enc, by
      simp only [Assume.holds]
      exact ⟨by simp, by simp, fun _ => Modest.zero, by simp, by simp⟩⟩ ?_
  intro W base args ds gs before hval0 hW _ _ hsz0 hL hsh _
  have hval : ∀ (j : Nat) t v, Tryd.f3.params[j]? = some t → args[j]? = some v → Value.okWide Tryd.prog W .any base t v := hval0
  have hW' := hW
  obtain ⟨p, q, hA0, hV0, rfl, _, _⟩ := hW
  have hA : DataW.TrodAll enc Tryd.prog W 0 (fun _ => true) true Tryd.f3.params.toList args.toList ds p := hA0
  have hsz : (DataW.weightsEach Tryd.prog (Tryd.f3.params.toList ++ (OpenSpec.ofChange Rows.scanIsNewSpec).bare.plain.varTypes Tryd.prog) (ds ++ gs)).all (· ≤ reachBytes) = true := hsz0
  rw [Tryd.params3] at hA hval hsz
  obtain ⟨v0, d0, rfl, rfl, h0⟩ := trodAll_one hA
  obtain ⟨rfl, rfl⟩ := trodVars_none hV0
  have h0k := h0
  obtain ⟨fuel0, h0f⟩ := h0
  obtain ⟨A, cap, ss, hv0, hlc, hcm, hview, _, hsz2⟩ := slice_open Tryd.underlying22 (show Tryd.prog.cellsOf 9 = 1 by kernel_rfl) (by decide) (fun _ (s : ByteArray) cs => cs = [.string s]) (fun s => s.size ≤ reachBytes) (string_open Tryd.underlying9) h0f
  obtain rfl : v0 = .slice A ss.length cap := slice_value (hval 0 22 v0 rfl rfl) hv0
  have hsd := hsz2 (light_of hsz (j := 0) rfl rfl)
  have hbt : Tryd.prog.bytesOf 9 = 16 := by kernel_rfl
  rw [hbt] at hsd
  have hts : ∀ s ∈ ss, s.size ≤ 9223372036854775807 := fun s hs => by have := hsd.2 s hs; unfold reachBytes at this; omega
  have hnb : ss.length ≤ 4611686018427387904 := by have := hsd.1; unfold reachBytes at this; omega
  have hsv : SView W W.heap.size A ss := fun i s hs => by
    obtain ⟨g, o, cs, hA, hg, _, rfl, hc⟩ := hview i s hs
    refine ⟨g, o, hA, hg, ?_⟩
    have := hc 0 _ rfl
    simpa using this
  have hlt : ∀ x ∈ p, x.block < W.heap.size := fun x hx => by have := hW'.lt x; simp at this hx ⊢; exact this hx
  clear hA0 hV0 hval0 hsz0
  have hG : Gs W := gs_of hL (by kernel_rfl) hsh (by simp [Rows.scanIsNewRow]) (by simp [Rows.scanIsNewRow]) (by simp [Rows.scanIsNewRow]) (by simp [Rows.scanIsNewRow]) (by simp [Rows.scanIsNewRow])
  refine (law_isNew A ss.length cap ss W hG rfl hnb hlc hsv hts).mono ?_
  rintro e W' ⟨rfl, bel⟩
  have e1 : ((OpenSpec.ofChange Rows.scanIsNewSpec).at F).fn H ([d0] ++ []) = { results := [.lit (.bool true)], args := [d0] } := rfl
  refine ⟨_, rfl, _, _, _, [], p, [], hW', ?_, ?_, ?_, bel.frame _, fun h => by cases h⟩
  · rw [e1]; exact trodAll_mk1 (shut_bool Tryd.underlying4 _)
  · rw [e1]; exact trodAll_mk1 (Below.trod laidOut (by kernel_rfl) (of_decide_eq_true (by kernel_rfl)) h0k bel hlt)
  · rw [e1]; rfl

theorem said : Rows.ScanIsNewSaid :=
  OpenClaim.holds_of_cond 3 Tryd.f3 rfl rfl rfl rfl rfl rfl rfl ⟨rfl, rfl, rfl, rfl, rfl⟩ rfl rfl rfl rfl rfl (by kernel_rfl) Tryd.func3 (by kernel_rfl)
    (of_decide_eq_true (by kernel_rfl)) (by unfold Func.isWrapper; first | (rw [if_pos (by decide +kernel)]; kernel_rfl) | (rw [if_neg (by decide +kernel)]; exact ⟨rfl, rfl⟩))
    (fun os started H enc _ F => by rw [OpenClaim.pre_eq_preRow]; exact lifted os started H enc F)

theorem plain (f : FuncId) (fn : Func) (hf : Tryd.pinned.checked.prog.funcNamed "reach/reachlaw3.ScanIsNew" = some f) (hfn : Tryd.pinned.checked.prog.funcs[f]? = some fn) :
    true = Tryd.pinned.checked.prog.looks [] ∧ ∀ (j : Nat) t, fn.params[j]? = some t → Tryd.pinned.checked.prog.wantsStandIn t = false := by
  obtain rfl : f = 3 := Option.some.inj ((show Tryd.prog.funcNamed "reach/reachlaw3.ScanIsNew" = some 3 by kernel_rfl).symm.trans hf) |>.symm
  obtain rfl : fn = Tryd.f3 := (Option.some.inj (Tryd.func3.symm.trans hfn)).symm
  refine ⟨by kernel_rfl, fun j t ht => ?_⟩
  rw [Tryd.params3] at ht
  obtain rfl : t = 22 := by simpa using Array.mem_of_getElem? ht
  exact (show Tryd.prog.wantsStandIn 22 = false by kernel_rfl)

theorem card : Rows.ScanIsNewCardSaid :=
  Claim7.holds_tied_plain_at .later [] _ _ _ _ said (fun _ h => by cases h) (by kernel_rfl) (fun _ h => by cases h) scanIsNew_row_tie rfl ⟨rfl, rfl⟩ (by kernel_rfl) rfl plain (by kernel_rfl)
end Go.Proofs.YtgikgppblkpojaaDoor.scanIsNew
