/-
  THE WALK of the machine's run (chapter 3).
-/
import Derived.Test.YtjedoipbllcfdaaDoorTd
set_option linter.unusedVariables false
set_option linter.unusedSimpArgs false
set_option maxRecDepth 100000
set_option maxHeartbeats 8000000
namespace Go.Proofs.YtjedoipbllcfdaaDoor
open Go.RowKit

theorem mach_run (W0 : World) (s : ByteArray) (N : Nat) (w : World) (hs : s.size ≤ 1073741823) (hG : Gs W0) (hN : W0.heap.size = N) (hM : MSt W0 N s 0 1 1 false [] w) :
    Calls Tryd.prog 30 #[.pointer (some ⟨N, 0, none⟩)] w (RunEnd W0 N s) := by
  have HG := Lib.hid hG
  have HN := Lib.hid hN
  have HM := Lib.hid hM
  clear hG hN hM
  go_enter Tryd.func30, Tryd.ntmps30
  go_wp2
  refine wp_scope_labels2 4 [0, 1, 2, 3, 4] (RunJ W0 N s) (fun l _ w => runMu s N l w) (by simp) rfl ?_ ?_ ?_
  · go_wp2
    exact ⟨RunF_mk, 0, 1, 1, false, [], HM.out, ⟨by omega, by omega, by omega, by simp, by rw [List.drop_zero]⟩, Or.inl rfl⟩
  · rintro a1 w1 ⟨hF, p, line, col, op, acc, hm, hi, hl⟩
    refine RunF_wp ?_ a1 hF
    clear hF a1
    intro u3 u4 u5 u6 u7 u8 u9 u10 u11 u12 u13 u14 u15 u16 u17 u18 u19 u20 u21 u22 u23 u24 u25 u26 u27 u28 u29 u30 u31 u32 u33 u34 u35 u36 u37 u38 u39 u40 u41 u42 u43 u44 u45 u46 u47 u48 u49 u50 u51 u52 u53 u54 u55 u56 u57 u58 u59 u60 u61 u62 u63 u64 u65 u66 u67 u68 u69 u70 u71 u72 u73 u74 u75 u76 u77 u78 u79 u80 u81 u82 u83 u84 u85
    obtain ⟨h1, h2, h3, h4, h5⟩ := hi
    obtain ⟨c0, c1⟩ := mst_cells hm
    have hgs := mst_gs hm HG.out HN.out
    have hlt := mst_lt hm
    have hmd := mst_drew hm
    have HA := Lib.hid (machAt_of hm)
    have hC := fun W => scan_classOf s p W (by omega)
    obtain ⟨k, hk⟩ : ∃ k, Sp.classV (s.data.toList.drop p) = k := ⟨_, rfl⟩
    rw [hk] at hC
    have HC := Lib.hid hC
    have HK := Lib.hid hk
    have H5 := Lib.hid h5
    have HMD := Lib.hid hmd
    have HGS := Lib.hid hgs
    clear hm hl hC hk h5 hmd hgs
    by_cases k1 : k = 1
    · have q1 : ((k : Int) == 1) = true := beq_iff_eq.2 (by omega)
      have HK1 := Lib.hid k1
      clear k1
      go_wp2_with fail
      go_region_held3 (fun w' => w'.cell? ⟨N, 0, none⟩ = some (.string s) ∧ w'.cell? ⟨N, 1, none⟩ = some (.int .i64 p)) (go_keep) ((go_at_call 51; refine (HC.out _).mono ?_; rintro e w2 ⟨rfl, rfl⟩))
      go_wp2
      go_step3
      refine ⟨by simp, ⟨RunF_mk, p, line, col, op, acc, HMD.out, ⟨h1, h2, h3, h4, H5.out⟩, Or.inr (HK.out.trans HK1.out)⟩, ?_⟩
      exact runMu_lt 4 0 p 0 (by omega) (by omega) h1 HA.out (machAt_of HMD.out)
    by_cases k3 : k = 3
    · have q1 : ((k : Int) == 1) = false := beq_eq_false_iff_ne.2 (by omega)
      have q3 : ((k : Int) == 3) = true := beq_iff_eq.2 (by omega)
      have HK1 := Lib.hid k3
      clear k1 k3
      go_wp2_with fail
      go_region_held3 (fun w' => w'.cell? ⟨N, 0, none⟩ = some (.string s) ∧ w'.cell? ⟨N, 1, none⟩ = some (.int .i64 p)) (go_keep) ((go_at_call 51; refine (HC.out _).mono ?_; rintro e w2 ⟨rfl, rfl⟩))
      go_wp2
      go_step3
      refine ⟨by simp, ⟨RunF_mk, p, line, col, op, acc, HMD.out, ⟨h1, h2, h3, h4, H5.out⟩, Or.inr (HK.out.trans HK1.out)⟩, ?_⟩
      exact runMu_lt 4 1 p 0 (by omega) (by omega) h1 HA.out (machAt_of HMD.out)
    by_cases k2 : k = 2
    · have q1 : ((k : Int) == 1) = false := beq_eq_false_iff_ne.2 (by omega)
      have q3 : ((k : Int) == 3) = false := beq_eq_false_iff_ne.2 (by omega)
      have q2 : ((k : Int) == 2) = true := beq_iff_eq.2 (by omega)
      have HK1 := Lib.hid k2
      clear k1 k3 k2
      go_wp2_with fail
      go_region_held3 (fun w' => w'.cell? ⟨N, 0, none⟩ = some (.string s) ∧ w'.cell? ⟨N, 1, none⟩ = some (.int .i64 p)) (go_keep) ((go_at_call 51; refine (HC.out _).mono ?_; rintro e w2 ⟨rfl, rfl⟩))
      go_wp2
      go_step3
      refine ⟨by simp, ⟨RunF_mk, p, line, col, op, acc, HMD.out, ⟨h1, h2, h3, h4, H5.out⟩, Or.inr (HK.out.trans HK1.out)⟩, ?_⟩
      exact runMu_lt 4 2 p 0 (by omega) (by omega) h1 HA.out (machAt_of HMD.out)
    by_cases k4 : k = 4
    · have q1 : ((k : Int) == 1) = false := beq_eq_false_iff_ne.2 (by omega)
      have q3 : ((k : Int) == 3) = false := beq_eq_false_iff_ne.2 (by omega)
      have q2 : ((k : Int) == 2) = false := beq_eq_false_iff_ne.2 (by omega)
      have q4 : ((k : Int) == 4) = true := beq_iff_eq.2 (by omega)
      have HK1 := Lib.hid k4
      clear k1 k3 k2 k4
      go_wp2_with fail
      go_region_held3 (fun w' => w'.cell? ⟨N, 0, none⟩ = some (.string s) ∧ w'.cell? ⟨N, 1, none⟩ = some (.int .i64 p)) (go_keep) ((go_at_call 51; refine (HC.out _).mono ?_; rintro e w2 ⟨rfl, rfl⟩))
      go_wp2
      go_step3
      refine ⟨by simp, ⟨RunF_mk, p, line, col, op, acc, HMD.out, ⟨h1, h2, h3, h4, H5.out⟩, Or.inr (HK.out.trans HK1.out)⟩, ?_⟩
      exact runMu_lt 4 3 p 0 (by omega) (by omega) h1 HA.out (machAt_of HMD.out)
    have q1 : ((k : Int) == 1) = false := beq_eq_false_iff_ne.2 (by omega)
    have q3 : ((k : Int) == 3) = false := beq_eq_false_iff_ne.2 (by omega)
    have q2 : ((k : Int) == 2) = false := beq_eq_false_iff_ne.2 (by omega)
    have q4 : ((k : Int) == 4) = false := beq_eq_false_iff_ne.2 (by omega)
    obtain ⟨c, r, hcr, hcc⟩ := Sp.classV_at HK.out k1
    have hpl : p < s.size := by
      rcases Nat.lt_or_ge p s.size with h | h
      · exact h
      · rw [List.drop_eq_nil_of_le (by rw [← Lib.size_eq]; omega)] at hcr; cases hcr
    have hpa : Sp.PieceAt c := ⟨by omega, by omega, by omega⟩
    have hP := fun W (hW : Gs W) => scan_piece (s.extract p s.size) W hW (by rw [ByteArray.size_extract]; omega)
    rw [ext_drop] at hP
    obtain ⟨kd, n, off, code, hp⟩ : ∃ kd n off code, Sp.pieceV (s.data.toList.drop p) = (kd, n, off, code) := ⟨_, _, _, _, rfl⟩
    have hsz := Sp.pieceV_size hp (by rw [hcr]; simp)
    have hdl : (s.data.toList.drop p).length = s.size - p := by rw [List.length_drop, ← Lib.size_eq]
    have hP2 : ∀ W (hW : Gs W), Calls Tryd.prog 52 #[.string (s.extract p s.size)] W fun e w' => e = .returned (.tuple #[.int .i64 (kd : Nat), .int .i64 (n : Nat), .int .i64 (off : Nat), .int .i64 (code : Nat)]) ∧ Below W.heap.size W w' := by
      intro W hW
      have := hP W hW
      rw [hp] at this
      exact this
    have HP := Lib.hid hP2
    have HG2 : Hid (Gs w1.drew.drew) := HGS.out.below ((Below.refl _ _).drew.drew)
    have b1 : (0 : Int) ≤ (p : Int) := by omega
    have b2 : (p : Int) ≤ s.size := by omega
    have kc : ∀ w2, Below w1.drew.drew.heap.size w1.drew.drew w2 → w2.cell? ⟨N, 0, none⟩ = some (.string s) ∧ w2.cell? ⟨N, 1, none⟩ = some (.int .i64 p) := fun w2 hb => ⟨(hb.cell (p := ⟨N, 0, none⟩) hlt).trans c0, (hb.cell (p := ⟨N, 1, none⟩) hlt).trans c1⟩
    have KC := Lib.hid kc
    clear kc hP hP2 k1 k2 k3 k4
    by_cases hcode : code = 0
    · subst hcode
      obtain ⟨g1, g2, g3, g4, g5⟩ := hsz.1 rfl
      have hnl := g2.le
      rw [hdl] at hnl
      rw [hcr] at hp
      have h5' := H5.out
      rw [hcr, Sp.runV_tok _ _ _ _ _ hpa hp, ← hcr, List.drop_drop] at h5'
      have H52 := Lib.hid h5'
      have hcl := Sp.chars_le_len (s.data.toList.drop p) n
      have hput := fun w2 (hb : Below w1.drew.drew.heap.size w1.drew.drew w2) => mst_put W0 s N p line col kd n op acc w2 (mst_below (mst_drew HMD.out) hb) (by omega) (by omega) (by omega) (by omega)
      have HPU := Lib.hid hput
      have hlen : (acc ++ [(kd, (s.data.toList.drop p).take n, line, col)]).length ≤ p + n := by rw [List.length_append, List.length_singleton]; omega
      clear hp hsz hcr hcc hpa h5' hput g2 hdl
      go_wp2_with fail
      go_region_held3 (fun w' => w'.cell? ⟨N, 0, none⟩ = some (.string s) ∧ w'.cell? ⟨N, 1, none⟩ = some (.int .i64 p)) (go_keep) ((go_at_call 51; refine (HC.out _).mono ?_; rintro e w2 ⟨rfl, rfl⟩))
      go_wp2_with fail
      go_region_held3 (fun w' => w'.cell? ⟨N, 0, none⟩ = some (.string s) ∧ w'.cell? ⟨N, 1, none⟩ = some (.int .i64 p)) (first | go_keep | exact kc2) ((go_at_call 52; refine (HP.out _ HG2.out).mono ?_; rintro e w2 ⟨rfl, hb2⟩; have kc2 := KC.out w2 hb2))
      have HPP := Lib.hid (HPU.out w2 hb2)
      have HI2 : Hid (RunI s (p + n) line (col + Sp.chars ((s.data.toList.drop p).take n)) true (acc ++ [(kd, (s.data.toList.drop p).take n, line, col)])) := ⟨by omega, by omega, by omega, hlen, H52.out⟩
      clear kc2 hb2
      go_wp2_with (go_at_call 54; refine HPP.out.mono ?_; rintro e w3 ⟨rfl, hm3⟩)
      go_step3
      refine ⟨by simp, ⟨RunF_mk, p + n, line, _, true, _, hm3, HI2.out, Or.inl rfl⟩, ?_⟩
      exact runMu_lt 4 4 p n (by omega) (by omega) h1 HA.out (machAt_of hm3)
    · obtain ⟨g2, g3, g4⟩ := hsz.2 hcode
      have hnl := g2.le
      rw [hdl] at hnl
      rw [hcr] at hp
      have h5' := H5.out
      rw [hcr, Sp.runV_err _ _ _ _ _ hpa hp hcode, ← hcr] at h5'
      have H52 := Lib.hid h5'
      have hfw := fun w2 (hb : Below w1.drew.drew.heap.size w1.drew.drew w2) => mst_forward W0 s N p line col off op acc w2 (mst_below (mst_drew HMD.out) hb) (by omega) (by omega) (by omega)
      have HFW := Lib.hid hfw
      have q5 : ((code : Int) != 0) = true := by rw [bne_iff_ne]; omega
      clear hp hsz hcr hcc hpa h5' hfw g2 hdl
      go_wp2_with fail
      go_region_held3 (fun w' => w'.cell? ⟨N, 0, none⟩ = some (.string s) ∧ w'.cell? ⟨N, 1, none⟩ = some (.int .i64 p)) (go_keep) ((go_at_call 51; refine (HC.out _).mono ?_; rintro e w2 ⟨rfl, rfl⟩))
      go_wp2_with fail
      go_region_held3 (fun w' => w'.cell? ⟨N, 0, none⟩ = some (.string s) ∧ w'.cell? ⟨N, 1, none⟩ = some (.int .i64 p)) (first | go_keep | exact kc2) ((go_at_call 52; refine (HP.out _ HG2.out).mono ?_; rintro e w2 ⟨rfl, hb2⟩; have kc2 := KC.out w2 hb2))
      have HFF := Lib.hid (HFW.out w2 hb2)
      clear kc2 hb2
      go_wp2_with (go_at_call 53; refine HFF.out.mono ?_; rintro e w3 ⟨rfl, hm3⟩)
      go_ret
      refine ⟨ret_int (by rw [← H52.out]), p + off, line, _, op, acc, hm3, fun h => absurd (by rw [← H52.out] at h; exact h) hcode, fun _ => by rw [← H52.out]⟩
  · intro l hl hne
    simp only [List.mem_cons, List.not_mem_nil, or_false] at hl
    rcases hl with rfl | rfl | rfl | rfl | rfl
    · refine ⟨_, rfl, ?_⟩
      rintro a1 w1 ⟨hF, p, line, col, op, acc, hm, hi, hl⟩
      refine RunF_wp ?_ a1 hF
      clear hF a1
      intro u3 u4 u5 u6 u7 u8 u9 u10 u11 u12 u13 u14 u15 u16 u17 u18 u19 u20 u21 u22 u23 u24 u25 u26 u27 u28 u29 u30 u31 u32 u33 u34 u35 u36 u37 u38 u39 u40 u41 u42 u43 u44 u45 u46 u47 u48 u49 u50 u51 u52 u53 u54 u55 u56 u57 u58 u59 u60 u61 u62 u63 u64 u65 u66 u67 u68 u69 u70 u71 u72 u73 u74 u75 u76 u77 u78 u79 u80 u81 u82 u83 u84 u85
      obtain ⟨h1, h2, h3, h4, h5⟩ := hi
      have hE := mst_endLine W0 s N p line col op acc w1 hm (by omega) (by omega) (by omega)
      have hnil : s.data.toList.drop p = [] := by
        rcases hl with hl | hl
        · omega
        · cases hd : s.data.toList.drop p with
          | nil => rfl
          | cons c r =>
            rw [hd] at hl
            exfalso
            have hl : Sp.classB c = 1 := hl
            unfold Sp.classB at hl
            repeat' split at hl
            all_goals omega
      rw [hnil, Sp.runV_nil] at h5
      have HE := Lib.hid hE
      have H5 := Lib.hid h5
      clear hm hl hE hnil h5
      go_wp2_with (go_at_call 55; refine HE.out.mono ?_; rintro e w2 ⟨rfl, hm2⟩)
      go_ret
      refine ⟨by rw [← H5.out]; rfl, p + 1, line + 1, 1, false, _, hm2, fun _ => by rw [← H5.out], fun h => absurd (by rw [← H5.out]) h⟩
    · refine ⟨_, rfl, ?_⟩
      rintro a1 w1 ⟨hF, p, line, col, op, acc, hm, hi, hl⟩
      refine RunF_wp ?_ a1 hF
      clear hF a1
      intro u3 u4 u5 u6 u7 u8 u9 u10 u11 u12 u13 u14 u15 u16 u17 u18 u19 u20 u21 u22 u23 u24 u25 u26 u27 u28 u29 u30 u31 u32 u33 u34 u35 u36 u37 u38 u39 u40 u41 u42 u43 u44 u45 u46 u47 u48 u49 u50 u51 u52 u53 u54 u55 u56 u57 u58 u59 u60 u61 u62 u63 u64 u65 u66 u67 u68 u69 u70 u71 u72 u73 u74 u75 u76 u77 u78 u79 u80 u81 u82 u83 u84 u85
      obtain ⟨h1, h2, h3, h4, h5⟩ := hi
      have hE := mst_endLine W0 s N p line col op acc w1 hm (by omega) (by omega) (by omega)
      have hcls : Sp.classV (s.data.toList.drop p) = 3 := by
        rcases hl with hl | hl
        · omega
        · exact hl
      obtain ⟨c, r, hcr, hc⟩ := Sp.classV_at hcls (by omega)
      have hplt : p < s.size := by
        rcases Nat.lt_or_ge p s.size with h | h
        · exact h
        · rw [List.drop_eq_nil_of_le (by rw [← Lib.size_eq]; omega)] at hcr; cases hcr
      have hr : s.data.toList.drop (p + 1) = r := by rw [← List.drop_drop, hcr]; rfl
      rw [hcr, Sp.runV_nl _ _ _ _ _ hc, ← hr] at h5
      have hle : (Sp.endT op acc line col).length ≤ p + 1 := by have := endT_le op acc line col; omega
      have hi2 : RunI s (p + 1) (line + 1) 1 false (Sp.endT op acc line col) := ⟨by omega, by omega, by omega, hle, h5⟩
      have HI2 := Lib.hid hi2
      have HE := Lib.hid hE
      have HA := Lib.hid (machAt_of hm)
      clear hm hl hE h5 hcls hcr hc hr hle hi2
      go_wp2_with (go_at_call 55; refine HE.out.mono ?_; rintro e w2 ⟨rfl, hm2⟩)
      go_step3
      refine ⟨by simp, ⟨RunF_mk, p + 1, line + 1, 1, false, Sp.endT op acc line col, hm2, HI2.out, Or.inl rfl⟩, ?_⟩
      exact runMu_lt 1 4 p 1 (by omega) (by omega) (by omega) HA.out (machAt_of hm2)
    · refine ⟨_, rfl, ?_⟩
      rintro a1 w1 ⟨hF, p, line, col, op, acc, hm, hi, hl⟩
      refine RunF_wp ?_ a1 hF
      clear hF a1
      intro u3 u4 u5 u6 u7 u8 u9 u10 u11 u12 u13 u14 u15 u16 u17 u18 u19 u20 u21 u22 u23 u24 u25 u26 u27 u28 u29 u30 u31 u32 u33 u34 u35 u36 u37 u38 u39 u40 u41 u42 u43 u44 u45 u46 u47 u48 u49 u50 u51 u52 u53 u54 u55 u56 u57 u58 u59 u60 u61 u62 u63 u64 u65 u66 u67 u68 u69 u70 u71 u72 u73 u74 u75 u76 u77 u78 u79 u80 u81 u82 u83 u84 u85
      obtain ⟨h1, h2, h3, h4, h5⟩ := hi
      have hcls : Sp.classV (s.data.toList.drop p) = 2 := by
        rcases hl with hl | hl
        · omega
        · exact hl
      obtain ⟨c, r, hcr, hc⟩ := Sp.classV_at hcls (by omega)
      have hplt : p < s.size := by
        rcases Nat.lt_or_ge p s.size with h | h
        · exact h
        · rw [List.drop_eq_nil_of_le (by rw [← Lib.size_eq]; omega)] at hcr; cases hcr
      have hE := mst_forward W0 s N p line col 1 op acc w1 hm (by omega) (by omega) (by omega)
      have h128 : c.toNat < 128 := by
        unfold Sp.classB at hc
        split at hc
        · rename_i hb
          unfold Sp.blankB at hb
          simp only [decide_eq_true_eq] at hb
          omega
        repeat' split at hc
        all_goals omega
      have hch : Sp.chars ((s.data.toList.drop p).take 1) = 1 := by
        rw [hcr]
        refine Sp.chars_ascii 1 _ (by simp) (fun k hk => ?_)
        have : k = 0 := by omega
        subst this
        rw [Sp.bt_cons0]
        exact h128
      rw [hch] at hE
      have hr : s.data.toList.drop (p + 1) = r := by rw [← List.drop_drop, hcr]; rfl
      rw [hcr, Sp.runV_blank _ _ _ _ _ hc, ← hr] at h5
      have hi2 : RunI s (p + 1) line (col + 1) op acc := ⟨by omega, by omega, by omega, by omega, h5⟩
      have HI2 := Lib.hid hi2
      have HE := Lib.hid hE
      have HA := Lib.hid (machAt_of hm)
      clear hm hl hE h5 hcls hcr hc hr hi2 hch h128
      go_wp2_with (go_at_call 53; refine HE.out.mono ?_; rintro e w2 ⟨rfl, hm2⟩)
      go_step3
      refine ⟨by simp, ⟨RunF_mk, p + 1, line, col + 1, op, acc, hm2, HI2.out, Or.inl rfl⟩, ?_⟩
      exact runMu_lt 2 4 p 1 (by omega) (by omega) (by omega) HA.out (machAt_of hm2)
    · refine ⟨_, rfl, ?_⟩
      rintro a1 w1 ⟨hF, p, line, col, op, acc, hm, hi, hl⟩
      refine RunF_wp ?_ a1 hF
      clear hF a1
      intro u3 u4 u5 u6 u7 u8 u9 u10 u11 u12 u13 u14 u15 u16 u17 u18 u19 u20 u21 u22 u23 u24 u25 u26 u27 u28 u29 u30 u31 u32 u33 u34 u35 u36 u37 u38 u39 u40 u41 u42 u43 u44 u45 u46 u47 u48 u49 u50 u51 u52 u53 u54 u55 u56 u57 u58 u59 u60 u61 u62 u63 u64 u65 u66 u67 u68 u69 u70 u71 u72 u73 u74 u75 u76 u77 u78 u79 u80 u81 u82 u83 u84 u85
      obtain ⟨h1, h2, h3, h4, h5⟩ := hi
      have hcls : Sp.classV (s.data.toList.drop p) = 4 := by
        rcases hl with hl | hl
        · omega
        · exact hl
      obtain ⟨c, r, hcr, hc⟩ := Sp.classV_at hcls (by omega)
      have hplt : p < s.size := by
        rcases Nat.lt_or_ge p s.size with h | h
        · exact h
        · rw [List.drop_eq_nil_of_le (by rw [← Lib.size_eq]; omega)] at hcr; cases hcr
      have hk1 : 1 ≤ Sp.comV (s.data.toList.drop p) := by
        rw [hcr, Sp.comV_pos _ (by omega)]
        omega
      have hkl := Sp.comV_le (s.data.toList.drop p)
      rw [List.length_drop, ← Lib.size_eq] at hkl
      rw [hcr, Sp.runV_hash _ _ _ _ _ hc, ← hcr, List.drop_drop] at h5
      have hcl := Sp.chars_le_len (s.data.toList.drop p) (Sp.comV (s.data.toList.drop p))
      have hin : ∀ j, j < Sp.comV (s.data.toList.drop p) → ∃ h : p + j < s.size, (s[p + j]'h).toNat ≠ 10 := by
        intro j hj
        obtain ⟨h2, h3⟩ := com_in hj
        have h4 : p + j < s.size := by omega
        refine ⟨h4, fun e => h3 ?_⟩
        rw [List.getElem_drop, ← Sp.get_idx s (p + j) h4 (by rw [← Lib.size_eq]; exact h4)]
        exact UInt8.toNat_inj.1 e
      have hend : ∀ m, Sp.comV (s.data.toList.drop p) = m → ∀ h : p + m < s.size, (s[p + m]'h).toNat = 10 := by
        rintro m rfl h
        have h3 := com_end (l := s.data.toList.drop p) (by rw [List.length_drop, ← Lib.size_eq]; omega)
        rw [List.getElem_drop, ← Sp.get_idx s _ h (by rw [← Lib.size_eq]; exact h)] at h3
        rw [h3]
        rfl
      obtain ⟨m, hmm⟩ : ∃ m, Sp.comV (s.data.toList.drop p) = m := ⟨_, rfl⟩
      rw [hmm] at hk1 hkl h5 hcl
      simp only [hmm] at hin
      replace hend := hend m hmm
      have hi2 : RunI s (p + m) line (col + Sp.chars ((s.data.toList.drop p).take m)) op acc := ⟨by omega, by omega, by omega, by omega, h5⟩
      have HI2 := Lib.hid hi2
      have HIN := Lib.hid hin
      have HEND := Lib.hid hend
      have HA := Lib.hid (machAt_of hm)
      have HM1 := Lib.hid hm
      clear hm hl h5 hcls hcr hc hi2 hin hend hmm
      go_wp2
      go_loopw [4, 51, 52, 53, 54, 55, 56, 57, 58, 59, 60, 61, 62, 63, 64, 65, 66, 67, 68, 69, 70, 71, 72, 73, 74, 75, 76, 77, 78] (fun v4 _ _ _ _ _ _ _ _ _ _ _ _ _ _ _ _ _ _ _ _ _ _ _ _ _ _ _ _ wr => MSt W0 N s p line col op acc wr ∧ ∃ j : Nat, v4 = .int .i64 (j : Int) ∧ j ≤ m) (fun v4 _ _ _ _ _ _ _ _ _ _ _ _ _ _ _ _ _ _ _ _ _ _ _ _ _ _ _ _ _ => m - (intOf v4).toNat)
      case atStart => exact ⟨HM1.out, 0, rfl, by omega⟩
      case round =>
        obtain ⟨hmr, j, rfl, hj⟩ := hrel
        obtain ⟨c0, c1⟩ := mst_cells hmr
        have HMR := Lib.hid hmr
        clear hmr
        have w1 : IntKind.i64.wrap ((p : Int) + j) = (p : Int) + j := by rw [IntKind.wrap_i64]; omega
        have w2 : ((p : Int) + j).toNat = p + j := by omega
        have w3 : (0 : Int) ≤ (p : Int) + j := by omega
        by_cases hjm : j < m
        · obtain ⟨hlt, hne10⟩ := HIN.out j hjm
          have q1 : decide ((p : Int) + j < s.size) = true := decide_eq_true (by omega)
          have q1' : (p : Int) + j < s.size := by omega
          have q2 : (((s[p + j]'hlt).toNat : Int) != 10) = true := by rw [bne_iff_ne]; omega
          go_wp2_with fail
          go_quiet (fail)
          go_wp2
          go_roundw
          case rel => exact ⟨mst_drewN HMR.out _, j + 1, by rfl, by omega⟩
          case measure => simp [intOf]; omega
        · obtain rfl : j = m := by omega
          by_cases hlt : p + j < s.size
          · have q1 : decide ((p : Int) + j < s.size) = true := decide_eq_true (by omega)
            have q1' : (p : Int) + j < s.size := by omega
            have h10 := HEND.out hlt
            have q2 : (((s[p + j]'hlt).toNat : Int) != 10) = false := by rw [bne_eq_false_iff_eq]; omega
            have hfw := fun q => mst_forward W0 s N p line col j op acc (wr.drewN q) (mst_drewN HMR.out q) (by omega) (by omega) (by omega)
            have HFW := Lib.hid hfw
            clear hfw h10
            go_wp2_with fail
            go_quiet (fail)
            go_wp2_with (go_at_call 53; refine (HFW.out _).mono ?_; rintro e w3 ⟨rfl, hm3⟩)
            go_step3
            refine ⟨by simp, ⟨RunF_mk, p + j, line, _, op, acc, hm3, HI2.out, Or.inl rfl⟩, ?_⟩
            exact runMu_lt 3 4 p j (by omega) (by omega) h1 HA.out (machAt_of hm3)
          · have q1 : decide ((p : Int) + j < s.size) = false := decide_eq_false (by omega)
            have hfw := fun q => mst_forward W0 s N p line col j op acc (wr.drewN q) (mst_drewN HMR.out q) (by omega) (by omega) (by omega)
            have HFW := Lib.hid hfw
            clear hfw
            go_wp2_with fail
            go_quiet (fail)
            go_wp2_with (go_at_call 53; refine (HFW.out _).mono ?_; rintro e w3 ⟨rfl, hm3⟩)
            go_step3
            refine ⟨by simp, ⟨RunF_mk, p + j, line, _, op, acc, hm3, HI2.out, Or.inl rfl⟩, ?_⟩
            exact runMu_lt 3 4 p j (by omega) (by omega) h1 HA.out (machAt_of hm3)
    · exact absurd rfl hne
end Go.Proofs.YtjedoipbllcfdaaDoor
