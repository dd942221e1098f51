/-
  THE WALK of scan.speak (chapter 3) (written by wip/gen/speak.py).
-/
import Derived.Test.YtjedoipbllcfdaaDoorWm
set_option linter.unusedVariables false
set_option linter.unusedSimpArgs false
set_option maxRecDepth 100000
set_option maxHeartbeats 8000000
namespace Go.Proofs.YtjedoipbllcfdaaDoor
open Go.RowKit

def SpkA (s : ByteArray) (lines : Bool) (W : World) (a : Act) (w' : World) : Prop :=
  ∃ (n : Nat) (acc : List UInt8) (v u8 u9 u10 u11 u12 u13 u14 u15 u16 u17 u18 u19 u20 u21 u22 u23 u24 u25 u26 u27 u28 u29 u30 u31 u32 u33 u34 u35 u36 u37 u38 u39 u40 u41 u42 u43 u44 u45 u46 u47 u48 u49 u50 u51 u52 u53 u54 u55 u56 u57 u58 u59 u60 u61 u62 u63 u64 u65 u66 u67 u68 u69 u70 u71 u72 u73 : Value), a = { tmps := #[.string s, .bool lines, undef, undef, v, .int .i64 0, .int .i64 0, .int .i64 (n : Int), u8, u9, u10, u11, u12, u13, u14, u15, u16, u17, u18, u19, u20, u21, u22, u23, u24, u25, u26, u27, u28, u29, u30, u31, u32, u33, u34, u35, u36, u37, u38, u39, u40, u41, u42, u43, u44, u45, u46, u47, u48, u49, u50, u51, u52, u53, u54, u55, u56, u57, u58, u59, u60, u61, u62, u63, u64, u65, u66, u67, u68, u69, u70, u71, u72, u73], defers := [] } ∧ SpkJ s lines W v n acc w'

theorem uinfo : (Tryd.prog.info? 5).map (fun i => (i.zero, i.size, i.bytes)) = some (some (.int .u8 0), 1, 1) := by kernel_rfl

theorem hG_below {w w' : World} (hG : Gl w) (hb : Below w.heap.size w w') : Gl w' := hG.below hb

theorem ownsRowF_below' {w w' : World} {B : Nat} {v : Value} {n : Nat} {xs : List Value} {e : TypeId} (h : w.ownsRowF B e 1 v n xs) (hb : Below w.heap.size w w') (_ : B ≤ w.heap.size) : w'.ownsRowF B e 1 v n xs := ownsRowF_below h hb

theorem scan_speak (s : ByteArray) (lines : Bool) (w : World) (hG : Gl w) (hs : s.size ≤ 1073741824) (h1 : 1 ≤ s.size) :
    Calls Tryd.prog 23 #[.string s, .bool lines] w (SpkEnd s lines w) := by
  obtain ⟨i0, hi0, hz0, hz1, hz2⟩ := info_parts uinfo
  have HG := Lib.hid hG
  have HI0 := Lib.hid hi0
  have HZ0 := Lib.hid hz0
  have HZ1 := Lib.hid hz1
  have HZ2 := Lib.hid hz2
  clear hG hi0 hz0 hz1 hz2
  go_enter Tryd.func23, Tryd.ntmps23
  go_wp2
  refine wp_scope_again 0 (SpkA s lines w) (fun a' _ => s.size - (intOf (a'.tmps.getD 7 undef)).toNat) rfl ?_ ?_
  · go_wp2
    exact ⟨1, [], .slice none 0 0, _, _, _, _, _, _, _, _, _, _, _, _, _, _, _, _, _, _, _, _, _, _, _, _, _, _, _, _, _, _, _, _, _, _, _, _, _, _, _, _, _, _, _, _, _, _, _, _, _, _, _, _, _, _, _, _, _, _, _, _, _, _, _, _, _, _, rfl, Nat.le_refl _, h1, by simp, World.ownsRowF_nil _ _ _ _, Below.refl _ _, s.data.toList.length, by rw [← Lib.size_eq]; omega, rfl⟩
  · rintro a0 w0 ⟨n, acc0, v0, u8, u9, u10, u11, u12, u13, u14, u15, u16, u17, u18, u19, u20, u21, u22, u23, u24, u25, u26, u27, u28, u29, u30, u31, u32, u33, u34, u35, u36, u37, u38, u39, u40, u41, u42, u43, u44, u45, u46, u47, u48, u49, u50, u51, u52, u53, u54, u55, u56, u57, u58, u59, u60, u61, u62, u63, u64, u65, u66, u67, u68, u69, u70, u71, u72, u73, rfl, hn1, hn2, hal0, hown0, hbw0, H0⟩
    have HJ := Lib.hid H0
    clear H0
    have hn1' : (1 : Int) ≤ n := by omega
    have hn2' : (n : Int) ≤ s.size := by omega
    go_wp2
    have hdl : (s.extract n s.size).data.toList = s.data.toList.drop n := by
      rw [Lib.extract_data, List.take_of_length_le (by rw [List.length_drop, ← Lib.size_eq]; omega)]
    have htsz : (s.extract n s.size).size = s.size - n := by rw [ByteArray.size_extract]; omega
    obtain ⟨t, ht⟩ : ∃ t, s.extract n s.size = t := ⟨_, rfl⟩
    rw [ht] at hdl htsz
    simp only [ht]
    go_loopw [4, 5, 6, 7] (fun v4 v5 v6 v7 wr => v5 = .int .i64 0 ∧ v6 = .int .i64 0 ∧ v7 = .int .i64 (n : Int) ∧ ∃ (pos : Nat) (acc : List UInt8), wr.heap[w0.heap.size]? = some (.stringIter t pos) ∧ wr.ownsRowF w.heap.size 5 1 v4 acc.length (Lib.byteCells acc) ∧ Below w.heap.size w wr ∧ acc.length ≤ n + pos ∧ n + pos ≤ s.size ∧ Hid (∃ f, s.size - (n + pos) ≤ f ∧ Sp.speakF lines f (s.data.toList.drop (n + pos)) (n + pos) acc = Sp.speakV lines s.data.toList)) (fun _ _ _ _ wr => s.size - wr.iterPos w0.heap.size)
    case atStart => exact ⟨rfl, rfl, rfl, 0, acc0, World.iter_heap w0 t 0, hown0.alloc _, hbw0.alloc (hbw0.size) _, hal0, hn2, HJ.out⟩
    case round =>
      obtain ⟨rfl, rfl, rfl, pos, acc, hit, hown, hbw, hal, hps, HF⟩ := hrel
      have hpos0 := iterPos_of hit
      by_cases hp : pos < t.size
      · obtain ⟨l, hl⟩ : ∃ l, s.data.toList.drop (n + pos) = l := ⟨_, rfl⟩
        have hlt : t.data.toList.drop pos = l := by rw [hdl, List.drop_drop, hl]
        have hnx := fun ty => Lib.run_next_any_at (P := Tryd.prog) wr w0.heap.size t pos ty hit hp
        simp only [Sp.dec_at, hlt] at hnx
        obtain ⟨c, hc⟩ : ∃ c : Nat, (Sp.dec l).1 = c := ⟨_, rfl⟩
        obtain ⟨k, hk⟩ : ∃ k : Nat, (Sp.dec l).2 = k := ⟨_, rfl⟩
        have hit2 := Lib.iterAt_heap wr w0.heap.size t pos (pos + k) hit
        have hown2 := ownsRowF_iterAt hown hit (p' := pos + k)
        have hbw2 := Lib.below_iterAt hbw (k := w0.heap.size) (hbw0.size) t (pos + k)
        rw [hc, hk] at hnx
        obtain ⟨W2, hW2⟩ : ∃ W2, wr.iterAt w0.heap.size t (pos + k) = W2 := ⟨_, rfl⟩
        rw [hW2] at hnx hit2 hown2 hbw2
        have hi0 : (0 : Int) ≤ (pos : Int) + n := by omega
        have hi1 : (pos : Int) + n ≤ 1073741824 := by omega
        have hi2 : (pos : Int) + n < s.size := by omega
        have hG2 : Gl W2 := hG_below HG.out hbw2
        have HG2 := Lib.hid hG2
        have HIT2 := Lib.hid hit2
        have hsz2 := hbw2.size
        have hlne : l ≠ [] := by rw [← hl]; intro e; have := congrArg List.length e; rw [List.length_drop, ← Lib.size_eq] at this; simp at this; omega
        obtain ⟨b0, r, hbr⟩ : ∃ b0 r, l = b0 :: r := by
          cases l with
          | nil => exact absurd rfl hlne
          | cons b0 r => exact ⟨b0, r, rfl⟩
        have htst := fun m hm => dec_tests l b0 r hbr m hm
        rw [hc] at htst
        have hkp := Sp.dec_pos l hlne
        have hkl := Sp.dec_len l hlne
        rw [hk] at hkp hkl
        have hll : l.length = s.size - (n + pos) := by rw [← hl, List.length_drop, ← Lib.size_eq]
        have hcle : c ≤ 2147483647 := by rw [← hc, ← hlt, ← Sp.dec_at]; exact decode_le t pos
        have hFF : ∃ f, s.size - (n + pos) ≤ f + 1 ∧ Sp.speakF lines (f + 1) (b0 :: r) (n + pos) acc = Sp.speakV lines s.data.toList := by
          obtain ⟨f, hf1, hf2⟩ := HF.out
          rw [hl, hbr] at hf2
          obtain ⟨f, rfl⟩ : ∃ g, f = g + 1 := ⟨f - 1, by omega⟩
          exact ⟨f, hf1, hf2⟩
        have HF2 := Lib.hid hFF
        clear hFF hit hown hbw HF
        have h34 := (htst 34 (by omega)).1
        have h92 := (htst 92 (by omega)).1
        have h10 := (htst 10 (by omega)).1
        have h32 := (htst 32 (by omega)).2
        have h127 := (htst 127 (by omega)).1
        clear htst
        by_cases c1 : c = 34
        · have q1 : ((c : Int) == 34) = true := beq_iff_eq.2 (by omega)
          have HB := Lib.hid hbw2
          have HO := Lib.hid hown2
          clear hbw2 hown2
          go_wp2
          go_ret3
          obtain ⟨f, hf1, hf2⟩ := HF2.out
          rw [Sp.speakF_quote lines f b0 r _ _ (h34.1 c1)] at hf2
          exact SpkEnd_ok hf2.symm (by omega) HO.out HB.out
        have q1 : ((c : Int) == 34) = false := beq_eq_false_iff_ne.2 (by omega)
        by_cases c2 : c = 92
        · have q2 : ((c : Int) == 92) = true := beq_iff_eq.2 (by omega)
          have hxd : (s.extract (pos + n) s.size).data.toList = l := by rw [Lib.extract_data, List.take_of_length_le (by rw [List.length_drop, ← Lib.size_eq]; omega), Nat.add_comm pos n, hl]
          have hesc := scan_escape (s.extract (pos + n) s.size) W2 hG2 (by rw [ByteArray.size_extract]; omega) (by rw [hxd, hbr]; exact h92.1 c2)
          rw [hxd] at hesc
          obtain ⟨f, hf1, hf2⟩ := HF2.out
          rw [Sp.speakF_esc lines f b0 r _ _ (h92.1 c2), ← hbr] at hf2
          rcases hEV : Sp.escV l with _ | ⟨kk, b⟩
          · have hE2 : Calls Tryd.prog 35 #[.string (s.extract (pos + n) s.size)] W2 (fun e w' => e = .returned (.tuple #[.slice none 0 0, .int .i64 0]) ∧ Below W2.heap.size W2 w') := hesc.mono (fun e w' h => by unfold EscEnd at h; rw [hEV] at h; exact h)
            rw [hEV] at hf2
            have HE := Lib.hid hE2
            have HV := Lib.hid hf2
            have HB := Lib.hid hbw2
            clear hesc hE2 hxd hbw2 hown2 hf2
            go_wp2_with (go_at_call 35; refine HE.out.mono ?_; rintro e W3 ⟨rfl, hb3⟩)
            go_ret3
            exact SpkEnd_bad HV.out.symm (by omega) (by omega) rfl (HB.out.trans (hb3.mono hsz2))
          · have hE2 : Calls Tryd.prog 35 #[.string (s.extract (pos + n) s.size)] W2 (fun e w' => ∃ v, e = .returned (.tuple #[v, .int .i64 (kk : Nat)]) ∧ NewBytes W2 b v w' ∧ Below W2.heap.size W2 w') := hesc.mono (fun e w' h => by unfold EscEnd at h; rw [hEV] at h; exact h)
            rw [hEV] at hf2
            have hkk := Sp.escV_len hEV
            have HE := Lib.hid hE2
            have HV := Lib.hid hf2
            have HB := Lib.hid hbw2
            have HO := Lib.hid hown2
            have q3 : ((kk : Int) == 0) = false := beq_eq_false_iff_ne.2 (by omega)
            have hk1 : (kk : Int) ≤ 1073741824 := by omega
            clear hesc hE2 hxd hbw2 hown2 hf2
            go_wp2_with (first
              | (go_at_call 35; refine HE.out.mono ?_; rintro e W3 ⟨v3, rfl, ⟨g, cap, rfl, hg, hcl⟩, hb3⟩
                 have hO3 := ownsRowF_below' HO.out hb3 (HB.out.size))
              | (at_builtin; refine wpList_append_ownF _ rfl _ _ 50 rfl w.heap.size 5 i0 (.int .u8 0) 1 1 Tryd.underlying50 HI0.out HZ0.out HZ1.out HZ2.out rfl (by decide) _ _ _ rfl hO3 ⟨g, 0, none⟩ b.length cap (Lib.byteCells b) rfl (by rw [Lib.byteCells_length]; omega) hcl (Lib.byteCells_one b) (by unfold maxLen; omega) (by omega) (by have := HB.out.size; have := hb3.size; omega) ?_; intro v' w4 hown' hgrow4 hnil4))
            have hgr : W3.grownBy w4 u4.ownBlock := hgrow4
            have hb4 : Below w.heap.size w w4 := (HB.out.trans (hb3.mono hsz2)).grown hgr (by have := hb3.size; omega) (fun j hj => (hO3.lt j hj).1)
            have ecast : ((pos : Int) + n + kk) = ((pos + n + kk : Nat) : Int) := by omega
            clear hgrow4 hnil4
            go_step3
            rw [ecast]
            refine ⟨rfl, ⟨pos + n + kk, acc ++ b, v', _, _, _, _, _, _, _, _, _, _, _, _, _, _, _, _, _, _, _, _, _, _, _, _, _, _, _, _, _, _, _, _, _, _, _, _, _, _, _, _, _, _, _, _, _, _, _, _, _, _, _, _, _, _, _, _, _, _, _, _, _, _, _, _, _, _, rfl, by omega, by omega, by simp; omega, ?_, hb4, f, by omega, ?_⟩, ?_⟩
            · rw [List.length_append, Lib.byteCells_append]; exact hown'
            · have e := HV.out
              rw [← hl, List.drop_drop] at e
              rw [Nat.add_comm pos n]
              exact e
            · show s.size - ((pos + n + kk : Nat) : Int).toNat < s.size - ((n : Nat) : Int).toNat
              omega
        have q2 : ((c : Int) == 92) = false := beq_eq_false_iff_ne.2 (by omega)
        have HB := Lib.hid hbw2
        have HO := Lib.hid hown2
        by_cases c3 : c = 10 ∧ lines = true
        · have q3 : ((c : Int) == 10) = true := beq_iff_eq.2 (by omega)
          obtain ⟨f, hf1, hf2⟩ := HF2.out
          have q4 : lines = true := c3.2
          subst q4
          rw [Sp.speakF_nl f b0 r _ _ (h10.1 c3.1)] at hf2
          have HV := Lib.hid hf2
          clear hbw2 hown2 hf2
          go_wp2
          go_ret3
          exact SpkEnd_bad HV.out.symm (by omega) (by omega) rfl HB.out
        have hlo := fun (W : World) (hW : Gl W) => scan_loose s ((pos : Int) + n) W hW hi0 hi2 (by omega)
        have ei : ((pos : Int) + n).toNat = n + pos := by omega
        simp only [ei, hl, hc] at hlo
        have HLo := Lib.hid hlo
        clear hlo
        by_cases c4 : c < 32 ∨ c = 127 ∨ Sp.looseB l = true
        · obtain ⟨f, hf1, hf2⟩ := HF2.out
          have c4' : b0.toNat < 32 ∨ b0.toNat = 127 ∨ Sp.looseB (b0 :: r) = true := by
            rcases c4 with h | h | h
            · exact Or.inl (h32.1 h)
            · exact Or.inr (Or.inl (h127.1 h))
            · exact Or.inr (Or.inr (by rw [← hbr]; exact h))
          rw [Sp.speakF_bad lines f b0 r _ _ (by omega) (by omega) (by intro h e; exact c3 ⟨h10.2 e, h⟩) c4'] at hf2
          have HV := Lib.hid hf2
          clear hbw2 hown2 hf2
          by_cases c5 : c < 32
          · have q5 : decide ((c : Int) < 32) = true := decide_eq_true (by omega)
            by_cases c10 : c = 10
            · have q3 : ((c : Int) == 10) = true := beq_iff_eq.2 (by omega)
              have ql : lines = false := by
                cases lines
                · rfl
                · exact absurd ⟨c10, rfl⟩ c3
              subst ql
              go_wp2
              go_ret3
              exact SpkEnd_bad (c := 33) (b := []) (p := n + pos) HV.out.symm (by omega) (by omega) rfl HB.out
            · have q3 : ((c : Int) == 10) = false := beq_eq_false_iff_ne.2 (by omega)
              go_wp2
              go_ret3
              exact SpkEnd_bad (c := 33) (b := []) (p := n + pos) HV.out.symm (by omega) (by omega) rfl HB.out
          have q3 : ((c : Int) == 10) = false := beq_eq_false_iff_ne.2 (by omega)
          have q5 : decide ((c : Int) < 32) = false := decide_eq_false (by omega)
          by_cases c6 : c = 127
          · have q6 : ((c : Int) == 127) = true := beq_iff_eq.2 (by omega)
            go_wp2
            go_ret3
            exact SpkEnd_bad (c := 33) (b := []) (p := n + pos) HV.out.symm (by omega) (by omega) rfl HB.out
          have q6 : ((c : Int) == 127) = false := beq_eq_false_iff_ne.2 (by omega)
          have c7 : Sp.looseB l = true := by
            rcases c4 with h | h | h
            · exact absurd h c5
            · exact absurd h c6
            · exact h
          simp only [c7] at HLo
          go_wp2_with (go_at_call 25; refine (HLo.out _ HG2.out).mono ?_; rintro e w3 ⟨rfl, hb3⟩)
          go_ret3
          exact SpkEnd_bad (c := 33) (b := []) (p := n + pos) HV.out.symm (by omega) (by omega) rfl (HB.out.trans (hb3.mono hsz2))
        · obtain ⟨f, hf1, hf2⟩ := HF2.out
          have c4' : ¬ (b0.toNat < 32 ∨ b0.toNat = 127 ∨ Sp.looseB (b0 :: r) = true) := by
            rintro (h | h | h)
            · exact c4 (Or.inl (h32.2 h))
            · exact c4 (Or.inr (Or.inl (h127.2 h)))
            · exact c4 (Or.inr (Or.inr (by rw [hbr]; exact h)))
          rw [Sp.speakF_char lines f b0 r _ _ (by omega) (by omega) c4', ← hbr, hk] at hf2
          have c7 : Sp.looseB l = false := by
            cases h : Sp.looseB l
            · rfl
            · exact absurd (Or.inr (Or.inr h)) c4
          have q3 : ((c : Int) == 10) = false := beq_eq_false_iff_ne.2 (by omega)
          have q5 : decide ((c : Int) < 32) = false := decide_eq_false (by omega)
          have q6 : ((c : Int) == 127) = false := beq_eq_false_iff_ne.2 (by omega)
          have hrc : Lib.runeCells (c : Int) = Lib.byteCells (l.take k) := by
            have e := Sp.enc_dec l hlne c7
            rw [hc, hk] at e
            rw [← e, Lib.byteCells_encodeRune]
          have HRC := Lib.hid hrc
          have HV := Lib.hid hf2
          simp only [c7] at HLo
          clear hbw2 hown2 hf2 hrc
          go_wp2_with (first
            | (go_at_call 25; refine (HLo.out _ HG2.out).mono ?_; rintro e w3 ⟨rfl, hb3⟩
               have hO3 := ownsRowF_below' HO.out hb3 (HB.out.size))
            | (go_at_call 36; refine (Tryd.utf8_AppendRune_row w.heap.size _ acc.length (Lib.byteCells acc) (c : Int) (by omega) (by omega) _ hO3 (by omega) (by have := HB.out.size; have := hb3.size; omega)).mono ?_; rintro e w4 ⟨v', rfl, hown', o, hgr⟩))
          have hit3 := iter_below HIT2.out hb3
          have hit4 := iter_grown hO3 hit3 hgr
          have hb4 : Below w.heap.size w w4 := below_grownF (HB.out.trans (hb3.mono hsz2)) (by have := hb3.size; omega) hO3 hgr
          have hrc := HRC.out
          rw [hrc, Lib.byteCells_length, ← Lib.byteCells_append, ← List.length_append] at hown'
          go_roundw
          case rel =>
            refine ⟨rfl, rfl, rfl, pos + k, acc ++ l.take k, hit4, hown', hb4, by rw [List.length_append, List.length_take]; omega, by omega, f, by omega, ?_⟩
            have e := HV.out
            rw [← hl, List.drop_drop] at e
            rw [← Nat.add_assoc, ← hl]
            exact e
          case measure =>
            rw [iterPos_of hit4, hpos0]
            omega
      · have hnx := fun ty => Lib.run_next_end_at (P := Tryd.prog) wr w0.heap.size t pos ty hit hp
        go_wp2
        go_ret3
        refine SpkEnd_bad (p := s.size) (c := 32) (b := []) ?_ (by omega) rfl rfl hbw
        obtain ⟨f, hf1, hf2⟩ := HF.out
        rw [← hf2, List.drop_eq_nil_of_le (by rw [← Lib.size_eq]; omega), Sp.speakF_nil]
        congr 2
        omega
end Go.Proofs.YtjedoipbllcfdaaDoor
