/-
  THE WALK of reachref3.cut (chapter 3): the tokens of one line.
-/
import Derived.Test.YtdmpapoabeljfaaGreatDoorRd
import Derived.Test.YtdmpapoabeljfaaGreatDoorRj
set_option linter.unusedVariables false
set_option linter.unusedSimpArgs false
set_option maxRecDepth 100000
set_option maxHeartbeats 4000000
namespace Go.Proofs.YtdmpapoabeljfaaGreatDoor
open Go.RowKit

theorem ref3_token (s : ByteArray) (i : Nat) (w : World) (hG : Gr w) (hi : i < s.size) (hs : s.size ≤ 1073741824) (hn : Sp.NoNl (s.data.toList.drop i)) :
    Calls Tryz.prog 64 #[.string s, .int .i64 i] w (RefTok i (Sp.pieceV (s.data.toList.drop i)) w) := by
  by_cases h5 : Sp.classV (s.data.toList.drop i) = 5
  · exact ref3_token_name s i w hi hs h5
  by_cases h6 : Sp.classV (s.data.toList.drop i) = 6
  · exact ref3_token_num s i w hi hs h6
  by_cases h7 : Sp.classV (s.data.toList.drop i) = 7
  · exact ref3_token_pat s i w hi hs h7
  by_cases h8 : Sp.classV (s.data.toList.drop i) = 8
  · exact ref3_token_text s i w hi hs hn h8
  exact ref3_token_sign s i w hG hi hs h5 h6 h7 h8

/-- A token more, behind the tokens of a slice of the call's own. -/
theorem wpList_tok {ops : Array Oper} {rest : List Oper} {o : Oper} {a : Act} {w : World} {Q : Exit → Act → World → Prop} (hgd : o.guard = none) (s x : Operand)
    (ho : o.op = .call { callee := .builtin .append, args := #[s, x], argTypes := #[22, 22] })
    (B : Nat) (v : Value) (acc : List Sp.Tok) (hs : a.eval s = v) (ht : Toks w B v acc) (ad : Addr) (c : Nat) (t : Sp.Tok) (hx : a.eval x = .slice (some ad) 1 c)
    (hnews : ∀ j u, (tokCell t)[j]? = some u → w.cell? (ad.add j) = some u) (hn : acc.length ≤ 1073741824) (hB : B ≤ w.heap.size) (H : Nat) (hH : w.heap.size = H)
    (h : ∀ g cap w', Toks w' B (.slice (some ⟨g, 0, none⟩) (acc.length + 1) cap) (acc ++ [t]) → w.grownBy w' v.ownBlock → (v.ownBlock = some g ∨ g = H) → g < w'.heap.size → wpList Tryz.prog ops Q rest (a.put o.dst (.slice (some ⟨g, 0, none⟩) (acc.length + 1) cap)) w') : wpList Tryz.prog ops Q (o :: rest) a w := by
  obtain ⟨i0, hi0, hz0, hz1, hz2⟩ := info_parts tinfo
  refine wpList_append_lies w hgd s x _ ho B 24 i0 _ 4 40 Tryz.underlying22 hi0 hz0 hz1 hz2 rfl (by omega) v acc.length (tokCells acc) hs ht ad 1 c (tokCell t) hx (by rfl) hnews (by simp [Value.oneCell', tokCell]) (by omega) (by unfold maxLen; omega) (by omega) hB H hH ?_
  intro g cap w' h1 h2 h3 h4
  refine h g cap w' ?_ h2 h3 h4
  unfold Toks
  rw [List.length_append, List.length_singleton, tokCells_append, tokCells_one]
  exact h1
theorem wp_tok {o : Oper} {a : Act} {w : World} {K : Act → World → Prop} {Q : Exit → Act → World → Prop} (s x : Operand)
    (ho : o.op = .call { callee := .builtin .append, args := #[s, x], argTypes := #[22, 22] })
    (B : Nat) (v : Value) (acc : List Sp.Tok) (hs : a.eval s = v) (ht : Toks w B v acc) (ad : Addr) (c : Nat) (t : Sp.Tok) (hx : a.eval x = .slice (some ad) 1 c)
    (hnews : ∀ j u, (tokCell t)[j]? = some u → w.cell? (ad.add j) = some u) (hn : acc.length ≤ 1073741824) (hB : B ≤ w.heap.size) (H : Nat) (hH : w.heap.size = H)
    (h : ∀ g cap w', Toks w' B (.slice (some ⟨g, 0, none⟩) (acc.length + 1) cap) (acc ++ [t]) → w.grownBy w' v.ownBlock → (v.ownBlock = some g ∨ g = H) → g < w'.heap.size → K (a.put o.dst (.slice (some ⟨g, 0, none⟩) (acc.length + 1) cap)) w') : o.wp Tryz.prog a w K Q := by
  obtain ⟨i0, hi0, hz0, hz1, hz2⟩ := info_parts tinfo
  refine wp_append_lies _ s x _ ho B 24 i0 _ 4 40 Tryz.underlying22 hi0 hz0 hz1 hz2 rfl (by omega) v acc.length (tokCells acc) hs ht ad 1 c (tokCell t) hx (by rfl) hnews (by simp [Value.oneCell', tokCell]) (by omega) (by unfold maxLen; omega) (by omega) hB H hH ?_
  intro g cap w' h1 h2 h3 h4
  refine h g cap w' ?_ h2 h3 h4
  unfold Toks
  rw [List.length_append, List.length_singleton, tokCells_append, tokCells_one]
  exact h1

theorem toks_below {w w' : World} {B : Nat} {v : Value} {ts : List Sp.Tok} (h : Toks w B v ts) (hb : Below w.heap.size w w') : Toks w' B v ts :=
  World.ownsRow.kept h (only_of_below hb none) (by
    rcases hv : v.ownBlock with _ | g
    · exact Or.inl rfl
    · exact Or.inr (by simp))
/-- What lies below a call's own memory is as it was behind such an append. -/
theorem below_tok {W w w' : World} {B : Nat} {v : Value} {acc : List Sp.Tok} (hb : Below B W w) (hB : B ≤ w.heap.size) (ht : Toks w B v acc) (hg : w.grownBy w' v.ownBlock) : Below B W w' :=
  hb.grown hg hB (fun g e => (World.ownsRow.lt ht g e).1)

theorem drop_idx (s : ByteArray) (i : Nat) (h : i < s.size) : s.data.toList.drop i = (s[i]'h) :: s.data.toList.drop (i + 1) := Sp.drop_cons s i h

theorem ref3_cut (s : ByteArray) (no : Nat) (w : World) (hG : Gr w) (hs : s.size ≤ 1073741824) (hn : Sp.NoNl s.data.toList) (ts : List Sp.Tok) (c n m : Nat) (hR : Sp.runV s.data.toList no 1 false [] = (ts, c, n, m)) :
    Calls Tryz.prog 44 #[.string s, .int .i64 no] w fun e w' => ∃ tv, e = .returned (.tuple #[tv, .int .i64 c, .int .i64 m]) ∧ Toks w' w.heap.size tv ts ∧ Below w.heap.size w w' := by
  have HSL := Lib.hid (Lib.size_eq s)
  have HNN := Lib.hid hn
  have HR := Lib.hid hR
  have HG := Lib.hid hG
  have hcolE := fun W => ref3_column s s.size W hs (by rw [Lib.size_eq]; exact Sp.Bd.full _)
  rw [List.take_of_length_le (show s.data.toList.length ≤ s.size by rw [Lib.size_eq]; omega)] at hcolE
  have HCE := Lib.hid hcolE
  clear hn hR hG hcolE
  go_enter Tryz.func44, Tryz.ntmps44
  go_wp2
  go_loopw [7, 8, 9, 10, 11] (fun v7 v8 _ _ _ wr => ∃ (i : Nat) (acc : List Sp.Tok) (tv : Value), tv = v7 ∧ v8 = .int .i64 (i : Int) ∧ i ≤ s.size ∧ acc.length ≤ i ∧ Toks wr w.heap.size tv acc ∧ Below w.heap.size w wr ∧ Hid (Sp.CutAt s.data.toList no i acc (ts, c, n, m))) (fun _ v8 _ _ _ _ => (s.size - intOf v8).toNat)
  case atStart => exact ⟨0, [], _, rfl, rfl, by omega, by simp, World.ownsRow_nil _ _ _ _, Below.refl _ _, by have := Sp.CutAt.start s.data.toList no; rw [HR.out] at this; exact this⟩
  case round =>
    obtain ⟨i, acc, tv, rfl, rfl, hi, hal, ht, hb, HF⟩ := hrel
    have HT := Lib.hid ht
    have HB := Lib.hid hb
    have hBw := hb.size
    by_cases hlt : i < s.size
    · have q0 : decide ((i : Int) < s.size) = true := decide_eq_true (by omega)
      have hlt' : (i : Int) < s.size := by omega
      have hd := drop_idx s i hlt
      by_cases c1 : (s[i]'hlt).toNat = 35
      · have q1 : (((s[i]'hlt).toNat : Int) != 35) = false := by rw [bne_eq_false_iff_eq]; omega
        have hcl : Sp.classB (s[i]'hlt) = 4 := by rw [show s[i]'hlt = 35 from UInt8.toNat_inj.1 c1]; decide
        have hfin := HF.out.hash hd hcl HNN.out
        have HFN := Lib.hid hfin
        clear hd hcl hfin HF ht hb
        have he := HFN.out
        simp only [Prod.mk.injEq] at he
        obtain ⟨e1, e2, e3, e4⟩ := he
        obtain ⟨A, cap, rfl, hvw⟩ := toks_view HT.out
        clear hvw
        have HE1 := Lib.hid e1
        by_cases h0 : acc.length = 0
        · have q9 : decide ((acc.length : Int) > 0) = false := decide_eq_false (by omega)
          have HEN : Hid (ts = acc) := by
            show _ = _
            rw [e1]
            unfold Sp.endT
            rw [if_neg (by simp [h0])]
          clear e1 HFN
          go_wp2
          go_ret3
          refine ⟨_, by rw [e2, e4]; rfl, ?_, HB.out⟩
          rw [HEN.out]
          exact HT.out
        · have q9 : decide ((acc.length : Int) > 0) = true := decide_eq_true (by omega)
          have HEN : Hid (ts = acc ++ [(1, [10], no, Sp.chars s.data.toList + 1)]) := by
            show _ = _
            rw [e1]
            unfold Sp.endT
            rw [if_pos (by simp [h0])]
          clear e1 HFN
          go_wp2_with (first | (go_at_call 65; refine (HCE.out _).mono ?_; rintro e w5 ⟨rfl, rfl⟩) | (at_builtin; go_loud (refine wpList_tok rfl _ _ rfl w.heap.size _ acc rfl (World.ownsRow.alloc HT.out _) ⟨wr.heap.size, 0, none⟩ 1 (1, [10], no, Sp.chars s.data.toList + 1) rfl (World.news_of_block (cs := #[.int .i64 1, .string ⟨#[10]⟩, .int .i64 no, .int .i64 ((Sp.chars s.data.toList + 1 : Nat) : Int)]) (t := 24) (fr := (0, 0)) (heap_alloc_new wr _)) (by omega) (by simp; omega) _ rfl ?_; intro gg cap6 w6 hT6 hgrow hat hlt6; have hB6 := below_tok (HB.out.alloc hBw (.cells #[.int .i64 1, .string ⟨#[10]⟩, .int .i64 no, .int .i64 ((Sp.chars s.data.toList + 1 : Nat) : Int)] 24)) (by simp; omega) (World.ownsRow.alloc HT.out _) hgrow; have HT6 := Lib.hid hT6; have HB6 := Lib.hid hB6; clear hT6 hB6 hgrow)))
          go_ret3
          refine ⟨_, by rw [e2, e4]; rfl, ?_, HB6.out⟩
          rw [HEN.out]
          exact HT6.out
      · have q1 : (((s[i]'hlt).toNat : Int) != 35) = true := by rw [bne_iff_ne]; omega
        have hbl := fun W => ref3_blank (s[i]'hlt) W
        by_cases c2 : Sp.blankB (s[i]'hlt) = true
        · have hcl : Sp.classB (s[i]'hlt) = 2 := by unfold Sp.classB; rw [if_pos c2]
          have HF2 := Lib.hid (HF.out.blank hd hcl)
          rw [c2] at hbl
          have HBL := Lib.hid hbl
          clear hd hcl hbl c2 HF
          go_wp2_with (go_at_call 63; refine (HBL.out _).mono ?_; rintro e w1 ⟨rfl, rfl⟩)
          go_roundw
          case rel => exact ⟨i + 1, acc, _, rfl, by rfl, by omega, by omega, HT.out, HB.out, HF2⟩
          case measure => simp [intOf]; omega
        · have c2' : Sp.blankB (s[i]'hlt) = false := by simpa using c2
          rw [c2'] at hbl
          have HBL := Lib.hid hbl
          have hmem : (s[i]'hlt) ∈ s.data.toList := by
            have h : (s[i]'hlt) ∈ s.data.toList.drop i := by rw [hd]; exact List.mem_cons_self
            exact List.mem_of_mem_drop h
          have h10 : (s[i]'hlt).toNat ≠ 10 := fun e => HNN.out (s[i]'hlt) hmem (UInt8.toNat_inj.1 e)
          have hpa : Sp.PieceAt (s[i]'hlt) := by
            unfold Sp.PieceAt Sp.classB
            rw [if_neg c2, if_neg h10, if_neg c1]
            refine ⟨?_, ?_, ?_⟩ <;> (repeat (split <;> try omega))
          obtain ⟨k, z, off, code, hp⟩ : ∃ k z off code, Sp.pieceV (s.data.toList.drop i) = (k, z, off, code) := ⟨_, _, _, _, rfl⟩
          have htok := ref3_token s i wr (HG.out.below (HB.out)) hlt hs (HNN.out.drop i)
          unfold RefTok at htok
          rw [hp] at htok
          simp only [] at htok
          by_cases c3 : code = 0
          · subst c3
            rw [if_pos rfl] at htok
            have hcut := HF.out.tok hd hpa hp
            have hle := hcut.le
            rw [← HSL.out] at hle
            have hz1 := ((Sp.pieceV_size hp (by rw [hd]; simp)).1 rfl).1
            have hcol := fun W => ref3_column s i W hs HF.out.bd
            obtain ⟨col, hco⟩ : ∃ col, Sp.chars (s.data.toList.take i) + 1 = col := ⟨_, rfl⟩
            rw [hco] at hcol hcut
            have HCO := Lib.hid hcol
            obtain ⟨j, hj⟩ : ∃ j, i + z = j := ⟨_, rfl⟩
            rw [hj] at htok hcut hle
            have HTK := Lib.hid htok
            have HF2 := Lib.hid hcut
            have HTOK : Hid (tokCell (k, (s.data.toList.drop i).take z, no, col) = [.int .i64 k, .string (s.extract i j), .int .i64 no, .int .i64 col]) := by
              show _ = _
              rw [← hj, ext_mk]
              rfl
            have b1 : (0 : Int) ≤ (i : Int) := by omega
            have b2 : (i : Int) ≤ (j : Int) := by omega
            have b3 : (j : Int) ≤ (s.size : Int) := by omega
            clear hd hbl c2 c2' HF hpa hp hmem h10 htok hcut hcol hco ht hb
            go_wp2_with (first | (go_at_call 63; refine (HBL.out _).mono ?_; rintro e w1 ⟨rfl, rfl⟩) | (go_at_call 64; refine HTK.out.mono ?_; rintro e w2 ⟨rfl, hb2⟩))
            have hT2 : Toks w2 w.heap.size tv acc := toks_below HT.out hb2
            have hB2 : Below w.heap.size w w2 := HB.out.trans (hb2.mono hBw)
            have hBw2 := hB2.size
            refine wp_region_K 13 (fun _ => True) (by kernel_rfl) (fun hcl => ?_)
            have hS : (fun _ : World => True) w2.drew := trivial
            refine wpAnyK_take (i := 0) (v := ?_) hcl hS rfl (by kernel_rfl) (fun _ _ _ h => h) (by rfl) ?_ (fun hcl2 => ?_)
            rotate_left
            · (intro w hSw; (try dsimp only at hSw); first | (go_simp; done) | (go_simp; with_reducible rfl))
            (try simp only [Act.put, List.setIfInBounds_toArray, List.set_cons_zero, List.set_cons_succ])
            clear hcl; have hcl := hcl2; clear hcl2
            refine wpAnyK_take (i := 1) (v := ?_) hcl hS rfl (by kernel_rfl) (fun _ _ _ h => h) (by rfl) ?_ (fun hcl2 => ?_)
            rotate_left
            · (intro w hSw; (try dsimp only at hSw); first | (go_simp; done) | (go_simp; with_reducible rfl))
            (try simp only [Act.put, List.setIfInBounds_toArray, List.set_cons_zero, List.set_cons_succ])
            clear hcl; have hcl := hcl2; clear hcl2
            refine wpAnyK_take (i := 2) (v := ?_) hcl hS rfl (by kernel_rfl) (fun _ _ _ h => h) (by rfl) ?_ (fun hcl2 => ?_)
            rotate_left
            · (intro w hSw; (try dsimp only at hSw); first | (go_simp; done) | (go_simp; with_reducible rfl))
            (try simp only [Act.put, List.setIfInBounds_toArray, List.set_cons_zero, List.set_cons_succ])
            clear hcl; have hcl := hcl2; clear hcl2
            refine wpAnyK_take (i := 3) (v := ?_) hcl hS rfl (by kernel_rfl) (fun _ _ _ h => h) (by rfl) ?_ (fun hcl2 => ?_)
            rotate_left
            · (intro w hSw; (try dsimp only at hSw); first | (go_simp; done) | (go_simp; with_reducible rfl))
            (try simp only [Act.put, List.setIfInBounds_toArray, List.set_cons_zero, List.set_cons_succ])
            clear hcl; have hcl := hcl2; clear hcl2
            refine wpAnyK_take (i := 4) (v := ?_) hcl hS rfl (by kernel_rfl) (fun _ _ _ h => h) (by rfl) ?_ (fun hcl2 => ?_)
            rotate_left
            · (intro w hSw; (try dsimp only at hSw); first | (go_simp; done) | (go_simp; with_reducible rfl))
            (try simp only [Act.put, List.setIfInBounds_toArray, List.set_cons_zero, List.set_cons_succ])
            clear hcl; have hcl := hcl2; clear hcl2
            refine wpAnyK_take (i := 5) (v := ?_) hcl hS rfl (by kernel_rfl) (fun _ _ _ h => h) (by rfl) ?_ (fun hcl2 => ?_)
            rotate_left
            · (intro w hSw; (try dsimp only at hSw); first | (go_simp; done) | (go_simp; with_reducible rfl))
            (try simp only [Act.put, List.setIfInBounds_toArray, List.set_cons_zero, List.set_cons_succ])
            clear hcl; have hcl := hcl2; clear hcl2
            refine wpAnyK_take (i := 6) (v := ?_) hcl hS rfl (by kernel_rfl) (fun _ _ _ h => h) (by rfl) ?_ (fun hcl2 => ?_)
            rotate_left
            · (intro w hSw; (try dsimp only at hSw); first | (go_simp; done) | (go_simp; with_reducible rfl))
            (try simp only [Act.put, List.setIfInBounds_toArray, List.set_cons_zero, List.set_cons_succ])
            clear hcl; have hcl := hcl2; clear hcl2
            refine wpAnyK_take (i := 7) (v := ?_) hcl hS rfl (by kernel_rfl) (fun _ _ _ h => h) (by rfl) ?_ (fun hcl2 => ?_)
            rotate_left
            · (intro w hSw; (try dsimp only at hSw); first | (go_simp; done) | (go_simp; with_reducible rfl))
            (try simp only [Act.put, List.setIfInBounds_toArray, List.set_cons_zero, List.set_cons_succ])
            clear hcl; have hcl := hcl2; clear hcl2
            refine wpAnyK_take (i := 8) (v := ?_) hcl hS rfl (by kernel_rfl) (fun _ _ _ h => h) (by rfl) ?_ (fun hcl2 => ?_)
            rotate_left
            · (intro w hSw; (try dsimp only at hSw); first | (go_simp; done) | (go_simp; with_reducible rfl))
            (try simp only [Act.put, List.setIfInBounds_toArray, List.set_cons_zero, List.set_cons_succ])
            clear hcl; have hcl := hcl2; clear hcl2
            refine wpAnyK_one (i := 9) hcl (by kernel_rfl) rfl (by rfl) (fun K hK => ?_)
            go_simp
            (go_at_call 65; refine (HCO.out _).mono ?_; rintro e w5 ⟨rfl, rfl⟩)
            (try go_simp)
            refine hK.out _ _ (Or.inr trivial) (fun hcl2 => ?_)
            clear hK K hcl hS
            have hcl := hcl2
            clear hcl2
            have hS : (fun _ : World => True) w2.drew := trivial
            (try simp only [Act.put, List.setIfInBounds_toArray, List.set_cons_zero, List.set_cons_succ])
            refine wpAnyK_take (i := 10) (v := ?_) hcl hS rfl (by kernel_rfl) (fun _ _ _ h => h) (by rfl) ?_ (fun hcl2 => ?_)
            rotate_left
            · (intro w hSw; (try dsimp only at hSw); first | (go_simp; done) | (go_simp; with_reducible rfl))
            (try simp only [Act.put, List.setIfInBounds_toArray, List.set_cons_zero, List.set_cons_succ])
            clear hcl; have hcl := hcl2; clear hcl2
            refine wpAnyK_one (i := 11) hcl (by kernel_rfl) rfl (by rfl) (fun K hK => ?_)
            go_simp
            refine hK.out _ _ (Or.inr trivial) (fun hcl2 => ?_)
            clear hK K hcl hS
            have hcl := hcl2
            clear hcl2
            refine wpAnyK_one (i := 12) hcl (by kernel_rfl) rfl (by rfl) (fun K hK => ?_)
            have hT3 : Toks (w2.drew.alloc (.cells #[.int .i64 k, .string (s.extract i j), .int .i64 no, .int .i64 col] 24)) w.heap.size tv acc := World.ownsRow.alloc (World.ownsRow.drew hT2) _
            have hB3 : Below w.heap.size w (w2.drew.alloc (.cells #[.int .i64 k, .string (s.extract i j), .int .i64 no, .int .i64 col] 24)) := (hB2.drew).alloc (by simp; omega) _
            refine wp_tok _ _ (by rfl) w.heap.size tv acc (by rfl) hT3 ⟨w2.heap.size, 0, none⟩ 1 (k, (s.data.toList.drop i).take z, no, col) (by rfl) (by rw [HTOK.out]; exact World.news_of_block (cs := #[.int .i64 k, .string (s.extract i j), .int .i64 no, .int .i64 col]) (t := 24) (fr := (0, 0)) (heap_alloc_new w2.drew _)) (by omega) (by simp; omega) _ rfl ?_
            intro gg cap w6 hT6 hgrow hat hlt6
            have hB6 : Below w.heap.size w w6 := below_tok hB3 (by simp; omega) hT3 hgrow
            refine hK.out _ _ (Or.inr trivial) (fun hcl2 => ?_)
            clear hK K hcl
            have hcl := hcl2
            clear hcl2
            refine wpAnyK_one (i := 13) hcl (by kernel_rfl) rfl (by rfl) (fun K hK => ?_)
            go_simp
            refine hK.out _ _ (Or.inl (by kernel_rfl)) (fun hcl2 => ?_)
            clear hK K hcl hcl2
            refine wpAnyK_done (by kernel_rfl) ?_ _
            have HT6 := Lib.hid hT6
            have HB6 := Lib.hid hB6
            clear hT6 hB6 hT3 hB3 hT2 hB2 hgrow hat
            go_wp2
            go_roundw
            case rel => exact ⟨j, _, _, rfl, by rfl, by omega, by rw [List.length_append, List.length_singleton]; omega, HT6.out, HB6.out, HF2⟩
            case measure => simp [intOf]; omega
          · rw [if_neg c3] at htok
            obtain ⟨e1, e2, e3⟩ := HF.out.err hd hpa hp c3
            have q3 : ((code : Int) != 0) = true := by rw [bne_iff_ne]; omega
            have hcol := fun W => ref3_column s (i + off) W hs e2
            have HCO := Lib.hid hcol
            have HTK := Lib.hid htok
            have HE := Lib.hid e1
            clear hd hbl c2 c2' HF hpa hp hmem h10 htok hcol e1 e2 e3 ht hb
            go_wp2_with (first | (go_at_call 63; refine (HBL.out _).mono ?_; rintro e w1 ⟨rfl, rfl⟩) | (go_at_call 64; refine HTK.out.mono ?_; rintro e w2 ⟨rfl, hb2⟩) | (go_at_call 65; refine (HCO.out _).mono ?_; rintro e w3 ⟨rfl, rfl⟩))
            go_ret3
            have he := HE.out
            simp only [Prod.mk.injEq] at he
            obtain ⟨rfl, rfl, rfl, rfl⟩ := he
            exact ⟨_, rfl, World.ownsRow_nil _ _ _ _, HB.out.trans (hb2.mono hBw)⟩
    · have q0 : decide ((i : Int) < s.size) = false := decide_eq_false (by omega)
      have hfin := HF.out.fin (List.drop_eq_nil_of_le (by rw [← HSL.out]; omega))
      have HFN := Lib.hid hfin
      clear hfin HF ht hb
      have he := HFN.out
      simp only [Prod.mk.injEq] at he
      obtain ⟨e1, e2, e3, e4⟩ := he
      obtain ⟨A, cap, rfl, hvw⟩ := toks_view HT.out
      clear hvw
      have HE1 := Lib.hid e1
      by_cases h0 : acc.length = 0
      · have q9 : decide ((acc.length : Int) > 0) = false := decide_eq_false (by omega)
        have HEN : Hid (ts = acc) := by
          show _ = _
          rw [e1]
          unfold Sp.endT
          rw [if_neg (by simp [h0])]
        clear e1 HFN
        go_wp2
        go_ret3
        refine ⟨_, by rw [e2, e4]; rfl, ?_, HB.out⟩
        rw [HEN.out]
        exact HT.out
      · have q9 : decide ((acc.length : Int) > 0) = true := decide_eq_true (by omega)
        have HEN : Hid (ts = acc ++ [(1, [10], no, Sp.chars s.data.toList + 1)]) := by
          show _ = _
          rw [e1]
          unfold Sp.endT
          rw [if_pos (by simp [h0])]
        clear e1 HFN
        go_wp2_with (first | (go_at_call 65; refine (HCE.out _).mono ?_; rintro e w5 ⟨rfl, rfl⟩) | (at_builtin; go_loud (refine wpList_tok rfl _ _ rfl w.heap.size _ acc rfl (World.ownsRow.alloc HT.out _) ⟨wr.heap.size, 0, none⟩ 1 (1, [10], no, Sp.chars s.data.toList + 1) rfl (World.news_of_block (cs := #[.int .i64 1, .string ⟨#[10]⟩, .int .i64 no, .int .i64 ((Sp.chars s.data.toList + 1 : Nat) : Int)]) (t := 24) (fr := (0, 0)) (heap_alloc_new wr _)) (by omega) (by simp; omega) _ rfl ?_; intro gg cap6 w6 hT6 hgrow hat hlt6; have hB6 := below_tok (HB.out.alloc hBw (.cells #[.int .i64 1, .string ⟨#[10]⟩, .int .i64 no, .int .i64 ((Sp.chars s.data.toList + 1 : Nat) : Int)] 24)) (by simp; omega) (World.ownsRow.alloc HT.out _) hgrow; have HT6 := Lib.hid hT6; have HB6 := Lib.hid hB6; clear hT6 hB6 hgrow)))
        go_ret3
        refine ⟨_, by rw [e2, e4]; rfl, ?_, HB6.out⟩
        rw [HEN.out]
        exact HT6.out
end Go.Proofs.YtdmpapoabeljfaaGreatDoor
