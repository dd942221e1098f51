/-
 THE WALK of the law StepNexts (chapter 10).
-/
import Derived.Test.YthnamoedpnknmaaGreatDoorCb
import Derived.Test.YthnamoedpnknmaaGreatDoorCe
import Derived.Test.YthnamoedpnknmaaGreatDoorBu
import Derived.Test.YthnamoedpnknmaaGreatDoorUc
set_option linter.unusedVariables false
set_option linter.unusedSimpArgs false
set_option maxRecDepth 100000
set_option maxHeartbeats 8000000
namespace Go.Proofs.YthnamoedpnknmaaGreatDoor
open Go.RowKit
theorem nextS_len (n : Sp.Net) (p : Int) (h : ByteArray) : (Sp.nextS n p h).length ≤ 1000000 := by
 unfold Sp.nextS
 split
 ·rename_i he
  obtain ⟨hn, hs⟩ := Sp.checkE_zero he
  obtain ⟨k, rfl⟩ : ∃ k : Nat, p = k := ⟨p.toNat, by have := hs.port; omega⟩
  rw [Int.toNat_natCast]
  have h1 := Sp.stV_len (Sp.movesV n k h)
  have h2 := Sp.movesV_len hn hs
  omega
 ·simp
theorem net_views {w : World} {n : Sp.Net} {A1 A2 A3 : Option Addr} {c1 c2 c3 : Nat} (hnr : NetR w n [.int .i64 n.bits, .slice A1 n.ports.length c1, .slice A2 n.tables.length c2, .slice A3 n.guards.length c3]) : PV w A1 n.ports ∧ TTV w A2 n.tables ∧ GGV w A3 n.guards := by
 obtain ⟨B1, d1, B2, d2, B3, d3, hx, hv1, hv2, hv3, _⟩ := hnr
 injection hx with _ hx
 injection hx with e1 hx
 injection hx with e2 hx
 injection hx with e3 hx
 injection e1 with e1 _ _
 injection e2 with e2 _ _
 injection e3 with e3 _ _
 subst e1 e2 e3
 exact ⟨hv1, hv2, hv3⟩
theorem hnet_views {lo : Nat} {w : World} {n : Sp.Net} {A1 A2 A3 : Option Addr} {c1 c2 c3 : Nat} (hnr : HNet lo w n [.int .i64 n.bits, .slice A1 n.ports.length c1, .slice A2 n.tables.length c2, .slice A3 n.guards.length c3]) : PV w A1 n.ports ∧ LView 1 (HTab lo) w A2 n.tables ∧ LView 1 (HGrd lo) w A3 n.guards := by
 obtain ⟨B1, d1, B2, d2, B3, d3, hx, hv1, hv2, hv3, _⟩ := hnr
 injection hx with _ hx
 injection hx with e1 hx
 injection hx with e2 hx
 injection hx with e3 hx
 injection e1 with e1 _ _
 injection e2 with e2 _ _
 injection e3 with e3 _ _
 subst e1 e2 e3
 exact ⟨hv1, hv2, hv3⟩
theorem law_nexts (n : Sp.Net) (A1 A2 A3 : Option Addr) (c1 c2 c3 : Nat) (p : Int) (h : ByteArray) (w : World) (hG : Gn w)
  (hnr : NetR w n [.int .i64 n.bits, .slice A1 n.ports.length c1, .slice A2 n.tables.length c2, .slice A3 n.guards.length c3]) (hsz : Sp.SzdT n) (hh : h.size ≤ 9223372036854775807) :
  Calls Tryz.prog 3 #[.agg #[.int .i64 n.bits, .slice A1 n.ports.length c1, .slice A2 n.tables.length c2, .slice A3 n.guards.length c3], .agg #[.int .i64 p, .string h]] w fun e w' => e = .returned (.bool true) ∧ Below w.heap.size w w' := by
 obtain ⟨hp1, ht1, hg1⟩ := net_views hnr
 have hrm := fun W (hW : Below w.heap.size w W) => ref9_Roomy n A1 A2 A3 c1 c2 c3 W hsz (hp1.more hW) (ht1.more hW) (hg1.more hW)
 have hrn := fun W (hW : Below w.heap.size w W) => ref10_Next n A1 A2 A3 c1 c2 c3 p h W (hp1.more hW) (ht1.more hW) (hg1.more hW) hsz.szd hsz.szt hh
 have hst := fun (W : World) g1 g2 g3 lo (hW : Below w.heap.size w W) (hN : RNetAt lo W n g1 g2 g3) => step_Next n (some ⟨g1, 0, none⟩) (some ⟨g2, 0, none⟩) (some ⟨g3, 0, none⟩) (n.ports.length + 1) (n.tables.length + 1) (n.guards.length + 1) p h W (hG.below hW) hN.held.plain hsz.szd hh
 have hmk := fun (W : World) g1 g2 g3 lo B1 B2 B3 d1 d2 d3 (hW : Below w.heap.size w W) (hN : RNetAt lo W n g1 g2 g3) (hK : HNet lo W n [.int .i64 n.bits, .slice B1 n.ports.length d1, .slice B2 n.tables.length d2, .slice B3 n.guards.length d3]) => ref9_Marked lo n g1 g2 g3 B1 B2 B3 d1 d2 d3 A1 A2 A3 c1 c2 c3 W hsz hN (hnet_views hK).1 (hnet_views hK).2.1 (hnet_views hK).2.2 (hp1.more hW) (ht1.more hW) (hg1.more hW)
 have hkn := fun (W : World) (hW : Below w.heap.size w W) => law10_known W (hG.below hW)
 have hsl := nextS_len n p h
 unfold RoomyEnd at hrm
 obtain ⟨np, hnp⟩ : ∃ np, n.ports.length = np := ⟨_, rfl⟩
 obtain ⟨nt, hnt⟩ : ∃ nt, n.tables.length = nt := ⟨_, rfl⟩
 obtain ⟨ng, hng⟩ : ∃ ng, n.guards.length = ng := ⟨_, rfl⟩
 obtain ⟨bt, hbt⟩ : ∃ bt, n.bits = bt := ⟨_, rfl⟩
 obtain ⟨N, hN⟩ : ∃ N, w.heap.size = N := ⟨_, rfl⟩
 rw [hnp, hnt, hng, hbt, hN] at hrm hrn hst hmk
 rw [hN] at hkn
 obtain ⟨W2, hW2⟩ : ∃ W2, (w.alloc (.cells #[.int .i64 bt, .slice A1 np c1, .slice A2 nt c2, .slice A3 ng c3] 26)).alloc (.cells #[.int .i64 p, .string h] 28) = W2 := ⟨_, rfl⟩
 have hb2 : Below N w W2 := by rw [← hW2, ← hN]; exact ((Below.refl _ _).alloc (Nat.le_refl _) _).alloc (by simp) _
 have hk0 : Blk W2 N 26 #[.int .i64 bt, .slice A1 np c1, .slice A2 nt c2, .slice A3 ng c3] := by rw [← hW2, ← hN]; exact (Blk.new _ _ _).alloc _
 have hk1 : Blk W2 (N + 1) 28 #[.int .i64 p, .string h] := by rw [← hW2, ← hN]; exact blk_at9 (by simp)
 have m0 : W2.cell? ⟨N, 0, none⟩ = some (.int .i64 bt) := hk0.cell 0
 have m1 : W2.cell? ⟨N, 1, none⟩ = some (.slice A1 np c1) := hk0.cell 1
 have m2 : W2.cell? ⟨N, 2, none⟩ = some (.slice A2 nt c2) := hk0.cell 2
 have m3 : W2.cell? ⟨N, 3, none⟩ = some (.slice A3 ng c3) := hk0.cell 3
 have HN := Lib.hid hN
 have HRM := Lib.hid (hrm W2 hb2)
 have HRN := Lib.hid hrn
 have HST := Lib.hid hst
 have HMK := Lib.hid hmk
 have HKN := Lib.hid hkn
 have HSL := Lib.hid hsl
 have HB := Lib.hid hb2
 have HK0 := Lib.hid hk0
 have HK1 := Lib.hid hk1
 rw [hnp, hnt, hng, hbt]
 clear hnp hnt hng hbt hp1 ht1 hg1 hG hnr hsz hh hrm hrn hst hmk hkn hsl hb2 hk0 hk1
 go_enter Tryz.func3, Tryz.ntmps3
 go_wp2_with fail
 refine HRM.out.mono ?_
 rintro e W3 ⟨lo, g1, g2, g3, B1, d1, B2, d2, B3, d3, _, rfl, hnet, hkept, hb3⟩
 obtain ⟨M, hM⟩ : ∃ M, W3.heap.size = M := ⟨_, rfl⟩
 obtain ⟨W4, hW4⟩ : ∃ W4, (W3.alloc (.cells #[.int .i64 bt, .slice (some ⟨g1, 0, none⟩) np (np + 1), .slice (some ⟨g2, 0, none⟩) nt (nt + 1), .slice (some ⟨g3, 0, none⟩) ng (ng + 1)] 26)).alloc (.cells #[.int .i64 bt, .slice B1 np d1, .slice B2 nt d2, .slice B3 ng d3] 26) = W4 := ⟨_, rfl⟩
 have hb34 : Below M W3 W4 := by rw [← hW4, ← hM]; exact ((Below.refl _ _).alloc (Nat.le_refl _) _).alloc (by simp) _
 have hk4M : Blk W4 M 26 #[.int .i64 bt, .slice (some ⟨g1, 0, none⟩) np (np + 1), .slice (some ⟨g2, 0, none⟩) nt (nt + 1), .slice (some ⟨g3, 0, none⟩) ng (ng + 1)] := by rw [← hW4, ← hM]; exact (Blk.new _ _ _).alloc _
 have hk4K : Blk W4 (M + 1) 26 #[.int .i64 bt, .slice B1 np d1, .slice B2 nt d2, .slice B3 ng d3] := by rw [← hW4, ← hM]; exact blk_at9 (by simp)
 have hb4 : Below W2.heap.size W2 W4 := hb3.trans (by rw [← hM] at hb34; exact hb34.mono hb3.size)
 have hk40 := HK0.out.below hb4 HK0.out.lt
 have hk41 := HK1.out.below hb4 HK1.out.lt
 have hn4 := hnet.more (by rw [hM]; exact hb34)
 have hkp4 := hkept.more (by rw [hM]; exact hb34)
 have x0 : W4.cell? ⟨N, 0, none⟩ = some (.int .i64 bt) := hk40.cell 0
 have x1 : W4.cell? ⟨N, 1, none⟩ = some (.slice A1 np c1) := hk40.cell 1
 have x2 : W4.cell? ⟨N, 2, none⟩ = some (.slice A2 nt c2) := hk40.cell 2
 have x3 : W4.cell? ⟨N, 3, none⟩ = some (.slice A3 ng c3) := hk40.cell 3
 have y0 : W4.cell? ⟨N + 1, 0, none⟩ = some (.int .i64 p) := hk41.cell 0
 have y1 : W4.cell? ⟨N + 1, 1, none⟩ = some (.string h) := hk41.cell 1
 have HB4 := Lib.hid (show Below N w W4 from HB.out.trans (hb4.mono (Nat.le_of_lt HK0.out.lt)))
 have HN4 := Lib.hid hn4
 have HP4 := Lib.hid hkp4
 have HK40 := Lib.hid hk40
 have HK41 := Lib.hid hk41
 have HK4M := Lib.hid hk4M
 have HK4K := Lib.hid hk4K
 clear hb3 hnet hkept hb34 hk4M hk4K hb4 hk40 hk41 hn4 hkp4 HRM HB HK0 HK1
 go_wp2_with fail
 refine (HRN.out W4 HB4.out).mono ?_
 rintro e W5 ⟨v5, rfl, hst5, hb5⟩
 have HS5 := Lib.hid hst5
 have HB5 := Lib.hid (show Below N w W5 from HB4.out.trans (hb5.mono (Nat.le_of_lt HK40.out.lt)))
 have HN5 := Lib.hid (HN4.out.more hb5)
 have HP5 := Lib.hid (HP4.out.more hb5)
 have hk50 := HK40.out.below hb5 HK40.out.lt
 have hk51 := HK41.out.below hb5 HK41.out.lt
 have hk5M := HK4M.out.below hb5 HK4M.out.lt
 have hk5K := HK4K.out.below hb5 HK4K.out.lt
 have u0 : W5.cell? ⟨M, 0, none⟩ = some (.int .i64 bt) := hk5M.cell 0
 have u1 : W5.cell? ⟨M, 1, none⟩ = some (.slice (some ⟨g1, 0, none⟩) np (np + 1)) := hk5M.cell 1
 have u2 : W5.cell? ⟨M, 2, none⟩ = some (.slice (some ⟨g2, 0, none⟩) nt (nt + 1)) := hk5M.cell 2
 have u3 : W5.cell? ⟨M, 3, none⟩ = some (.slice (some ⟨g3, 0, none⟩) ng (ng + 1)) := hk5M.cell 3
 have v0 : W5.cell? ⟨N + 1, 0, none⟩ = some (.int .i64 p) := hk51.cell 0
 have v1 : W5.cell? ⟨N + 1, 1, none⟩ = some (.string h) := hk51.cell 1
 have HK50 := Lib.hid hk50
 have HK5M := Lib.hid hk5M
 have HK5K := Lib.hid hk5K
 clear hst5 hb5 hk50 hk51 hk5M hk5K x0 x1 x2 x3 y0 y1 m0 m1 m2 m3 HN4 HP4 HK40 HK41 HK4M HK4K HB4 hW4 hM
 go_wp2_with fail
 refine (HST.out W5 g1 g2 g3 lo HB5.out HN5.out).mono ?_
 rintro e W6 ⟨v6, rfl, hst6, hb6⟩
 have HS6 := Lib.hid hst6
 have HS56 := Lib.hid (show StR W6 W4.heap.size v5 (Sp.nextS n p h) from ownsRow_below HS5.out hb6)
 have HB6 := Lib.hid (show Below N w W6 from HB5.out.trans (hb6.mono (Nat.le_of_lt HK50.out.lt)))
 have HN6 := Lib.hid (HN5.out.more hb6)
 have HP6 := Lib.hid (HP5.out.more hb6)
 have HK60 := Lib.hid (HK50.out.below hb6 HK50.out.lt)
 have HK6M := Lib.hid (HK5M.out.below hb6 HK5M.out.lt)
 have HK6K := Lib.hid (HK5K.out.below hb6 HK5K.out.lt)
 clear hst6 hb6 u0 u1 u2 u3 v0 v1 HN5 HP5 HK50 HK5M HK5K HB5 HS5
 go_wp2_with (first
  | (go_at_call 12; refine (law10_num _ _).mono ?_; rintro e w9 ⟨rfl, hw⟩; rw [hw]; clear hw))
 refine (law10_states v6 v5 _ _ _ W6 HS6.out HS56.out HSL.out).mono ?_
 rintro e W7 ⟨rfl, hb7⟩
 have HB7 := Lib.hid (show Below N w W7 from HB6.out.trans (hb7.mono (Nat.le_of_lt HK60.out.lt)))
 have HN7 := Lib.hid (HN6.out.more hb7)
 have HP7 := Lib.hid (HP6.out.more hb7)
 have hk70 := HK60.out.below hb7 HK60.out.lt
 have hk7M := HK6M.out.below hb7 HK6M.out.lt
 have hk7K := HK6K.out.below hb7 HK6K.out.lt
 have x0 : W7.cell? ⟨N, 0, none⟩ = some (.int .i64 bt) := hk70.cell 0
 have x1 : W7.cell? ⟨N, 1, none⟩ = some (.slice A1 np c1) := hk70.cell 1
 have x2 : W7.cell? ⟨N, 2, none⟩ = some (.slice A2 nt c2) := hk70.cell 2
 have x3 : W7.cell? ⟨N, 3, none⟩ = some (.slice A3 ng c3) := hk70.cell 3
 have u0 : W7.cell? ⟨M, 0, none⟩ = some (.int .i64 bt) := hk7M.cell 0
 have u1 : W7.cell? ⟨M, 1, none⟩ = some (.slice (some ⟨g1, 0, none⟩) np (np + 1)) := hk7M.cell 1
 have u2 : W7.cell? ⟨M, 2, none⟩ = some (.slice (some ⟨g2, 0, none⟩) nt (nt + 1)) := hk7M.cell 2
 have u3 : W7.cell? ⟨M, 3, none⟩ = some (.slice (some ⟨g3, 0, none⟩) ng (ng + 1)) := hk7M.cell 3
 have v0 : W7.cell? ⟨M + 1, 0, none⟩ = some (.int .i64 bt) := hk7K.cell 0
 have v1 : W7.cell? ⟨M + 1, 1, none⟩ = some (.slice B1 np d1) := hk7K.cell 1
 have v2 : W7.cell? ⟨M + 1, 2, none⟩ = some (.slice B2 nt d2) := hk7K.cell 2
 have v3 : W7.cell? ⟨M + 1, 3, none⟩ = some (.slice B3 ng d3) := hk7K.cell 3
 have HC7 := Lib.hid (HMK.out W7 g1 g2 g3 lo B1 B2 B3 d1 d2 d3 HB7.out HN7.out HP7.out)
 have HL7 := Lib.hid hk70.lt
 clear hb7 hk70 hk7M hk7K HS6 HS56 HB6 HN6 HP6 HK60 HK6M HK6K HMK
 go_wp2_with fail
 refine HC7.out.mono ?_
 rintro e W8 ⟨rfl, hb8⟩
 have HB8 := Lib.hid (show Below N w W8 from HB7.out.trans (hb8.mono (Nat.le_of_lt HL7.out)))
 clear hb8 x0 x1 x2 x3 u0 u1 u2 u3 v0 v1 v2 v3
 go_wp2_with fail
 refine (HKN.out W8 HB8.out).mono ?_
 rintro e W9 ⟨rfl, hb9⟩
 have HB9 := Lib.hid (show Below N w W9 from HB8.out.trans (hb9.mono (by have := HB8.out.size; rw [HN.out] at this; exact this)))
 clear hb9
 go_wp2_with fail
 go_ret
 exact ⟨rfl, by rw [HN.out]; exact HB9.out⟩
end Go.Proofs.YthnamoedpnknmaaGreatDoor
