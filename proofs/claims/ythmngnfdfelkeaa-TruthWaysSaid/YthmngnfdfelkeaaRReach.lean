/-
  What is proved: the contract of the reference's Reach.
-/
import Derived.Test.YthmngnfdfelkeaaRLeast
import Derived.Test.YthmngnfdfelkeaaRMom
namespace Go.Proofs.Ythmngnfdfelkeaa
open Go.RowKit
attribute [local go_sem ↓] max_int min_int

set_option maxRecDepth 100000 in
set_option maxHeartbeats 4000000 in
theorem reachF_any (s : Stn) (z : Loc) (way : Int × Int) (w : World) (hs : StAt w s z) :
    Calls Try.prog 30 #[s.val z, .agg #[.int .i64 way.1, .int .i64 way.2]] w fun e w' => e = .returned (pointV (reachR s way)) ∧ Below w.heap.size w w' := by
  obtain ⟨wx, wy⟩ := way
  simp only
  have HC : Hid (∀ W, StAt W s z → Calls Try.prog 51 #[.agg (s.cells z)] W fun e w' => e = .returned (.int .i64 (checkE s)) ∧ Below W.heap.size W w') := fun W h => rcheck_any s z W h
  have HM : Hid (∀ W, StAt W s z → s.ok = true → Calls Try.prog 77 #[.agg (s.cells z)] W fun e w' => e = .returned (.agg #[.int .i64 (momX s s.f.kinds.length), .int .i64 (momY s s.f.kinds.length)]) ∧ Below W.heap.size W w') := fun W h h2 => rmoment_any s z W h h2
  have HBX : Hid (∀ W, StAt W s z → s.ok = true → Calls Try.prog 76 #[.agg (s.cells z)] W fun e w' => ∃ A1 A2 c1 c2, e = .returned (.tuple #[.slice A1 s.pockets.length c1, .slice A2 s.pockets.length c2]) ∧ RowAt w' A1 (intCells (boxLo s)) ∧ RowAt w' A2 (intCells (boxHi s)) ∧ Below W.heap.size W w') := fun W h h2 => rbox_any s z W h h2
  have HI : Hid (∀ W, Calls Try.prog 75 #[.agg #[.int .i64 wx, .int .i64 wy]] W fun e w' => e = .returned (.bool (wayB (wx, wy))) ∧ Below W.heap.size W w') := fun W => risWay_any wx wy W
  have X0 : Bk (((w.alloc (.cells (s.cells z) 28)).alloc (.cells #[.int .i64 wx, .int .i64 wy] 43)).alloc (.cells #[.int .i64 0, .int .i64 0] 53)) w.heap.size 28 (s.cells z) := ((bk_last rfl).alloc _).alloc _
  have Y0 : Bk (((w.alloc (.cells (s.cells z) 28)).alloc (.cells #[.int .i64 wx, .int .i64 wy] 43)).alloc (.cells #[.int .i64 0, .int .i64 0] 53)) (w.heap.size + 1) 43 #[.int .i64 wx, .int .i64 wy] := (bk_last (by simp)).alloc _
  have R0 : Bk (((w.alloc (.cells (s.cells z) 28)).alloc (.cells #[.int .i64 wx, .int .i64 wy] 43)).alloc (.cells #[.int .i64 0, .int .i64 0] 53)) (w.heap.size + 1 + 1) 53 #[.int .i64 0, .int .i64 0] := bk_last (by simp)
  have hB : Below w.heap.size w (((w.alloc (.cells (s.cells z) 28)).alloc (.cells #[.int .i64 wx, .int .i64 wy] 43)).alloc (.cells #[.int .i64 0, .int .i64 0] 53)) := (((Below.refl _ _).alloc (Nat.le_refl _) _).alloc (by simp) _).alloc (by simp; omega) _
  have hs1 := ((hs.alloc (.cells (s.cells z) 28)).alloc (.cells #[.int .i64 wx, .int .i64 wy] 43)).alloc (.cells #[.int .i64 0, .int .i64 0] 53)
  unfold Stn.cells at HC HM HBX X0 Y0 R0 hB hs1
  unfold Stn.val Stn.cells
  go_enter Try.func30, Try.ntmps30
  go_wp2_with fail
  generalize ((w.alloc (.cells _ 28)).alloc (.cells _ 43)).alloc (.cells _ 53) = V at *
  refine (HC.out _ hs1).mono ?_
  rintro e w1 ⟨rfl, hb1⟩
  have hB1 := hB.trans (hb1.mono hB.size)
  have X1 : Bk w1 w.heap.size 28 (s.cells z) := X0.keep hb1
  have Y1 := Y0.keep hb1
  have R1 := R0.keep hb1
  have hs2 := hs1.below hb1
  clear X0 Y0 R0 hB hs1 HC hb1
  obtain ⟨x0, x1, x2, x3, x4, x5, x6, x7⟩ := stn_cell0 X1
  have y0 := Y1.cell 0
  have y1 := Y1.cell 1
  have r0 := R1.cell 0
  have r1 := R1.cell 1
  have r2 := R1.fz 0
  have r3 := R1.fz 1
  have rl := R1.lt
  simp at r0 r1 y0 y1
  by_cases hok : s.ok = true
  · rw [show checkE s = 0 by simp [checkE, hok]]
    cases hf : wayB (wx, wy)
    · have HR := Lib.hid (show reachR s (wx, wy) = ((0, 0), 1) by simp [reachR, hok, hf])
      rw [hf] at HI
      clear hf hok HM HBX
      go_wp2_with fail
      refine (HI.out _).mono ?_
      rintro e w2 ⟨rfl, hb2⟩
      have hB2 := hB1.trans (hb2.mono hB1.size)
      have R2 := R1.keep hb2
      clear r0 r1 r2 r3 rl
      have r0 := R2.cell 0
      have r1 := R2.cell 1
      have r2 := R2.fz 0
      have r3 := R2.fz 1
      have rl := R2.lt
      simp at r0 r1
      go_wp2_with fail
      refine bodyPost_ret (v := pointV ((0, 0), 1)) (by simp [pointV, results, Try.results30, go_sem, r0, r1]) rfl ⟨by first | (rw [HR.out]; done) | (rw [HR.out]; rfl), ?_⟩
      repeat (first | exact hB2 | refine Below.setCell ?_ (by simp <;> omega) _)
    · have HR := Lib.hid (show reachR s (wx, wy) = ((reachLo s (wx, wy) lowZ (highK s s.pockets.length) s.pockets.length, reachHi s (wx, wy) lowZ (highK s s.pockets.length) s.pockets.length), 0) by simp [reachR, hok, hf])
      have hwo := wayB_ok hf
      have hbx := high_ok hok
      have hpl := (stn_ok hok).2.2.2.2.1
      rw [hf] at HI
      have HK := Lib.hid (And.intro hok (And.intro hwo (And.intro hbx hpl)))
      clear hf hwo hbx hpl hok r0 r1 r2 r3 rl
      go_wp2_with fail
      refine (HI.out _).mono ?_
      rintro e w2 ⟨rfl, hb2⟩
      have hB2 := hB1.trans (hb2.mono hB1.size)
      replace X1 := X1.keep hb2
      replace Y1 := Y1.keep hb2
      replace R1 := R1.keep hb2
      replace hs2 := hs2.below hb2
      clear hB1 hb2 HI x0 x1 x2 x3 x4 x5 x6 x7 y0 y1
      obtain ⟨x0, x1, x2, x3, x4, x5, x6, x7⟩ := stn_cell0 X1
      go_wp2_with fail
      refine (HBX.out _ hs2 HK.out.1).mono ?_
      rintro e w3 ⟨A1, A2, c1, c2, rfl, h1, h2, hb3⟩
      have hB3 := hB2.trans (hb3.mono hB2.size)
      replace X1 := X1.keep hb3
      replace Y1 := Y1.keep hb3
      replace R1 := R1.keep hb3
      replace hs2 := hs2.below hb3
      clear hB2 hb3 HBX x0 x1 x2 x3 x4 x5 x6 x7
      obtain ⟨x0, x1, x2, x3, x4, x5, x6, x7⟩ := stn_cell0 X1
      go_wp2_with fail
      refine (HM.out _ hs2 HK.out.1).mono ?_
      rintro e w4 ⟨rfl, hb4⟩
      have hB4 := hB3.trans (hb4.mono hB3.size)
      replace X1 := X1.keep hb4
      replace Y1 := Y1.keep hb4
      replace R1 := R1.keep hb4
      replace hs2 := hs2.below hb4
      replace h1 := h1.below hb4
      replace h2 := h2.below hb4
      clear hB3 hb4 HM x0 x1 x2 x3 x4 x5 x6 x7
      have hB5 := hB4.alloc hB4.size (.cells #[.int .i64 (momX s s.f.kinds.length), .int .i64 (momY s s.f.kinds.length)] 43)
      have M1 : Bk (w4.alloc (.cells #[.int .i64 (momX s s.f.kinds.length), .int .i64 (momY s s.f.kinds.length)] 43)) w4.heap.size 43 #[.int .i64 (momX s s.f.kinds.length), .int .i64 (momY s s.f.kinds.length)] := bk_last rfl
      replace X1 := X1.alloc (.cells #[.int .i64 (momX s s.f.kinds.length), .int .i64 (momY s s.f.kinds.length)] 43)
      replace Y1 := Y1.alloc (.cells #[.int .i64 (momX s s.f.kinds.length), .int .i64 (momY s s.f.kinds.length)] 43)
      replace R1 := R1.alloc (.cells #[.int .i64 (momX s s.f.kinds.length), .int .i64 (momY s s.f.kinds.length)] 43)
      replace hs2 := hs2.alloc (.cells #[.int .i64 (momX s s.f.kinds.length), .int .i64 (momY s s.f.kinds.length)] 43)
      replace h1 := h1.alloc (.cells #[.int .i64 (momX s s.f.kinds.length), .int .i64 (momY s s.f.kinds.length)] 43)
      replace h2 := h2.alloc (.cells #[.int .i64 (momX s s.f.kinds.length), .int .i64 (momY s s.f.kinds.length)] 43)
      clear hB4
      go_upto_region 8 with fail
      generalize w4.alloc (.cells #[.int .i64 (momX s s.f.kinds.length), .int .i64 (momY s s.f.kinds.length)] 43) = w5 at *
      generalize w4.heap.size = gm at *
      have y0 := Y1.cell 0
      have y1 := Y1.cell 1
      simp at y0 y1
      have hwn := HK.out.2.1
      simp only [WayOk] at hwn
      have hB6 := hB5.alloc hB5.size (.cells #[.int .i64 (-wx), .int .i64 (-wy)] 43)
      have N1 : Bk (w5.alloc (.cells #[.int .i64 (-wx), .int .i64 (-wy)] 43)) w5.heap.size 43 #[.int .i64 (-wx), .int .i64 (-wy)] := bk_last rfl
      replace X1 := X1.alloc (.cells #[.int .i64 (-wx), .int .i64 (-wy)] 43)
      replace Y1 := Y1.alloc (.cells #[.int .i64 (-wx), .int .i64 (-wy)] 43)
      replace R1 := R1.alloc (.cells #[.int .i64 (-wx), .int .i64 (-wy)] 43)
      replace M1 := M1.alloc (.cells #[.int .i64 (-wx), .int .i64 (-wy)] 43)
      replace hs2 := hs2.alloc (.cells #[.int .i64 (-wx), .int .i64 (-wy)] 43)
      replace h1 := h1.alloc (.cells #[.int .i64 (-wx), .int .i64 (-wy)] 43)
      replace h2 := h2.alloc (.cells #[.int .i64 (-wx), .int .i64 (-wy)] 43)
      clear hB5
      go_upto_region 9 with fail
      generalize w5.alloc (.cells #[.int .i64 (-wx), .int .i64 (-wy)] 43) = w6 at *
      generalize w5.heap.size = gn at *
      clear y0 y1 hwn
      obtain ⟨hok, hwo, hbx, hpl⟩ := HK.out
      rw [← take_low s hpl] at h1
      rw [← take_high s hpl] at h2
      have HL1 : Hid (∀ x : Ext w6, Calls Try.prog 78 #[.agg (s.cells z), .agg #[.int .i64 (momX s s.f.kinds.length), .int .i64 (momY s s.f.kinds.length)], .agg #[.int .i64 wx, .int .i64 wy], .slice A1 s.pockets.length c1, .slice A2 s.pockets.length c2] x.w
        fun e w' => e = .returned (.int .i64 (reachLo s (wx, wy) lowZ (highK s s.pockets.length) s.pockets.length)) ∧ Below x.w.heap.size x.w w') := fun x => rleast_any s z _ _ (wx, wy) A1 A2 c1 c2 x.w (hs2.below x.bel) hok hwo hbx (h1.below x.bel) (h2.below x.bel)
      have HL2 : Hid (∀ x : Ext w6, Calls Try.prog 78 #[.agg (s.cells z), .agg #[.int .i64 (momX s s.f.kinds.length), .int .i64 (momY s s.f.kinds.length)], .agg #[.int .i64 (-wx), .int .i64 (-wy)], .slice A1 s.pockets.length c1, .slice A2 s.pockets.length c2] x.w
        fun e w' => e = .returned (.int .i64 (reachLo s (-wx, -wy) lowZ (highK s s.pockets.length) s.pockets.length)) ∧ Below x.w.heap.size x.w w') := fun x => rleast_any s z _ _ (-wx, -wy) A1 A2 c1 c2 x.w (hs2.below x.bel) hok (neg_way hwo) hbx (h1.below x.bel) (h2.below x.bel)
      rw [reach_back] at HR
      simp only at HR
      have hrb := (reach_bound hok (neg_way hwo) hbx s.pockets.length (Nat.le_refl _)).1
      simp only at hrb
      clear hok hwo hbx h1 h2 HK
      unfold Stn.cells at HL1 HL2
      generalize reachLo s (wx, wy) lowZ (highK s s.pockets.length) s.pockets.length = rlo at *
      generalize reachLo s (-wx, -wy) lowZ (highK s s.pockets.length) s.pockets.length = rhi at *
      obtain ⟨x0, x1, x2, x3, x4, x5, x6, x7⟩ := stn_cell0 X1
      have y0 := Y1.cell 0
      have y1 := Y1.cell 1
      have m0 := M1.cell 0
      have m1 := M1.cell 1
      have n0 := N1.cell 0
      have n1 := N1.cell 1
      simp at y0 y1 m0 m1 n0 n1
      have X0 := fun x : Ext w6 => keepc x.bel x0
      have X1 := fun x : Ext w6 => keepc x.bel x1
      have X2 := fun x : Ext w6 => keepc x.bel x2
      have X3 := fun x : Ext w6 => keepc x.bel x3
      have X4 := fun x : Ext w6 => keepc x.bel x4
      have X5 := fun x : Ext w6 => keepc x.bel x5
      have X6 := fun x : Ext w6 => keepc x.bel x6
      have X7 := fun x : Ext w6 => keepc x.bel x7
      have M0 := fun x : Ext w6 => keepc x.bel m0
      have M1 := fun x : Ext w6 => keepc x.bel m1
      have N0 := fun x : Ext w6 => keepc x.bel n0
      have N1 := fun x : Ext w6 => keepc x.bel n1
      have Y0 := fun x : Ext w6 => keepc x.bel y0
      have Y1 := fun x : Ext w6 => keepc x.bel y1
      clear x0 x1 x2 x3 x4 x5 x6 x7 m0 m1 y0 y1 n0 n1 hs2
      refine wp_region_extmix 14 (by kernel_rfl) (by kernel_rfl) (fun _ _ d _ _ h => by cases d <;> exact h) ?_
      simp only [List.take_succ_cons, List.take_zero, List.drop_succ_cons, List.drop_zero]
      repeat (go_big_quiet_step (fail))
      go_big_quiet_step ((go_at_call 78; exact ext_of (HL1.out _)))
      repeat (go_big_quiet_step (fail))
      go_big_quiet_step ((go_at_call 78; exact ext_of (HL2.out _)))
      repeat (go_big_quiet_step (fail))
      refine wpQuiet_nil ?_
      rintro _ ⟨y, rfl⟩
      clear X0 X1 X2 X3 X4 X5 X6 X7 M0 M1 N0 N1 Y0 Y1 HL1 HL2
      have hb7 := y.bel
      generalize y.w = w7 at hb7 ⊢
      have hB7 := hB6.trans (hb7.mono hB6.size)
      have R2 := R1.keep hb7
      have r0 := R2.cell 0
      have r1 := R2.cell 1
      have r2 := R2.fz 0
      have r3 := R2.fz 1
      have rl := R2.lt
      simp at r0 r1
      go_wp2_with fail
      refine bodyPost_ret (v := pointV ((rlo, -rhi), 0)) (by simp [pointV, results, Try.results30, go_sem, r0, r1]) rfl ⟨by first | (rw [HR.out]; done) | (rw [HR.out]; rfl), ?_⟩
      repeat (first | exact hB7 | refine Below.setCell ?_ (by simp <;> omega) _ | refine below_drewN ?_ _)
  · have hok' : s.ok = false := by simpa using hok
    have HR := Lib.hid (show reachR s (wx, wy) = ((0, 0), 60) by simp [reachR, hok'])
    rw [show checkE s = 60 by simp [checkE, hok']]
    go_wp2_with fail
    refine bodyPost_ret (v := pointV ((0, 0), 60)) (by simp [pointV, results, Try.results30, go_sem, r0, r1]) rfl ⟨by first | (rw [HR.out]; done) | (rw [HR.out]; rfl), ?_⟩
    repeat (first | exact hB1 | refine Below.setCell ?_ (by simp <;> omega) _)

end Go.Proofs.Ythmngnfdfelkeaa
