/-
  What is proved: the contract of the reference's Apart.
-/
import Derived.Test.YthmngnfdfelkeaaRLeast
import Derived.Test.YthmngnfdfelkeaaRMom
import Derived.Test.YthmngnfdfelkeaaRApartP
namespace Go.Proofs.Ythmngnfdfelkeaa
open Go.RowKit
attribute [local go_sem ↓] max_int min_int

set_option maxRecDepth 100000 in
set_option maxHeartbeats 8000000 in
theorem apartF_any (s : Stn) (z : Loc) (w : World) (hs : StAt w s z) :
    Calls Try.prog 32 #[s.val z] w fun e w' => e = .returned (pointV (apartR s)) ∧ Below w.heap.size w w' := by
  have HC : Hid (∀ W, StAt W s z → Calls Try.prog 51 #[.agg (s.cells z)] W fun e w' => e = .returned (.int .i64 (checkE s)) ∧ Below W.heap.size W w') := fun W h => rcheck_any s z W h
  have HM : Hid (∀ W, StAt W s z → s.ok = true → Calls Try.prog 77 #[.agg (s.cells z)] W fun e w' => e = .returned (.agg #[.int .i64 (momX s s.f.kinds.length), .int .i64 (momY s s.f.kinds.length)]) ∧ Below W.heap.size W w') := fun W h h2 => rmoment_any s z W h h2
  have HBX : Hid (∀ W, StAt W s z → s.ok = true → Calls Try.prog 76 #[.agg (s.cells z)] W fun e w' => ∃ A1 A2 c1 c2, e = .returned (.tuple #[.slice A1 s.pockets.length c1, .slice A2 s.pockets.length c2]) ∧ RowAt w' A1 (intCells (boxLo s)) ∧ RowAt w' A2 (intCells (boxHi s)) ∧ Below W.heap.size W w') := fun W h h2 => rbox_any s z W h h2
  have X0 : Bk ((w.alloc (.cells (s.cells z) 28)).alloc (.cells #[.int .i64 0, .int .i64 0] 43)) w.heap.size 28 (s.cells z) := (bk_last rfl).alloc _
  have R0 : Bk ((w.alloc (.cells (s.cells z) 28)).alloc (.cells #[.int .i64 0, .int .i64 0] 43)) (w.heap.size + 1) 43 #[.int .i64 0, .int .i64 0] := bk_last (by simp)
  have hB : Below w.heap.size w ((w.alloc (.cells (s.cells z) 28)).alloc (.cells #[.int .i64 0, .int .i64 0] 43)) := ((Below.refl _ _).alloc (Nat.le_refl _) _).alloc (by simp) _
  have hs1 := (hs.alloc (.cells (s.cells z) 28)).alloc (.cells #[.int .i64 0, .int .i64 0] 43)
  unfold Stn.cells at HC HM HBX X0 R0 hB hs1
  unfold Stn.val Stn.cells
  go_enter Try.func32, Try.ntmps32
  go_wp2_with fail
  generalize (w.alloc (.cells _ 28)).alloc (.cells _ 43) = V at *
  refine (HC.out _ hs1).mono ?_
  rintro e w1 ⟨rfl, hb1⟩
  have hB1 := hB.trans (hb1.mono hB.size)
  have X1 : Bk w1 w.heap.size 28 (s.cells z) := X0.keep hb1
  have R1 := R0.keep hb1
  have hs2 := hs1.below hb1
  clear X0 R0 hB hs1 HC hb1
  obtain ⟨x0, x1, x2, x3, x4, x5, x6, x7⟩ := stn_cell0 X1
  by_cases hok : s.ok = true
  · rw [show checkE s = 0 by simp [checkE, hok]]
    have HK := Lib.hid hok
    clear hok
    go_wp2_with fail
    refine (HBX.out _ hs2 HK.out).mono ?_
    rintro e w3 ⟨A1, A2, c1, c2, rfl, h1, h2, hb3⟩
    have hB3 := hB1.trans (hb3.mono hB1.size)
    replace X1 := X1.keep hb3
    replace R1 := R1.keep hb3
    replace hs2 := hs2.below hb3
    clear hB1 hb3 HBX x0 x1 x2 x3 x4 x5 x6 x7
    obtain ⟨x0, x1, x2, x3, x4, x5, x6, x7⟩ := stn_cell0 X1
    go_wp2_with fail
    refine (HM.out _ hs2 HK.out).mono ?_
    rintro e w4 ⟨rfl, hb4⟩
    have hB4 := hB3.trans (hb4.mono hB3.size)
    replace X1 := X1.keep hb4
    replace R1 := R1.keep hb4
    replace hs2 := hs2.below hb4
    replace h1 := h1.below hb4
    replace h2 := h2.below hb4
    clear hB3 hb4 HM x0 x1 x2 x3 x4 x5 x6 x7
    have hB5 := hB4.alloc hB4.size (.cells #[.int .i64 (momX s s.f.kinds.length), .int .i64 (momY s s.f.kinds.length)] 43)
    have M1 : Bk (w4.alloc (.cells #[.int .i64 (momX s s.f.kinds.length), .int .i64 (momY s s.f.kinds.length)] 43)) w4.heap.size 43 #[.int .i64 (momX s s.f.kinds.length), .int .i64 (momY s s.f.kinds.length)] := bk_last rfl
    replace X1 := X1.alloc (.cells #[.int .i64 (momX s s.f.kinds.length), .int .i64 (momY s s.f.kinds.length)] 43)
    replace R1 := R1.alloc (.cells #[.int .i64 (momX s s.f.kinds.length), .int .i64 (momY s s.f.kinds.length)] 43)
    replace hs2 := hs2.alloc (.cells #[.int .i64 (momX s s.f.kinds.length), .int .i64 (momY s s.f.kinds.length)] 43)
    replace h1 := h1.alloc (.cells #[.int .i64 (momX s s.f.kinds.length), .int .i64 (momY s s.f.kinds.length)] 43)
    replace h2 := h2.alloc (.cells #[.int .i64 (momX s s.f.kinds.length), .int .i64 (momY s s.f.kinds.length)] 43)
    clear hB4
    go_upto_region 7 with fail
    generalize w4.alloc (.cells #[.int .i64 (momX s s.f.kinds.length), .int .i64 (momY s s.f.kinds.length)] 43) = w5 at *
    generalize w4.heap.size = gm at *
    have hok := HK.out
    have hbx := high_ok hok
    have hpl := (stn_ok hok).2.2.2.2.1
    rw [← take_low s hpl] at h1
    rw [← take_high s hpl] at h2
    have HL : Hid (∀ (x : Int × Int) (p : WayOk x) W, Below w5.heap.size w5 W → Calls Try.prog 82 #[.agg (s.cells z), .agg #[.int .i64 (momX s s.f.kinds.length), .int .i64 (momY s s.f.kinds.length)], .agg #[.int .i64 x.1, .int .i64 x.2], .slice A1 s.pockets.length c1, .slice A2 s.pockets.length c2] W
        fun e w' => e = .returned (.bool (farB s ⟨x, p⟩)) ∧ Below W.heap.size W w') := fun x p W hW => rapart_any s z _ _ x A1 A2 c1 c2 W (hs2.below hW) hok p hbx (h1.below hW) (h2.below hW)
    have HR : Hid (∀ x, wayL.find? (farB s) = some x → apartR s = (x.1, 0)) := fun x hx => by simp [apartR, hok, hx]
    have HN : Hid (wayL.find? (farB s) = none → apartR s = ((0, 0), 3)) := fun hx => by simp [apartR, hok, hx]
    clear hok hbx hpl h1 h2 HK
    unfold Stn.cells at HL
    generalize momX s s.f.kinds.length = mx at *
    generalize momY s s.f.kinds.length = my at *
    have HW := Lib.hid (And.intro X1 (And.intro M1 (And.intro R1 hB5)))
    clear X1 M1 R1 hB5 hs2
    go_loopw [8] (fun i wr => ∃ k : Nat, k ≤ 200 ∧ i = .int .i64 ((k : Int) + 1) ∧ (∀ y ∈ preS k, farB s y = false) ∧ Below w5.heap.size w5 wr) (fun i _ => 201 - (intOf i).toNat)
    case atStart => exact ⟨0, by omega, rfl, by simp [preS], Below.refl _ _⟩
    case round =>
      obtain ⟨k, hk, rfl, hJ1, hB1⟩ := hrel
      rcases Nat.lt_or_ge k 200 with hk2 | hk2
      · have hmin : min ((k : Int) + 1) 100 = ((min (k + 1) 100 : Nat) : Int) := by omega
        have hmax : max (-((k : Int) + 1)) (-100) = -((min (k + 1) 100 : Nat) : Int) := by omega
        have hm1 : 1 ≤ min (k + 1) 100 ∧ min (k + 1) 100 ≤ 100 ∧ min (k + 1) 100 ≤ k + 1 := by omega
        generalize hM : min (k + 1) 100 = M at *
        have hkI : (k : Int) + 1 ≤ 200 := by omega
        have HJ1 := Lib.hid (And.intro hJ1 hB1)
        clear hJ1 hB1
        go_upto_region 10 with fail
        go_loopw [9] (fun x wr => ∃ j : Nat, j ≤ 2 * M + 1 ∧ x = .int .i64 ((j : Int) - M) ∧ (∀ y ∈ preS k ++ preX (k + 1) j, farB s y = false) ∧ Below w5.heap.size w5 wr) (fun x _ => (M + 1 - intOf x).toNat)
        case atStart => exact ⟨0, by omega, by go_num, by simpa [preX] using HJ1.out.1, HJ1.out.2⟩
        case round =>
          clear HJ1
          obtain ⟨j, hj, rfl, hJ2, hB2⟩ := hrel
          rcases Nat.lt_or_ge j (2 * M + 1) with hj2 | hj2
          · obtain ⟨r, hr⟩ : ∃ r : Nat, k + 1 = r + ((j : Int) - M).natAbs := ⟨k + 1 - ((j : Int) - M).natAbs, by omega⟩
            have hrx : RowX k j ((j : Int) - M) r := ⟨hk2, by rw [hM]; exact hj2, by rw [hM], hr⟩
            have hrI : (k : Int) + 1 - (((j : Int) - M).natAbs : Int) = (r : Int) := by omega
            have HS : Hid (∀ W, Calls Try.prog 81 #[.int .i64 ((j : Int) - M)] W fun e w' => e = .returned (.int .i64 (((j : Int) - M).natAbs : Int)) ∧ W = w') := fun W => rsize_any _ W (by omega)
            have hjI : (j : Int) - M ≤ M := by omega
            have hja : ((((j : Int) - M).natAbs : Nat) : Int) ≤ 200 := by omega
            have hxb : -100 ≤ (j : Int) - M ∧ (j : Int) - M ≤ 100 := by omega
            have hnx : (((j + 1 : Nat) : Int) - M) = (j : Int) - M + 1 := by omega
            have hms : (M + 1 - ((j : Int) - M + 1)).toNat < (M + 1 - ((j : Int) - M)).toNat := by omega
            have HMS := Lib.hid (And.intro hms hnx)
            have HX := Lib.hid (And.intro hrx (And.intro hJ2 hB2))
            have hrr : (r : Int) ≤ 200 := by omega
            clear hms hnx hr hrx hJ2 hB2
            generalize hxx : (j : Int) - M = x at *
            generalize (x.natAbs : Int) = ax at *
            rcases Nat.lt_or_ge 100 r with h100 | h100
            · have h100I : (100 : Int) < r := by omega
              go_wp2_with (go_at_call 81; refine (HS.out _).mono ?_; rintro e w' ⟨rfl, rfl⟩)
              go_roundw
              case rel => exact ⟨j + 1, by omega, by rw [HMS.out.2], row_skip HX.out.1 HX.out.2.1 h100, HX.out.2.2⟩
              case measure => simpa [intOf] using HMS.out.1
            · have h100I : ¬ (100 : Int) < r := by omega
              have h100I2 : (r : Int) ≤ 100 := by omega
              have p : WayOk (x, -(r : Int)) := by simp only [WayOk]; omega
              have q : WayOk (x, (r : Int)) := by simp only [WayOk]; omega
              have HP : Hid (∀ W, Below w5.heap.size w5 W → Calls Try.prog 82 #[.agg #[.int .i64 s.f.eye, .int .i64 s.f.rings, .int .i64 s.f.sec, .slice z.a1 s.f.kinds.length z.c1, .slice z.a2 s.heights.length z.c2, .slice z.a3 s.compass.length z.c3, .slice z.a4 s.pockets.length z.c4, .int .i64 s.tol], .agg #[.int .i64 mx, .int .i64 my], .agg #[.int .i64 x, .int .i64 (-(r : Int))], .slice A1 s.pockets.length c1, .slice A2 s.pockets.length c2] W
                fun e w' => e = .returned (.bool (farB s ⟨(x, -(r : Int)), p⟩)) ∧ Below W.heap.size W w') := fun W h => HL.out (x, -(r : Int)) p W h
              have HQ : Hid (∀ W, Below w5.heap.size w5 W → Calls Try.prog 82 #[.agg #[.int .i64 s.f.eye, .int .i64 s.f.rings, .int .i64 s.f.sec, .slice z.a1 s.f.kinds.length z.c1, .slice z.a2 s.heights.length z.c2, .slice z.a3 s.compass.length z.c3, .slice z.a4 s.pockets.length z.c4, .int .i64 s.tol], .agg #[.int .i64 mx, .int .i64 my], .agg #[.int .i64 x, .int .i64 (r : Int)], .slice A1 s.pockets.length c1, .slice A2 s.pockets.length c2] W
                fun e w' => e = .returned (.bool (farB s ⟨(x, (r : Int)), q⟩)) ∧ Below W.heap.size W w') := fun W h => HL.out (x, (r : Int)) q W h
              have H1 : Hid (farB s ⟨(x, -(r : Int)), p⟩ = true → apartR s = ((x, -(r : Int)), 0)) := fun h => HR.out _ (row_first HX.out.1 HX.out.2.1 (by omega) p h)
              have H2 : Hid (farB s ⟨(x, -(r : Int)), p⟩ = false → farB s ⟨(x, (r : Int)), q⟩ = true → apartR s = ((x, (r : Int)), 0)) := fun h h' => HR.out _ (row_second HX.out.1 HX.out.2.1 (by omega) p q h h')
              have H3 : Hid (farB s ⟨(x, -(r : Int)), p⟩ = false → farB s ⟨(x, (r : Int)), q⟩ = false → ∀ y ∈ preS k ++ preX (k + 1) (j + 1), farB s y = false) := fun h h' => row_none HX.out.1 HX.out.2.1 (by omega) p q h h'
              have hB2 := HX.out.2.2
              have hgl := HW.out.1.lt
              have hml := HW.out.2.1.lt
              have hrl := HW.out.2.2.1.lt
              obtain ⟨x0, x1, x2, x3, x4, x5, x6, x7⟩ := stn_cell0 (HW.out.1.keep hB2)
              have m0 := (HW.out.2.1.keep hB2).cell 0
              have m1 := (HW.out.2.1.keep hB2).cell 1
              simp at m0 m1
              have HB2 := Lib.hid hB2
              clear HX hB2
              generalize farB s ⟨(x, -(r : Int)), p⟩ = f1 at *
              generalize farB s ⟨(x, (r : Int)), q⟩ = f2 at *
              cases f1
              · go_upto_region 16 with (first | (go_at_call 81; refine (HS.out _).mono ?_; rintro e w' ⟨rfl, rfl⟩) | (go_at_call 82; refine (HP.out _ HB2.out).mono ?_; rintro e w8 ⟨rfl, hb8⟩))
                have hB8 := HB2.out.trans (hb8.mono HB2.out.size)
                clear x0 x1 x2 x3 x4 x5 x6 x7 m0 m1
                obtain ⟨x0, x1, x2, x3, x4, x5, x6, x7⟩ := stn_cell0 (HW.out.1.keep hB8)
                have m0 := (HW.out.2.1.keep hB8).cell 0
                have m1 := (HW.out.2.1.keep hB8).cell 1
                simp at m0 m1
                have HB8 := Lib.hid hB8
                clear hB8
                cases f2
                · go_wp2_with (go_at_call 82; refine (HQ.out _ HB8.out).mono ?_; rintro e w9 ⟨rfl, hb9⟩)
                  go_roundw
                  case rel => exact ⟨j + 1, by omega, by rw [HMS.out.2], H3.out (by trivial) (by trivial), HB8.out.trans (hb9.mono HB8.out.size)⟩
                  case measure => simpa [intOf] using HMS.out.1
                · go_upto_region 17 with (go_at_call 82; refine (HQ.out _ HB8.out).mono ?_; rintro e w9 ⟨rfl, hb9⟩)
                  have hB9 := HB8.out.trans (hb9.mono HB8.out.size)
                  have R9 := HW.out.2.2.1.keep hB9
                  have hBf := HW.out.2.2.2.trans (hB9.mono HW.out.2.2.2.size)
                  have r0 := R9.cell 0
                  have r1 := R9.cell 1
                  have r2 := R9.fz 0
                  have r3 := R9.fz 1
                  have rl := R9.lt
                  simp at r0 r1
                  have HAP := Lib.hid (H2.out (by trivial) (by trivial))
                  clear x0 x1 x2 x3 x4 x5 x6 x7 m0 m1
                  go_wp2_with fail
                  refine bodyPost_ret (v := pointV ((x, (r : Int)), 0)) (by simp [pointV, results, Try.results32, go_sem, r0, r1]) rfl ⟨by first | (rw [HAP.out]; done) | (rw [HAP.out]; rfl), ?_⟩
                  repeat (first | exact hBf | refine Below.setCell ?_ (by simp <;> omega) _)
              · go_upto_region 15 with (first | (go_at_call 81; refine (HS.out _).mono ?_; rintro e w' ⟨rfl, rfl⟩) | (go_at_call 82; refine (HP.out _ HB2.out).mono ?_; rintro e w8 ⟨rfl, hb8⟩))
                have hB8 := HB2.out.trans (hb8.mono HB2.out.size)
                have R9 := HW.out.2.2.1.keep hB8
                have hBf := HW.out.2.2.2.trans (hB8.mono HW.out.2.2.2.size)
                have r0 := R9.cell 0
                have r1 := R9.cell 1
                have r2 := R9.fz 0
                have r3 := R9.fz 1
                have rl := R9.lt
                simp at r0 r1
                have HAP := Lib.hid (H1.out (by trivial))
                clear x0 x1 x2 x3 x4 x5 x6 x7 m0 m1
                go_wp2_with fail
                refine bodyPost_ret (v := pointV ((x, -(r : Int)), 0)) (by simp [pointV, results, Try.results32, go_sem, r0, r1]) rfl ⟨by first | (rw [HAP.out]; done) | (rw [HAP.out]; rfl), ?_⟩
                repeat (first | exact hBf | refine Below.setCell ?_ (by simp <;> omega) _)
          · obtain rfl : j = 2 * M + 1 := by omega
            have hex : (((2 * M + 1 : Nat) : Int) - M) = (M : Int) + 1 := by omega
            rw [hex]
            have hex2 : ¬ ((M : Int) + 1 ≤ M) := by omega
            have HE : Hid (∀ y ∈ preS (k + 1), farB s y = false) := by
              have e : preS (k + 1) = preS k ++ preX (k + 1) (2 * M + 1) := by rw [preS_succ, hM]
              rw [e]; exact hJ2
            have HB := Lib.hid hB2
            clear hJ2 hB2
            go_wp2_with fail
            go_roundw
            case rel => exact ⟨k + 1, by omega, by go_num, HE.out, HB.out⟩
            case measure => simp [intOf]; omega
      · obtain rfl : k = 200 := by omega
        have HAP := Lib.hid (HN.out (List.find?_eq_none.2 (fun y hy => by rw [hJ1 y hy]; simp)))
        have R9 := HW.out.2.2.1.keep hB1
        have hBf := HW.out.2.2.2.trans (hB1.mono HW.out.2.2.2.size)
        have r0 := R9.cell 0
        have r1 := R9.cell 1
        have r2 := R9.fz 0
        have r3 := R9.fz 1
        have rl := R9.lt
        simp at r0 r1
        clear hJ1 hB1
        go_wp2_with fail
        refine bodyPost_ret (v := pointV ((0, 0), 3)) (by simp [pointV, results, Try.results32, go_sem, r0, r1]) rfl ⟨by first | (rw [HAP.out]; done) | (rw [HAP.out]; rfl), ?_⟩
        repeat (first | exact hBf | refine Below.setCell ?_ (by simp <;> omega) _)
  · have hok' : s.ok = false := by simpa using hok
    have HR := Lib.hid (show apartR s = ((0, 0), 60) by simp [apartR, hok'])
    have r0 := R1.cell 0
    have r1 := R1.cell 1
    have r2 := R1.fz 0
    have r3 := R1.fz 1
    have rl := R1.lt
    simp at r0 r1
    rw [show checkE s = 60 by simp [checkE, hok']]
    go_wp2_with fail
    refine bodyPost_ret (v := pointV ((0, 0), 60)) (by simp [pointV, results, Try.results32, go_sem, r0, r1]) rfl ⟨by first | (rw [HR.out]; done) | (rw [HR.out]; rfl), ?_⟩
    repeat (first | exact hB1 | refine Below.setCell ?_ (by simp <;> omega) _)

end Go.Proofs.Ythmngnfdfelkeaa
