/-
  What is proved: the contract of (proof).check, of the reference.
-/
import Derived.Test.YthmngnfdfelkeaaTBranchMg
import Derived.Test.YthmngnfdfelkeaaMg24
namespace Go.Proofs.Ythmngnfdfelkeaa
open Go.RowKit
attribute [local go_sem ↓] max_int min_int

theorem sumF_take {s : Stn} (h : s.ok = true) {lo hi : List Int} (hb : BoxIn s lo hi) : sumF (lo.take s.pockets.length) s.pockets.length = sumF lo 8 := by
  rw [hb.sum h]
  exact sumF_congr _ (fun i hi => getD_take lo hi)

set_option maxRecDepth 100000 in
set_option maxHeartbeats 16000000 in
theorem chk_any (s : Stn) (z : Loc) (sum : Int) (hok : s.ok = true) : ∀ (n : Nat) (t : Tr), sizeT t ≤ n → sizeT t ≤ 1000000000 → ChkAt s z sum n t := by
  intro n
  induction n with
  | zero => intro t h; have := sizeT_pos t; omega
  | succ n ih =>
    intro t hn hszz q lo hi A1 A2 c1 c2 w hbx ht hs h1 h2
    obtain ⟨k, p, a, ⟨wx, wy⟩, A, c, kids⟩ := t
    have hpl := (stn_ok hok).2.2.2.2.1
    have E43 := eq43
    have HBR : Hid (k = 3 → ∀ W, Below w.heap.size w W → Calls Try.prog 128 #[.agg (proofA s z sum), .agg #[.int .i64 k, .int .i64 p, .int .i64 a, .int .i64 wx, .int .i64 wy, .slice A kids.length c], .slice A1 s.pockets.length c1, .slice A2 s.pockets.length c2] W fun e w' => e = .returned (.tuple #[.int .i64 (checkR s sum (n + 1) (.mk k p a (wx, wy) A c kids) lo hi).1, .bool (checkR s sum (n + 1) (.mk k p a (wx, wy) A c kids) lo hi).2]) ∧ Below W.heap.size W w') := fun hk W h => by
      subst hk
      exact branch_any s z sum hok n p a wx wy A c kids (fun t ht' => ih t (by have := sizeL_mem ht'; simp only [sizeT] at hn; omega) (by have := sizeL_mem ht'; simp only [sizeT] at hszz; omega)) hszz q lo hi A1 A2 c1 c2 W hbx (ht.keep h) (hs.below h) (h1.below h) (h2.below h)
    have H63 : Hid (∀ W, Below w.heap.size w W → Calls Try.prog 63 #[.slice A1 s.pockets.length c1] W fun e w' => e = .returned (.int .i64 (sumF lo 8)) ∧ W = w') := fun W h => by
      have hl : (lo.take s.pockets.length).length = s.pockets.length := by rw [List.length_take, hbx.1]; omega
      have hh := rsum_any A1 c1 (lo.take s.pockets.length) W (h1.below h) (by omega) (fun x hx => by
        obtain ⟨i, hi, rfl⟩ := List.getElem_of_mem (List.mem_of_mem_take hx)
        have := (hbx.ok hok).2.2 i (by rw [hbx.1] at hi; exact hi)
        rw [getD_get _ _ hi] at this
        omega)
      rw [hl, sumF_take hok hbx] at hh
      exact hh
    have H75 : Hid (∀ W, Calls Try.prog 75 #[.agg #[.int .i64 wx, .int .i64 wy]] W fun e w' => e = .returned (.bool (wayB (wx, wy))) ∧ Below W.heap.size W w') := fun W => risWay_any wx wy W
    obtain ⟨mx, hmx⟩ : ∃ mx, momX s s.f.kinds.length = mx := ⟨_, rfl⟩
    obtain ⟨my, hmy⟩ : ∃ my, momY s s.f.kinds.length = my := ⟨_, rfl⟩
    have H82 : Hid (wayB (wx, wy) = true → ∀ W, Below w.heap.size w W → Calls Try.prog 82 #[.agg #[.int .i64 s.f.eye, .int .i64 s.f.rings, .int .i64 s.f.sec, .slice z.a1 s.f.kinds.length z.c1, .slice z.a2 s.heights.length z.c2, .slice z.a3 s.compass.length z.c3, .slice z.a4 s.pockets.length z.c4, .int .i64 s.tol], .agg #[.int .i64 mx, .int .i64 my], .agg #[.int .i64 wx, .int .i64 wy], .slice A1 s.pockets.length c1, .slice A2 s.pockets.length c2] W fun e w' => e = .returned (.bool (apartB s (wx, wy) lo hi)) ∧ Below W.heap.size W w') := fun hw W h => by
      rw [← hmx, ← hmy]
      exact rapart_any s z lo hi (wx, wy) A1 A2 c1 c2 W (hs.below h) hok (wayB_ok hw) (hbx.ok hok) (h1.below h) (h2.below h)
    have hpe : proofA s z sum = #[.int .i64 s.f.eye, .int .i64 s.f.rings, .int .i64 s.f.sec, .slice z.a1 s.f.kinds.length z.c1, .slice z.a2 s.heights.length z.c2, .slice z.a3 s.compass.length z.c3, .slice z.a4 s.pockets.length z.c4, .int .i64 s.tol, .int .i64 mx, .int .i64 my, .int .i64 sum] := by rw [proofA, hmx, hmy]; rfl
    rw [hpe] at HBR ⊢
    clear hmx hmy hpe hbx ht hs h1 h2 hn hszz ih
    obtain ⟨U, hU⟩ : ∃ U, (w.alloc (.cells #[.int .i64 s.f.eye, .int .i64 s.f.rings, .int .i64 s.f.sec, .slice z.a1 s.f.kinds.length z.c1, .slice z.a2 s.heights.length z.c2, .slice z.a3 s.compass.length z.c3, .slice z.a4 s.pockets.length z.c4, .int .i64 s.tol, .int .i64 mx, .int .i64 my, .int .i64 sum] 138)).alloc (.cells #[.int .i64 k, .int .i64 p, .int .i64 a, .int .i64 wx, .int .i64 wy, .slice A kids.length c] 49) = U := ⟨_, rfl⟩
    have B4 : Bk U w.heap.size 138 #[.int .i64 s.f.eye, .int .i64 s.f.rings, .int .i64 s.f.sec, .slice z.a1 s.f.kinds.length z.c1, .slice z.a2 s.heights.length z.c2, .slice z.a3 s.compass.length z.c3, .slice z.a4 s.pockets.length z.c4, .int .i64 s.tol, .int .i64 mx, .int .i64 my, .int .i64 sum] := by rw [← hU]; exact (bk_last rfl).alloc _
    have B5 : Bk U (w.heap.size + 1) 49 #[.int .i64 k, .int .i64 p, .int .i64 a, .int .i64 wx, .int .i64 wy, .slice A kids.length c] := by rw [← hU]; exact bk_last (by simp)
    have hB : Below w.heap.size w U := by rw [← hU]; exact ((Below.refl _ _).alloc (Nat.le_refl _) _).alloc (by simp) _
    have HU := Lib.hid hU
    clear hU
    show Calls Try.prog 104 #[.agg #[.int .i64 s.f.eye, .int .i64 s.f.rings, .int .i64 s.f.sec, .slice z.a1 s.f.kinds.length z.c1, .slice z.a2 s.heights.length z.c2, .slice z.a3 s.compass.length z.c3, .slice z.a4 s.pockets.length z.c4, .int .i64 s.tol, .int .i64 mx, .int .i64 my, .int .i64 sum], .agg #[.int .i64 k, .int .i64 p, .int .i64 a, .int .i64 wx, .int .i64 wy, .slice A kids.length c], .slice A1 s.pockets.length c1, .slice A2 s.pockets.length c2] w _
    by_cases e1 : k = 1
    · subst e1
      have hc : checkR s sum (n + 1) (.mk 1 p a (wx, wy) A c kids) lo hi = (1, p == 0 && (a == 0 && ((wx == 0 && wy == 0) && ((kids.length : Int) == 0 && decide (sum ≤ sumF lo 8))))) := rfl
      clear HBR H75 H82
      cases f0 : (p == 0)
      · skip
        rw [f0] at hc
        have HC := Lib.hid hc
        clear hc
        generalize sumF lo 8 = S8 at *
        go_enter Try.func104, Try.ntmps104
        go_upto_region 1 with fail
        rw [HU.out]
        clear HU
        have t0 := B5.cell 0
        have t1 := B5.cell 1
        have t2 := B5.cell 2
        have t3 := B5.cell 3
        have t4 := B5.cell 4
        have t5 := B5.cell 5
        simp at t0 t1 t2 t3 t4 t5
        go_upto_region 3 with fail
        have m10 := B4.cell 10
        simp at m10
        replace t0 := fun x : Ext U => keepc x.bel t0
        replace t1 := fun x : Ext U => keepc x.bel t1
        replace t2 := fun x : Ext U => keepc x.bel t2
        replace t3 := fun x : Ext U => keepc x.bel t3
        replace t4 := fun x : Ext U => keepc x.bel t4
        replace t5 := fun x : Ext U => keepc x.bel t5
        replace m10 := fun x : Ext U => keepc x.bel m10
        have HT : Hid (∀ x : Ext U, Calls Try.prog 63 #[.slice A1 s.pockets.length c1] x.w fun e w' => e = .returned (.int .i64 S8) ∧ x.w = w') := fun x => H63.out x.w (hB.trans (x.bel.mono hB.size))
        clear H63
        refine wp_region_ext (by kernel_rfl) (by kernel_rfl) ?_
        repeat (go_big_quiet_step ((go_at_call 63; exact ext_same (HT.out _))))
        refine wpQuiet_nil ?_
        rintro _ ⟨yy, rfl⟩
        clear t0 t1 t2 t3 t4 t5 m10 HT
        have hb2 := yy.bel
        generalize yy.w = w2 at hb2 ⊢
        replace hB := hB.trans (hb2.mono hB.size)
        clear hb2
        go_wp2_with fail
        go_ret2
        exact ⟨by rw [HC.out]; rfl, hB⟩
      · skip
        cases f1 : (a == 0)
        · skip
          rw [f0, f1] at hc
          have HC := Lib.hid hc
          clear hc
          generalize sumF lo 8 = S8 at *
          go_enter Try.func104, Try.ntmps104
          go_upto_region 1 with fail
          rw [HU.out]
          clear HU
          have t0 := B5.cell 0
          have t1 := B5.cell 1
          have t2 := B5.cell 2
          have t3 := B5.cell 3
          have t4 := B5.cell 4
          have t5 := B5.cell 5
          simp at t0 t1 t2 t3 t4 t5
          go_upto_region 3 with fail
          have m10 := B4.cell 10
          simp at m10
          replace t0 := fun x : Ext U => keepc x.bel t0
          replace t1 := fun x : Ext U => keepc x.bel t1
          replace t2 := fun x : Ext U => keepc x.bel t2
          replace t3 := fun x : Ext U => keepc x.bel t3
          replace t4 := fun x : Ext U => keepc x.bel t4
          replace t5 := fun x : Ext U => keepc x.bel t5
          replace m10 := fun x : Ext U => keepc x.bel m10
          have HT : Hid (∀ x : Ext U, Calls Try.prog 63 #[.slice A1 s.pockets.length c1] x.w fun e w' => e = .returned (.int .i64 S8) ∧ x.w = w') := fun x => H63.out x.w (hB.trans (x.bel.mono hB.size))
          clear H63
          refine wp_region_ext (by kernel_rfl) (by kernel_rfl) ?_
          repeat (go_big_quiet_step ((go_at_call 63; exact ext_same (HT.out _))))
          refine wpQuiet_nil ?_
          rintro _ ⟨yy, rfl⟩
          clear t0 t1 t2 t3 t4 t5 m10 HT
          have hb2 := yy.bel
          generalize yy.w = w2 at hb2 ⊢
          replace hB := hB.trans (hb2.mono hB.size)
          clear hb2
          go_wp2_with fail
          go_ret2
          exact ⟨by rw [HC.out]; rfl, hB⟩
        · skip
          cases f2 : (wx == 0 && wy == 0)
          · skip
            rw [f0, f1, f2] at hc
            have HC := Lib.hid hc
            clear hc
            generalize sumF lo 8 = S8 at *
            go_enter Try.func104, Try.ntmps104
            go_upto_region 1 with fail
            rw [HU.out]
            clear HU
            have t0 := B5.cell 0
            have t1 := B5.cell 1
            have t2 := B5.cell 2
            have t3 := B5.cell 3
            have t4 := B5.cell 4
            have t5 := B5.cell 5
            simp at t0 t1 t2 t3 t4 t5
            go_upto_region 3 with fail
            have m10 := B4.cell 10
            simp at m10
            replace t0 := fun x : Ext U => keepc x.bel t0
            replace t1 := fun x : Ext U => keepc x.bel t1
            replace t2 := fun x : Ext U => keepc x.bel t2
            replace t3 := fun x : Ext U => keepc x.bel t3
            replace t4 := fun x : Ext U => keepc x.bel t4
            replace t5 := fun x : Ext U => keepc x.bel t5
            replace m10 := fun x : Ext U => keepc x.bel m10
            have HT : Hid (∀ x : Ext U, Calls Try.prog 63 #[.slice A1 s.pockets.length c1] x.w fun e w' => e = .returned (.int .i64 S8) ∧ x.w = w') := fun x => H63.out x.w (hB.trans (x.bel.mono hB.size))
            clear H63
            refine wp_region_ext (by kernel_rfl) (by kernel_rfl) ?_
            repeat (go_big_quiet_step ((go_at_call 63; exact ext_same (HT.out _))))
            refine wpQuiet_nil ?_
            rintro _ ⟨yy, rfl⟩
            clear t0 t1 t2 t3 t4 t5 m10 HT
            have hb2 := yy.bel
            generalize yy.w = w2 at hb2 ⊢
            replace hB := hB.trans (hb2.mono hB.size)
            clear hb2
            go_wp2_with fail
            go_ret2
            exact ⟨by rw [HC.out]; rfl, hB⟩
          · skip
            cases f3 : ((kids.length : Int) == 0)
            · skip
              rw [f0, f1, f2, f3] at hc
              have HC := Lib.hid hc
              clear hc
              generalize sumF lo 8 = S8 at *
              go_enter Try.func104, Try.ntmps104
              go_upto_region 1 with fail
              rw [HU.out]
              clear HU
              have t0 := B5.cell 0
              have t1 := B5.cell 1
              have t2 := B5.cell 2
              have t3 := B5.cell 3
              have t4 := B5.cell 4
              have t5 := B5.cell 5
              simp at t0 t1 t2 t3 t4 t5
              go_upto_region 3 with fail
              have m10 := B4.cell 10
              simp at m10
              replace t0 := fun x : Ext U => keepc x.bel t0
              replace t1 := fun x : Ext U => keepc x.bel t1
              replace t2 := fun x : Ext U => keepc x.bel t2
              replace t3 := fun x : Ext U => keepc x.bel t3
              replace t4 := fun x : Ext U => keepc x.bel t4
              replace t5 := fun x : Ext U => keepc x.bel t5
              replace m10 := fun x : Ext U => keepc x.bel m10
              have HT : Hid (∀ x : Ext U, Calls Try.prog 63 #[.slice A1 s.pockets.length c1] x.w fun e w' => e = .returned (.int .i64 S8) ∧ x.w = w') := fun x => H63.out x.w (hB.trans (x.bel.mono hB.size))
              clear H63
              refine wp_region_ext (by kernel_rfl) (by kernel_rfl) ?_
              repeat (go_big_quiet_step ((go_at_call 63; exact ext_same (HT.out _))))
              refine wpQuiet_nil ?_
              rintro _ ⟨yy, rfl⟩
              clear t0 t1 t2 t3 t4 t5 m10 HT
              have hb2 := yy.bel
              generalize yy.w = w2 at hb2 ⊢
              replace hB := hB.trans (hb2.mono hB.size)
              clear hb2
              go_wp2_with fail
              go_ret2
              exact ⟨by rw [HC.out]; rfl, hB⟩
            · skip
              cases hd : decide (sum ≤ sumF lo 8)
              · skip
                rw [f0, f1, f2, f3, hd] at hc
                have HC := Lib.hid hc
                clear hc
                have hd2 : decide (sumF lo 8 ≥ sum) = false := hd
                generalize sumF lo 8 = S8 at *
                go_enter Try.func104, Try.ntmps104
                go_upto_region 1 with fail
                rw [HU.out]
                clear HU
                have t0 := B5.cell 0
                have t1 := B5.cell 1
                have t2 := B5.cell 2
                have t3 := B5.cell 3
                have t4 := B5.cell 4
                have t5 := B5.cell 5
                simp at t0 t1 t2 t3 t4 t5
                go_upto_region 3 with fail
                have m10 := B4.cell 10
                simp at m10
                replace t0 := fun x : Ext U => keepc x.bel t0
                replace t1 := fun x : Ext U => keepc x.bel t1
                replace t2 := fun x : Ext U => keepc x.bel t2
                replace t3 := fun x : Ext U => keepc x.bel t3
                replace t4 := fun x : Ext U => keepc x.bel t4
                replace t5 := fun x : Ext U => keepc x.bel t5
                replace m10 := fun x : Ext U => keepc x.bel m10
                have HT : Hid (∀ x : Ext U, Calls Try.prog 63 #[.slice A1 s.pockets.length c1] x.w fun e w' => e = .returned (.int .i64 S8) ∧ x.w = w') := fun x => H63.out x.w (hB.trans (x.bel.mono hB.size))
                clear H63
                refine wp_region_ext (by kernel_rfl) (by kernel_rfl) ?_
                repeat (go_big_quiet_step ((go_at_call 63; exact ext_same (HT.out _))))
                refine wpQuiet_nil ?_
                rintro _ ⟨yy, rfl⟩
                clear t0 t1 t2 t3 t4 t5 m10 HT
                have hb2 := yy.bel
                generalize yy.w = w2 at hb2 ⊢
                replace hB := hB.trans (hb2.mono hB.size)
                clear hb2
                go_wp2_with fail
                go_ret2
                exact ⟨by rw [HC.out]; rfl, hB⟩
              · skip
                rw [f0, f1, f2, f3, hd] at hc
                have HC := Lib.hid hc
                clear hc
                have hd2 : decide (sumF lo 8 ≥ sum) = true := hd
                generalize sumF lo 8 = S8 at *
                go_enter Try.func104, Try.ntmps104
                go_upto_region 1 with fail
                rw [HU.out]
                clear HU
                have t0 := B5.cell 0
                have t1 := B5.cell 1
                have t2 := B5.cell 2
                have t3 := B5.cell 3
                have t4 := B5.cell 4
                have t5 := B5.cell 5
                simp at t0 t1 t2 t3 t4 t5
                go_upto_region 3 with fail
                have m10 := B4.cell 10
                simp at m10
                replace t0 := fun x : Ext U => keepc x.bel t0
                replace t1 := fun x : Ext U => keepc x.bel t1
                replace t2 := fun x : Ext U => keepc x.bel t2
                replace t3 := fun x : Ext U => keepc x.bel t3
                replace t4 := fun x : Ext U => keepc x.bel t4
                replace t5 := fun x : Ext U => keepc x.bel t5
                replace m10 := fun x : Ext U => keepc x.bel m10
                have HT : Hid (∀ x : Ext U, Calls Try.prog 63 #[.slice A1 s.pockets.length c1] x.w fun e w' => e = .returned (.int .i64 S8) ∧ x.w = w') := fun x => H63.out x.w (hB.trans (x.bel.mono hB.size))
                clear H63
                refine wp_region_ext (by kernel_rfl) (by kernel_rfl) ?_
                repeat (go_big_quiet_step ((go_at_call 63; exact ext_same (HT.out _))))
                refine wpQuiet_nil ?_
                rintro _ ⟨yy, rfl⟩
                clear t0 t1 t2 t3 t4 t5 m10 HT
                have hb2 := yy.bel
                generalize yy.w = w2 at hb2 ⊢
                replace hB := hB.trans (hb2.mono hB.size)
                clear hb2
                go_wp2_with fail
                go_ret2
                exact ⟨by rw [HC.out]; rfl, hB⟩
    · by_cases e2 : k = 2
      · subst e2
        have hc : checkR s sum (n + 1) (.mk 2 p a (wx, wy) A c kids) lo hi = (1, p == 0 && (a == 0 && ((kids.length : Int) == 0 && (wayB (wx, wy) && apartB s (wx, wy) lo hi)))) := rfl
        clear HBR H63 e1
        cases f0 : (p == 0)
        · skip
          rw [f0] at hc
          have HC := Lib.hid hc
          clear hc H82
          go_enter Try.func104, Try.ntmps104
          go_upto_region 1 with fail
          rw [HU.out]
          clear HU
          have t0 := B5.cell 0
          have t1 := B5.cell 1
          have t2 := B5.cell 2
          have t3 := B5.cell 3
          have t4 := B5.cell 4
          have t5 := B5.cell 5
          simp at t0 t1 t2 t3 t4 t5
          go_upto_region 5 with fail
          go_wp2_with fail
          go_ret2
          exact ⟨by rw [HC.out]; rfl, hB⟩
        · skip
          cases f1 : (a == 0)
          · skip
            rw [f0, f1] at hc
            have HC := Lib.hid hc
            clear hc H82
            go_enter Try.func104, Try.ntmps104
            go_upto_region 1 with fail
            rw [HU.out]
            clear HU
            have t0 := B5.cell 0
            have t1 := B5.cell 1
            have t2 := B5.cell 2
            have t3 := B5.cell 3
            have t4 := B5.cell 4
            have t5 := B5.cell 5
            simp at t0 t1 t2 t3 t4 t5
            go_upto_region 5 with fail
            go_wp2_with fail
            go_ret2
            exact ⟨by rw [HC.out]; rfl, hB⟩
          · skip
            cases f2 : ((kids.length : Int) == 0)
            · skip
              rw [f0, f1, f2] at hc
              have HC := Lib.hid hc
              clear hc H82
              go_enter Try.func104, Try.ntmps104
              go_upto_region 1 with fail
              rw [HU.out]
              clear HU
              have t0 := B5.cell 0
              have t1 := B5.cell 1
              have t2 := B5.cell 2
              have t3 := B5.cell 3
              have t4 := B5.cell 4
              have t5 := B5.cell 5
              simp at t0 t1 t2 t3 t4 t5
              go_upto_region 5 with fail
              go_wp2_with fail
              go_ret2
              exact ⟨by rw [HC.out]; rfl, hB⟩
            · skip
              cases f3 : wayB (wx, wy)
              · skip
                rw [f3] at H75
                rw [f0, f1, f2, f3] at hc
                have HC := Lib.hid hc
                clear hc H82
                go_enter Try.func104, Try.ntmps104
                go_upto_region 1 with fail
                rw [HU.out]
                clear HU
                have t0 := B5.cell 0
                have t1 := B5.cell 1
                have t2 := B5.cell 2
                have t3 := B5.cell 3
                have t4 := B5.cell 4
                have t5 := B5.cell 5
                simp at t0 t1 t2 t3 t4 t5
                go_upto_region 5 with fail
                go_wp2_with (go_at_call 75; refine (H75.out _).mono ?_; rintro e w2 ⟨rfl, hb2⟩)
                go_ret2
                exact ⟨by rw [HC.out]; rfl, hB.trans (hb2.mono hB.size)⟩
              · skip
                cases f4 : apartB s (wx, wy) lo hi
                · skip
                  have HA := Lib.hid (H82.out f3)
                  rw [f3] at H75
                  rw [f4] at HA
                  rw [f0, f1, f2, f3, f4] at hc
                  have HC := Lib.hid hc
                  clear hc H82
                  go_enter Try.func104, Try.ntmps104
                  go_upto_region 1 with fail
                  rw [HU.out]
                  clear HU
                  have t0 := B5.cell 0
                  have t1 := B5.cell 1
                  have t2 := B5.cell 2
                  have t3 := B5.cell 3
                  have t4 := B5.cell 4
                  have t5 := B5.cell 5
                  simp at t0 t1 t2 t3 t4 t5
                  go_upto_region 5 with fail
                  have m0 := B4.cell 0
                  have m1 := B4.cell 1
                  have m2 := B4.cell 2
                  have m3 := B4.cell 3
                  have m4 := B4.cell 4
                  have m5 := B4.cell 5
                  have m6 := B4.cell 6
                  have m7 := B4.cell 7
                  have m8 := B4.cell 8
                  have m9 := B4.cell 9
                  have m10 := B4.cell 10
                  simp at m0 m1 m2 m3 m4 m5 m6 m7 m8 m9 m10
                  clear m0 m1 m2 m3 m4 m5 m6 m7 m8 m9 m10
                  go_wp2_with (first
                    | (go_at_call 75; refine (H75.out _).mono ?_; rintro e w2 ⟨rfl, hb2⟩; have B4 := B4.keep hb2; have B5 := B5.keep hb2; have hB := hB.trans (hb2.mono hB.size); have m0 := B4.cell 0; have m1 := B4.cell 1; have m2 := B4.cell 2; have m3 := B4.cell 3; have m4 := B4.cell 4; have m5 := B4.cell 5; have m6 := B4.cell 6; have m7 := B4.cell 7; have m8 := B4.cell 8; have m9 := B4.cell 9; have s3 := B5.cell 3; have s4 := B5.cell 4; simp at m0 m1 m2 m3 m4 m5 m6 m7 m8 m9 s3 s4)
                    | (go_at_call 82; refine (HA.out _ hB).mono ?_; rintro e w3 ⟨rfl, hb3⟩))
                  go_ret2
                  exact ⟨by rw [HC.out]; rfl, hB.trans (hb3.mono hB.size)⟩
                · skip
                  have HA := Lib.hid (H82.out f3)
                  rw [f3] at H75
                  rw [f4] at HA
                  rw [f0, f1, f2, f3, f4] at hc
                  have HC := Lib.hid hc
                  clear hc H82
                  go_enter Try.func104, Try.ntmps104
                  go_upto_region 1 with fail
                  rw [HU.out]
                  clear HU
                  have t0 := B5.cell 0
                  have t1 := B5.cell 1
                  have t2 := B5.cell 2
                  have t3 := B5.cell 3
                  have t4 := B5.cell 4
                  have t5 := B5.cell 5
                  simp at t0 t1 t2 t3 t4 t5
                  go_upto_region 5 with fail
                  have m0 := B4.cell 0
                  have m1 := B4.cell 1
                  have m2 := B4.cell 2
                  have m3 := B4.cell 3
                  have m4 := B4.cell 4
                  have m5 := B4.cell 5
                  have m6 := B4.cell 6
                  have m7 := B4.cell 7
                  have m8 := B4.cell 8
                  have m9 := B4.cell 9
                  have m10 := B4.cell 10
                  simp at m0 m1 m2 m3 m4 m5 m6 m7 m8 m9 m10
                  clear m0 m1 m2 m3 m4 m5 m6 m7 m8 m9 m10
                  go_wp2_with (first
                    | (go_at_call 75; refine (H75.out _).mono ?_; rintro e w2 ⟨rfl, hb2⟩; have B4 := B4.keep hb2; have B5 := B5.keep hb2; have hB := hB.trans (hb2.mono hB.size); have m0 := B4.cell 0; have m1 := B4.cell 1; have m2 := B4.cell 2; have m3 := B4.cell 3; have m4 := B4.cell 4; have m5 := B4.cell 5; have m6 := B4.cell 6; have m7 := B4.cell 7; have m8 := B4.cell 8; have m9 := B4.cell 9; have s3 := B5.cell 3; have s4 := B5.cell 4; simp at m0 m1 m2 m3 m4 m5 m6 m7 m8 m9 s3 s4)
                    | (go_at_call 82; refine (HA.out _ hB).mono ?_; rintro e w3 ⟨rfl, hb3⟩))
                  go_ret2
                  exact ⟨by rw [HC.out]; rfl, hB.trans (hb3.mono hB.size)⟩
      · by_cases e3 : k = 3
        · skip
          have HQ := Lib.hid (HBR.out e3)
          subst e3
          clear HBR H63 H75 H82 e1 e2
          generalize checkR s sum (n + 1) (.mk 3 p a (wx, wy) A c kids) lo hi = r at *
          obtain ⟨r1, r2⟩ := r
          simp only at HQ ⊢
          go_enter Try.func104, Try.ntmps104
          go_upto_region 1 with fail
          rw [HU.out]
          clear HU
          have t0 := B5.cell 0
          have t1 := B5.cell 1
          have t2 := B5.cell 2
          have t3 := B5.cell 3
          have t4 := B5.cell 4
          have t5 := B5.cell 5
          simp at t0 t1 t2 t3 t4 t5
          go_upto_region 7 with fail
          have m0 := B4.cell 0
          have m1 := B4.cell 1
          have m2 := B4.cell 2
          have m3 := B4.cell 3
          have m4 := B4.cell 4
          have m5 := B4.cell 5
          have m6 := B4.cell 6
          have m7 := B4.cell 7
          have m8 := B4.cell 8
          have m9 := B4.cell 9
          have m10 := B4.cell 10
          simp at m0 m1 m2 m3 m4 m5 m6 m7 m8 m9 m10
          go_wp2_with (go_at_call 128; refine (HQ.out _ hB).mono ?_; rintro e w2 ⟨rfl, hb2⟩)
          go_ret2
          exact ⟨rfl, hB.trans (hb2.mono hB.size)⟩
        · have HC : Hid (checkR s sum (n + 1) (.mk k p a (wx, wy) A c kids) lo hi = (0, false)) := by simp [Hid, checkR, e1, e2, e3]
          clear HBR H63 H75 H82
          go_enter Try.func104, Try.ntmps104
          go_upto_region 1 with fail
          rw [HU.out]
          clear HU
          have t0 := B5.cell 0
          have t1 := B5.cell 1
          have t2 := B5.cell 2
          have t3 := B5.cell 3
          have t4 := B5.cell 4
          have t5 := B5.cell 5
          simp at t0 t1 t2 t3 t4 t5
          go_wp2_with fail
          go_ret2
          exact ⟨by rw [HC.out]; rfl, hB⟩

end Go.Proofs.Ythmngnfdfelkeaa
