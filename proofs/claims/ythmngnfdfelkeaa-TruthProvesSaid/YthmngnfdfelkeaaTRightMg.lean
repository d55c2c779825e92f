/-
  What is proved: the contract of (*judge).right.
-/
import Derived.Test.YthmngnfdfelkeaaTRTail3Mg
import Derived.BigRegion
namespace Go.Proofs.Ythmngnfdfelkeaa
open Go.RowKit
attribute [local go_sem ↓] max_int min_int

set_option maxRecDepth 100000 in
set_option maxHeartbeats 16000000 in
theorem right_any (g J : Nat) (s : Stn) (z : Loc) (sum : Int) (hok : s.ok = true) (w0 : World) (hs0 : StAt w0 s z) (R0 : Bk w0 g 98 (s.cells z ++ runM s)) (hJ0 : w0.heap.size ≤ J) :
    ∀ (n : Nat) (t : Tr), sizeT t ≤ n → ∀ (lo hi : List Int) (L : Int) (w : World), BoxIn s lo hi → TrAt w J t → Below w0.heap.size w0 w → Bk w J 142 (judgeA g sum L) → 0 ≤ L → L + sizeT t ≤ 1000000000 →
    Calls Try.prog 105 #[.pointer (some ⟨J, 0, none⟩), .agg (boxA lo hi), t.val] w (RightPost g J sum L (checkF s sum n t lo hi) (sizeT t) w) := by
  intro n
  induction n with
  | zero => intro t h; have := sizeT_pos t; omega
  | succ n ih =>
    intro t hn lo hi L w hbx ht hB0 hJ hL0 hL1
    cases ht with
    | @mk k p a way A c kids hr hkl hk hno =>
    obtain ⟨wx, wy⟩ := way
    have hgJ : g < J := Nat.lt_of_lt_of_le R0.lt hJ0
    have hsum8 := sumB_bare sum p a (wx, wy) kids.length lo
    have hfar := farT_bare s p a (wx, wy) kids.length lo hi
    have hbra := braB_bare s p a (wx, wy) kids.length lo hi
    have hbo := hbx.ok hok
    have H62 : Hid (∀ (W : World) (q : Nat), Bk W q 103 (boxA lo hi) → Calls Try.prog 62 #[.slice (some ⟨q, 0, none⟩) 8 8] W fun e w' => e = .returned (.int .i64 (sumF lo 8)) ∧ W = w') := fun W q hq => by
      have h := total_any (some ⟨q, 0, none⟩) 8 lo W (fun _ => ⟨q, 0, rfl, hq.lt, fun j u hu => by
        have hj : j < 8 := by have := (List.getElem?_eq_some_iff.1 hu).1; rw [intCells_len, hbx.1] at this; exact this
        rw [Nat.zero_add, hq.cell, boxA_lo hbx.1 hj, ← hu]
        simp only [intCells, List.getElem?_map]
        rw [List.getElem?_eq_getElem (by rw [hbx.1]; exact hj), getD_get _ _ (by rw [hbx.1]; exact hj)]
        rfl⟩) (by rw [hbx.1]; omega) (fun x hx => by
        obtain ⟨i, hi, rfl⟩ := List.getElem_of_mem hx
        have := hbo.2.2 i (by rw [hbx.1] at hi; exact hi)
        rw [getD_get _ _ hi] at this
        omega)
      rw [hbx.1] at h
      exact h
    have H72 : Hid (∀ W, Calls Try.prog 72 #[.agg #[.int .i64 wx, .int .i64 wy]] W fun e w' => e = .returned (.bool (wayB (wx, wy))) ∧ Below W.heap.size W w') := fun W => isWay_any wx wy W
    have H80 : Hid (wayB (wx, wy) = true → ∀ W, Below w0.heap.size w0 W → Calls Try.prog 80 #[.pointer (some ⟨g, 0, none⟩), .agg (boxA lo hi), .agg #[.int .i64 wx, .int .i64 wy]] W fun e w' => e = .returned (.bool (apartB s (wx, wy) lo hi)) ∧ Below W.heap.size W w') := fun hw W h => apart_any g s z lo hi (wx, wy) W (R0.below h R0.lt) (hs0.below h) hok (wayB_ok hw) hbo
    have H129 : Hid (∀ (k2 p2 a2 wx2 wy2 : Int) (A2 : Option Addr) (n2 c2 : Nat) (W : World), Calls Try.prog 129 #[.agg #[.int .i64 k, .int .i64 p, .int .i64 a, .int .i64 wx, .int .i64 wy, .slice A kids.length c], .agg #[.int .i64 k2, .int .i64 p2, .int .i64 a2, .int .i64 wx2, .int .i64 wy2, .slice A2 n2 c2]] W fun e w' => e = .returned (.bool (bareB p a (wx, wy) kids.length p2 a2 (wx2, wy2) n2)) ∧ Below W.heap.size W w') := fun k2 p2 a2 wx2 wy2 A2 n2 c2 W => bare_any _ _ _ _ _ _ _ _ _ _ _ _ _ _ _ _ W
    obtain ⟨U, hU⟩ : ∃ U, (w.alloc (.cells (boxA lo hi) 103)).alloc (.cells #[.int .i64 k, .int .i64 p, .int .i64 a, .int .i64 wx, .int .i64 wy, .slice A kids.length c] 49) = U := ⟨_, rfl⟩
    have B4 : Bk U w.heap.size 103 (boxA lo hi) := by rw [← hU]; exact (bk_last rfl).alloc _
    have B5 : Bk U (w.heap.size + 1) 49 #[.int .i64 k, .int .i64 p, .int .i64 a, .int .i64 wx, .int .i64 wy, .slice A kids.length c] := by rw [← hU]; exact bk_last (by simp)
    have hB : Below w.heap.size w U := by rw [← hU]; exact ((Below.refl _ _).alloc (Nat.le_refl _) _).alloc (by simp) _
    have hJw := hJ.lt
    have J5 := hJ.keep hB
    have hsz1 : 1 ≤ sizeT (.mk k p a (wx, wy) A c kids) := sizeT_pos _
    obtain ⟨l0, l1, l2, l3, l4, l5, l6, l7, hle⟩ := len8 hbx.1
    obtain ⟨h0, h1, h2, h3, h4, h5, h6, h7, hhe⟩ := len8 hbx.2.1
    have hbe : boxA lo hi = #[.int .i64 l0, .int .i64 l1, .int .i64 l2, .int .i64 l3, .int .i64 l4, .int .i64 l5, .int .i64 l6, .int .i64 l7, .int .i64 h0, .int .i64 h1, .int .i64 h2, .int .i64 h3, .int .i64 h4, .int .i64 h5, .int .i64 h6, .int .i64 h7] := by rw [hle, hhe]; rfl
    have HSZ := Lib.hid (And.intro hsz1 hn)
    have HBX := Lib.hid (And.intro hbx (And.intro hle hhe))
    have HTR := Lib.hid (And.intro hr (And.intro hk hno))
    clear hle hhe hbo hbx hr hk hno hsz1 hn hJ
    have HBE := Lib.hid hbe
    show Calls Try.prog 105 #[.pointer (some ⟨J, 0, none⟩), .agg (boxA lo hi), .agg #[.int .i64 k, .int .i64 p, .int .i64 a, .int .i64 wx, .int .i64 wy, .slice A kids.length c]] w _
    unfold judgeA at J5
    rw [hbe] at hU ⊢
    have HU := Lib.hid hU
    clear hU hbe
    by_cases e1 : k = 1
    · subst e1
      have hc : checkF s sum (n + 1) (.mk 1 p a (wx, wy) A c kids) lo hi = if sumB sum p a (wx, wy) kids.length lo then some 1 else none := rfl
      have HK := Lib.hid (H129.out 0 0 0 0 0 none 0 0)
      cases hd : decide (sum ≤ sumF lo 8)
      · have HC : Hid (checkF s sum (n + 1) (.mk 1 p a (wx, wy) A c kids) lo hi = none) := by rw [Hid, hc, hsum8, hd]; rfl
        clear hc hsum8 hfar hbra
        go_enter Try.func105, Try.ntmps105
        go_upto_region 1 with fail
        rw [HU.out]
        clear HU
        have HT : Hid (∀ x : Ext U, Calls Try.prog 62 #[.slice (some ⟨w.heap.size, 0, none⟩) 8 8] x.w fun e w' => e = .returned (.int .i64 (sumF lo 8)) ∧ x.w = w') := fun x => H62.out x.w _ (B4.keep x.bel)
        clear H62 H72 H80 H129 HBX HTR HBE
        have hd2 : decide (sumF lo 8 ≥ sum) = false := hd
        generalize sumF lo 8 = S8 at *
        have t0 := B5.cell 0
        have t1 := B5.cell 1
        have t2 := B5.cell 2
        have t3 := B5.cell 3
        have t4 := B5.cell 4
        have t5 := B5.cell 5
        simp at t0 t1 t2 t3 t4 t5
        replace t0 := fun x : Ext U => keepc x.bel t0
        replace t1 := fun x : Ext U => keepc x.bel t1
        replace t2 := fun x : Ext U => keepc x.bel t2
        replace t3 := fun x : Ext U => keepc x.bel t3
        replace t4 := fun x : Ext U => keepc x.bel t4
        replace t5 := fun x : Ext U => keepc x.bel t5
        have j0 := J5.cell 0
        have j1 := J5.cell 1
        simp at j0 j1
        replace j0 := fun x : Ext U => keepc x.bel j0
        replace j1 := fun x : Ext U => keepc x.bel j1
        refine wp_region_ext (by kernel_rfl) (by kernel_rfl) ?_
        repeat (go_big_quiet_step (fail))
        go_big_quiet_step ((go_at_call 62; exact ext_same (HT.out _)))
        repeat (go_big_quiet_step (fail))
        repeat (go_big_quiet_step (fail))
        refine wpQuiet_nil ?_
        rintro _ ⟨y, rfl⟩
        clear t0 t1 t2 t3 t4 t5 j0 j1 HT
        have hbw2 := y.bel
        generalize y.w = w2 at hbw2 ⊢
        replace B4 := B4.keep hbw2
        replace B5 := B5.keep hbw2
        replace J5 := J5.keep hbw2
        replace hB := hB.trans (hbw2.mono hB.size)
        clear hbw2
        go_upto_region 2 with fail
        have t0 := B5.cell 0
        have t1 := B5.cell 1
        have t2 := B5.cell 2
        have t3 := B5.cell 3
        have t4 := B5.cell 4
        have t5 := B5.cell 5
        simp at t0 t1 t2 t3 t4 t5
        replace t0 := fun x : Ext w2 => keepc x.bel t0
        replace t1 := fun x : Ext w2 => keepc x.bel t1
        replace t2 := fun x : Ext w2 => keepc x.bel t2
        replace t3 := fun x : Ext w2 => keepc x.bel t3
        replace t4 := fun x : Ext w2 => keepc x.bel t4
        replace t5 := fun x : Ext w2 => keepc x.bel t5
        have j0 := J5.cell 0
        have j1 := J5.cell 1
        simp at j0 j1
        replace j0 := fun x : Ext w2 => keepc x.bel j0
        replace j1 := fun x : Ext w2 => keepc x.bel j1
        refine wp_region_ext (by kernel_rfl) (by kernel_rfl) ?_
        repeat (go_big_quiet_step (fail))
        refine wpQuiet_nil ?_
        rintro _ ⟨y, rfl⟩
        clear t0 t1 t2 t3 t4 t5 j0 j1
        have hbw3 := y.bel
        generalize y.w = w3 at hbw3 ⊢
        replace B4 := B4.keep hbw3
        replace B5 := B5.keep hbw3
        replace J5 := J5.keep hbw3
        replace hB := hB.trans (hbw3.mono hB.size)
        clear hbw3
        have t0 := B5.cell 0
        simp at t0
        go_wp2_with fail
        go_ret
        rw [HC.out]
        exact right_none rfl hB J5
      · cases hb : bareB p a (wx, wy) kids.length 0 0 (0, 0) 0
        · have HC : Hid (checkF s sum (n + 1) (.mk 1 p a (wx, wy) A c kids) lo hi = none) := by rw [Hid, hc, hsum8, hd, hb]; rfl
          rw [hb] at HK
          clear hc hsum8 hfar hbra hb
          go_enter Try.func105, Try.ntmps105
          go_upto_region 1 with fail
          rw [HU.out]
          clear HU
          have HT : Hid (∀ x : Ext U, Calls Try.prog 62 #[.slice (some ⟨w.heap.size, 0, none⟩) 8 8] x.w fun e w' => e = .returned (.int .i64 (sumF lo 8)) ∧ x.w = w') := fun x => H62.out x.w _ (B4.keep x.bel)
          clear H62 H72 H80 H129 HBX HTR HBE
          have hd2 : decide (sumF lo 8 ≥ sum) = true := hd
          generalize sumF lo 8 = S8 at *
          have t0 := B5.cell 0
          have t1 := B5.cell 1
          have t2 := B5.cell 2
          have t3 := B5.cell 3
          have t4 := B5.cell 4
          have t5 := B5.cell 5
          simp at t0 t1 t2 t3 t4 t5
          replace t0 := fun x : Ext U => keepc x.bel t0
          replace t1 := fun x : Ext U => keepc x.bel t1
          replace t2 := fun x : Ext U => keepc x.bel t2
          replace t3 := fun x : Ext U => keepc x.bel t3
          replace t4 := fun x : Ext U => keepc x.bel t4
          replace t5 := fun x : Ext U => keepc x.bel t5
          have j0 := J5.cell 0
          have j1 := J5.cell 1
          simp at j0 j1
          replace j0 := fun x : Ext U => keepc x.bel j0
          replace j1 := fun x : Ext U => keepc x.bel j1
          refine wp_region_ext (by kernel_rfl) (by kernel_rfl) ?_
          repeat (go_big_quiet_step (fail))
          go_big_quiet_step ((go_at_call 62; exact ext_same (HT.out _)))
          repeat (go_big_quiet_step (fail))
          go_big_quiet_step ((go_at_call 129; exact ext_of (HK.out _)))
          repeat (go_big_quiet_step (fail))
          refine wpQuiet_nil ?_
          rintro _ ⟨y, rfl⟩
          clear t0 t1 t2 t3 t4 t5 j0 j1 HT
          have hbw2 := y.bel
          generalize y.w = w2 at hbw2 ⊢
          replace B4 := B4.keep hbw2
          replace B5 := B5.keep hbw2
          replace J5 := J5.keep hbw2
          replace hB := hB.trans (hbw2.mono hB.size)
          clear hbw2
          go_upto_region 2 with fail
          have t0 := B5.cell 0
          have t1 := B5.cell 1
          have t2 := B5.cell 2
          have t3 := B5.cell 3
          have t4 := B5.cell 4
          have t5 := B5.cell 5
          simp at t0 t1 t2 t3 t4 t5
          replace t0 := fun x : Ext w2 => keepc x.bel t0
          replace t1 := fun x : Ext w2 => keepc x.bel t1
          replace t2 := fun x : Ext w2 => keepc x.bel t2
          replace t3 := fun x : Ext w2 => keepc x.bel t3
          replace t4 := fun x : Ext w2 => keepc x.bel t4
          replace t5 := fun x : Ext w2 => keepc x.bel t5
          have j0 := J5.cell 0
          have j1 := J5.cell 1
          simp at j0 j1
          replace j0 := fun x : Ext w2 => keepc x.bel j0
          replace j1 := fun x : Ext w2 => keepc x.bel j1
          refine wp_region_ext (by kernel_rfl) (by kernel_rfl) ?_
          repeat (go_big_quiet_step (fail))
          refine wpQuiet_nil ?_
          rintro _ ⟨y, rfl⟩
          clear t0 t1 t2 t3 t4 t5 j0 j1
          have hbw3 := y.bel
          generalize y.w = w3 at hbw3 ⊢
          replace B4 := B4.keep hbw3
          replace B5 := B5.keep hbw3
          replace J5 := J5.keep hbw3
          replace hB := hB.trans (hbw3.mono hB.size)
          clear hbw3
          have t0 := B5.cell 0
          simp at t0
          go_wp2_with fail
          go_ret
          rw [HC.out]
          exact right_none rfl hB J5
        · have HC : Hid (checkF s sum (n + 1) (.mk 1 p a (wx, wy) A c kids) lo hi = some 1) := by rw [Hid, hc, hsum8, hd, hb]; rfl
          rw [hb] at HK
          clear hc hsum8 hfar hbra hb
          go_enter Try.func105, Try.ntmps105
          go_upto_region 1 with fail
          rw [HU.out]
          clear HU
          have HT : Hid (∀ x : Ext U, Calls Try.prog 62 #[.slice (some ⟨w.heap.size, 0, none⟩) 8 8] x.w fun e w' => e = .returned (.int .i64 (sumF lo 8)) ∧ x.w = w') := fun x => H62.out x.w _ (B4.keep x.bel)
          clear H62 H72 H80 H129 HBX HTR HBE
          have hd2 : decide (sumF lo 8 ≥ sum) = true := hd
          generalize sumF lo 8 = S8 at *
          have t0 := B5.cell 0
          have t1 := B5.cell 1
          have t2 := B5.cell 2
          have t3 := B5.cell 3
          have t4 := B5.cell 4
          have t5 := B5.cell 5
          simp at t0 t1 t2 t3 t4 t5
          replace t0 := fun x : Ext U => keepc x.bel t0
          replace t1 := fun x : Ext U => keepc x.bel t1
          replace t2 := fun x : Ext U => keepc x.bel t2
          replace t3 := fun x : Ext U => keepc x.bel t3
          replace t4 := fun x : Ext U => keepc x.bel t4
          replace t5 := fun x : Ext U => keepc x.bel t5
          have j0 := J5.cell 0
          have j1 := J5.cell 1
          simp at j0 j1
          replace j0 := fun x : Ext U => keepc x.bel j0
          replace j1 := fun x : Ext U => keepc x.bel j1
          refine wp_region_ext (by kernel_rfl) (by kernel_rfl) ?_
          repeat (go_big_quiet_step (fail))
          go_big_quiet_step ((go_at_call 62; exact ext_same (HT.out _)))
          repeat (go_big_quiet_step (fail))
          go_big_quiet_step ((go_at_call 129; exact ext_of (HK.out _)))
          repeat (go_big_quiet_step (fail))
          refine wpQuiet_nil ?_
          rintro _ ⟨y, rfl⟩
          clear t0 t1 t2 t3 t4 t5 j0 j1 HT
          have hbw2 := y.bel
          generalize y.w = w2 at hbw2 ⊢
          replace B4 := B4.keep hbw2
          replace B5 := B5.keep hbw2
          replace J5 := J5.keep hbw2
          replace hB := hB.trans (hbw2.mono hB.size)
          clear hbw2
          have q2 := J5.cell 2
          have f2 := J5.fz 2
          have ql := J5.lt
          simp at q2
          have hw := IntWalk.i64_in (L + 1) (by omega)
          have HJ := Lib.hid (And.intro hB J5)
          clear hB J5 B4 B5
          go_wp2_with fail
          go_ret
          rw [HC.out]
          exact right_leaf rfl HSZ.out.1 HJ.out.1 HJ.out.2
    · by_cases e2 : k = 2
      · subst e2
        have hc : checkF s sum (n + 1) (.mk 2 p a (wx, wy) A c kids) lo hi = if farT s p a (wx, wy) kids.length lo hi then some 1 else none := rfl
        have HK := Lib.hid (H129.out 0 0 0 wx wy none 0 0)
        clear e1
        cases hw : wayB (wx, wy)
        · have HC : Hid (checkF s sum (n + 1) (.mk 2 p a (wx, wy) A c kids) lo hi = none) := by rw [Hid, hc, hfar, hw]; rfl
          rw [hw] at H72
          clear hc hsum8 hfar hbra
          go_enter Try.func105, Try.ntmps105
          go_upto_region 1 with fail
          rw [HU.out]
          clear HU
          have t0 := B5.cell 0
          have t1 := B5.cell 1
          have t2 := B5.cell 2
          have t3 := B5.cell 3
          have t4 := B5.cell 4
          have t5 := B5.cell 5
          simp at t0 t1 t2 t3 t4 t5
          replace t0 := fun x : Ext U => keepc x.bel t0
          replace t1 := fun x : Ext U => keepc x.bel t1
          replace t2 := fun x : Ext U => keepc x.bel t2
          replace t3 := fun x : Ext U => keepc x.bel t3
          replace t4 := fun x : Ext U => keepc x.bel t4
          replace t5 := fun x : Ext U => keepc x.bel t5
          have j0 := J5.cell 0
          have j1 := J5.cell 1
          simp at j0 j1
          replace j0 := fun x : Ext U => keepc x.bel j0
          replace j1 := fun x : Ext U => keepc x.bel j1
          refine wp_region_ext (by kernel_rfl) (by kernel_rfl) ?_
          repeat (go_big_quiet_step (fail))
          refine wpQuiet_nil ?_
          rintro _ ⟨y, rfl⟩
          clear t0 t1 t2 t3 t4 t5 j0 j1
          have hbw2 := y.bel
          generalize y.w = w2 at hbw2 ⊢
          replace B4 := B4.keep hbw2
          replace B5 := B5.keep hbw2
          replace J5 := J5.keep hbw2
          replace hB := hB.trans (hbw2.mono hB.size)
          clear hbw2
          go_upto_region 2 with fail
          clear H62 H80 H129 HBX HTR
          have t0 := B5.cell 0
          have t1 := B5.cell 1
          have t2 := B5.cell 2
          have t3 := B5.cell 3
          have t4 := B5.cell 4
          have t5 := B5.cell 5
          simp at t0 t1 t2 t3 t4 t5
          replace t0 := fun x : Ext w2 => keepc x.bel t0
          replace t1 := fun x : Ext w2 => keepc x.bel t1
          replace t2 := fun x : Ext w2 => keepc x.bel t2
          replace t3 := fun x : Ext w2 => keepc x.bel t3
          replace t4 := fun x : Ext w2 => keepc x.bel t4
          replace t5 := fun x : Ext w2 => keepc x.bel t5
          have j0 := J5.cell 0
          have j1 := J5.cell 1
          simp at j0 j1
          replace j0 := fun x : Ext w2 => keepc x.bel j0
          replace j1 := fun x : Ext w2 => keepc x.bel j1
          refine wp_region_ext (by kernel_rfl) (by kernel_rfl) ?_
          repeat (go_big_quiet_step (fail))
          go_big_quiet_step ((go_at_call 72; exact ext_of (H72.out _)))
          repeat (go_big_quiet_step (fail))
          repeat (go_big_quiet_step (fail))
          refine wpQuiet_nil ?_
          rintro _ ⟨y, rfl⟩
          clear t0 t1 t2 t3 t4 t5 j0 j1
          have hbw3 := y.bel
          generalize y.w = w3 at hbw3 ⊢
          replace B4 := B4.keep hbw3
          replace B5 := B5.keep hbw3
          replace J5 := J5.keep hbw3
          replace hB := hB.trans (hbw3.mono hB.size)
          clear hbw3
          have t0 := B5.cell 0
          simp at t0
          go_wp2_with fail
          go_ret
          rw [HC.out]
          exact right_none rfl hB J5
        · have HWY := Lib.hid hw
          cases ha : apartB s (wx, wy) lo hi
          · have HC : Hid (checkF s sum (n + 1) (.mk 2 p a (wx, wy) A c kids) lo hi = none) := by rw [Hid, hc, hfar, hw, ha]; rfl
            have HAP := Lib.hid ha
            rw [hw] at H72
            clear hc hsum8 hfar hbra ha hw
            go_enter Try.func105, Try.ntmps105
            go_upto_region 1 with fail
            rw [HU.out]
            clear HU
            have t0 := B5.cell 0
            have t1 := B5.cell 1
            have t2 := B5.cell 2
            have t3 := B5.cell 3
            have t4 := B5.cell 4
            have t5 := B5.cell 5
            simp at t0 t1 t2 t3 t4 t5
            replace t0 := fun x : Ext U => keepc x.bel t0
            replace t1 := fun x : Ext U => keepc x.bel t1
            replace t2 := fun x : Ext U => keepc x.bel t2
            replace t3 := fun x : Ext U => keepc x.bel t3
            replace t4 := fun x : Ext U => keepc x.bel t4
            replace t5 := fun x : Ext U => keepc x.bel t5
            have j0 := J5.cell 0
            have j1 := J5.cell 1
            simp at j0 j1
            replace j0 := fun x : Ext U => keepc x.bel j0
            replace j1 := fun x : Ext U => keepc x.bel j1
            refine wp_region_ext (by kernel_rfl) (by kernel_rfl) ?_
            repeat (go_big_quiet_step (fail))
            refine wpQuiet_nil ?_
            rintro _ ⟨y, rfl⟩
            clear t0 t1 t2 t3 t4 t5 j0 j1
            have hbw2 := y.bel
            generalize y.w = w2 at hbw2 ⊢
            replace B4 := B4.keep hbw2
            replace B5 := B5.keep hbw2
            replace J5 := J5.keep hbw2
            replace hB := hB.trans (hbw2.mono hB.size)
            clear hbw2
            go_upto_region 2 with fail
            have hB02 : Below w0.heap.size w0 w2 := hB0.trans (hB.mono hB0.size)
            have HA : Hid (∀ x : Ext w2, Calls Try.prog 80 #[.pointer (some ⟨g, 0, none⟩), .agg #[.int .i64 l0, .int .i64 l1, .int .i64 l2, .int .i64 l3, .int .i64 l4, .int .i64 l5, .int .i64 l6, .int .i64 l7, .int .i64 h0, .int .i64 h1, .int .i64 h2, .int .i64 h3, .int .i64 h4, .int .i64 h5, .int .i64 h6, .int .i64 h7], .agg #[.int .i64 wx, .int .i64 wy]] x.w fun e w' => e = .returned (.bool (apartB s (wx, wy) lo hi)) ∧ Below x.w.heap.size x.w w') := fun x => by rw [← HBE.out]; exact H80.out HWY.out _ (hB02.trans (x.bel.mono hB02.size))
            have B4x := B4
            rw [HBE.out] at B4x
            rw [HAP.out] at HA
            clear H62 H80 H129 HBX HTR
            have t0 := B5.cell 0
            have t1 := B5.cell 1
            have t2 := B5.cell 2
            have t3 := B5.cell 3
            have t4 := B5.cell 4
            have t5 := B5.cell 5
            simp at t0 t1 t2 t3 t4 t5
            replace t0 := fun x : Ext w2 => keepc x.bel t0
            replace t1 := fun x : Ext w2 => keepc x.bel t1
            replace t2 := fun x : Ext w2 => keepc x.bel t2
            replace t3 := fun x : Ext w2 => keepc x.bel t3
            replace t4 := fun x : Ext w2 => keepc x.bel t4
            replace t5 := fun x : Ext w2 => keepc x.bel t5
            have j0 := J5.cell 0
            have j1 := J5.cell 1
            simp at j0 j1
            replace j0 := fun x : Ext w2 => keepc x.bel j0
            replace j1 := fun x : Ext w2 => keepc x.bel j1
            have z0 := B4x.cell 0
            have z1 := B4x.cell 1
            have z2 := B4x.cell 2
            have z3 := B4x.cell 3
            have z4 := B4x.cell 4
            have z5 := B4x.cell 5
            have z6 := B4x.cell 6
            have z7 := B4x.cell 7
            have z8 := B4x.cell 8
            have z9 := B4x.cell 9
            have z10 := B4x.cell 10
            have z11 := B4x.cell 11
            have z12 := B4x.cell 12
            have z13 := B4x.cell 13
            have z14 := B4x.cell 14
            have z15 := B4x.cell 15
            simp at z0 z1 z2 z3 z4 z5 z6 z7 z8 z9 z10 z11 z12 z13 z14 z15
            replace z0 := fun x : Ext w2 => keepc x.bel z0
            replace z1 := fun x : Ext w2 => keepc x.bel z1
            replace z2 := fun x : Ext w2 => keepc x.bel z2
            replace z3 := fun x : Ext w2 => keepc x.bel z3
            replace z4 := fun x : Ext w2 => keepc x.bel z4
            replace z5 := fun x : Ext w2 => keepc x.bel z5
            replace z6 := fun x : Ext w2 => keepc x.bel z6
            replace z7 := fun x : Ext w2 => keepc x.bel z7
            replace z8 := fun x : Ext w2 => keepc x.bel z8
            replace z9 := fun x : Ext w2 => keepc x.bel z9
            replace z10 := fun x : Ext w2 => keepc x.bel z10
            replace z11 := fun x : Ext w2 => keepc x.bel z11
            replace z12 := fun x : Ext w2 => keepc x.bel z12
            replace z13 := fun x : Ext w2 => keepc x.bel z13
            replace z14 := fun x : Ext w2 => keepc x.bel z14
            replace z15 := fun x : Ext w2 => keepc x.bel z15
            refine wp_region_ext (by kernel_rfl) (by kernel_rfl) ?_
            repeat (go_big_quiet_step (fail))
            go_big_quiet_step ((go_at_call 72; exact ext_of (H72.out _)))
            repeat (go_big_quiet_step (fail))
            go_big_quiet_step ((go_at_call 80; exact ext_of (HA.out _)))
            repeat (go_big_quiet_step (fail))
            repeat (go_big_quiet_step (fail))
            refine wpQuiet_nil ?_
            rintro _ ⟨y, rfl⟩
            clear t0 t1 t2 t3 t4 t5 j0 j1 z0 z1 z2 z3 z4 z5 z6 z7 z8 z9 z10 z11 z12 z13 z14 z15 B4x
            have hbw3 := y.bel
            generalize y.w = w3 at hbw3 ⊢
            replace B4 := B4.keep hbw3
            replace B5 := B5.keep hbw3
            replace J5 := J5.keep hbw3
            replace hB := hB.trans (hbw3.mono hB.size)
            clear hbw3
            have t0 := B5.cell 0
            simp at t0
            go_wp2_with fail
            go_ret
            rw [HC.out]
            exact right_none rfl hB J5
          · have HAP := Lib.hid ha
            cases hb : bareB p a (wx, wy) kids.length 0 0 (wx, wy) 0
            · have HC : Hid (checkF s sum (n + 1) (.mk 2 p a (wx, wy) A c kids) lo hi = none) := by rw [Hid, hc, hfar, hw, ha, hb]; rfl
              rw [hw] at H72
              rw [hb] at HK
              clear hc hsum8 hfar hbra ha hw hb
              go_enter Try.func105, Try.ntmps105
              go_upto_region 1 with fail
              rw [HU.out]
              clear HU
              have t0 := B5.cell 0
              have t1 := B5.cell 1
              have t2 := B5.cell 2
              have t3 := B5.cell 3
              have t4 := B5.cell 4
              have t5 := B5.cell 5
              simp at t0 t1 t2 t3 t4 t5
              replace t0 := fun x : Ext U => keepc x.bel t0
              replace t1 := fun x : Ext U => keepc x.bel t1
              replace t2 := fun x : Ext U => keepc x.bel t2
              replace t3 := fun x : Ext U => keepc x.bel t3
              replace t4 := fun x : Ext U => keepc x.bel t4
              replace t5 := fun x : Ext U => keepc x.bel t5
              have j0 := J5.cell 0
              have j1 := J5.cell 1
              simp at j0 j1
              replace j0 := fun x : Ext U => keepc x.bel j0
              replace j1 := fun x : Ext U => keepc x.bel j1
              refine wp_region_ext (by kernel_rfl) (by kernel_rfl) ?_
              repeat (go_big_quiet_step (fail))
              refine wpQuiet_nil ?_
              rintro _ ⟨y, rfl⟩
              clear t0 t1 t2 t3 t4 t5 j0 j1
              have hbw2 := y.bel
              generalize y.w = w2 at hbw2 ⊢
              replace B4 := B4.keep hbw2
              replace B5 := B5.keep hbw2
              replace J5 := J5.keep hbw2
              replace hB := hB.trans (hbw2.mono hB.size)
              clear hbw2
              go_upto_region 2 with fail
              have hB02 : Below w0.heap.size w0 w2 := hB0.trans (hB.mono hB0.size)
              have HA : Hid (∀ x : Ext w2, Calls Try.prog 80 #[.pointer (some ⟨g, 0, none⟩), .agg #[.int .i64 l0, .int .i64 l1, .int .i64 l2, .int .i64 l3, .int .i64 l4, .int .i64 l5, .int .i64 l6, .int .i64 l7, .int .i64 h0, .int .i64 h1, .int .i64 h2, .int .i64 h3, .int .i64 h4, .int .i64 h5, .int .i64 h6, .int .i64 h7], .agg #[.int .i64 wx, .int .i64 wy]] x.w fun e w' => e = .returned (.bool (apartB s (wx, wy) lo hi)) ∧ Below x.w.heap.size x.w w') := fun x => by rw [← HBE.out]; exact H80.out HWY.out _ (hB02.trans (x.bel.mono hB02.size))
              have B4x := B4
              rw [HBE.out] at B4x
              rw [HAP.out] at HA
              clear H62 H80 H129 HBX HTR
              have t0 := B5.cell 0
              have t1 := B5.cell 1
              have t2 := B5.cell 2
              have t3 := B5.cell 3
              have t4 := B5.cell 4
              have t5 := B5.cell 5
              simp at t0 t1 t2 t3 t4 t5
              replace t0 := fun x : Ext w2 => keepc x.bel t0
              replace t1 := fun x : Ext w2 => keepc x.bel t1
              replace t2 := fun x : Ext w2 => keepc x.bel t2
              replace t3 := fun x : Ext w2 => keepc x.bel t3
              replace t4 := fun x : Ext w2 => keepc x.bel t4
              replace t5 := fun x : Ext w2 => keepc x.bel t5
              have j0 := J5.cell 0
              have j1 := J5.cell 1
              simp at j0 j1
              replace j0 := fun x : Ext w2 => keepc x.bel j0
              replace j1 := fun x : Ext w2 => keepc x.bel j1
              have z0 := B4x.cell 0
              have z1 := B4x.cell 1
              have z2 := B4x.cell 2
              have z3 := B4x.cell 3
              have z4 := B4x.cell 4
              have z5 := B4x.cell 5
              have z6 := B4x.cell 6
              have z7 := B4x.cell 7
              have z8 := B4x.cell 8
              have z9 := B4x.cell 9
              have z10 := B4x.cell 10
              have z11 := B4x.cell 11
              have z12 := B4x.cell 12
              have z13 := B4x.cell 13
              have z14 := B4x.cell 14
              have z15 := B4x.cell 15
              simp at z0 z1 z2 z3 z4 z5 z6 z7 z8 z9 z10 z11 z12 z13 z14 z15
              replace z0 := fun x : Ext w2 => keepc x.bel z0
              replace z1 := fun x : Ext w2 => keepc x.bel z1
              replace z2 := fun x : Ext w2 => keepc x.bel z2
              replace z3 := fun x : Ext w2 => keepc x.bel z3
              replace z4 := fun x : Ext w2 => keepc x.bel z4
              replace z5 := fun x : Ext w2 => keepc x.bel z5
              replace z6 := fun x : Ext w2 => keepc x.bel z6
              replace z7 := fun x : Ext w2 => keepc x.bel z7
              replace z8 := fun x : Ext w2 => keepc x.bel z8
              replace z9 := fun x : Ext w2 => keepc x.bel z9
              replace z10 := fun x : Ext w2 => keepc x.bel z10
              replace z11 := fun x : Ext w2 => keepc x.bel z11
              replace z12 := fun x : Ext w2 => keepc x.bel z12
              replace z13 := fun x : Ext w2 => keepc x.bel z13
              replace z14 := fun x : Ext w2 => keepc x.bel z14
              replace z15 := fun x : Ext w2 => keepc x.bel z15
              refine wp_region_ext (by kernel_rfl) (by kernel_rfl) ?_
              repeat (go_big_quiet_step (fail))
              go_big_quiet_step ((go_at_call 72; exact ext_of (H72.out _)))
              repeat (go_big_quiet_step (fail))
              go_big_quiet_step ((go_at_call 80; exact ext_of (HA.out _)))
              repeat (go_big_quiet_step (fail))
              go_big_quiet_step ((go_at_call 129; exact ext_of (HK.out _)))
              repeat (go_big_quiet_step (fail))
              refine wpQuiet_nil ?_
              rintro _ ⟨y, rfl⟩
              clear t0 t1 t2 t3 t4 t5 j0 j1 z0 z1 z2 z3 z4 z5 z6 z7 z8 z9 z10 z11 z12 z13 z14 z15 B4x
              have hbw3 := y.bel
              generalize y.w = w3 at hbw3 ⊢
              replace B4 := B4.keep hbw3
              replace B5 := B5.keep hbw3
              replace J5 := J5.keep hbw3
              replace hB := hB.trans (hbw3.mono hB.size)
              clear hbw3
              have t0 := B5.cell 0
              simp at t0
              go_wp2_with fail
              go_ret
              rw [HC.out]
              exact right_none rfl hB J5
            · have HC : Hid (checkF s sum (n + 1) (.mk 2 p a (wx, wy) A c kids) lo hi = some 1) := by rw [Hid, hc, hfar, hw, ha, hb]; rfl
              rw [hw] at H72
              rw [hb] at HK
              clear hc hsum8 hfar hbra ha hw hb
              go_enter Try.func105, Try.ntmps105
              go_upto_region 1 with fail
              rw [HU.out]
              clear HU
              have t0 := B5.cell 0
              have t1 := B5.cell 1
              have t2 := B5.cell 2
              have t3 := B5.cell 3
              have t4 := B5.cell 4
              have t5 := B5.cell 5
              simp at t0 t1 t2 t3 t4 t5
              replace t0 := fun x : Ext U => keepc x.bel t0
              replace t1 := fun x : Ext U => keepc x.bel t1
              replace t2 := fun x : Ext U => keepc x.bel t2
              replace t3 := fun x : Ext U => keepc x.bel t3
              replace t4 := fun x : Ext U => keepc x.bel t4
              replace t5 := fun x : Ext U => keepc x.bel t5
              have j0 := J5.cell 0
              have j1 := J5.cell 1
              simp at j0 j1
              replace j0 := fun x : Ext U => keepc x.bel j0
              replace j1 := fun x : Ext U => keepc x.bel j1
              refine wp_region_ext (by kernel_rfl) (by kernel_rfl) ?_
              repeat (go_big_quiet_step (fail))
              refine wpQuiet_nil ?_
              rintro _ ⟨y, rfl⟩
              clear t0 t1 t2 t3 t4 t5 j0 j1
              have hbw2 := y.bel
              generalize y.w = w2 at hbw2 ⊢
              replace B4 := B4.keep hbw2
              replace B5 := B5.keep hbw2
              replace J5 := J5.keep hbw2
              replace hB := hB.trans (hbw2.mono hB.size)
              clear hbw2
              go_upto_region 2 with fail
              have hB02 : Below w0.heap.size w0 w2 := hB0.trans (hB.mono hB0.size)
              have HA : Hid (∀ x : Ext w2, Calls Try.prog 80 #[.pointer (some ⟨g, 0, none⟩), .agg #[.int .i64 l0, .int .i64 l1, .int .i64 l2, .int .i64 l3, .int .i64 l4, .int .i64 l5, .int .i64 l6, .int .i64 l7, .int .i64 h0, .int .i64 h1, .int .i64 h2, .int .i64 h3, .int .i64 h4, .int .i64 h5, .int .i64 h6, .int .i64 h7], .agg #[.int .i64 wx, .int .i64 wy]] x.w fun e w' => e = .returned (.bool (apartB s (wx, wy) lo hi)) ∧ Below x.w.heap.size x.w w') := fun x => by rw [← HBE.out]; exact H80.out HWY.out _ (hB02.trans (x.bel.mono hB02.size))
              have B4x := B4
              rw [HBE.out] at B4x
              rw [HAP.out] at HA
              clear H62 H80 H129 HBX HTR
              have t0 := B5.cell 0
              have t1 := B5.cell 1
              have t2 := B5.cell 2
              have t3 := B5.cell 3
              have t4 := B5.cell 4
              have t5 := B5.cell 5
              simp at t0 t1 t2 t3 t4 t5
              replace t0 := fun x : Ext w2 => keepc x.bel t0
              replace t1 := fun x : Ext w2 => keepc x.bel t1
              replace t2 := fun x : Ext w2 => keepc x.bel t2
              replace t3 := fun x : Ext w2 => keepc x.bel t3
              replace t4 := fun x : Ext w2 => keepc x.bel t4
              replace t5 := fun x : Ext w2 => keepc x.bel t5
              have j0 := J5.cell 0
              have j1 := J5.cell 1
              simp at j0 j1
              replace j0 := fun x : Ext w2 => keepc x.bel j0
              replace j1 := fun x : Ext w2 => keepc x.bel j1
              have z0 := B4x.cell 0
              have z1 := B4x.cell 1
              have z2 := B4x.cell 2
              have z3 := B4x.cell 3
              have z4 := B4x.cell 4
              have z5 := B4x.cell 5
              have z6 := B4x.cell 6
              have z7 := B4x.cell 7
              have z8 := B4x.cell 8
              have z9 := B4x.cell 9
              have z10 := B4x.cell 10
              have z11 := B4x.cell 11
              have z12 := B4x.cell 12
              have z13 := B4x.cell 13
              have z14 := B4x.cell 14
              have z15 := B4x.cell 15
              simp at z0 z1 z2 z3 z4 z5 z6 z7 z8 z9 z10 z11 z12 z13 z14 z15
              replace z0 := fun x : Ext w2 => keepc x.bel z0
              replace z1 := fun x : Ext w2 => keepc x.bel z1
              replace z2 := fun x : Ext w2 => keepc x.bel z2
              replace z3 := fun x : Ext w2 => keepc x.bel z3
              replace z4 := fun x : Ext w2 => keepc x.bel z4
              replace z5 := fun x : Ext w2 => keepc x.bel z5
              replace z6 := fun x : Ext w2 => keepc x.bel z6
              replace z7 := fun x : Ext w2 => keepc x.bel z7
              replace z8 := fun x : Ext w2 => keepc x.bel z8
              replace z9 := fun x : Ext w2 => keepc x.bel z9
              replace z10 := fun x : Ext w2 => keepc x.bel z10
              replace z11 := fun x : Ext w2 => keepc x.bel z11
              replace z12 := fun x : Ext w2 => keepc x.bel z12
              replace z13 := fun x : Ext w2 => keepc x.bel z13
              replace z14 := fun x : Ext w2 => keepc x.bel z14
              replace z15 := fun x : Ext w2 => keepc x.bel z15
              refine wp_region_ext (by kernel_rfl) (by kernel_rfl) ?_
              repeat (go_big_quiet_step (fail))
              go_big_quiet_step ((go_at_call 72; exact ext_of (H72.out _)))
              repeat (go_big_quiet_step (fail))
              go_big_quiet_step ((go_at_call 80; exact ext_of (HA.out _)))
              repeat (go_big_quiet_step (fail))
              go_big_quiet_step ((go_at_call 129; exact ext_of (HK.out _)))
              repeat (go_big_quiet_step (fail))
              refine wpQuiet_nil ?_
              rintro _ ⟨y, rfl⟩
              clear t0 t1 t2 t3 t4 t5 j0 j1 z0 z1 z2 z3 z4 z5 z6 z7 z8 z9 z10 z11 z12 z13 z14 z15 B4x
              have hbw3 := y.bel
              generalize y.w = w3 at hbw3 ⊢
              replace B4 := B4.keep hbw3
              replace B5 := B5.keep hbw3
              replace J5 := J5.keep hbw3
              replace hB := hB.trans (hbw3.mono hB.size)
              clear hbw3
              have q2 := J5.cell 2
              have f2 := J5.fz 2
              have ql := J5.lt
              simp at q2
              have hw := IntWalk.i64_in (L + 1) (by omega)
              have HJ := Lib.hid (And.intro hB J5)
              clear hB J5 B4 B5
              go_wp2_with fail
              go_ret
              rw [HC.out]
              exact right_leaf rfl HSZ.out.1 HJ.out.1 HJ.out.2
      · by_cases e3 : k = 3
        · subst e3
          have HH := Lib.hid (And.intro hbra e1)
          have HK := Lib.hid (H129.out 0 p a 0 0)
          clear hsum8 hfar hbra e1 e2 H62 H72 H80 H129
          go_enter Try.func105, Try.ntmps105
          go_upto_region 1 with fail
          rw [HU.out]
          clear HU
          have t0 := B5.cell 0
          have t1 := B5.cell 1
          have t2 := B5.cell 2
          have t3 := B5.cell 3
          have t4 := B5.cell 4
          have t5 := B5.cell 5
          simp at t0 t1 t2 t3 t4 t5
          replace t0 := fun x : Ext U => keepc x.bel t0
          replace t1 := fun x : Ext U => keepc x.bel t1
          replace t2 := fun x : Ext U => keepc x.bel t2
          replace t3 := fun x : Ext U => keepc x.bel t3
          replace t4 := fun x : Ext U => keepc x.bel t4
          replace t5 := fun x : Ext U => keepc x.bel t5
          have j0 := J5.cell 0
          have j1 := J5.cell 1
          simp at j0 j1
          replace j0 := fun x : Ext U => keepc x.bel j0
          replace j1 := fun x : Ext U => keepc x.bel j1
          refine wp_region_ext (by kernel_rfl) (by kernel_rfl) ?_
          repeat (go_big_quiet_step (fail))
          refine wpQuiet_nil ?_
          rintro _ ⟨y, rfl⟩
          clear t0 t1 t2 t3 t4 t5 j0 j1
          have hbw2 := y.bel
          generalize y.w = w2 at hbw2 ⊢
          replace B4 := B4.keep hbw2
          replace B5 := B5.keep hbw2
          replace J5 := J5.keep hbw2
          replace hB := hB.trans (hbw2.mono hB.size)
          clear hbw2
          go_upto_region 2 with fail
          have t0 := B5.cell 0
          have t1 := B5.cell 1
          have t2 := B5.cell 2
          have t3 := B5.cell 3
          have t4 := B5.cell 4
          have t5 := B5.cell 5
          simp at t0 t1 t2 t3 t4 t5
          replace t0 := fun x : Ext w2 => keepc x.bel t0
          replace t1 := fun x : Ext w2 => keepc x.bel t1
          replace t2 := fun x : Ext w2 => keepc x.bel t2
          replace t3 := fun x : Ext w2 => keepc x.bel t3
          replace t4 := fun x : Ext w2 => keepc x.bel t4
          replace t5 := fun x : Ext w2 => keepc x.bel t5
          have j0 := J5.cell 0
          have j1 := J5.cell 1
          simp at j0 j1
          replace j0 := fun x : Ext w2 => keepc x.bel j0
          replace j1 := fun x : Ext w2 => keepc x.bel j1
          refine wp_region_ext (by kernel_rfl) (by kernel_rfl) ?_
          repeat (go_big_quiet_step (fail))
          refine wpQuiet_nil ?_
          rintro _ ⟨y, rfl⟩
          clear t0 t1 t2 t3 t4 t5 j0 j1
          have hbw3 := y.bel
          generalize y.w = w3 at hbw3 ⊢
          replace B4 := B4.keep hbw3
          replace B5 := B5.keep hbw3
          replace J5 := J5.keep hbw3
          replace hB := hB.trans (hbw3.mono hB.size)
          clear hbw3
          have t0 := B5.cell 0
          have t1 := B5.cell 1
          have t2 := B5.cell 2
          have t3 := B5.cell 3
          have t4 := B5.cell 4
          have t5 := B5.cell 5
          simp at t0 t1 t2 t3 t4 t5
          go_upto_region 4 with fail
          have MK := makeTwo
          go_region_held3 (fun w' => w'.cell? ⟨w.heap.size + 1, 0, none⟩ = some (.int .i64 3) ∧ w'.cell? ⟨w.heap.size + 1, 1, none⟩ = some (.int .i64 p) ∧ w'.cell? ⟨w.heap.size + 1, 2, none⟩ = some (.int .i64 a) ∧ w'.cell? ⟨w.heap.size + 1, 3, none⟩ = some (.int .i64 wx) ∧ w'.cell? ⟨w.heap.size + 1, 4, none⟩ = some (.int .i64 wy) ∧ w'.cell? ⟨w.heap.size + 1, 5, none⟩ = some (.slice A kids.length c))
            (first | go_keep | (go_split_ands; exact ⟨keepc hb4 ‹_›, keepc hb4 ‹_›, keepc hb4 ‹_›, keepc hb4 ‹_›, keepc hb4 ‹_›, keepc hb4 ‹_›⟩))
            ((first
              | (go_at_call 129; refine (HK.out _ 2 2 _).mono ?_; rintro e w4 ⟨rfl, hb4⟩)
              | (go_at_call 129; refine (HK.out _ 2 2 _).mono ?_; rintro e w4 ⟨rfl, hb4⟩)))
          skip
          have hbm : Below w3.heap.size w3 w4 := (((Below.refl _ _).alloc (Nat.le_refl _) _).drew).trans (hb4.mono (by simp))
          replace B4 := B4.keep hbm
          replace B5 := B5.keep hbm
          replace J5 := J5.keep hbm
          replace hB := hB.trans (hbm.mono hB.size)
          rename_i hheld
          clear hbm hb4 MK HK t0 t1 t2 t3 t4 t5 hheld
          cases hcc : bareB p a (wx, wy) kids.length p a (0, 0) 2
          · have HC : Hid (checkF s sum (n + 1) (.mk 3 p a (wx, wy) A c kids) lo hi = none) := check3_none (by rw [HH.out.1, hcc]; rfl)
            clear hcc
            go_wp2_with fail
            go_ret
            rw [HC.out]
            exact right_none rfl hB J5
          · have hlen : kids.length = 2 := by
              simp only [bareB, Bool.and_eq_true, beq_iff_eq] at hcc
              omega
            have HCC := Lib.hid hcc
            rw [hlen] at HCC
            clear hcc
            obtain ⟨kx, ky, hxy⟩ := list_two hlen
            have HXY := Lib.hid hxy
            clear hxy
            generalize hkn : kids.length = kl at *
            obtain rfl : kl = 2 := by omega
            have HKN := Lib.hid hkn
            clear hkn hlen
            have t0 := B5.cell 0
            have t1 := B5.cell 1
            simp at t0 t1
            by_cases hp0 : p < 0
            · have HC : Hid (checkF s sum (n + 1) (.mk 3 p a (wx, wy) A c kids) lo hi = none) := check3_none (by rw [HKN.out, HH.out.1, HCC.out]; simp [inB]; omega)
              go_wp2_with fail
              go_ret
              rw [HC.out]
              exact right_none rfl hB J5
            · obtain ⟨pn, rfl⟩ : ∃ pn : Nat, p = pn := ⟨p.toNat, by omega⟩
              go_upto_region 6 with fail
              clear t0 t1
              have t0 := B5.cell 0
              have t1 := B5.cell 1
              have t2 := B5.cell 2
              have t3 := B5.cell 3
              have t4 := B5.cell 4
              have t5 := B5.cell 5
              simp at t0 t1 t2 t3 t4 t5
              replace t0 := fun x : Ext w4 => keepc x.bel t0
              replace t1 := fun x : Ext w4 => keepc x.bel t1
              replace t2 := fun x : Ext w4 => keepc x.bel t2
              replace t3 := fun x : Ext w4 => keepc x.bel t3
              replace t4 := fun x : Ext w4 => keepc x.bel t4
              replace t5 := fun x : Ext w4 => keepc x.bel t5
              have j0 := J5.cell 0
              have j1 := J5.cell 1
              simp at j0 j1
              replace j0 := fun x : Ext w4 => keepc x.bel j0
              replace j1 := fun x : Ext w4 => keepc x.bel j1
              have hB04 : Below w0.heap.size w0 w4 := hB0.trans (hB.mono hB0.size)
              have x6 := (stn_cell (R0.below hB04 R0.lt)).2.2.2.2.2.2.1
              replace x6 := fun x : Ext w4 => keepc x.bel x6
              refine wp_region_ext (by kernel_rfl) (by kernel_rfl) ?_
              repeat (go_big_quiet_step (fail))
              refine wpQuiet_nil ?_
              rintro _ ⟨y, rfl⟩
              clear t0 t1 t2 t3 t4 t5 j0 j1 x6 hB04
              have hbw5 := y.bel
              generalize y.w = w5 at hbw5 ⊢
              replace B4 := B4.keep hbw5
              replace B5 := B5.keep hbw5
              replace J5 := J5.keep hbw5
              replace hB := hB.trans (hbw5.mono hB.size)
              clear hbw5
              by_cases hN : (s.pockets.length : Int) ≤ pn
              · have HC : Hid (checkF s sum (n + 1) (.mk 3 pn a (wx, wy) A c kids) lo hi = none) := check3_none (by rw [HKN.out, HH.out.1, HCC.out]; simp [inB]; omega)
                go_wp2_with fail
                go_ret
                rw [HC.out]
                exact right_none rfl hB J5
              · have h8 := (stn_ok hok).2.2.2.2.1
                have hp8 : pn < 8 := by omega
                have hp8I : (pn : Int) < 8 := by omega
                go_upto_region 7 with fail
                have t0 := B5.cell 0
                have t1 := B5.cell 1
                have t2 := B5.cell 2
                have t3 := B5.cell 3
                have t4 := B5.cell 4
                have t5 := B5.cell 5
                simp at t0 t1 t2 t3 t4 t5
                replace t0 := fun x : Ext w5 => keepc x.bel t0
                replace t1 := fun x : Ext w5 => keepc x.bel t1
                replace t2 := fun x : Ext w5 => keepc x.bel t2
                replace t3 := fun x : Ext w5 => keepc x.bel t3
                replace t4 := fun x : Ext w5 => keepc x.bel t4
                replace t5 := fun x : Ext w5 => keepc x.bel t5
                have j0 := J5.cell 0
                have j1 := J5.cell 1
                simp at j0 j1
                replace j0 := fun x : Ext w5 => keepc x.bel j0
                replace j1 := fun x : Ext w5 => keepc x.bel j1
                have z0 := B4.cell pn
                rw [boxA_lo HBX.out.1.1 hp8] at z0
                obtain ⟨lp, hlp⟩ : ∃ lp, lo.getD pn 0 = lp := ⟨_, rfl⟩
                rw [hlp] at z0
                have HLP := Lib.hid hlp
                clear hlp
                replace z0 := fun x : Ext w5 => keepc x.bel z0
                refine wp_region_ext (by kernel_rfl) (by kernel_rfl) ?_
                repeat (go_big_quiet_step (fail))
                refine wpQuiet_nil ?_
                rintro _ ⟨y, rfl⟩
                clear t0 t1 t2 t3 t4 t5 j0 j1 z0
                have hbw6 := y.bel
                generalize y.w = w6 at hbw6 ⊢
                replace B4 := B4.keep hbw6
                replace B5 := B5.keep hbw6
                replace J5 := J5.keep hbw6
                replace hB := hB.trans (hbw6.mono hB.size)
                clear hbw6
                by_cases hlo : a < lp
                · have hf : decide (lo.getD pn 0 ≤ a) = false := decide_eq_false (by rw [HLP.out]; omega)
                  have HC : Hid (checkF s sum (n + 1) (.mk 3 pn a (wx, wy) A c kids) lo hi = none) := check3_none (by rw [HKN.out, HH.out.1, HCC.out, Int.toNat_natCast, hf]; simp)
                  clear hf
                  go_wp2_with fail
                  go_ret
                  rw [HC.out]
                  exact right_none rfl hB J5
                · go_upto_region 8 with fail
                  have t0 := B5.cell 0
                  have t1 := B5.cell 1
                  have t2 := B5.cell 2
                  have t3 := B5.cell 3
                  have t4 := B5.cell 4
                  have t5 := B5.cell 5
                  simp at t0 t1 t2 t3 t4 t5
                  replace t0 := fun x : Ext w6 => keepc x.bel t0
                  replace t1 := fun x : Ext w6 => keepc x.bel t1
                  replace t2 := fun x : Ext w6 => keepc x.bel t2
                  replace t3 := fun x : Ext w6 => keepc x.bel t3
                  replace t4 := fun x : Ext w6 => keepc x.bel t4
                  replace t5 := fun x : Ext w6 => keepc x.bel t5
                  have j0 := J5.cell 0
                  have j1 := J5.cell 1
                  simp at j0 j1
                  replace j0 := fun x : Ext w6 => keepc x.bel j0
                  replace j1 := fun x : Ext w6 => keepc x.bel j1
                  have z0 := B4.cell (8 + pn)
                  rw [boxA_hi HBX.out.1.1 HBX.out.1.2.1 hp8] at z0
                  obtain ⟨hp', hhp⟩ : ∃ hp', hi.getD pn 0 = hp' := ⟨_, rfl⟩
                  rw [hhp] at z0
                  have HHP := Lib.hid hhp
                  clear hhp
                  replace z0 := fun x : Ext w6 => keepc x.bel z0
                  refine wp_region_ext (by kernel_rfl) (by kernel_rfl) ?_
                  repeat (go_big_quiet_step (fail))
                  refine wpQuiet_nil ?_
                  rintro _ ⟨y, rfl⟩
                  clear t0 t1 t2 t3 t4 t5 j0 j1 z0
                  have hbw7 := y.bel
                  generalize y.w = w7 at hbw7 ⊢
                  replace B4 := B4.keep hbw7
                  replace B5 := B5.keep hbw7
                  replace J5 := J5.keep hbw7
                  replace hB := hB.trans (hbw7.mono hB.size)
                  clear hbw7
                  by_cases hhi : hp' ≤ a
                  · have hf : decide (a < hi.getD pn 0) = false := decide_eq_false (by rw [HHP.out]; omega)
                    have HC : Hid (checkF s sum (n + 1) (.mk 3 pn a (wx, wy) A c kids) lo hi = none) := check3_none (by rw [HKN.out, HH.out.1, HCC.out, Int.toNat_natCast, hf]; simp)
                    clear hf
                    go_wp2_with fail
                    go_ret
                    rw [HC.out]
                    exact right_none rfl hB J5
                  · go_upto_region 13 with fail
                    have hlp := HLP.out
                    have hhp := HHP.out
                    have hbra : braB s (pn : Int) a (wx, wy) 2 lo hi = true := by
                      have f1 : decide (lo.getD pn 0 ≤ a) = true := decide_eq_true (by omega)
                      have f2 : decide (a < hi.getD pn 0) = true := decide_eq_true (by omega)
                      have f3 : inB (pn : Int) 0 ((s.pockets.length : Int) - 1) = true := by simp [inB]; omega
                      rw [HH.out.1, HCC.out, Int.toNat_natCast, f1, f2, f3]; rfl
                    have hup : BoxIn s lo (hi.set pn a) := HBX.out.1.up hp8 (by omega) (by omega)
                    have hdn : BoxIn s (lo.set pn (a + 1)) hi := HBX.out.1.down hp8 (by omega) (by omega)
                    have hab : 0 ≤ a ∧ a ≤ 255 := by
                      have h1 := HBX.out.1.2.2 pn hp8
                      have h2 := high_small hok hp8
                      omega
                    have hxm : kx ∈ kids := by rw [HXY.out]; simp
                    have hym : ky ∈ kids := by rw [HXY.out]; simp
                    have hck : checkF s sum (n + 1) (.mk 3 pn a (wx, wy) A c kids) lo hi = match checkF s sum n kx lo (hi.set pn a) with
                        | none => none
                        | some m => match checkF s sum n ky (lo.set pn (a + 1)) hi with
                          | none => none
                          | some m' => some (m + m') := by rw [HXY.out]; exact check3_two hbra
                    have hse : sizeT (.mk 3 pn a (wx, wy) A c kids) = 1 + sizeT kx + sizeT ky := by rw [HXY.out]; simp only [sizeT, sizeL]; omega
                    have hxs : sizeT kx ≤ n := by have := HSZ.out.2; have := sizeT_pos ky; omega
                    have hys : sizeT ky ≤ n := by have := HSZ.out.2; have := sizeT_pos kx; omega
                    have hrow : RowNe w7 J A (kidCells [kx, ky]) := by
                      have h := HTR.out.1
                      rw [HXY.out] at h
                      exact h.below hB
                    have hll : L + (1 + sizeT kx + sizeT ky : Nat) ≤ 1000000000 := by omega
                    rename_i K hK
                    exact right_tail13 g J s sum w0 n kx ky (ih kx hxs) (ih ky hys) hJ0 lo hi pn a L 3 wx wy A c w.heap.size (w.heap.size + 1) w w7 hp8 hab HBX.out.1 hup hdn hrow ((HTR.out.2.1 kx hxm).keep hB) ((HTR.out.2.1 ky hym).keep hB) (hB0.trans (hB.mono hB0.size)) hB J5 hJw B4 B5 (by omega) hL0 hll _ hse _ hck _ _ _ _ _ _ _ _ _ _ _ _ _ _ _ _ _ _ _ _ _ _ _ _ _ _ _ _ _ _ _ _ _ _ _ _ _ _ _ _ _ _ _ _ _ _ _ _ _ _ _ _ _ _ _ _ _ _ _ _ _ _ _ _ _ _ _ _ _ _ _ _ _ _ _ _ _ _ _ _ _ _ _ _ _ _ _ _ _ _ _ _ _ _ _ _ _ _ _ _ _ _ _ _ _ _ _ _ _ _ _ _ _ _ _ _ _ _ _ _ _ _ _ _ _ _ _ _ _ _ _ _ _ _ K hK
        · have HC : Hid (checkF s sum (n + 1) (.mk k p a (wx, wy) A c kids) lo hi = none) := by simp [Hid, checkF, e1, e2, e3]
          have e1' : (k == 1) = false := by simpa using e1
          have e2' : (k == 2) = false := by simpa using e2
          have e3' : (k != 3) = true := by simpa using e3
          clear hsum8 hfar hbra e1 e2 e3 H62 H72 H80 H129 HBX HTR HBE
          go_enter Try.func105, Try.ntmps105
          go_upto_region 1 with fail
          rw [HU.out]
          clear HU
          have t0 := B5.cell 0
          have t1 := B5.cell 1
          have t2 := B5.cell 2
          have t3 := B5.cell 3
          have t4 := B5.cell 4
          have t5 := B5.cell 5
          simp at t0 t1 t2 t3 t4 t5
          replace t0 := fun x : Ext U => keepc x.bel t0
          replace t1 := fun x : Ext U => keepc x.bel t1
          replace t2 := fun x : Ext U => keepc x.bel t2
          replace t3 := fun x : Ext U => keepc x.bel t3
          replace t4 := fun x : Ext U => keepc x.bel t4
          replace t5 := fun x : Ext U => keepc x.bel t5
          have j0 := J5.cell 0
          have j1 := J5.cell 1
          simp at j0 j1
          replace j0 := fun x : Ext U => keepc x.bel j0
          replace j1 := fun x : Ext U => keepc x.bel j1
          refine wp_region_ext (by kernel_rfl) (by kernel_rfl) ?_
          repeat (go_big_quiet_step (fail))
          refine wpQuiet_nil ?_
          rintro _ ⟨y, rfl⟩
          clear t0 t1 t2 t3 t4 t5 j0 j1
          have hbw2 := y.bel
          generalize y.w = w2 at hbw2 ⊢
          replace B4 := B4.keep hbw2
          replace B5 := B5.keep hbw2
          replace J5 := J5.keep hbw2
          replace hB := hB.trans (hbw2.mono hB.size)
          clear hbw2
          go_upto_region 2 with fail
          have t0 := B5.cell 0
          have t1 := B5.cell 1
          have t2 := B5.cell 2
          have t3 := B5.cell 3
          have t4 := B5.cell 4
          have t5 := B5.cell 5
          simp at t0 t1 t2 t3 t4 t5
          replace t0 := fun x : Ext w2 => keepc x.bel t0
          replace t1 := fun x : Ext w2 => keepc x.bel t1
          replace t2 := fun x : Ext w2 => keepc x.bel t2
          replace t3 := fun x : Ext w2 => keepc x.bel t3
          replace t4 := fun x : Ext w2 => keepc x.bel t4
          replace t5 := fun x : Ext w2 => keepc x.bel t5
          have j0 := J5.cell 0
          have j1 := J5.cell 1
          simp at j0 j1
          replace j0 := fun x : Ext w2 => keepc x.bel j0
          replace j1 := fun x : Ext w2 => keepc x.bel j1
          refine wp_region_ext (by kernel_rfl) (by kernel_rfl) ?_
          repeat (go_big_quiet_step (fail))
          refine wpQuiet_nil ?_
          rintro _ ⟨y, rfl⟩
          clear t0 t1 t2 t3 t4 t5 j0 j1
          have hbw3 := y.bel
          generalize y.w = w3 at hbw3 ⊢
          replace B4 := B4.keep hbw3
          replace B5 := B5.keep hbw3
          replace J5 := J5.keep hbw3
          replace hB := hB.trans (hbw3.mono hB.size)
          clear hbw3
          have t0 := B5.cell 0
          simp at t0
          go_wp2_with fail
          go_ret
          rw [HC.out]
          exact right_none rfl hB J5

end Go.Proofs.Ythmngnfdfelkeaa
