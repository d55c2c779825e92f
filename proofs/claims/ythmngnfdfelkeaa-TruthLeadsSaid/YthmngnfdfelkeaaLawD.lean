/-
  What is proved: TruthLeads answers true.
-/
import Derived.Test.YthmngnfdfelkeaaAwake
import Derived.Test.YthmngnfdfelkeaaRLead
namespace Go.Proofs.Ythmngnfdfelkeaa
open Go.RowKit
attribute [local go_sem ↓] max_int min_int

set_option maxRecDepth 100000 in
set_option maxHeartbeats 8000000 in
theorem leads_law (s : Stn) (z : Loc) (w : World) (hs : StAt w s z) :
    Calls Try.prog 3 #[s.val z] w fun e w' => e = .returned (.bool true) ∧ Below w.heap.size w w' := by
  have T0 : Bk (w.alloc (.cells (s.cells z) 28)) w.heap.size 28 (s.cells z) := bk_last rfl
  have hB0 : Below w.heap.size w (w.alloc (.cells (s.cells z) 28)) := (Below.refl _ _).alloc (Nat.le_refl _) _
  have H16 : Hid (∀ W, Below w.heap.size w W → Calls Try.prog 16 #[.agg (s.cells z)] W fun e w' => e = .returned (.bool (smallB s)) ∧ Below W.heap.size W w') := fun W h => small_any s z W (hs.below h)
  have H17 : Hid (∀ W, Below w.heap.size w W → Calls Try.prog 17 #[.agg (s.cells z)] W fun e w' => e = .returned (.bool (fewB s)) ∧ Below W.heap.size W w') := fun W h => few_any s z W (hs.below h)
  have H18 : Hid (∀ W, Below w.heap.size w W → Calls Try.prog 18 #[.agg (s.cells z)] W fun e w' => e = .returned (.tuple #[.int .i64 (sumL (leadR s).1), .int .i64 (leadR s).2]) ∧ Below W.heap.size W w') := fun W h => least_any s z W (hs.below h)
  have H19 : Hid (∀ W, Below w.heap.size w W → Calls Try.prog 19 #[.agg (s.cells z)] W fun e w' => e = .returned (.tuple #[.int .i64 (sumL (leadR s).1), .int .i64 (leadR s).2]) ∧ Below W.heap.size W w') := fun W h => leastF_any s z W (hs.below h)
  have H20 : Hid (∀ W, Below w.heap.size w W → Calls Try.prog 20 #[.agg (s.cells z)] W fun e w' => ∃ v, e = .returned (.tuple #[v, .int .i64 (leadR s).2]) ∧ w'.ownsRow W.heap.size 3 1 v (leadR s).1.length (intCells (leadR s).1) ∧ Below W.heap.size W w') := fun W h => lead_any s z W (hs.below h)
  have H21 : Hid (∀ W, Below w.heap.size w W → Calls Try.prog 21 #[.agg (s.cells z)] W fun e w' => ∃ v, e = .returned (.tuple #[v, .int .i64 (leadR s).2]) ∧ w'.ownsRow W.heap.size 3 1 v (leadR s).1.length (intCells (leadR s).1) ∧ Below W.heap.size W w') := fun W h => leadF_any s z W (hs.below h)
  have H22 : Hid (∀ W, Below w.heap.size w W → Calls Try.prog 22 #[.agg (s.cells z)] W fun e w' => e = .returned (.tuple #[.int .i64 (countR s).1, .int .i64 (countR s).2]) ∧ Below W.heap.size W w') := fun W h => count_any s z W (hs.below h)
  have H23 : Hid (∀ W, Below w.heap.size w W → Calls Try.prog 23 #[.agg (s.cells z)] W fun e w' => e = .returned (.tuple #[.int .i64 (countR s).1, .int .i64 (countR s).2]) ∧ Below W.heap.size W w') := fun W h => countF_any s z W (hs.below h)
  have HSL := leadR_small s
  unfold Stn.cells at *
  unfold Stn.val Stn.cells
  generalize smallB s = sm at *
  generalize fewB s = fw at *
  generalize leadR s = LR at *
  generalize countR s = CR at *
  obtain ⟨LL, LE⟩ := LR
  obtain ⟨CN, CE⟩ := CR
  simp only at H18 H19 H20 H21 H22 H23 HSL
  go_enter Try.func3, Try.ntmps3
  go_wp2_with fail
  generalize w.alloc (.cells _ 28) = V at *
  refine (awake_any _).mono ?_
  rintro e w1 ⟨rfl, hb1⟩
  have T1 : Bk w1 w.heap.size 28 (s.cells z) := T0.keep hb1
  have hB1 := hB0.trans (hb1.mono hB0.size)
  clear T0 hB0 hb1
  obtain ⟨x0, x1, x2, x3, x4, x5, x6, x7⟩ := stn_cell0 T1
  cases sm
  · go_wp2_with (go_at_call 16; refine (H16.out _ hB1).mono ?_; rintro e w2 ⟨rfl, hb2⟩)
    go_ret
    exact ⟨rfl, hB1.trans (hb2.mono hB1.size)⟩
  · go_wp2_with fail
    refine (H16.out _ hB1).mono ?_
    rintro e w2 ⟨rfl, hb2⟩
    have T2 := T1.keep hb2
    have hB2 := hB1.trans (hb2.mono hB1.size)
    clear T1 hB1 hb2 x0 x1 x2 x3 x4 x5 x6 x7 H16
    obtain ⟨x0, x1, x2, x3, x4, x5, x6, x7⟩ := stn_cell0 T2
    cases fw
    · go_wp2_with (go_at_call 17; refine (H17.out _ hB2).mono ?_; rintro e w3 ⟨rfl, hb3⟩)
      go_ret
      exact ⟨rfl, hB2.trans (hb3.mono hB2.size)⟩
    · go_wp2_with fail
      refine (H17.out _ hB2).mono ?_
      rintro e w3 ⟨rfl, hb3⟩
      have T3 := T2.keep hb3
      have hB3 := hB2.trans (hb3.mono hB2.size)
      clear T2 hB2 hb3 x0 x1 x2 x3 x4 x5 x6 x7 H17
      obtain ⟨x0, x1, x2, x3, x4, x5, x6, x7⟩ := stn_cell0 T3
      go_wp2_with fail
      refine (H18.out _ hB3).mono ?_
      rintro e w4 ⟨rfl, hb4⟩
      have T4 := T3.keep hb4
      have hB4 := hB3.trans (hb4.mono hB3.size)
      clear T3 hB3 hb4 x0 x1 x2 x3 x4 x5 x6 x7 H18
      obtain ⟨x0, x1, x2, x3, x4, x5, x6, x7⟩ := stn_cell0 T4
      go_wp2_with fail
      refine (H19.out _ hB4).mono ?_
      rintro e w5 ⟨rfl, hb5⟩
      have T5 := T4.keep hb5
      have hB5 := hB4.trans (hb5.mono hB4.size)
      clear T4 hB4 hb5 x0 x1 x2 x3 x4 x5 x6 x7 H19
      obtain ⟨x0, x1, x2, x3, x4, x5, x6, x7⟩ := stn_cell0 T5
      go_wp2_with fail
      refine (H20.out _ hB5).mono ?_
      rintro e w6 ⟨v6, rfl, ho6, hb6⟩
      obtain ⟨A6, c6, rfl, _, hr6, _⟩ := own_form ho6
      clear ho6
      have T6 := T5.keep hb6
      have hB6 := hB5.trans (hb6.mono hB5.size)
      clear T5 hB5 hb6 x0 x1 x2 x3 x4 x5 x6 x7 H20
      obtain ⟨x0, x1, x2, x3, x4, x5, x6, x7⟩ := stn_cell0 T6
      go_wp2_with fail
      refine (H21.out _ hB6).mono ?_
      rintro e w7 ⟨v7, rfl, ho7, hb7⟩
      obtain ⟨A7, c7, rfl, _, hr7, _⟩ := own_form ho7
      clear ho7
      have T7 := T6.keep hb7
      have hB7 := hB6.trans (hb7.mono hB6.size)
      replace hr6 := hr6.below hb7
      clear T6 hB6 hb7 x0 x1 x2 x3 x4 x5 x6 x7 H21
      obtain ⟨x0, x1, x2, x3, x4, x5, x6, x7⟩ := stn_cell0 T7
      go_wp2_with fail
      refine (H22.out _ hB7).mono ?_
      rintro e w8 ⟨rfl, hb8⟩
      have T8 := T7.keep hb8
      have hB8 := hB7.trans (hb8.mono hB7.size)
      replace hr6 := hr6.below hb8
      replace hr7 := hr7.below hb8
      clear T7 hB7 hb8 x0 x1 x2 x3 x4 x5 x6 x7 H22
      obtain ⟨x0, x1, x2, x3, x4, x5, x6, x7⟩ := stn_cell0 T8
      go_wp2_with fail
      refine (H23.out _ hB8).mono ?_
      rintro e w9 ⟨rfl, hb9⟩
      have T9 := T8.keep hb9
      have hB9 := hB8.trans (hb9.mono hB8.size)
      replace hr6 := hr6.below hb9
      replace hr7 := hr7.below hb9
      clear T8 hB8 hb9 x0 x1 x2 x3 x4 x5 x6 x7 H23
      obtain ⟨x0, x1, x2, x3, x4, x5, x6, x7⟩ := stn_cell0 T9
      have q1 : (CE == CE) = true := by simp
      have q2 : (LE == LE) = true := by simp
      go_wp2_with fail
      refine (sameInts_any A6 A7 c6 c7 LL LL _ hr6 hr7 (by omega) (by omega)).mono ?_
      rintro e w20 ⟨rfl, n, rfl⟩
      simp only [decide_true]
      go_wp2_with fail
      go_ret
      exact ⟨rfl, below_drewN hB9 _⟩

end Go.Proofs.Ythmngnfdfelkeaa
