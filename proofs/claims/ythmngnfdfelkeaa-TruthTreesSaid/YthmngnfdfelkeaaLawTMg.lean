/-
  What is proved: TruthTrees answers true.
-/
import Derived.Test.YthmngnfdfelkeaaAwakeMg
import Derived.Test.YthmngnfdfelkeaaTProveMg
import Derived.Test.YthmngnfdfelkeaaTCtTMg
namespace Go.Proofs.Ythmngnfdfelkeaa
open Go.RowKit
attribute [local go_sem ↓] max_int min_int

set_option maxRecDepth 100000 in
set_option maxHeartbeats 8000000 in
theorem trees_law (s : Stn) (z : Loc) (cell : Int) (A : Option Addr) (c : Nat) (L : List Int) (way : Int × Int) (sum : Int) (t : Tr) (q : Nat) (w : World) (hs : StAt w s z) (ht : TrAt w q t) :
    Calls Try.prog 13 #[s.val z, .agg (askT cell A c L way sum t)] w fun e w' => e = .returned (.bool true) ∧ Below w.heap.size w w' := by
  have H16 : Hid (∀ W, Below w.heap.size w W → Calls Try.prog 16 #[.agg (s.cells z)] W fun e w' => e = .returned (.bool (smallB s)) ∧ Below W.heap.size W w') := fun W h => small_any s z W (hs.below h)
  have H17 : Hid (∀ W, Below w.heap.size w W → Calls Try.prog 17 #[.agg (s.cells z)] W fun e w' => e = .returned (.bool (fewB s)) ∧ Below W.heap.size W w') := fun W h => few_any s z W (hs.below h)
  have H52 : Hid (∀ W, Below w.heap.size w W → Calls Try.prog 52 #[t.val] W fun e w' => e = .returned (.bool (decide (sizeT t ≤ 5000))) ∧ Below W.heap.size W w') := fun W h => shallow_any q t W (ht.keep h)
  have H53 : Hid (∀ W, Below w.heap.size w W → Calls Try.prog 53 #[.agg (s.cells z)] W (ProvePost s W)) := fun W h => prove_any s z W (hs.below h)
  have H54 : Hid (∀ W, Below w.heap.size w W → Calls Try.prog 54 #[.agg (s.cells z)] W fun e w' => e = .returned (.tuple #[.int .i64 (targetR s).1, .int .i64 (targetR s).2]) ∧ Below W.heap.size W w') := fun W h => rtarget_any s z W (hs.below h)
  have H55 : Hid (∀ W, Below w.heap.size w W → ∀ (u : Int) (t' : Tr) (q' : Nat), TrAt W q' t' → Calls Try.prog 55 #[.agg (s.cells z), .int .i64 u, t'.val] W fun e w' => e = .returned (.tuple #[.int .i64 (ctR s u t').1, .int .i64 (ctR s u t').2]) ∧ Below W.heap.size W w') := fun W h u t' q' h2 => ctF_any s z u q' t' W (hs.below h) h2
  have H55b : Hid (∀ W, Below w.heap.size w W → Calls Try.prog 55 #[.agg (s.cells z), .int .i64 sum, t.val] W fun e w' => e = .returned (.tuple #[.int .i64 (ctR s sum t).1, .int .i64 (ctR s sum t).2]) ∧ Below W.heap.size W w') := fun W h => ctF_any s z sum q t W (hs.below h) (ht.keep h)
  have H57 : Hid (sizeT t ≤ 5000 → ∀ W, Below w.heap.size w W → Calls Try.prog 57 #[.agg (s.cells z), .int .i64 sum, t.val] W fun e w' => e = .returned (.tuple #[.int .i64 (ctR s sum t).1, .int .i64 (ctR s sum t).2]) ∧ Below W.heap.size W w') := fun hz W h => ctT_any s z sum q t W (hs.below h) (ht.keep h) (by omega)
  have H58 : Hid (sizeT t ≤ 5000 → ∀ W, Below w.heap.size w W → Calls Try.prog 58 #[t.val] W fun e w' => e = .returned (.int .i64 (sizeT t)) ∧ Below W.heap.size W w') := fun hz W h => nodesT_any q t W (ht.keep h) (by omega)
  have H59 : Hid (sizeT t ≤ 5000 → ∀ W, Below w.heap.size w W → Calls Try.prog 59 #[t.val] W fun e w' => e = .returned (.int .i64 (sizeT t)) ∧ Below W.heap.size W w') := fun hz W h => by
    have h2 := rnodes_any q t W (ht.keep h)
    rwa [Int.min_eq_left (by omega)] at h2
  obtain ⟨k, p, a, ⟨wx, wy⟩, B, d, kids⟩ := t
  obtain ⟨vx, vy⟩ := way
  generalize hS : sizeT (.mk k p a (wx, wy) B d kids) = S at *
  generalize hct : ctR s sum (.mk k p a (wx, wy) B d kids) = ct at *
  clear hS hct
  obtain ⟨V, hV⟩ : ∃ V, (w.alloc (.cells (s.cells z) 28)).alloc (.cells #[.int .i64 cell, .slice A L.length c, .int .i64 vx, .int .i64 vy, .int .i64 sum, .int .i64 k, .int .i64 p, .int .i64 a, .int .i64 wx, .int .i64 wy, .slice B kids.length d] 51) = V := ⟨_, rfl⟩
  have T0 : Bk V w.heap.size 28 (s.cells z) := by rw [← hV]; exact (bk_last rfl).alloc _
  have Q0 : Bk V (w.heap.size + 1) 51 #[.int .i64 cell, .slice A L.length c, .int .i64 vx, .int .i64 vy, .int .i64 sum, .int .i64 k, .int .i64 p, .int .i64 a, .int .i64 wx, .int .i64 wy, .slice B kids.length d] := by rw [← hV]; exact bk_last (by simp)
  have hB0 : Below w.heap.size w V := by rw [← hV]; exact ((Below.refl _ _).alloc (Nat.le_refl _) _).alloc (by simp) _
  show Calls Try.prog 13 #[.agg #[.int .i64 s.f.eye, .int .i64 s.f.rings, .int .i64 s.f.sec, .slice z.a1 s.f.kinds.length z.c1, .slice z.a2 s.heights.length z.c2, .slice z.a3 s.compass.length z.c3, .slice z.a4 s.pockets.length z.c4, .int .i64 s.tol], .agg #[.int .i64 cell, .slice A L.length c, .int .i64 vx, .int .i64 vy, .int .i64 sum, .int .i64 k, .int .i64 p, .int .i64 a, .int .i64 wx, .int .i64 wy, .slice B kids.length d]] w _
  replace H16 : Hid (∀ W, Below w.heap.size w W → Calls Try.prog 16 #[.agg #[.int .i64 s.f.eye, .int .i64 s.f.rings, .int .i64 s.f.sec, .slice z.a1 s.f.kinds.length z.c1, .slice z.a2 s.heights.length z.c2, .slice z.a3 s.compass.length z.c3, .slice z.a4 s.pockets.length z.c4, .int .i64 s.tol]] W fun e w' => e = .returned (.bool (smallB s)) ∧ Below W.heap.size W w') := H16
  replace H17 : Hid (∀ W, Below w.heap.size w W → Calls Try.prog 17 #[.agg #[.int .i64 s.f.eye, .int .i64 s.f.rings, .int .i64 s.f.sec, .slice z.a1 s.f.kinds.length z.c1, .slice z.a2 s.heights.length z.c2, .slice z.a3 s.compass.length z.c3, .slice z.a4 s.pockets.length z.c4, .int .i64 s.tol]] W fun e w' => e = .returned (.bool (fewB s)) ∧ Below W.heap.size W w') := H17
  replace H52 : Hid (∀ W, Below w.heap.size w W → Calls Try.prog 52 #[.agg #[.int .i64 k, .int .i64 p, .int .i64 a, .int .i64 wx, .int .i64 wy, .slice B kids.length d]] W fun e w' => e = .returned (.bool (decide (S ≤ 5000))) ∧ Below W.heap.size W w') := H52
  replace H53 : Hid (∀ W, Below w.heap.size w W → Calls Try.prog 53 #[.agg #[.int .i64 s.f.eye, .int .i64 s.f.rings, .int .i64 s.f.sec, .slice z.a1 s.f.kinds.length z.c1, .slice z.a2 s.heights.length z.c2, .slice z.a3 s.compass.length z.c3, .slice z.a4 s.pockets.length z.c4, .int .i64 s.tol]] W (ProvePost s W)) := H53
  replace H54 : Hid (∀ W, Below w.heap.size w W → Calls Try.prog 54 #[.agg #[.int .i64 s.f.eye, .int .i64 s.f.rings, .int .i64 s.f.sec, .slice z.a1 s.f.kinds.length z.c1, .slice z.a2 s.heights.length z.c2, .slice z.a3 s.compass.length z.c3, .slice z.a4 s.pockets.length z.c4, .int .i64 s.tol]] W fun e w' => e = .returned (.tuple #[.int .i64 (targetR s).1, .int .i64 (targetR s).2]) ∧ Below W.heap.size W w') := H54
  replace H55 : Hid (∀ W, Below w.heap.size w W → ∀ (u : Int) (t' : Tr) (q' : Nat), TrAt W q' t' → Calls Try.prog 55 #[.agg #[.int .i64 s.f.eye, .int .i64 s.f.rings, .int .i64 s.f.sec, .slice z.a1 s.f.kinds.length z.c1, .slice z.a2 s.heights.length z.c2, .slice z.a3 s.compass.length z.c3, .slice z.a4 s.pockets.length z.c4, .int .i64 s.tol], .int .i64 u, t'.val] W fun e w' => e = .returned (.tuple #[.int .i64 (ctR s u t').1, .int .i64 (ctR s u t').2]) ∧ Below W.heap.size W w') := H55
  replace H55b : Hid (∀ W, Below w.heap.size w W → Calls Try.prog 55 #[.agg #[.int .i64 s.f.eye, .int .i64 s.f.rings, .int .i64 s.f.sec, .slice z.a1 s.f.kinds.length z.c1, .slice z.a2 s.heights.length z.c2, .slice z.a3 s.compass.length z.c3, .slice z.a4 s.pockets.length z.c4, .int .i64 s.tol], .int .i64 sum, .agg #[.int .i64 k, .int .i64 p, .int .i64 a, .int .i64 wx, .int .i64 wy, .slice B kids.length d]] W fun e w' => e = .returned (.tuple #[.int .i64 ct.1, .int .i64 ct.2]) ∧ Below W.heap.size W w') := H55b
  replace H57 : Hid (S ≤ 5000 → ∀ W, Below w.heap.size w W → Calls Try.prog 57 #[.agg #[.int .i64 s.f.eye, .int .i64 s.f.rings, .int .i64 s.f.sec, .slice z.a1 s.f.kinds.length z.c1, .slice z.a2 s.heights.length z.c2, .slice z.a3 s.compass.length z.c3, .slice z.a4 s.pockets.length z.c4, .int .i64 s.tol], .int .i64 sum, .agg #[.int .i64 k, .int .i64 p, .int .i64 a, .int .i64 wx, .int .i64 wy, .slice B kids.length d]] W fun e w' => e = .returned (.tuple #[.int .i64 ct.1, .int .i64 ct.2]) ∧ Below W.heap.size W w') := H57
  replace H58 : Hid (S ≤ 5000 → ∀ W, Below w.heap.size w W → Calls Try.prog 58 #[.agg #[.int .i64 k, .int .i64 p, .int .i64 a, .int .i64 wx, .int .i64 wy, .slice B kids.length d]] W fun e w' => e = .returned (.int .i64 S) ∧ Below W.heap.size W w') := H58
  replace H59 : Hid (S ≤ 5000 → ∀ W, Below w.heap.size w W → Calls Try.prog 59 #[.agg #[.int .i64 k, .int .i64 p, .int .i64 a, .int .i64 wx, .int .i64 wy, .slice B kids.length d]] W fun e w' => e = .returned (.int .i64 S) ∧ Below W.heap.size W w') := H59
  rw [show s.cells z = #[.int .i64 s.f.eye, .int .i64 s.f.rings, .int .i64 s.f.sec, .slice z.a1 s.f.kinds.length z.c1, .slice z.a2 s.heights.length z.c2, .slice z.a3 s.compass.length z.c3, .slice z.a4 s.pockets.length z.c4, .int .i64 s.tol] from rfl] at hV
  have HV := Lib.hid hV
  have HFW : Hid (fewB s = (!s.ok || decide (prodM (mosts s) ≤ 2000) || decide (200000 < prodM (mosts s)))) := rfl
  clear hV ht hs
  generalize smallB s = sm at *
  generalize fewB s = fw at *
  go_enter Try.func13, Try.ntmps13
  go_upto_region 1 with fail
  rw [HV.out]
  clear HV
  go_wp2_with fail
  refine (awake_any _).mono ?_
  rintro e w1 ⟨rfl, hb1⟩
  have T1 : Bk w1 w.heap.size 28 (s.cells z) := T0.keep hb1
  have Q1 := Q0.keep hb1
  have hB1 := hB0.trans (hb1.mono hB0.size)
  clear T0 Q0 hB0 hb1
  obtain ⟨x0, x1, x2, x3, x4, x5, x6, x7⟩ := stn_cell0 T1
  have a0 := Q1.cell 0
  have a1 := Q1.cell 1
  have a2 := Q1.cell 2
  have a3 := Q1.cell 3
  have a4 := Q1.cell 4
  have a5 := Q1.cell 5
  have a6 := Q1.cell 6
  have a7 := Q1.cell 7
  have a8 := Q1.cell 8
  have a9 := Q1.cell 9
  have a10 := Q1.cell 10
  simp at a0 a1 a2 a3 a4 a5 a6 a7 a8 a9 a10
  cases sm
  · go_wp2_with (go_at_call 16; refine (H16.out _ hB1).mono ?_; rintro e w2 ⟨rfl, hb2⟩)
    go_ret
    exact ⟨rfl, hB1.trans (hb2.mono hB1.size)⟩
  · cases fw
    · go_wp2_with fail
      refine (H16.out _ hB1).mono ?_
      rintro e w2 ⟨rfl, hb2⟩
      have T2 := T1.keep hb2
      have Q2 := Q1.keep hb2
      have hB2 := hB1.trans (hb2.mono hB1.size)
      clear T1 Q1 hB1 x0 x1 x2 x3 x4 x5 x6 x7 a0 a1 a2 a3 a4 a5 a6 a7 a8 a9 a10
      obtain ⟨x0, x1, x2, x3, x4, x5, x6, x7⟩ := stn_cell0 T2
      have a0 := Q2.cell 0
      have a1 := Q2.cell 1
      have a2 := Q2.cell 2
      have a3 := Q2.cell 3
      have a4 := Q2.cell 4
      have a5 := Q2.cell 5
      have a6 := Q2.cell 6
      have a7 := Q2.cell 7
      have a8 := Q2.cell 8
      have a9 := Q2.cell 9
      have a10 := Q2.cell 10
      simp at a0 a1 a2 a3 a4 a5 a6 a7 a8 a9 a10
      go_wp2_with (go_at_call 17; refine (H17.out _ hB2).mono ?_; rintro e w3 ⟨rfl, hb3⟩)
      go_ret
      exact ⟨rfl, hB2.trans (hb3.mono hB2.size)⟩
    · by_cases hz : S ≤ 5000
      · have hd : decide (S ≤ 5000) = true := decide_eq_true hz
        rw [hd] at H52
        replace H57 := Lib.hid (H57.out hz)
        replace H58 := Lib.hid (H58.out hz)
        replace H59 := Lib.hid (H59.out hz)
        clear hd hz
        go_wp2_with fail
        refine (H16.out _ hB1).mono ?_
        rintro e w2 ⟨rfl, hb2⟩
        have T2 := T1.keep hb2
        have Q2 := Q1.keep hb2
        have hB2 := hB1.trans (hb2.mono hB1.size)
        clear T1 Q1 hB1 x0 x1 x2 x3 x4 x5 x6 x7 a0 a1 a2 a3 a4 a5 a6 a7 a8 a9 a10
        obtain ⟨x0, x1, x2, x3, x4, x5, x6, x7⟩ := stn_cell0 T2
        have a0 := Q2.cell 0
        have a1 := Q2.cell 1
        have a2 := Q2.cell 2
        have a3 := Q2.cell 3
        have a4 := Q2.cell 4
        have a5 := Q2.cell 5
        have a6 := Q2.cell 6
        have a7 := Q2.cell 7
        have a8 := Q2.cell 8
        have a9 := Q2.cell 9
        have a10 := Q2.cell 10
        simp at a0 a1 a2 a3 a4 a5 a6 a7 a8 a9 a10
        go_wp2_with fail
        refine (H17.out _ hB2).mono ?_
        rintro e w3 ⟨rfl, hb3⟩
        have T3 := T2.keep hb3
        have Q3 := Q2.keep hb3
        have hB3 := hB2.trans (hb3.mono hB2.size)
        clear T2 Q2 hB2 x0 x1 x2 x3 x4 x5 x6 x7 a0 a1 a2 a3 a4 a5 a6 a7 a8 a9 a10
        obtain ⟨x0, x1, x2, x3, x4, x5, x6, x7⟩ := stn_cell0 T3
        have a0 := Q3.cell 0
        have a1 := Q3.cell 1
        have a2 := Q3.cell 2
        have a3 := Q3.cell 3
        have a4 := Q3.cell 4
        have a5 := Q3.cell 5
        have a6 := Q3.cell 6
        have a7 := Q3.cell 7
        have a8 := Q3.cell 8
        have a9 := Q3.cell 9
        have a10 := Q3.cell 10
        simp at a0 a1 a2 a3 a4 a5 a6 a7 a8 a9 a10
        go_wp2_with fail
        refine (H52.out _ hB3).mono ?_
        rintro e w4 ⟨rfl, hb4⟩
        have T4 := T3.keep hb4
        have Q4 := Q3.keep hb4
        have hB4 := hB3.trans (hb4.mono hB3.size)
        clear T3 Q3 hB3 x0 x1 x2 x3 x4 x5 x6 x7 a0 a1 a2 a3 a4 a5 a6 a7 a8 a9 a10
        obtain ⟨x0, x1, x2, x3, x4, x5, x6, x7⟩ := stn_cell0 T4
        have a0 := Q4.cell 0
        have a1 := Q4.cell 1
        have a2 := Q4.cell 2
        have a3 := Q4.cell 3
        have a4 := Q4.cell 4
        have a5 := Q4.cell 5
        have a6 := Q4.cell 6
        have a7 := Q4.cell 7
        have a8 := Q4.cell 8
        have a9 := Q4.cell 9
        have a10 := Q4.cell 10
        simp at a0 a1 a2 a3 a4 a5 a6 a7 a8 a9 a10
        go_wp2_with fail
        refine (H53.out _ hB4).mono ?_
        rintro e w5 ⟨hb5, hpp⟩
        have T5 := T4.keep hb5
        have Q5 := Q4.keep hb5
        have hB5 := hB4.trans (hb5.mono hB4.size)
        clear T4 Q4 hB4 x0 x1 x2 x3 x4 x5 x6 x7 a0 a1 a2 a3 a4 a5 a6 a7 a8 a9 a10 H53 H52 H17 H16
        obtain ⟨x0, x1, x2, x3, x4, x5, x6, x7⟩ := stn_cell0 T5
        have a0 := Q5.cell 0
        have a1 := Q5.cell 1
        have a2 := Q5.cell 2
        have a3 := Q5.cell 3
        have a4 := Q5.cell 4
        have a5 := Q5.cell 5
        have a6 := Q5.cell 6
        have a7 := Q5.cell 7
        have a8 := Q5.cell 8
        have a9 := Q5.cell 9
        have a10 := Q5.cell 10
        simp at a0 a1 a2 a3 a4 a5 a6 a7 a8 a9 a10
        rcases hpp with ⟨ho, rfl⟩ | ⟨ho, hp, rfl⟩ | ⟨ho, hp, hp2, rfl⟩ | ⟨ho, hp, ⟨tk, tp, ta, ⟨tx, ty⟩, tB, td, tkids⟩, tq, rfl, htt, hts, m, hm⟩
        · have hT : targetR s = (0, 60) := by simp [targetR, ho]
          rw [hT] at H54
          clear hT
          obtain ⟨w6, hw6⟩ : ∃ w6, w5.alloc (.cells #[.int .i64 0, .int .i64 0, .int .i64 0, .int .i64 0, .int .i64 0, .slice none 0 0] 49) = w6 := ⟨_, rfl⟩
          have Y6 : Bk w6 w5.heap.size 49 #[.int .i64 0, .int .i64 0, .int .i64 0, .int .i64 0, .int .i64 0, .slice none 0 0] := by rw [← hw6]; exact bk_last rfl
          have hb6 : Below w5.heap.size w5 w6 := by rw [← hw6]; exact (Below.refl _ _).alloc (Nat.le_refl _) _
          have HW6 := Lib.hid hw6
          clear hw6
          have T6 := T5.keep hb6
          have Q6 := Q5.keep hb6
          have hB6 := hB5.trans (hb6.mono hB5.size)
          clear T5 Q5 hB5 x0 x1 x2 x3 x4 x5 x6 x7 a0 a1 a2 a3 a4 a5 a6 a7 a8 a9 a10
          obtain ⟨x0, x1, x2, x3, x4, x5, x6, x7⟩ := stn_cell0 T6
          have a0 := Q6.cell 0
          have a1 := Q6.cell 1
          have a2 := Q6.cell 2
          have a3 := Q6.cell 3
          have a4 := Q6.cell 4
          have a5 := Q6.cell 5
          have a6 := Q6.cell 6
          have a7 := Q6.cell 7
          have a8 := Q6.cell 8
          have a9 := Q6.cell 9
          have a10 := Q6.cell 10
          simp at a0 a1 a2 a3 a4 a5 a6 a7 a8 a9 a10
          go_upto_region 5 with fail
          rw [HW6.out]
          clear HW6
          go_wp2_with fail
          refine (H54.out _ hB6).mono ?_
          rintro e w7 ⟨rfl, hb7⟩
          have T7 := T6.keep hb7
          have Q7 := Q6.keep hb7
          have hB7 := hB6.trans (hb7.mono hB6.size)
          clear T6 Q6 hB6 x0 x1 x2 x3 x4 x5 x6 x7 a0 a1 a2 a3 a4 a5 a6 a7 a8 a9 a10
          obtain ⟨x0, x1, x2, x3, x4, x5, x6, x7⟩ := stn_cell0 T7
          have a0 := Q7.cell 0
          have a1 := Q7.cell 1
          have a2 := Q7.cell 2
          have a3 := Q7.cell 3
          have a4 := Q7.cell 4
          have a5 := Q7.cell 5
          have a6 := Q7.cell 6
          have a7 := Q7.cell 7
          have a8 := Q7.cell 8
          have a9 := Q7.cell 9
          have a10 := Q7.cell 10
          simp at a0 a1 a2 a3 a4 a5 a6 a7 a8 a9 a10
          have q1 : (ct.1 == ct.1) = true := by simp
          have q2 : (ct.2 == ct.2) = true := by simp
          have q3 : ((S : Int) == S) = true := by simp
          go_wp2_with fail
          refine (H57.out _ hB7).mono ?_
          rintro e w8 ⟨rfl, hb8⟩
          have T8 := T7.keep hb8
          have Q8 := Q7.keep hb8
          have hB8 := hB7.trans (hb8.mono hB7.size)
          clear T7 Q7 hB7 x0 x1 x2 x3 x4 x5 x6 x7 a0 a1 a2 a3 a4 a5 a6 a7 a8 a9 a10
          obtain ⟨x0, x1, x2, x3, x4, x5, x6, x7⟩ := stn_cell0 T8
          have a0 := Q8.cell 0
          have a1 := Q8.cell 1
          have a2 := Q8.cell 2
          have a3 := Q8.cell 3
          have a4 := Q8.cell 4
          have a5 := Q8.cell 5
          have a6 := Q8.cell 6
          have a7 := Q8.cell 7
          have a8 := Q8.cell 8
          have a9 := Q8.cell 9
          have a10 := Q8.cell 10
          simp at a0 a1 a2 a3 a4 a5 a6 a7 a8 a9 a10
          go_wp2_with fail
          refine (H55b.out _ hB8).mono ?_
          rintro e w9 ⟨rfl, hb9⟩
          have T9 := T8.keep hb9
          have Q9 := Q8.keep hb9
          have hB9 := hB8.trans (hb9.mono hB8.size)
          clear T8 Q8 hB8 x0 x1 x2 x3 x4 x5 x6 x7 a0 a1 a2 a3 a4 a5 a6 a7 a8 a9 a10
          obtain ⟨x0, x1, x2, x3, x4, x5, x6, x7⟩ := stn_cell0 T9
          have a0 := Q9.cell 0
          have a1 := Q9.cell 1
          have a2 := Q9.cell 2
          have a3 := Q9.cell 3
          have a4 := Q9.cell 4
          have a5 := Q9.cell 5
          have a6 := Q9.cell 6
          have a7 := Q9.cell 7
          have a8 := Q9.cell 8
          have a9 := Q9.cell 9
          have a10 := Q9.cell 10
          simp at a0 a1 a2 a3 a4 a5 a6 a7 a8 a9 a10
          have K58 : Hid (∀ x : Ext w9, Calls Try.prog 58 #[.agg #[.int .i64 k, .int .i64 p, .int .i64 a, .int .i64 wx, .int .i64 wy, .slice B kids.length d]] x.w fun e w' => e = .returned (.int .i64 S) ∧ Below x.w.heap.size x.w w') := fun x => H58.out x.w (hB9.trans (x.bel.mono hB9.size))
          have K59 : Hid (∀ x : Ext w9, Calls Try.prog 59 #[.agg #[.int .i64 k, .int .i64 p, .int .i64 a, .int .i64 wx, .int .i64 wy, .slice B kids.length d]] x.w fun e w' => e = .returned (.int .i64 S) ∧ Below x.w.heap.size x.w w') := fun x => H59.out x.w (hB9.trans (x.bel.mono hB9.size))
          clear x0 x1 x2 x3 x4 x5 x6 x7 a0 a1 a2 a3 a4
          go_upto_region 17 with fail
          replace a5 := fun x : Ext w9 => keepc x.bel a5
          replace a6 := fun x : Ext w9 => keepc x.bel a6
          replace a7 := fun x : Ext w9 => keepc x.bel a7
          replace a8 := fun x : Ext w9 => keepc x.bel a8
          replace a9 := fun x : Ext w9 => keepc x.bel a9
          replace a10 := fun x : Ext w9 => keepc x.bel a10
          refine wp_region_ext (by kernel_rfl) (by kernel_rfl) ?_
          repeat (go_big_quiet_step ((first | (go_at_call 58; exact ext_of (K58.out _)) | (go_at_call 59; exact ext_of (K59.out _)))))
          refine wpQuiet_nil ?_
          rintro _ ⟨y, rfl⟩
          have hb20 := y.bel
          generalize y.w = w20 at hb20 ⊢
          have hB20 := hB9.trans (hb20.mono hB9.size)
          clear K58 K59
          go_wp2_with fail
          go_ret
          exact ⟨rfl, hB20⟩
        · have hT : targetR s = (0, 2) := by simp [targetR, ho, hp]
          rw [hT] at H54
          clear hT hp
          obtain ⟨w6, hw6⟩ : ∃ w6, w5.alloc (.cells #[.int .i64 0, .int .i64 0, .int .i64 0, .int .i64 0, .int .i64 0, .slice none 0 0] 49) = w6 := ⟨_, rfl⟩
          have Y6 : Bk w6 w5.heap.size 49 #[.int .i64 0, .int .i64 0, .int .i64 0, .int .i64 0, .int .i64 0, .slice none 0 0] := by rw [← hw6]; exact bk_last rfl
          have hb6 : Below w5.heap.size w5 w6 := by rw [← hw6]; exact (Below.refl _ _).alloc (Nat.le_refl _) _
          have HW6 := Lib.hid hw6
          clear hw6
          have T6 := T5.keep hb6
          have Q6 := Q5.keep hb6
          have hB6 := hB5.trans (hb6.mono hB5.size)
          clear T5 Q5 hB5 x0 x1 x2 x3 x4 x5 x6 x7 a0 a1 a2 a3 a4 a5 a6 a7 a8 a9 a10
          obtain ⟨x0, x1, x2, x3, x4, x5, x6, x7⟩ := stn_cell0 T6
          have a0 := Q6.cell 0
          have a1 := Q6.cell 1
          have a2 := Q6.cell 2
          have a3 := Q6.cell 3
          have a4 := Q6.cell 4
          have a5 := Q6.cell 5
          have a6 := Q6.cell 6
          have a7 := Q6.cell 7
          have a8 := Q6.cell 8
          have a9 := Q6.cell 9
          have a10 := Q6.cell 10
          simp at a0 a1 a2 a3 a4 a5 a6 a7 a8 a9 a10
          go_upto_region 5 with fail
          rw [HW6.out]
          clear HW6
          go_wp2_with fail
          refine (H54.out _ hB6).mono ?_
          rintro e w7 ⟨rfl, hb7⟩
          have T7 := T6.keep hb7
          have Q7 := Q6.keep hb7
          have hB7 := hB6.trans (hb7.mono hB6.size)
          clear T6 Q6 hB6 x0 x1 x2 x3 x4 x5 x6 x7 a0 a1 a2 a3 a4 a5 a6 a7 a8 a9 a10
          obtain ⟨x0, x1, x2, x3, x4, x5, x6, x7⟩ := stn_cell0 T7
          have a0 := Q7.cell 0
          have a1 := Q7.cell 1
          have a2 := Q7.cell 2
          have a3 := Q7.cell 3
          have a4 := Q7.cell 4
          have a5 := Q7.cell 5
          have a6 := Q7.cell 6
          have a7 := Q7.cell 7
          have a8 := Q7.cell 8
          have a9 := Q7.cell 9
          have a10 := Q7.cell 10
          simp at a0 a1 a2 a3 a4 a5 a6 a7 a8 a9 a10
          have q1 : (ct.1 == ct.1) = true := by simp
          have q2 : (ct.2 == ct.2) = true := by simp
          have q3 : ((S : Int) == S) = true := by simp
          go_wp2_with fail
          refine (H57.out _ hB7).mono ?_
          rintro e w8 ⟨rfl, hb8⟩
          have T8 := T7.keep hb8
          have Q8 := Q7.keep hb8
          have hB8 := hB7.trans (hb8.mono hB7.size)
          clear T7 Q7 hB7 x0 x1 x2 x3 x4 x5 x6 x7 a0 a1 a2 a3 a4 a5 a6 a7 a8 a9 a10
          obtain ⟨x0, x1, x2, x3, x4, x5, x6, x7⟩ := stn_cell0 T8
          have a0 := Q8.cell 0
          have a1 := Q8.cell 1
          have a2 := Q8.cell 2
          have a3 := Q8.cell 3
          have a4 := Q8.cell 4
          have a5 := Q8.cell 5
          have a6 := Q8.cell 6
          have a7 := Q8.cell 7
          have a8 := Q8.cell 8
          have a9 := Q8.cell 9
          have a10 := Q8.cell 10
          simp at a0 a1 a2 a3 a4 a5 a6 a7 a8 a9 a10
          go_wp2_with fail
          refine (H55b.out _ hB8).mono ?_
          rintro e w9 ⟨rfl, hb9⟩
          have T9 := T8.keep hb9
          have Q9 := Q8.keep hb9
          have hB9 := hB8.trans (hb9.mono hB8.size)
          clear T8 Q8 hB8 x0 x1 x2 x3 x4 x5 x6 x7 a0 a1 a2 a3 a4 a5 a6 a7 a8 a9 a10
          obtain ⟨x0, x1, x2, x3, x4, x5, x6, x7⟩ := stn_cell0 T9
          have a0 := Q9.cell 0
          have a1 := Q9.cell 1
          have a2 := Q9.cell 2
          have a3 := Q9.cell 3
          have a4 := Q9.cell 4
          have a5 := Q9.cell 5
          have a6 := Q9.cell 6
          have a7 := Q9.cell 7
          have a8 := Q9.cell 8
          have a9 := Q9.cell 9
          have a10 := Q9.cell 10
          simp at a0 a1 a2 a3 a4 a5 a6 a7 a8 a9 a10
          have K58 : Hid (∀ x : Ext w9, Calls Try.prog 58 #[.agg #[.int .i64 k, .int .i64 p, .int .i64 a, .int .i64 wx, .int .i64 wy, .slice B kids.length d]] x.w fun e w' => e = .returned (.int .i64 S) ∧ Below x.w.heap.size x.w w') := fun x => H58.out x.w (hB9.trans (x.bel.mono hB9.size))
          have K59 : Hid (∀ x : Ext w9, Calls Try.prog 59 #[.agg #[.int .i64 k, .int .i64 p, .int .i64 a, .int .i64 wx, .int .i64 wy, .slice B kids.length d]] x.w fun e w' => e = .returned (.int .i64 S) ∧ Below x.w.heap.size x.w w') := fun x => H59.out x.w (hB9.trans (x.bel.mono hB9.size))
          clear x0 x1 x2 x3 x4 x5 x6 x7 a0 a1 a2 a3 a4
          go_upto_region 17 with fail
          replace a5 := fun x : Ext w9 => keepc x.bel a5
          replace a6 := fun x : Ext w9 => keepc x.bel a6
          replace a7 := fun x : Ext w9 => keepc x.bel a7
          replace a8 := fun x : Ext w9 => keepc x.bel a8
          replace a9 := fun x : Ext w9 => keepc x.bel a9
          replace a10 := fun x : Ext w9 => keepc x.bel a10
          refine wp_region_ext (by kernel_rfl) (by kernel_rfl) ?_
          repeat (go_big_quiet_step ((first | (go_at_call 58; exact ext_of (K58.out _)) | (go_at_call 59; exact ext_of (K59.out _)))))
          refine wpQuiet_nil ?_
          rintro _ ⟨y, rfl⟩
          have hb20 := y.bel
          generalize y.w = w20 at hb20 ⊢
          have hB20 := hB9.trans (hb20.mono hB9.size)
          clear K58 K59
          go_wp2_with fail
          go_ret
          exact ⟨rfl, hB20⟩
        · exfalso
          have h := HFW.out
          rw [ho] at h
          simp at h
          omega
        · have hT : targetR s = (targetV s, 0) := by simp [targetR, ho, hp]
          have hc : ctR s (targetV s) (.mk tk tp ta (tx, ty) tB td tkids) = ((0, (m : Int)) : Int × Int) := by
            unfold ctR
            rw [if_pos ho, if_neg (by omega), hm]
          rw [hT] at H54
          have H55c := Lib.hid (fun (W : World) (h : Below w.heap.size w W) (h2 : TrAt W tq (.mk tk tp ta (tx, ty) tB td tkids)) => H55.out W h (targetV s) _ tq h2)
          rw [hc] at H55c
          clear hT hp hm hts hc H55
          generalize targetV s = tv at *
          rw [show (Tr.mk tk tp ta (tx, ty) tB td tkids).val = Value.agg #[.int .i64 tk, .int .i64 tp, .int .i64 ta, .int .i64 tx, .int .i64 ty, .slice tB tkids.length td] from rfl]
          obtain ⟨w6, hw6⟩ : ∃ w6, w5.alloc (.cells #[.int .i64 tk, .int .i64 tp, .int .i64 ta, .int .i64 tx, .int .i64 ty, .slice tB tkids.length td] 49) = w6 := ⟨_, rfl⟩
          have Y6 : Bk w6 w5.heap.size 49 #[.int .i64 tk, .int .i64 tp, .int .i64 ta, .int .i64 tx, .int .i64 ty, .slice tB tkids.length td] := by rw [← hw6]; exact bk_last rfl
          have hb6 : Below w5.heap.size w5 w6 := by rw [← hw6]; exact (Below.refl _ _).alloc (Nat.le_refl _) _
          have HW6 := Lib.hid hw6
          clear hw6
          have T6 := T5.keep hb6
          have Q6 := Q5.keep hb6
          have hB6 := hB5.trans (hb6.mono hB5.size)
          clear T5 Q5 hB5 x0 x1 x2 x3 x4 x5 x6 x7 a0 a1 a2 a3 a4 a5 a6 a7 a8 a9 a10
          obtain ⟨x0, x1, x2, x3, x4, x5, x6, x7⟩ := stn_cell0 T6
          have a0 := Q6.cell 0
          have a1 := Q6.cell 1
          have a2 := Q6.cell 2
          have a3 := Q6.cell 3
          have a4 := Q6.cell 4
          have a5 := Q6.cell 5
          have a6 := Q6.cell 6
          have a7 := Q6.cell 7
          have a8 := Q6.cell 8
          have a9 := Q6.cell 9
          have a10 := Q6.cell 10
          simp at a0 a1 a2 a3 a4 a5 a6 a7 a8 a9 a10
          go_upto_region 5 with fail
          rw [HW6.out]
          clear HW6
          go_wp2_with fail
          refine (H54.out _ hB6).mono ?_
          rintro e w7 ⟨rfl, hb7⟩
          have Y7 := Y6.keep hb7
          have htt7 := (htt.keep hb6).keep hb7
          clear hb6
          have T7 := T6.keep hb7
          have Q7 := Q6.keep hb7
          have hB7 := hB6.trans (hb7.mono hB6.size)
          clear T6 Q6 hB6 x0 x1 x2 x3 x4 x5 x6 x7 a0 a1 a2 a3 a4 a5 a6 a7 a8 a9 a10
          obtain ⟨x0, x1, x2, x3, x4, x5, x6, x7⟩ := stn_cell0 T7
          have a0 := Q7.cell 0
          have a1 := Q7.cell 1
          have a2 := Q7.cell 2
          have a3 := Q7.cell 3
          have a4 := Q7.cell 4
          have a5 := Q7.cell 5
          have a6 := Q7.cell 6
          have a7 := Q7.cell 7
          have a8 := Q7.cell 8
          have a9 := Q7.cell 9
          have a10 := Q7.cell 10
          simp at a0 a1 a2 a3 a4 a5 a6 a7 a8 a9 a10
          have y0 := Y7.cell 0
          have y1 := Y7.cell 1
          have y2 := Y7.cell 2
          have y3 := Y7.cell 3
          have y4 := Y7.cell 4
          have y5 := Y7.cell 5
          simp at y0 y1 y2 y3 y4 y5
          have q5 : (tv != tv) = false := by simp
          replace H55c : Hid (∀ W, Below w.heap.size w W → TrAt W tq (.mk tk tp ta (tx, ty) tB td tkids) → Calls Try.prog 55 #[.agg #[.int .i64 s.f.eye, .int .i64 s.f.rings, .int .i64 s.f.sec, .slice z.a1 s.f.kinds.length z.c1, .slice z.a2 s.heights.length z.c2, .slice z.a3 s.compass.length z.c3, .slice z.a4 s.pockets.length z.c4, .int .i64 s.tol], .int .i64 tv, .agg #[.int .i64 tk, .int .i64 tp, .int .i64 ta, .int .i64 tx, .int .i64 ty, .slice tB tkids.length td]] W fun e w' => e = .returned (.tuple #[.int .i64 0, .int .i64 m]) ∧ Below W.heap.size W w') := H55c
          go_wp2_with fail
          refine (H55c.out _ hB7 htt7).mono ?_
          rintro e w8 ⟨rfl, hb8⟩
          clear y0 y1 y2 y3 y4 y5 htt7 H55c
          have T8 := T7.keep hb8
          have Q8 := Q7.keep hb8
          have hB8 := hB7.trans (hb8.mono hB7.size)
          clear T7 Q7 hB7 x0 x1 x2 x3 x4 x5 x6 x7 a0 a1 a2 a3 a4 a5 a6 a7 a8 a9 a10
          obtain ⟨x0, x1, x2, x3, x4, x5, x6, x7⟩ := stn_cell0 T8
          have a0 := Q8.cell 0
          have a1 := Q8.cell 1
          have a2 := Q8.cell 2
          have a3 := Q8.cell 3
          have a4 := Q8.cell 4
          have a5 := Q8.cell 5
          have a6 := Q8.cell 6
          have a7 := Q8.cell 7
          have a8 := Q8.cell 8
          have a9 := Q8.cell 9
          have a10 := Q8.cell 10
          simp at a0 a1 a2 a3 a4 a5 a6 a7 a8 a9 a10
          have q1 : (ct.1 == ct.1) = true := by simp
          have q2 : (ct.2 == ct.2) = true := by simp
          have q3 : ((S : Int) == S) = true := by simp
          go_wp2_with fail
          refine (H57.out _ hB8).mono ?_
          rintro e w9 ⟨rfl, hb9⟩
          have T9 := T8.keep hb9
          have Q9 := Q8.keep hb9
          have hB9 := hB8.trans (hb9.mono hB8.size)
          clear T8 Q8 hB8 x0 x1 x2 x3 x4 x5 x6 x7 a0 a1 a2 a3 a4 a5 a6 a7 a8 a9 a10
          obtain ⟨x0, x1, x2, x3, x4, x5, x6, x7⟩ := stn_cell0 T9
          have a0 := Q9.cell 0
          have a1 := Q9.cell 1
          have a2 := Q9.cell 2
          have a3 := Q9.cell 3
          have a4 := Q9.cell 4
          have a5 := Q9.cell 5
          have a6 := Q9.cell 6
          have a7 := Q9.cell 7
          have a8 := Q9.cell 8
          have a9 := Q9.cell 9
          have a10 := Q9.cell 10
          simp at a0 a1 a2 a3 a4 a5 a6 a7 a8 a9 a10
          go_wp2_with fail
          refine (H55b.out _ hB9).mono ?_
          rintro e w10 ⟨rfl, hb10⟩
          have T10 := T9.keep hb10
          have Q10 := Q9.keep hb10
          have hB10 := hB9.trans (hb10.mono hB9.size)
          clear T9 Q9 hB9 x0 x1 x2 x3 x4 x5 x6 x7 a0 a1 a2 a3 a4 a5 a6 a7 a8 a9 a10
          obtain ⟨x0, x1, x2, x3, x4, x5, x6, x7⟩ := stn_cell0 T10
          have a0 := Q10.cell 0
          have a1 := Q10.cell 1
          have a2 := Q10.cell 2
          have a3 := Q10.cell 3
          have a4 := Q10.cell 4
          have a5 := Q10.cell 5
          have a6 := Q10.cell 6
          have a7 := Q10.cell 7
          have a8 := Q10.cell 8
          have a9 := Q10.cell 9
          have a10 := Q10.cell 10
          simp at a0 a1 a2 a3 a4 a5 a6 a7 a8 a9 a10
          have K58 : Hid (∀ x : Ext w10, Calls Try.prog 58 #[.agg #[.int .i64 k, .int .i64 p, .int .i64 a, .int .i64 wx, .int .i64 wy, .slice B kids.length d]] x.w fun e w' => e = .returned (.int .i64 S) ∧ Below x.w.heap.size x.w w') := fun x => H58.out x.w (hB10.trans (x.bel.mono hB10.size))
          have K59 : Hid (∀ x : Ext w10, Calls Try.prog 59 #[.agg #[.int .i64 k, .int .i64 p, .int .i64 a, .int .i64 wx, .int .i64 wy, .slice B kids.length d]] x.w fun e w' => e = .returned (.int .i64 S) ∧ Below x.w.heap.size x.w w') := fun x => H59.out x.w (hB10.trans (x.bel.mono hB10.size))
          clear x0 x1 x2 x3 x4 x5 x6 x7 a0 a1 a2 a3 a4
          go_upto_region 17 with fail
          replace a5 := fun x : Ext w10 => keepc x.bel a5
          replace a6 := fun x : Ext w10 => keepc x.bel a6
          replace a7 := fun x : Ext w10 => keepc x.bel a7
          replace a8 := fun x : Ext w10 => keepc x.bel a8
          replace a9 := fun x : Ext w10 => keepc x.bel a9
          replace a10 := fun x : Ext w10 => keepc x.bel a10
          refine wp_region_ext (by kernel_rfl) (by kernel_rfl) ?_
          repeat (go_big_quiet_step ((first | (go_at_call 58; exact ext_of (K58.out _)) | (go_at_call 59; exact ext_of (K59.out _)))))
          refine wpQuiet_nil ?_
          rintro _ ⟨y, rfl⟩
          have hb20 := y.bel
          generalize y.w = w20 at hb20 ⊢
          have hB20 := hB10.trans (hb20.mono hB10.size)
          clear K58 K59
          go_wp2_with fail
          go_ret
          exact ⟨rfl, hB20⟩
      · have hd : decide (S ≤ 5000) = false := decide_eq_false hz
        rw [hd] at H52
        clear hd hz H57 H58 H59 H53 H54 H55 H55b
        go_wp2_with fail
        refine (H16.out _ hB1).mono ?_
        rintro e w2 ⟨rfl, hb2⟩
        have T2 := T1.keep hb2
        have Q2 := Q1.keep hb2
        have hB2 := hB1.trans (hb2.mono hB1.size)
        clear T1 Q1 hB1 x0 x1 x2 x3 x4 x5 x6 x7 a0 a1 a2 a3 a4 a5 a6 a7 a8 a9 a10
        obtain ⟨x0, x1, x2, x3, x4, x5, x6, x7⟩ := stn_cell0 T2
        have a0 := Q2.cell 0
        have a1 := Q2.cell 1
        have a2 := Q2.cell 2
        have a3 := Q2.cell 3
        have a4 := Q2.cell 4
        have a5 := Q2.cell 5
        have a6 := Q2.cell 6
        have a7 := Q2.cell 7
        have a8 := Q2.cell 8
        have a9 := Q2.cell 9
        have a10 := Q2.cell 10
        simp at a0 a1 a2 a3 a4 a5 a6 a7 a8 a9 a10
        go_wp2_with fail
        refine (H17.out _ hB2).mono ?_
        rintro e w3 ⟨rfl, hb3⟩
        have T3 := T2.keep hb3
        have Q3 := Q2.keep hb3
        have hB3 := hB2.trans (hb3.mono hB2.size)
        clear T2 Q2 hB2 x0 x1 x2 x3 x4 x5 x6 x7 a0 a1 a2 a3 a4 a5 a6 a7 a8 a9 a10
        obtain ⟨x0, x1, x2, x3, x4, x5, x6, x7⟩ := stn_cell0 T3
        have a0 := Q3.cell 0
        have a1 := Q3.cell 1
        have a2 := Q3.cell 2
        have a3 := Q3.cell 3
        have a4 := Q3.cell 4
        have a5 := Q3.cell 5
        have a6 := Q3.cell 6
        have a7 := Q3.cell 7
        have a8 := Q3.cell 8
        have a9 := Q3.cell 9
        have a10 := Q3.cell 10
        simp at a0 a1 a2 a3 a4 a5 a6 a7 a8 a9 a10
        go_wp2_with (go_at_call 52; refine (H52.out _ hB3).mono ?_; rintro e w4 ⟨rfl, hb4⟩)
        go_ret
        exact ⟨rfl, hB3.trans (hb4.mono hB3.size)⟩

end Go.Proofs.Ythmngnfdfelkeaa
