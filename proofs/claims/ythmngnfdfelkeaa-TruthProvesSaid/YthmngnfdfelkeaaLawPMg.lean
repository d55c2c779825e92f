/-
  What is proved: TruthProves answers true.
-/
import Derived.Test.YthmngnfdfelkeaaAwakeMg
import Derived.Test.YthmngnfdfelkeaaTProveMg
import Derived.Test.YthmngnfdfelkeaaTCtTMg
import Derived.Test.YthmngnfdfelkeaaMg22
import Derived.Test.YthmngnfdfelkeaaMg27
namespace Go.Proofs.Ythmngnfdfelkeaa
open Go.RowKit
attribute [local go_sem ↓] max_int min_int

theorem ct_info (s : Stn) (sum : Int) {t : Tr} (hz : sizeT t ≤ 5000) : (∃ g : Int, ctR s sum t = (g, 0) ∧ (g == 0) = false ∧ (g != 0) = true) ∨
    (∃ m : Int, ctR s sum t = (0, m) ∧ 1 ≤ m ∧ ∀ l, leadP s l → stillB s l = true → sum ≤ sumL l) := by
  unfold ctR
  by_cases ho : s.ok = true
  · rw [if_pos ho, if_neg (by omega)]
    cases hc : checkF s sum (sizeT t) t lowZ (highK s s.pockets.length) with
    | none => exact Or.inl ⟨63, rfl, rfl, rfl⟩
    | some m => exact Or.inr ⟨m, rfl, by have := (check_count s sum _ _ _ _ _ hc).1; omega, fun l hl hs => check_sound ho sum _ _ _ _ _ (box_whole ho) hc l (lead_in ho hl) hs⟩
  · rw [if_neg ho]
    exact Or.inl ⟨60, rfl, rfl, rfl⟩
theorem bal_info (s : Stn) (l : List Int) : ((balR s l).2 == 0) = false ∨ balR s l = (false, 0) ∨ (balR s l = (true, 0) ∧ (leadP s l ∧ stillB s l = true) ∧ l.length ≤ 8 ∧ ∀ x ∈ l, 0 ≤ x ∧ x ≤ 255) := by
  unfold balR
  by_cases ho : s.ok = true
  · rw [if_pos ho]
    by_cases hl : leadB s l = true
    · rw [if_pos hl]
      cases hs : stillB s l
      · exact Or.inr (Or.inl rfl)
      · obtain ⟨p1, p2⟩ := (leadB_iff s _).1 hl
        obtain ⟨_, _, _, _, h5, _, _, _, hpk⟩ := stn_ok ho
        refine Or.inr (Or.inr ⟨rfl, ⟨⟨p1, p2⟩, rfl⟩, by omega, fun x hx => ?_⟩)
        obtain ⟨i, hi, rfl⟩ := List.getElem_of_mem hx
        have h6 := p2 i hi
        rw [getD_get _ _ hi] at h6
        have h4 := (hpk _ (getD_mem ((0, 0), 0) (show i < s.pockets.length by omega))).2.2
        omega
    · rw [if_neg hl]
      exact Or.inl rfl
  · rw [if_neg ho]
    exact Or.inl rfl
theorem least_info (s : Stn) : (s.ok = false ∧ leastR s = (0, 60)) ∨ (s.ok = true ∧ ¬ prodM (mosts s) ≤ 200000 ∧ leastR s = (0, 2)) ∨ (s.ok = true ∧ prodM (mosts s) ≤ 200000 ∧ leastR s = (0, 61)) ∨
    (s.ok = true ∧ prodM (mosts s) ≤ 200000 ∧ leastR s = (targetV s, 0) ∧ ∃ l, leadP s l ∧ stillB s l = true ∧ sumL l = targetV s) := by
  unfold leastR leadR targetV
  by_cases ho : s.ok = true
  · simp only [ho, if_true]
    by_cases hp : prodM (mosts s) ≤ 200000
    · simp only [hp, if_true]
      by_cases hm : manyN s (prodM (mosts s)) = 0
      · simp only [hm, if_true]
        exact Or.inr (Or.inr (Or.inl ⟨trivial, trivial, rfl⟩))
      · simp only [hm, if_false]
        obtain ⟨j, hj, hb, hs⟩ := best_of_many (s := s) (prodM (mosts s)) (by omega)
        refine Or.inr (Or.inr (Or.inr ⟨trivial, trivial, trivial, leadN s j, (leadB_iff s _).1 (leadN_ok ho hj), hs, by rw [hb]⟩))
    · simp only [hp, if_false]
      exact Or.inr (Or.inl ⟨trivial, not_false, rfl⟩)
  · have ho2 : s.ok = false := by simpa using ho
    simp only [ho2, Bool.false_eq_true, if_false]
    exact Or.inl ⟨trivial, rfl⟩

set_option maxRecDepth 100000 in
set_option maxHeartbeats 16000000 in
theorem proves_law (s : Stn) (z : Loc) (cell : Int) (A : Option Addr) (c : Nat) (L : List Int) (way : Int × Int) (sum : Int) (t : Tr) (q : Nat) (w : World) (hs : StAt w s z) (hl : RowAt w A (intCells L)) (hn : L.length ≤ 9223372036854775807) (ht : TrAt w q t) :
    Calls Try.prog 14 #[s.val z, .agg (askT cell A c L way sum t)] w fun e w' => e = .returned (.bool true) ∧ Below w.heap.size w w' := by
  have H16 : Hid (∀ W, Below w.heap.size w W → Calls Try.prog 16 #[.agg (s.cells z)] W fun e w' => e = .returned (.bool (smallB s)) ∧ Below W.heap.size W w') := fun W h => small_any s z W (hs.below h)
  have H17 : Hid (∀ W, Below w.heap.size w W → Calls Try.prog 17 #[.agg (s.cells z)] W fun e w' => e = .returned (.bool (fewB s)) ∧ Below W.heap.size W w') := fun W h => few_any s z W (hs.below h)
  have H52 : Hid (∀ W, Below w.heap.size w W → Calls Try.prog 52 #[t.val] W fun e w' => e = .returned (.bool (decide (sizeT t ≤ 5000))) ∧ Below W.heap.size W w') := fun W h => shallow_any q t W (ht.keep h)
  have H18 : Hid (∀ W, Below w.heap.size w W → Calls Try.prog 18 #[.agg (s.cells z)] W fun e w' => e = .returned (.tuple #[.int .i64 (leastR s).1, .int .i64 (leastR s).2]) ∧ Below W.heap.size W w') := fun W h => least_any s z W (hs.below h)
  have H53 : Hid (∀ W, Below w.heap.size w W → Calls Try.prog 53 #[.agg (s.cells z)] W (ProvePost s W)) := fun W h => prove_any s z W (hs.below h)
  have H57d : Hid (∀ W, Below w.heap.size w W → ∀ (u : Int) (t' : Tr) (q' : Nat), TrAt W q' t' → sizeT t' ≤ 200000 → Calls Try.prog 57 #[.agg (s.cells z), .int .i64 u, t'.val] W fun e w' => e = .returned (.tuple #[.int .i64 (ctR s u t').1, .int .i64 (ctR s u t').2]) ∧ Below W.heap.size W w') := fun W h u t' q' h2 h3 => ctT_any s z u q' t' W (hs.below h) h2 h3
  have H57 : Hid (sizeT t ≤ 5000 → ∀ W, Below w.heap.size w W → Calls Try.prog 57 #[.agg (s.cells z), .int .i64 sum, t.val] W fun e w' => e = .returned (.tuple #[.int .i64 (ctR s sum t).1, .int .i64 (ctR s sum t).2]) ∧ Below W.heap.size W w') := fun hz W h => ctT_any s z sum q t W (hs.below h) (ht.keep h) (by omega)
  have H33 : Hid (∀ W, Below w.heap.size w W → Calls Try.prog 33 #[.agg (s.cells z), .slice A L.length c] W fun e w' => e = .returned (.tuple #[.bool (balR s L).1, .int .i64 (balR s L).2]) ∧ Below W.heap.size W w') := fun W h => bal_any s z A c L W (hs.below h) (hl.below h) hn
  have H34 : Hid (L.length ≤ 8 ∧ (∀ x ∈ L, 0 ≤ x ∧ x ≤ 255) → ∀ W, Below w.heap.size w W → Calls Try.prog 34 #[.slice A L.length c] W fun e w' => e = .returned (.int .i64 (sumF L L.length)) ∧ W = w') := fun hb W h => lsum_any A c L W (hl.below h) (by omega) (fun x hx => by have := hb.2 x hx; omega)
  have HBL : Hid (((balR s L).2 == 0) = false ∨ balR s L = (false, 0) ∨ (balR s L = (true, 0) ∧ (leadP s L ∧ stillB s L = true) ∧ ∀ W, Below w.heap.size w W → Calls Try.prog 34 #[.slice A L.length c] W fun e w' => e = .returned (.int .i64 (sumF L L.length)) ∧ W = w')) := by
    rcases bal_info s L with h | h | ⟨h1, h2, h3⟩
    · exact Or.inl h
    · exact Or.inr (Or.inl h)
    · exact Or.inr (Or.inr ⟨h1, h2, H34.out h3⟩)
  have HCT : Hid (sizeT t ≤ 5000 → _) := fun hz => ct_info s sum (t := t) hz
  have HLS := Lib.hid (least_info s)
  obtain ⟨k, p, a, ⟨wx, wy⟩, B, d, kids⟩ := t
  obtain ⟨vx, vy⟩ := way
  generalize hS : sizeT (.mk k p a (wx, wy) B d kids) = S at *
  generalize hcc : ctR s sum (.mk k p a (wx, wy) B d kids) = ct at *
  generalize hbb : balR s L = bl at *
  clear hS hcc hbb H34
  obtain ⟨V, hV⟩ : ∃ V, (w.alloc (.cells (s.cells z) 28)).alloc (.cells #[.int .i64 cell, .slice A L.length c, .int .i64 vx, .int .i64 vy, .int .i64 sum, .int .i64 k, .int .i64 p, .int .i64 a, .int .i64 wx, .int .i64 wy, .slice B kids.length d] 51) = V := ⟨_, rfl⟩
  have T0 : Bk V w.heap.size 28 (s.cells z) := by rw [← hV]; exact (bk_last rfl).alloc _
  have Q0 : Bk V (w.heap.size + 1) 51 #[.int .i64 cell, .slice A L.length c, .int .i64 vx, .int .i64 vy, .int .i64 sum, .int .i64 k, .int .i64 p, .int .i64 a, .int .i64 wx, .int .i64 wy, .slice B kids.length d] := by rw [← hV]; exact bk_last (by simp)
  have hB0 : Below w.heap.size w V := by rw [← hV]; exact ((Below.refl _ _).alloc (Nat.le_refl _) _).alloc (by simp) _
  show Calls Try.prog 14 #[.agg #[.int .i64 s.f.eye, .int .i64 s.f.rings, .int .i64 s.f.sec, .slice z.a1 s.f.kinds.length z.c1, .slice z.a2 s.heights.length z.c2, .slice z.a3 s.compass.length z.c3, .slice z.a4 s.pockets.length z.c4, .int .i64 s.tol], .agg #[.int .i64 cell, .slice A L.length c, .int .i64 vx, .int .i64 vy, .int .i64 sum, .int .i64 k, .int .i64 p, .int .i64 a, .int .i64 wx, .int .i64 wy, .slice B kids.length d]] w _
  replace H16 : Hid (∀ W, Below w.heap.size w W → Calls Try.prog 16 #[.agg #[.int .i64 s.f.eye, .int .i64 s.f.rings, .int .i64 s.f.sec, .slice z.a1 s.f.kinds.length z.c1, .slice z.a2 s.heights.length z.c2, .slice z.a3 s.compass.length z.c3, .slice z.a4 s.pockets.length z.c4, .int .i64 s.tol]] W fun e w' => e = .returned (.bool (smallB s)) ∧ Below W.heap.size W w') := H16
  replace H17 : Hid (∀ W, Below w.heap.size w W → Calls Try.prog 17 #[.agg #[.int .i64 s.f.eye, .int .i64 s.f.rings, .int .i64 s.f.sec, .slice z.a1 s.f.kinds.length z.c1, .slice z.a2 s.heights.length z.c2, .slice z.a3 s.compass.length z.c3, .slice z.a4 s.pockets.length z.c4, .int .i64 s.tol]] W fun e w' => e = .returned (.bool (fewB s)) ∧ Below W.heap.size W w') := H17
  replace H18 : Hid (∀ W, Below w.heap.size w W → Calls Try.prog 18 #[.agg #[.int .i64 s.f.eye, .int .i64 s.f.rings, .int .i64 s.f.sec, .slice z.a1 s.f.kinds.length z.c1, .slice z.a2 s.heights.length z.c2, .slice z.a3 s.compass.length z.c3, .slice z.a4 s.pockets.length z.c4, .int .i64 s.tol]] W fun e w' => e = .returned (.tuple #[.int .i64 (leastR s).1, .int .i64 (leastR s).2]) ∧ Below W.heap.size W w') := H18
  replace H52 : Hid (∀ W, Below w.heap.size w W → Calls Try.prog 52 #[.agg #[.int .i64 k, .int .i64 p, .int .i64 a, .int .i64 wx, .int .i64 wy, .slice B kids.length d]] W fun e w' => e = .returned (.bool (decide (S ≤ 5000))) ∧ Below W.heap.size W w') := H52
  replace H53 : Hid (∀ W, Below w.heap.size w W → Calls Try.prog 53 #[.agg #[.int .i64 s.f.eye, .int .i64 s.f.rings, .int .i64 s.f.sec, .slice z.a1 s.f.kinds.length z.c1, .slice z.a2 s.heights.length z.c2, .slice z.a3 s.compass.length z.c3, .slice z.a4 s.pockets.length z.c4, .int .i64 s.tol]] W (ProvePost s W)) := H53
  replace H57d : Hid (∀ W, Below w.heap.size w W → ∀ (u : Int) (t' : Tr) (q' : Nat), TrAt W q' t' → sizeT t' ≤ 200000 → Calls Try.prog 57 #[.agg #[.int .i64 s.f.eye, .int .i64 s.f.rings, .int .i64 s.f.sec, .slice z.a1 s.f.kinds.length z.c1, .slice z.a2 s.heights.length z.c2, .slice z.a3 s.compass.length z.c3, .slice z.a4 s.pockets.length z.c4, .int .i64 s.tol], .int .i64 u, t'.val] W fun e w' => e = .returned (.tuple #[.int .i64 (ctR s u t').1, .int .i64 (ctR s u t').2]) ∧ Below W.heap.size W w') := H57d
  replace H57 : Hid (S ≤ 5000 → ∀ W, Below w.heap.size w W → Calls Try.prog 57 #[.agg #[.int .i64 s.f.eye, .int .i64 s.f.rings, .int .i64 s.f.sec, .slice z.a1 s.f.kinds.length z.c1, .slice z.a2 s.heights.length z.c2, .slice z.a3 s.compass.length z.c3, .slice z.a4 s.pockets.length z.c4, .int .i64 s.tol], .int .i64 sum, .agg #[.int .i64 k, .int .i64 p, .int .i64 a, .int .i64 wx, .int .i64 wy, .slice B kids.length d]] W fun e w' => e = .returned (.tuple #[.int .i64 ct.1, .int .i64 ct.2]) ∧ Below W.heap.size W w') := H57
  replace H33 : Hid (∀ W, Below w.heap.size w W → Calls Try.prog 33 #[.agg #[.int .i64 s.f.eye, .int .i64 s.f.rings, .int .i64 s.f.sec, .slice z.a1 s.f.kinds.length z.c1, .slice z.a2 s.heights.length z.c2, .slice z.a3 s.compass.length z.c3, .slice z.a4 s.pockets.length z.c4, .int .i64 s.tol], .slice A L.length c] W fun e w' => e = .returned (.tuple #[.bool bl.1, .int .i64 bl.2]) ∧ Below W.heap.size W w') := H33
  rw [show s.cells z = #[.int .i64 s.f.eye, .int .i64 s.f.rings, .int .i64 s.f.sec, .slice z.a1 s.f.kinds.length z.c1, .slice z.a2 s.heights.length z.c2, .slice z.a3 s.compass.length z.c3, .slice z.a4 s.pockets.length z.c4, .int .i64 s.tol] from rfl] at hV
  have HV := Lib.hid hV
  have HFW : Hid (fewB s = (!s.ok || decide (prodM (mosts s) ≤ 2000) || decide (200000 < prodM (mosts s)))) := rfl
  clear hV ht hs hl
  generalize smallB s = sm at *
  generalize fewB s = fw at *
  go_enter Try.func14, Try.ntmps14
  go_upto_region 1 with fail
  rw [HV.out]
  clear HV
  go_wp2_with fail
  refine (awake_any _).mono ?_
  rintro e w1 ⟨rfl, hb1⟩
  have T1 : Bk w1 w.heap.size 28 (s.cells z) := T0.keep hb1
  have Q1 := Q0.keep hb1
  have hB1 := hB0.trans (hb1.mono hB0.size)
  clear T0 Q0 hB0 hb1
  obtain ⟨x0, x1, x2, x3, x4, x5, x6, x7⟩ := stn_cell0 T1
  have a0 := Q1.cell 0
  have a1 := Q1.cell 1
  have a2 := Q1.cell 2
  have a3 := Q1.cell 3
  have a4 := Q1.cell 4
  have a5 := Q1.cell 5
  have a6 := Q1.cell 6
  have a7 := Q1.cell 7
  have a8 := Q1.cell 8
  have a9 := Q1.cell 9
  have a10 := Q1.cell 10
  simp at a0 a1 a2 a3 a4 a5 a6 a7 a8 a9 a10
  cases sm
  · go_wp2_with (go_at_call 16; refine (H16.out _ hB1).mono ?_; rintro e w2 ⟨rfl, hb2⟩)
    go_ret
    exact ⟨rfl, hB1.trans (hb2.mono hB1.size)⟩
  · cases fw
    · go_wp2_with fail
      refine (H16.out _ hB1).mono ?_
      rintro e w2 ⟨rfl, hb2⟩
      have T2 := T1.keep hb2
      have Q2 := Q1.keep hb2
      have hB2 := hB1.trans (hb2.mono hB1.size)
      clear T1 Q1 hB1 x0 x1 x2 x3 x4 x5 x6 x7 a0 a1 a2 a3 a4 a5 a6 a7 a8 a9 a10
      obtain ⟨x0, x1, x2, x3, x4, x5, x6, x7⟩ := stn_cell0 T2
      have a0 := Q2.cell 0
      have a1 := Q2.cell 1
      have a2 := Q2.cell 2
      have a3 := Q2.cell 3
      have a4 := Q2.cell 4
      have a5 := Q2.cell 5
      have a6 := Q2.cell 6
      have a7 := Q2.cell 7
      have a8 := Q2.cell 8
      have a9 := Q2.cell 9
      have a10 := Q2.cell 10
      simp at a0 a1 a2 a3 a4 a5 a6 a7 a8 a9 a10
      go_wp2_with (go_at_call 17; refine (H17.out _ hB2).mono ?_; rintro e w3 ⟨rfl, hb3⟩)
      go_ret
      exact ⟨rfl, hB2.trans (hb3.mono hB2.size)⟩
    · by_cases hz : S ≤ 5000
      · have hd : decide (S ≤ 5000) = true := decide_eq_true hz
        rw [hd] at H52
        replace H57 := Lib.hid (H57.out hz)
        have hct := HCT.out hz
        have hbl := HBL.out
        clear hd hz HCT HBL
        have HCB := Lib.hid (And.intro hct hbl)
        clear hct hbl
        go_wp2_with fail
        refine (H16.out _ hB1).mono ?_
        rintro e w2 ⟨rfl, hb2⟩
        have T2 := T1.keep hb2
        have Q2 := Q1.keep hb2
        have hB2 := hB1.trans (hb2.mono hB1.size)
        clear T1 Q1 hB1 x0 x1 x2 x3 x4 x5 x6 x7 a0 a1 a2 a3 a4 a5 a6 a7 a8 a9 a10
        obtain ⟨x0, x1, x2, x3, x4, x5, x6, x7⟩ := stn_cell0 T2
        have a0 := Q2.cell 0
        have a1 := Q2.cell 1
        have a2 := Q2.cell 2
        have a3 := Q2.cell 3
        have a4 := Q2.cell 4
        have a5 := Q2.cell 5
        have a6 := Q2.cell 6
        have a7 := Q2.cell 7
        have a8 := Q2.cell 8
        have a9 := Q2.cell 9
        have a10 := Q2.cell 10
        simp at a0 a1 a2 a3 a4 a5 a6 a7 a8 a9 a10
        go_wp2_with fail
        refine (H17.out _ hB2).mono ?_
        rintro e w3 ⟨rfl, hb3⟩
        have T3 := T2.keep hb3
        have Q3 := Q2.keep hb3
        have hB3 := hB2.trans (hb3.mono hB2.size)
        clear T2 Q2 hB2 x0 x1 x2 x3 x4 x5 x6 x7 a0 a1 a2 a3 a4 a5 a6 a7 a8 a9 a10
        obtain ⟨x0, x1, x2, x3, x4, x5, x6, x7⟩ := stn_cell0 T3
        have a0 := Q3.cell 0
        have a1 := Q3.cell 1
        have a2 := Q3.cell 2
        have a3 := Q3.cell 3
        have a4 := Q3.cell 4
        have a5 := Q3.cell 5
        have a6 := Q3.cell 6
        have a7 := Q3.cell 7
        have a8 := Q3.cell 8
        have a9 := Q3.cell 9
        have a10 := Q3.cell 10
        simp at a0 a1 a2 a3 a4 a5 a6 a7 a8 a9 a10
        go_wp2_with fail
        refine (H52.out _ hB3).mono ?_
        rintro e w4 ⟨rfl, hb4⟩
        have T4 := T3.keep hb4
        have Q4 := Q3.keep hb4
        have hB4 := hB3.trans (hb4.mono hB3.size)
        clear T3 Q3 hB3 x0 x1 x2 x3 x4 x5 x6 x7 a0 a1 a2 a3 a4 a5 a6 a7 a8 a9 a10 H52 H17 H16
        obtain ⟨x0, x1, x2, x3, x4, x5, x6, x7⟩ := stn_cell0 T4
        have a0 := Q4.cell 0
        have a1 := Q4.cell 1
        have a2 := Q4.cell 2
        have a3 := Q4.cell 3
        have a4 := Q4.cell 4
        have a5 := Q4.cell 5
        have a6 := Q4.cell 6
        have a7 := Q4.cell 7
        have a8 := Q4.cell 8
        have a9 := Q4.cell 9
        have a10 := Q4.cell 10
        simp at a0 a1 a2 a3 a4 a5 a6 a7 a8 a9 a10
        by_cases h40 : L.length ≤ 40
        · have h40i : ¬ 40 < (L.length : Int) := by omega
          go_wp2_with fail
          refine (H18.out _ hB4).mono ?_
          rintro e w5 ⟨rfl, hb5⟩
          have T5 := T4.keep hb5
          have Q5 := Q4.keep hb5
          have hB5 := hB4.trans (hb5.mono hB4.size)
          clear T4 Q4 hB4 x0 x1 x2 x3 x4 x5 x6 x7 a0 a1 a2 a3 a4 a5 a6 a7 a8 a9 a10 H18 h40 h40i hn
          obtain ⟨x0, x1, x2, x3, x4, x5, x6, x7⟩ := stn_cell0 T5
          have a0 := Q5.cell 0
          have a1 := Q5.cell 1
          have a2 := Q5.cell 2
          have a3 := Q5.cell 3
          have a4 := Q5.cell 4
          have a5 := Q5.cell 5
          have a6 := Q5.cell 6
          have a7 := Q5.cell 7
          have a8 := Q5.cell 8
          have a9 := Q5.cell 9
          have a10 := Q5.cell 10
          simp at a0 a1 a2 a3 a4 a5 a6 a7 a8 a9 a10
          obtain ⟨hct, hbl⟩ := HCB.out
          rcases HLS.out with ⟨ho, hls⟩ | ⟨ho, hp, hls⟩ | ⟨ho, hp, hls⟩ | ⟨ho, hp, hls, hwl⟩
          · rw [hls]
            clear hls HLS HCB H57d
            go_wp2_with fail
            refine (H53.out _ hB5).mono ?_
            rintro e w6 ⟨hb6, hpp⟩
            have T6 := T5.keep hb6
            have Q6 := Q5.keep hb6
            have hB6 := hB5.trans (hb6.mono hB5.size)
            clear T5 Q5 hB5 x0 x1 x2 x3 x4 x5 x6 x7 a0 a1 a2 a3 a4 a5 a6 a7 a8 a9 a10 H53
            obtain ⟨x0, x1, x2, x3, x4, x5, x6, x7⟩ := stn_cell0 T6
            have a0 := Q6.cell 0
            have a1 := Q6.cell 1
            have a2 := Q6.cell 2
            have a3 := Q6.cell 3
            have a4 := Q6.cell 4
            have a5 := Q6.cell 5
            have a6 := Q6.cell 6
            have a7 := Q6.cell 7
            have a8 := Q6.cell 8
            have a9 := Q6.cell 9
            have a10 := Q6.cell 10
            simp at a0 a1 a2 a3 a4 a5 a6 a7 a8 a9 a10
            rcases hpp with ⟨ho2, rfl⟩ | ⟨ho2, hp2, rfl⟩ | ⟨ho2, hp2, hp3, rfl⟩ | ⟨ho2, hp2, ⟨tk, tp, ta, ⟨tx, ty⟩, tB, td, tkids⟩, tq, rfl, htt, hts, m, hm⟩
            ·
              obtain ⟨w7, hw7⟩ : ∃ w7, w6.alloc (.cells #[.int .i64 0, .int .i64 0, .int .i64 0, .int .i64 0, .int .i64 0, .slice none 0 0] 49) = w7 := ⟨_, rfl⟩
              have Y7 : Bk w7 w6.heap.size 49 #[.int .i64 0, .int .i64 0, .int .i64 0, .int .i64 0, .int .i64 0, .slice none 0 0] := by rw [← hw7]; exact bk_last rfl
              have hb7 : Below w6.heap.size w6 w7 := by rw [← hw7]; exact (Below.refl _ _).alloc (Nat.le_refl _) _
              have HW7 := Lib.hid hw7
              clear hw7
              have T7 := T6.keep hb7
              have Q7 := Q6.keep hb7
              have hB7 := hB6.trans (hb7.mono hB6.size)
              clear T6 Q6 hB6 x0 x1 x2 x3 x4 x5 x6 x7 a0 a1 a2 a3 a4 a5 a6 a7 a8 a9 a10
              obtain ⟨x0, x1, x2, x3, x4, x5, x6, x7⟩ := stn_cell0 T7
              have a0 := Q7.cell 0
              have a1 := Q7.cell 1
              have a2 := Q7.cell 2
              have a3 := Q7.cell 3
              have a4 := Q7.cell 4
              have a5 := Q7.cell 5
              have a6 := Q7.cell 6
              have a7 := Q7.cell 7
              have a8 := Q7.cell 8
              have a9 := Q7.cell 9
              have a10 := Q7.cell 10
              simp at a0 a1 a2 a3 a4 a5 a6 a7 a8 a9 a10
              go_upto_region 6 with fail
              rw [HW7.out]
              clear HW7
              go_wp2_with fail
              refine (H57.out _ hB7).mono ?_
              rintro e w8 ⟨rfl, hb8⟩
              have T8 := T7.keep hb8
              have Q8 := Q7.keep hb8
              have hB8 := hB7.trans (hb8.mono hB7.size)
              clear T7 Q7 hB7 x0 x1 x2 x3 x4 x5 x6 x7 a0 a1 a2 a3 a4 a5 a6 a7 a8 a9 a10
              obtain ⟨x0, x1, x2, x3, x4, x5, x6, x7⟩ := stn_cell0 T8
              have a0 := Q8.cell 0
              have a1 := Q8.cell 1
              have a2 := Q8.cell 2
              have a3 := Q8.cell 3
              have a4 := Q8.cell 4
              have a5 := Q8.cell 5
              have a6 := Q8.cell 6
              have a7 := Q8.cell 7
              have a8 := Q8.cell 8
              have a9 := Q8.cell 9
              have a10 := Q8.cell 10
              simp at a0 a1 a2 a3 a4 a5 a6 a7 a8 a9 a10
              rcases hct with ⟨g, hct, hg1, hg2⟩ | ⟨m', hct, hm1, hsnd⟩
              · rw [hct]
                go_wp2_with fail
                refine (H33.out _ hB8).mono ?_
                rintro e w9 ⟨rfl, hb9⟩
                have T9 := T8.keep hb9
                have Q9 := Q8.keep hb9
                have hB9 := hB8.trans (hb9.mono hB8.size)
                clear T8 Q8 hB8 x0 x1 x2 x3 x4 x5 x6 x7 a0 a1 a2 a3 a4 a5 a6 a7 a8 a9 a10
                obtain ⟨x0, x1, x2, x3, x4, x5, x6, x7⟩ := stn_cell0 T9
                have a0 := Q9.cell 0
                have a1 := Q9.cell 1
                have a2 := Q9.cell 2
                have a3 := Q9.cell 3
                have a4 := Q9.cell 4
                have a5 := Q9.cell 5
                have a6 := Q9.cell 6
                have a7 := Q9.cell 7
                have a8 := Q9.cell 8
                have a9 := Q9.cell 9
                have a10 := Q9.cell 10
                simp at a0 a1 a2 a3 a4 a5 a6 a7 a8 a9 a10
                have K34 : Hid True := trivial
                have HK := Lib.hid (And.intro T9 (And.intro Q9 hB9))
                clear x0 x1 x2 x3 x4 x5 x6 x7 a0 a2 a3 a5 a6 a7 a8 a9 a10 T9 Q9 hB9
                go_upto_region 8 with fail
                replace a1 := fun x : Ext w9 => keepc x.bel a1
                replace a4 := fun x : Ext w9 => keepc x.bel a4
                refine wp_region_ext (by kernel_rfl) (by kernel_rfl) ?_
                repeat (go_big_quiet_step (fail))
                refine wpQuiet_nil ?_
                rintro _ ⟨y, rfl⟩
                have hb10 := y.bel
                generalize y.w = w10 at hb10 ⊢
                clear a1 a4
                obtain ⟨T9, Q9, hB9⟩ := HK.out
                have T10 := T9.keep hb10
                have hB10 := hB9.trans (hb10.mono hB9.size)
                clear T9 Q9 hB9 HK
                go_wp2_with fail
                go_ret
                exact ⟨rfl, hB10⟩
              · rw [hct]
                have hm2 : ¬ m' < 1 := by omega
                have hm3 : decide (m' < 1) = false := decide_eq_false hm2
                go_wp2_with fail
                refine (H33.out _ hB8).mono ?_
                rintro e w9 ⟨rfl, hb9⟩
                have T9 := T8.keep hb9
                have Q9 := Q8.keep hb9
                have hB9 := hB8.trans (hb9.mono hB8.size)
                clear T8 Q8 hB8 x0 x1 x2 x3 x4 x5 x6 x7 a0 a1 a2 a3 a4 a5 a6 a7 a8 a9 a10
                obtain ⟨x0, x1, x2, x3, x4, x5, x6, x7⟩ := stn_cell0 T9
                have a0 := Q9.cell 0
                have a1 := Q9.cell 1
                have a2 := Q9.cell 2
                have a3 := Q9.cell 3
                have a4 := Q9.cell 4
                have a5 := Q9.cell 5
                have a6 := Q9.cell 6
                have a7 := Q9.cell 7
                have a8 := Q9.cell 8
                have a9 := Q9.cell 9
                have a10 := Q9.cell 10
                simp at a0 a1 a2 a3 a4 a5 a6 a7 a8 a9 a10
                rcases hbl with hbl | hbl | ⟨hbl, hls, h34⟩
                · have q7 : (bl.2 == 0) = false := hbl
                  have HK := Lib.hid (And.intro T9 (And.intro Q9 hB9))
                  clear x0 x1 x2 x3 x4 x5 x6 x7 a0 a2 a3 a5 a6 a7 a8 a9 a10 T9 Q9 hB9
                  go_upto_region 8 with fail
                  replace a1 := fun x : Ext w9 => keepc x.bel a1
                  replace a4 := fun x : Ext w9 => keepc x.bel a4
                  refine wp_region_ext (by kernel_rfl) (by kernel_rfl) ?_
                  repeat (go_big_quiet_step (fail))
                  refine wpQuiet_nil ?_
                  rintro _ ⟨y, rfl⟩
                  have hb10 := y.bel
                  generalize y.w = w10 at hb10 ⊢
                  clear a1 a4
                  obtain ⟨T9, Q9, hB9⟩ := HK.out
                  have T10 := T9.keep hb10
                  have hB10 := hB9.trans (hb10.mono hB9.size)
                  clear T9 Q9 hB9 HK
                  go_wp2_with fail
                  go_ret
                  exact ⟨rfl, hB10⟩
                · rw [hbl]
                  have HK := Lib.hid (And.intro T9 (And.intro Q9 hB9))
                  clear x0 x1 x2 x3 x4 x5 x6 x7 a0 a2 a3 a5 a6 a7 a8 a9 a10 T9 Q9 hB9
                  go_upto_region 8 with fail
                  replace a1 := fun x : Ext w9 => keepc x.bel a1
                  replace a4 := fun x : Ext w9 => keepc x.bel a4
                  refine wp_region_ext (by kernel_rfl) (by kernel_rfl) ?_
                  repeat (go_big_quiet_step (fail))
                  refine wpQuiet_nil ?_
                  rintro _ ⟨y, rfl⟩
                  have hb10 := y.bel
                  generalize y.w = w10 at hb10 ⊢
                  clear a1 a4
                  obtain ⟨T9, Q9, hB9⟩ := HK.out
                  have T10 := T9.keep hb10
                  have hB10 := hB9.trans (hb10.mono hB9.size)
                  clear T9 Q9 hB9 HK
                  go_wp2_with fail
                  go_ret
                  exact ⟨rfl, hB10⟩
                · rw [hbl]
                  have K34 : Hid (∀ x : Ext w9, Calls Try.prog 34 #[.slice A L.length c] x.w fun e w' => e = .returned (.int .i64 (sumF L L.length)) ∧ x.w = w') := fun x => h34 x.w (hB9.trans (x.bel.mono hB9.size))
                  have hls2 : ¬ sumF L L.length < sum := by
                    have := hsnd L hls.1 hls.2
                    unfold sumL at this
                    omega
                  generalize sumF L L.length = SL at *
                  have hls3 : decide (SL < sum) = false := decide_eq_false hls2
                  have HK := Lib.hid (And.intro T9 (And.intro Q9 hB9))
                  clear x0 x1 x2 x3 x4 x5 x6 x7 a0 a2 a3 a5 a6 a7 a8 a9 a10 T9 Q9 hB9
                  go_upto_region 8 with fail
                  replace a1 := fun x : Ext w9 => keepc x.bel a1
                  replace a4 := fun x : Ext w9 => keepc x.bel a4
                  refine wp_region_ext (by kernel_rfl) (by kernel_rfl) ?_
                  repeat (go_big_quiet_step ((go_at_call 34; exact ext_same (K34.out _))))
                  refine wpQuiet_nil ?_
                  rintro _ ⟨y, rfl⟩
                  have hb10 := y.bel
                  generalize y.w = w10 at hb10 ⊢
                  clear a1 a4
                  obtain ⟨T9, Q9, hB9⟩ := HK.out
                  have T10 := T9.keep hb10
                  have hB10 := hB9.trans (hb10.mono hB9.size)
                  clear T9 Q9 hB9 HK
                  go_wp2_with fail
                  go_ret
                  exact ⟨rfl, hB10⟩
            · rw [ho] at ho2; cases ho2
            · rw [ho] at ho2; cases ho2
            · rw [ho] at ho2; cases ho2
          · rw [hls]
            clear hls HLS HCB H57d
            go_wp2_with fail
            refine (H53.out _ hB5).mono ?_
            rintro e w6 ⟨hb6, hpp⟩
            have T6 := T5.keep hb6
            have Q6 := Q5.keep hb6
            have hB6 := hB5.trans (hb6.mono hB5.size)
            clear T5 Q5 hB5 x0 x1 x2 x3 x4 x5 x6 x7 a0 a1 a2 a3 a4 a5 a6 a7 a8 a9 a10 H53
            obtain ⟨x0, x1, x2, x3, x4, x5, x6, x7⟩ := stn_cell0 T6
            have a0 := Q6.cell 0
            have a1 := Q6.cell 1
            have a2 := Q6.cell 2
            have a3 := Q6.cell 3
            have a4 := Q6.cell 4
            have a5 := Q6.cell 5
            have a6 := Q6.cell 6
            have a7 := Q6.cell 7
            have a8 := Q6.cell 8
            have a9 := Q6.cell 9
            have a10 := Q6.cell 10
            simp at a0 a1 a2 a3 a4 a5 a6 a7 a8 a9 a10
            rcases hpp with ⟨ho2, rfl⟩ | ⟨ho2, hp2, rfl⟩ | ⟨ho2, hp2, hp3, rfl⟩ | ⟨ho2, hp2, ⟨tk, tp, ta, ⟨tx, ty⟩, tB, td, tkids⟩, tq, rfl, htt, hts, m, hm⟩
            · rw [ho] at ho2; cases ho2
            ·
              obtain ⟨w7, hw7⟩ : ∃ w7, w6.alloc (.cells #[.int .i64 0, .int .i64 0, .int .i64 0, .int .i64 0, .int .i64 0, .slice none 0 0] 49) = w7 := ⟨_, rfl⟩
              have Y7 : Bk w7 w6.heap.size 49 #[.int .i64 0, .int .i64 0, .int .i64 0, .int .i64 0, .int .i64 0, .slice none 0 0] := by rw [← hw7]; exact bk_last rfl
              have hb7 : Below w6.heap.size w6 w7 := by rw [← hw7]; exact (Below.refl _ _).alloc (Nat.le_refl _) _
              have HW7 := Lib.hid hw7
              clear hw7
              have T7 := T6.keep hb7
              have Q7 := Q6.keep hb7
              have hB7 := hB6.trans (hb7.mono hB6.size)
              clear T6 Q6 hB6 x0 x1 x2 x3 x4 x5 x6 x7 a0 a1 a2 a3 a4 a5 a6 a7 a8 a9 a10
              obtain ⟨x0, x1, x2, x3, x4, x5, x6, x7⟩ := stn_cell0 T7
              have a0 := Q7.cell 0
              have a1 := Q7.cell 1
              have a2 := Q7.cell 2
              have a3 := Q7.cell 3
              have a4 := Q7.cell 4
              have a5 := Q7.cell 5
              have a6 := Q7.cell 6
              have a7 := Q7.cell 7
              have a8 := Q7.cell 8
              have a9 := Q7.cell 9
              have a10 := Q7.cell 10
              simp at a0 a1 a2 a3 a4 a5 a6 a7 a8 a9 a10
              go_upto_region 6 with fail
              rw [HW7.out]
              clear HW7
              go_wp2_with fail
              refine (H57.out _ hB7).mono ?_
              rintro e w8 ⟨rfl, hb8⟩
              have T8 := T7.keep hb8
              have Q8 := Q7.keep hb8
              have hB8 := hB7.trans (hb8.mono hB7.size)
              clear T7 Q7 hB7 x0 x1 x2 x3 x4 x5 x6 x7 a0 a1 a2 a3 a4 a5 a6 a7 a8 a9 a10
              obtain ⟨x0, x1, x2, x3, x4, x5, x6, x7⟩ := stn_cell0 T8
              have a0 := Q8.cell 0
              have a1 := Q8.cell 1
              have a2 := Q8.cell 2
              have a3 := Q8.cell 3
              have a4 := Q8.cell 4
              have a5 := Q8.cell 5
              have a6 := Q8.cell 6
              have a7 := Q8.cell 7
              have a8 := Q8.cell 8
              have a9 := Q8.cell 9
              have a10 := Q8.cell 10
              simp at a0 a1 a2 a3 a4 a5 a6 a7 a8 a9 a10
              rcases hct with ⟨g, hct, hg1, hg2⟩ | ⟨m', hct, hm1, hsnd⟩
              · rw [hct]
                go_wp2_with fail
                refine (H33.out _ hB8).mono ?_
                rintro e w9 ⟨rfl, hb9⟩
                have T9 := T8.keep hb9
                have Q9 := Q8.keep hb9
                have hB9 := hB8.trans (hb9.mono hB8.size)
                clear T8 Q8 hB8 x0 x1 x2 x3 x4 x5 x6 x7 a0 a1 a2 a3 a4 a5 a6 a7 a8 a9 a10
                obtain ⟨x0, x1, x2, x3, x4, x5, x6, x7⟩ := stn_cell0 T9
                have a0 := Q9.cell 0
                have a1 := Q9.cell 1
                have a2 := Q9.cell 2
                have a3 := Q9.cell 3
                have a4 := Q9.cell 4
                have a5 := Q9.cell 5
                have a6 := Q9.cell 6
                have a7 := Q9.cell 7
                have a8 := Q9.cell 8
                have a9 := Q9.cell 9
                have a10 := Q9.cell 10
                simp at a0 a1 a2 a3 a4 a5 a6 a7 a8 a9 a10
                have K34 : Hid True := trivial
                have HK := Lib.hid (And.intro T9 (And.intro Q9 hB9))
                clear x0 x1 x2 x3 x4 x5 x6 x7 a0 a2 a3 a5 a6 a7 a8 a9 a10 T9 Q9 hB9
                go_upto_region 8 with fail
                replace a1 := fun x : Ext w9 => keepc x.bel a1
                replace a4 := fun x : Ext w9 => keepc x.bel a4
                refine wp_region_ext (by kernel_rfl) (by kernel_rfl) ?_
                repeat (go_big_quiet_step (fail))
                refine wpQuiet_nil ?_
                rintro _ ⟨y, rfl⟩
                have hb10 := y.bel
                generalize y.w = w10 at hb10 ⊢
                clear a1 a4
                obtain ⟨T9, Q9, hB9⟩ := HK.out
                have T10 := T9.keep hb10
                have hB10 := hB9.trans (hb10.mono hB9.size)
                clear T9 Q9 hB9 HK
                go_wp2_with fail
                go_ret
                exact ⟨rfl, hB10⟩
              · rw [hct]
                have hm2 : ¬ m' < 1 := by omega
                have hm3 : decide (m' < 1) = false := decide_eq_false hm2
                go_wp2_with fail
                refine (H33.out _ hB8).mono ?_
                rintro e w9 ⟨rfl, hb9⟩
                have T9 := T8.keep hb9
                have Q9 := Q8.keep hb9
                have hB9 := hB8.trans (hb9.mono hB8.size)
                clear T8 Q8 hB8 x0 x1 x2 x3 x4 x5 x6 x7 a0 a1 a2 a3 a4 a5 a6 a7 a8 a9 a10
                obtain ⟨x0, x1, x2, x3, x4, x5, x6, x7⟩ := stn_cell0 T9
                have a0 := Q9.cell 0
                have a1 := Q9.cell 1
                have a2 := Q9.cell 2
                have a3 := Q9.cell 3
                have a4 := Q9.cell 4
                have a5 := Q9.cell 5
                have a6 := Q9.cell 6
                have a7 := Q9.cell 7
                have a8 := Q9.cell 8
                have a9 := Q9.cell 9
                have a10 := Q9.cell 10
                simp at a0 a1 a2 a3 a4 a5 a6 a7 a8 a9 a10
                rcases hbl with hbl | hbl | ⟨hbl, hls, h34⟩
                · have q7 : (bl.2 == 0) = false := hbl
                  have HK := Lib.hid (And.intro T9 (And.intro Q9 hB9))
                  clear x0 x1 x2 x3 x4 x5 x6 x7 a0 a2 a3 a5 a6 a7 a8 a9 a10 T9 Q9 hB9
                  go_upto_region 8 with fail
                  replace a1 := fun x : Ext w9 => keepc x.bel a1
                  replace a4 := fun x : Ext w9 => keepc x.bel a4
                  refine wp_region_ext (by kernel_rfl) (by kernel_rfl) ?_
                  repeat (go_big_quiet_step (fail))
                  refine wpQuiet_nil ?_
                  rintro _ ⟨y, rfl⟩
                  have hb10 := y.bel
                  generalize y.w = w10 at hb10 ⊢
                  clear a1 a4
                  obtain ⟨T9, Q9, hB9⟩ := HK.out
                  have T10 := T9.keep hb10
                  have hB10 := hB9.trans (hb10.mono hB9.size)
                  clear T9 Q9 hB9 HK
                  go_wp2_with fail
                  go_ret
                  exact ⟨rfl, hB10⟩
                · rw [hbl]
                  have HK := Lib.hid (And.intro T9 (And.intro Q9 hB9))
                  clear x0 x1 x2 x3 x4 x5 x6 x7 a0 a2 a3 a5 a6 a7 a8 a9 a10 T9 Q9 hB9
                  go_upto_region 8 with fail
                  replace a1 := fun x : Ext w9 => keepc x.bel a1
                  replace a4 := fun x : Ext w9 => keepc x.bel a4
                  refine wp_region_ext (by kernel_rfl) (by kernel_rfl) ?_
                  repeat (go_big_quiet_step (fail))
                  refine wpQuiet_nil ?_
                  rintro _ ⟨y, rfl⟩
                  have hb10 := y.bel
                  generalize y.w = w10 at hb10 ⊢
                  clear a1 a4
                  obtain ⟨T9, Q9, hB9⟩ := HK.out
                  have T10 := T9.keep hb10
                  have hB10 := hB9.trans (hb10.mono hB9.size)
                  clear T9 Q9 hB9 HK
                  go_wp2_with fail
                  go_ret
                  exact ⟨rfl, hB10⟩
                · rw [hbl]
                  have K34 : Hid (∀ x : Ext w9, Calls Try.prog 34 #[.slice A L.length c] x.w fun e w' => e = .returned (.int .i64 (sumF L L.length)) ∧ x.w = w') := fun x => h34 x.w (hB9.trans (x.bel.mono hB9.size))
                  have hls2 : ¬ sumF L L.length < sum := by
                    have := hsnd L hls.1 hls.2
                    unfold sumL at this
                    omega
                  generalize sumF L L.length = SL at *
                  have hls3 : decide (SL < sum) = false := decide_eq_false hls2
                  have HK := Lib.hid (And.intro T9 (And.intro Q9 hB9))
                  clear x0 x1 x2 x3 x4 x5 x6 x7 a0 a2 a3 a5 a6 a7 a8 a9 a10 T9 Q9 hB9
                  go_upto_region 8 with fail
                  replace a1 := fun x : Ext w9 => keepc x.bel a1
                  replace a4 := fun x : Ext w9 => keepc x.bel a4
                  refine wp_region_ext (by kernel_rfl) (by kernel_rfl) ?_
                  repeat (go_big_quiet_step ((go_at_call 34; exact ext_same (K34.out _))))
                  refine wpQuiet_nil ?_
                  rintro _ ⟨y, rfl⟩
                  have hb10 := y.bel
                  generalize y.w = w10 at hb10 ⊢
                  clear a1 a4
                  obtain ⟨T9, Q9, hB9⟩ := HK.out
                  have T10 := T9.keep hb10
                  have hB10 := hB9.trans (hb10.mono hB9.size)
                  clear T9 Q9 hB9 HK
                  go_wp2_with fail
                  go_ret
                  exact ⟨rfl, hB10⟩
            · exfalso
              have h := HFW.out
              rw [ho] at h
              simp at h
              omega
            · exact absurd hp2 hp
          · rw [hls]
            clear hls HLS HCB
            obtain ⟨tv, htv⟩ : ∃ tv, targetV s = tv := ⟨_, rfl⟩
            go_wp2_with fail
            refine (H53.out _ hB5).mono ?_
            rintro e w6 ⟨hb6, hpp⟩
            have T6 := T5.keep hb6
            have Q6 := Q5.keep hb6
            have hB6 := hB5.trans (hb6.mono hB5.size)
            clear T5 Q5 hB5 x0 x1 x2 x3 x4 x5 x6 x7 a0 a1 a2 a3 a4 a5 a6 a7 a8 a9 a10 H53
            obtain ⟨x0, x1, x2, x3, x4, x5, x6, x7⟩ := stn_cell0 T6
            have a0 := Q6.cell 0
            have a1 := Q6.cell 1
            have a2 := Q6.cell 2
            have a3 := Q6.cell 3
            have a4 := Q6.cell 4
            have a5 := Q6.cell 5
            have a6 := Q6.cell 6
            have a7 := Q6.cell 7
            have a8 := Q6.cell 8
            have a9 := Q6.cell 9
            have a10 := Q6.cell 10
            simp at a0 a1 a2 a3 a4 a5 a6 a7 a8 a9 a10
            rcases hpp with ⟨ho2, rfl⟩ | ⟨ho2, hp2, rfl⟩ | ⟨ho2, hp2, hp3, rfl⟩ | ⟨ho2, hp2, ⟨tk, tp, ta, ⟨tx, ty⟩, tB, td, tkids⟩, tq, rfl, htt, hts, m, hm⟩
            · rw [ho] at ho2; cases ho2
            · exact absurd hp hp2
            · exfalso
              have h := HFW.out
              rw [ho] at h
              simp at h
              omega
            · have hc : ctR s tv (.mk tk tp ta (tx, ty) tB td tkids) = ((0, (m : Int)) : Int × Int) := by
                rw [← htv]
                unfold ctR
                rw [if_pos ho, if_neg (by omega), hm]
              rw [htv]
              have H57c := Lib.hid (fun (W : World) (h : Below w.heap.size w W) (h2 : TrAt W tq (.mk tk tp ta (tx, ty) tB td tkids)) => H57d.out W h tv _ tq h2 hts)
              rw [hc] at H57c
              replace H57c : Hid (∀ W, Below w.heap.size w W → TrAt W tq (.mk tk tp ta (tx, ty) tB td tkids) → Calls Try.prog 57 #[.agg #[.int .i64 s.f.eye, .int .i64 s.f.rings, .int .i64 s.f.sec, .slice z.a1 s.f.kinds.length z.c1, .slice z.a2 s.heights.length z.c2, .slice z.a3 s.compass.length z.c3, .slice z.a4 s.pockets.length z.c4, .int .i64 s.tol], .int .i64 tv, .agg #[.int .i64 tk, .int .i64 tp, .int .i64 ta, .int .i64 tx, .int .i64 ty, .slice tB tkids.length td]] W fun e w' => e = .returned (.tuple #[.int .i64 0, .int .i64 m]) ∧ Below W.heap.size W w') := H57c
              have q5 : (tv == tv) = true := by simp
              rw [show (Tr.mk tk tp ta (tx, ty) tB td tkids).val = Value.agg #[.int .i64 tk, .int .i64 tp, .int .i64 ta, .int .i64 tx, .int .i64 ty, .slice tB tkids.length td] from rfl]
              clear hc hm hts
              obtain ⟨w7, hw7⟩ : ∃ w7, w6.alloc (.cells #[.int .i64 tk, .int .i64 tp, .int .i64 ta, .int .i64 tx, .int .i64 ty, .slice tB tkids.length td] 49) = w7 := ⟨_, rfl⟩
              have Y7 : Bk w7 w6.heap.size 49 #[.int .i64 tk, .int .i64 tp, .int .i64 ta, .int .i64 tx, .int .i64 ty, .slice tB tkids.length td] := by rw [← hw7]; exact bk_last rfl
              have hb7 : Below w6.heap.size w6 w7 := by rw [← hw7]; exact (Below.refl _ _).alloc (Nat.le_refl _) _
              have HW7 := Lib.hid hw7
              clear hw7
              have htt7 := htt.keep hb7
              have T7 := T6.keep hb7
              have Q7 := Q6.keep hb7
              have hB7 := hB6.trans (hb7.mono hB6.size)
              clear T6 Q6 hB6 x0 x1 x2 x3 x4 x5 x6 x7 a0 a1 a2 a3 a4 a5 a6 a7 a8 a9 a10
              obtain ⟨x0, x1, x2, x3, x4, x5, x6, x7⟩ := stn_cell0 T7
              have a0 := Q7.cell 0
              have a1 := Q7.cell 1
              have a2 := Q7.cell 2
              have a3 := Q7.cell 3
              have a4 := Q7.cell 4
              have a5 := Q7.cell 5
              have a6 := Q7.cell 6
              have a7 := Q7.cell 7
              have a8 := Q7.cell 8
              have a9 := Q7.cell 9
              have a10 := Q7.cell 10
              simp at a0 a1 a2 a3 a4 a5 a6 a7 a8 a9 a10
              go_upto_region 6 with fail
              rw [HW7.out]
              clear HW7 htt
              go_wp2_with fail
              refine (H57.out _ hB7).mono ?_
              rintro e w8 ⟨rfl, hb8⟩
              have Y8 := Y7.keep hb8
              have htt8 := htt7.keep hb8
              clear Y7 htt7
              have T8 := T7.keep hb8
              have Q8 := Q7.keep hb8
              have hB8 := hB7.trans (hb8.mono hB7.size)
              clear T7 Q7 hB7 x0 x1 x2 x3 x4 x5 x6 x7 a0 a1 a2 a3 a4 a5 a6 a7 a8 a9 a10
              obtain ⟨x0, x1, x2, x3, x4, x5, x6, x7⟩ := stn_cell0 T8
              have a0 := Q8.cell 0
              have a1 := Q8.cell 1
              have a2 := Q8.cell 2
              have a3 := Q8.cell 3
              have a4 := Q8.cell 4
              have a5 := Q8.cell 5
              have a6 := Q8.cell 6
              have a7 := Q8.cell 7
              have a8 := Q8.cell 8
              have a9 := Q8.cell 9
              have a10 := Q8.cell 10
              simp at a0 a1 a2 a3 a4 a5 a6 a7 a8 a9 a10
              rcases hct with ⟨g, hct, hg1, hg2⟩ | ⟨m', hct, hm1, hsnd⟩
              · rw [hct]
                go_wp2_with fail
                refine (H33.out _ hB8).mono ?_
                rintro e w9 ⟨rfl, hb9⟩
                have Y9 := Y8.keep hb9
                have htt9 := htt8.keep hb9
                clear Y8 htt8
                have T9 := T8.keep hb9
                have Q9 := Q8.keep hb9
                have hB9 := hB8.trans (hb9.mono hB8.size)
                clear T8 Q8 hB8 x0 x1 x2 x3 x4 x5 x6 x7 a0 a1 a2 a3 a4 a5 a6 a7 a8 a9 a10
                obtain ⟨x0, x1, x2, x3, x4, x5, x6, x7⟩ := stn_cell0 T9
                have a0 := Q9.cell 0
                have a1 := Q9.cell 1
                have a2 := Q9.cell 2
                have a3 := Q9.cell 3
                have a4 := Q9.cell 4
                have a5 := Q9.cell 5
                have a6 := Q9.cell 6
                have a7 := Q9.cell 7
                have a8 := Q9.cell 8
                have a9 := Q9.cell 9
                have a10 := Q9.cell 10
                simp at a0 a1 a2 a3 a4 a5 a6 a7 a8 a9 a10
                have K34 : Hid True := trivial
                have HK := Lib.hid (And.intro T9 (And.intro Q9 hB9))
                clear x0 x1 x2 x3 x4 x5 x6 x7 a0 a2 a3 a5 a6 a7 a8 a9 a10 T9 Q9 hB9
                go_upto_region 8 with fail
                replace a1 := fun x : Ext w9 => keepc x.bel a1
                replace a4 := fun x : Ext w9 => keepc x.bel a4
                refine wp_region_ext (by kernel_rfl) (by kernel_rfl) ?_
                repeat (go_big_quiet_step (fail))
                refine wpQuiet_nil ?_
                rintro _ ⟨y, rfl⟩
                have hb10 := y.bel
                generalize y.w = w10 at hb10 ⊢
                clear a1 a4
                obtain ⟨T9, Q9, hB9⟩ := HK.out
                have T10 := T9.keep hb10
                have hB10 := hB9.trans (hb10.mono hB9.size)
                clear T9 Q9 hB9 HK
                have Y10 := Y9.keep hb10
                have htt10 := htt9.keep hb10
                obtain ⟨x0, x1, x2, x3, x4, x5, x6, x7⟩ := stn_cell0 T10
                have y0 := Y10.cell 0
                have y1 := Y10.cell 1
                have y2 := Y10.cell 2
                have y3 := Y10.cell 3
                have y4 := Y10.cell 4
                have y5 := Y10.cell 5
                simp at y0 y1 y2 y3 y4 y5
                go_wp2_with fail
                refine (H57c.out _ hB10 htt10).mono ?_
                rintro e w11 ⟨rfl, hb11⟩
                clear y0 y1 y2 y3 y4 y5 x0 x1 x2 x3 x4 x5 x6 x7 Y10 T10 htt10
                go_wp2_with fail
                go_ret
                exact ⟨rfl, hB10.trans (hb11.mono hB10.size)⟩
              · rw [hct]
                have hm2 : ¬ m' < 1 := by omega
                have hm3 : decide (m' < 1) = false := decide_eq_false hm2
                go_wp2_with fail
                refine (H33.out _ hB8).mono ?_
                rintro e w9 ⟨rfl, hb9⟩
                have Y9 := Y8.keep hb9
                have htt9 := htt8.keep hb9
                clear Y8 htt8
                have T9 := T8.keep hb9
                have Q9 := Q8.keep hb9
                have hB9 := hB8.trans (hb9.mono hB8.size)
                clear T8 Q8 hB8 x0 x1 x2 x3 x4 x5 x6 x7 a0 a1 a2 a3 a4 a5 a6 a7 a8 a9 a10
                obtain ⟨x0, x1, x2, x3, x4, x5, x6, x7⟩ := stn_cell0 T9
                have a0 := Q9.cell 0
                have a1 := Q9.cell 1
                have a2 := Q9.cell 2
                have a3 := Q9.cell 3
                have a4 := Q9.cell 4
                have a5 := Q9.cell 5
                have a6 := Q9.cell 6
                have a7 := Q9.cell 7
                have a8 := Q9.cell 8
                have a9 := Q9.cell 9
                have a10 := Q9.cell 10
                simp at a0 a1 a2 a3 a4 a5 a6 a7 a8 a9 a10
                rcases hbl with hbl | hbl | ⟨hbl, hls, h34⟩
                · have q7 : (bl.2 == 0) = false := hbl
                  have HK := Lib.hid (And.intro T9 (And.intro Q9 hB9))
                  clear x0 x1 x2 x3 x4 x5 x6 x7 a0 a2 a3 a5 a6 a7 a8 a9 a10 T9 Q9 hB9
                  go_upto_region 8 with fail
                  replace a1 := fun x : Ext w9 => keepc x.bel a1
                  replace a4 := fun x : Ext w9 => keepc x.bel a4
                  refine wp_region_ext (by kernel_rfl) (by kernel_rfl) ?_
                  repeat (go_big_quiet_step (fail))
                  refine wpQuiet_nil ?_
                  rintro _ ⟨y, rfl⟩
                  have hb10 := y.bel
                  generalize y.w = w10 at hb10 ⊢
                  clear a1 a4
                  obtain ⟨T9, Q9, hB9⟩ := HK.out
                  have T10 := T9.keep hb10
                  have hB10 := hB9.trans (hb10.mono hB9.size)
                  clear T9 Q9 hB9 HK
                  have Y10 := Y9.keep hb10
                  have htt10 := htt9.keep hb10
                  obtain ⟨x0, x1, x2, x3, x4, x5, x6, x7⟩ := stn_cell0 T10
                  have y0 := Y10.cell 0
                  have y1 := Y10.cell 1
                  have y2 := Y10.cell 2
                  have y3 := Y10.cell 3
                  have y4 := Y10.cell 4
                  have y5 := Y10.cell 5
                  simp at y0 y1 y2 y3 y4 y5
                  go_wp2_with fail
                  refine (H57c.out _ hB10 htt10).mono ?_
                  rintro e w11 ⟨rfl, hb11⟩
                  clear y0 y1 y2 y3 y4 y5 x0 x1 x2 x3 x4 x5 x6 x7 Y10 T10 htt10
                  go_wp2_with fail
                  go_ret
                  exact ⟨rfl, hB10.trans (hb11.mono hB10.size)⟩
                · rw [hbl]
                  have HK := Lib.hid (And.intro T9 (And.intro Q9 hB9))
                  clear x0 x1 x2 x3 x4 x5 x6 x7 a0 a2 a3 a5 a6 a7 a8 a9 a10 T9 Q9 hB9
                  go_upto_region 8 with fail
                  replace a1 := fun x : Ext w9 => keepc x.bel a1
                  replace a4 := fun x : Ext w9 => keepc x.bel a4
                  refine wp_region_ext (by kernel_rfl) (by kernel_rfl) ?_
                  repeat (go_big_quiet_step (fail))
                  refine wpQuiet_nil ?_
                  rintro _ ⟨y, rfl⟩
                  have hb10 := y.bel
                  generalize y.w = w10 at hb10 ⊢
                  clear a1 a4
                  obtain ⟨T9, Q9, hB9⟩ := HK.out
                  have T10 := T9.keep hb10
                  have hB10 := hB9.trans (hb10.mono hB9.size)
                  clear T9 Q9 hB9 HK
                  have Y10 := Y9.keep hb10
                  have htt10 := htt9.keep hb10
                  obtain ⟨x0, x1, x2, x3, x4, x5, x6, x7⟩ := stn_cell0 T10
                  have y0 := Y10.cell 0
                  have y1 := Y10.cell 1
                  have y2 := Y10.cell 2
                  have y3 := Y10.cell 3
                  have y4 := Y10.cell 4
                  have y5 := Y10.cell 5
                  simp at y0 y1 y2 y3 y4 y5
                  go_wp2_with fail
                  refine (H57c.out _ hB10 htt10).mono ?_
                  rintro e w11 ⟨rfl, hb11⟩
                  clear y0 y1 y2 y3 y4 y5 x0 x1 x2 x3 x4 x5 x6 x7 Y10 T10 htt10
                  go_wp2_with fail
                  go_ret
                  exact ⟨rfl, hB10.trans (hb11.mono hB10.size)⟩
                · rw [hbl]
                  have K34 : Hid (∀ x : Ext w9, Calls Try.prog 34 #[.slice A L.length c] x.w fun e w' => e = .returned (.int .i64 (sumF L L.length)) ∧ x.w = w') := fun x => h34 x.w (hB9.trans (x.bel.mono hB9.size))
                  have hls2 : ¬ sumF L L.length < sum := by
                    have := hsnd L hls.1 hls.2
                    unfold sumL at this
                    omega
                  generalize sumF L L.length = SL at *
                  have hls3 : decide (SL < sum) = false := decide_eq_false hls2
                  have HK := Lib.hid (And.intro T9 (And.intro Q9 hB9))
                  clear x0 x1 x2 x3 x4 x5 x6 x7 a0 a2 a3 a5 a6 a7 a8 a9 a10 T9 Q9 hB9
                  go_upto_region 8 with fail
                  replace a1 := fun x : Ext w9 => keepc x.bel a1
                  replace a4 := fun x : Ext w9 => keepc x.bel a4
                  refine wp_region_ext (by kernel_rfl) (by kernel_rfl) ?_
                  repeat (go_big_quiet_step ((go_at_call 34; exact ext_same (K34.out _))))
                  refine wpQuiet_nil ?_
                  rintro _ ⟨y, rfl⟩
                  have hb10 := y.bel
                  generalize y.w = w10 at hb10 ⊢
                  clear a1 a4
                  obtain ⟨T9, Q9, hB9⟩ := HK.out
                  have T10 := T9.keep hb10
                  have hB10 := hB9.trans (hb10.mono hB9.size)
                  clear T9 Q9 hB9 HK
                  have Y10 := Y9.keep hb10
                  have htt10 := htt9.keep hb10
                  obtain ⟨x0, x1, x2, x3, x4, x5, x6, x7⟩ := stn_cell0 T10
                  have y0 := Y10.cell 0
                  have y1 := Y10.cell 1
                  have y2 := Y10.cell 2
                  have y3 := Y10.cell 3
                  have y4 := Y10.cell 4
                  have y5 := Y10.cell 5
                  simp at y0 y1 y2 y3 y4 y5
                  go_wp2_with fail
                  refine (H57c.out _ hB10 htt10).mono ?_
                  rintro e w11 ⟨rfl, hb11⟩
                  clear y0 y1 y2 y3 y4 y5 x0 x1 x2 x3 x4 x5 x6 x7 Y10 T10 htt10
                  go_wp2_with fail
                  go_ret
                  exact ⟨rfl, hB10.trans (hb11.mono hB10.size)⟩
          · rw [hls]
            clear hls HLS HCB
            obtain ⟨tv, htv⟩ : ∃ tv, targetV s = tv := ⟨_, rfl⟩
            rw [htv] at hwl ⊢
            go_wp2_with fail
            refine (H53.out _ hB5).mono ?_
            rintro e w6 ⟨hb6, hpp⟩
            have T6 := T5.keep hb6
            have Q6 := Q5.keep hb6
            have hB6 := hB5.trans (hb6.mono hB5.size)
            clear T5 Q5 hB5 x0 x1 x2 x3 x4 x5 x6 x7 a0 a1 a2 a3 a4 a5 a6 a7 a8 a9 a10 H53
            obtain ⟨x0, x1, x2, x3, x4, x5, x6, x7⟩ := stn_cell0 T6
            have a0 := Q6.cell 0
            have a1 := Q6.cell 1
            have a2 := Q6.cell 2
            have a3 := Q6.cell 3
            have a4 := Q6.cell 4
            have a5 := Q6.cell 5
            have a6 := Q6.cell 6
            have a7 := Q6.cell 7
            have a8 := Q6.cell 8
            have a9 := Q6.cell 9
            have a10 := Q6.cell 10
            simp at a0 a1 a2 a3 a4 a5 a6 a7 a8 a9 a10
            rcases hpp with ⟨ho2, rfl⟩ | ⟨ho2, hp2, rfl⟩ | ⟨ho2, hp2, hp3, rfl⟩ | ⟨ho2, hp2, ⟨tk, tp, ta, ⟨tx, ty⟩, tB, td, tkids⟩, tq, rfl, htt, hts, m, hm⟩
            · rw [ho] at ho2; cases ho2
            · exact absurd hp hp2
            · exfalso
              have h := HFW.out
              rw [ho] at h
              simp at h
              omega
            · have hc : ctR s tv (.mk tk tp ta (tx, ty) tB td tkids) = ((0, (m : Int)) : Int × Int) := by
                rw [← htv]
                unfold ctR
                rw [if_pos ho, if_neg (by omega), hm]
              rw [htv]
              have H57c := Lib.hid (fun (W : World) (h : Below w.heap.size w W) (h2 : TrAt W tq (.mk tk tp ta (tx, ty) tB td tkids)) => H57d.out W h tv _ tq h2 hts)
              rw [hc] at H57c
              replace H57c : Hid (∀ W, Below w.heap.size w W → TrAt W tq (.mk tk tp ta (tx, ty) tB td tkids) → Calls Try.prog 57 #[.agg #[.int .i64 s.f.eye, .int .i64 s.f.rings, .int .i64 s.f.sec, .slice z.a1 s.f.kinds.length z.c1, .slice z.a2 s.heights.length z.c2, .slice z.a3 s.compass.length z.c3, .slice z.a4 s.pockets.length z.c4, .int .i64 s.tol], .int .i64 tv, .agg #[.int .i64 tk, .int .i64 tp, .int .i64 ta, .int .i64 tx, .int .i64 ty, .slice tB tkids.length td]] W fun e w' => e = .returned (.tuple #[.int .i64 0, .int .i64 m]) ∧ Below W.heap.size W w') := H57c
              have q5 : (tv == tv) = true := by simp
              rw [show (Tr.mk tk tp ta (tx, ty) tB td tkids).val = Value.agg #[.int .i64 tk, .int .i64 tp, .int .i64 ta, .int .i64 tx, .int .i64 ty, .slice tB tkids.length td] from rfl]
              clear hc hm hts
              obtain ⟨w7, hw7⟩ : ∃ w7, w6.alloc (.cells #[.int .i64 tk, .int .i64 tp, .int .i64 ta, .int .i64 tx, .int .i64 ty, .slice tB tkids.length td] 49) = w7 := ⟨_, rfl⟩
              have Y7 : Bk w7 w6.heap.size 49 #[.int .i64 tk, .int .i64 tp, .int .i64 ta, .int .i64 tx, .int .i64 ty, .slice tB tkids.length td] := by rw [← hw7]; exact bk_last rfl
              have hb7 : Below w6.heap.size w6 w7 := by rw [← hw7]; exact (Below.refl _ _).alloc (Nat.le_refl _) _
              have HW7 := Lib.hid hw7
              clear hw7
              have htt7 := htt.keep hb7
              have T7 := T6.keep hb7
              have Q7 := Q6.keep hb7
              have hB7 := hB6.trans (hb7.mono hB6.size)
              clear T6 Q6 hB6 x0 x1 x2 x3 x4 x5 x6 x7 a0 a1 a2 a3 a4 a5 a6 a7 a8 a9 a10
              obtain ⟨x0, x1, x2, x3, x4, x5, x6, x7⟩ := stn_cell0 T7
              have a0 := Q7.cell 0
              have a1 := Q7.cell 1
              have a2 := Q7.cell 2
              have a3 := Q7.cell 3
              have a4 := Q7.cell 4
              have a5 := Q7.cell 5
              have a6 := Q7.cell 6
              have a7 := Q7.cell 7
              have a8 := Q7.cell 8
              have a9 := Q7.cell 9
              have a10 := Q7.cell 10
              simp at a0 a1 a2 a3 a4 a5 a6 a7 a8 a9 a10
              go_upto_region 6 with fail
              rw [HW7.out]
              clear HW7 htt
              go_wp2_with fail
              refine (H57.out _ hB7).mono ?_
              rintro e w8 ⟨rfl, hb8⟩
              have Y8 := Y7.keep hb8
              have htt8 := htt7.keep hb8
              clear Y7 htt7
              have T8 := T7.keep hb8
              have Q8 := Q7.keep hb8
              have hB8 := hB7.trans (hb8.mono hB7.size)
              clear T7 Q7 hB7 x0 x1 x2 x3 x4 x5 x6 x7 a0 a1 a2 a3 a4 a5 a6 a7 a8 a9 a10
              obtain ⟨x0, x1, x2, x3, x4, x5, x6, x7⟩ := stn_cell0 T8
              have a0 := Q8.cell 0
              have a1 := Q8.cell 1
              have a2 := Q8.cell 2
              have a3 := Q8.cell 3
              have a4 := Q8.cell 4
              have a5 := Q8.cell 5
              have a6 := Q8.cell 6
              have a7 := Q8.cell 7
              have a8 := Q8.cell 8
              have a9 := Q8.cell 9
              have a10 := Q8.cell 10
              simp at a0 a1 a2 a3 a4 a5 a6 a7 a8 a9 a10
              rcases hct with ⟨g, hct, hg1, hg2⟩ | ⟨m', hct, hm1, hsnd⟩
              · rw [hct]
                go_wp2_with fail
                refine (H33.out _ hB8).mono ?_
                rintro e w9 ⟨rfl, hb9⟩
                have Y9 := Y8.keep hb9
                have htt9 := htt8.keep hb9
                clear Y8 htt8
                have T9 := T8.keep hb9
                have Q9 := Q8.keep hb9
                have hB9 := hB8.trans (hb9.mono hB8.size)
                clear T8 Q8 hB8 x0 x1 x2 x3 x4 x5 x6 x7 a0 a1 a2 a3 a4 a5 a6 a7 a8 a9 a10
                obtain ⟨x0, x1, x2, x3, x4, x5, x6, x7⟩ := stn_cell0 T9
                have a0 := Q9.cell 0
                have a1 := Q9.cell 1
                have a2 := Q9.cell 2
                have a3 := Q9.cell 3
                have a4 := Q9.cell 4
                have a5 := Q9.cell 5
                have a6 := Q9.cell 6
                have a7 := Q9.cell 7
                have a8 := Q9.cell 8
                have a9 := Q9.cell 9
                have a10 := Q9.cell 10
                simp at a0 a1 a2 a3 a4 a5 a6 a7 a8 a9 a10
                have K34 : Hid True := trivial
                have HK := Lib.hid (And.intro T9 (And.intro Q9 hB9))
                clear x0 x1 x2 x3 x4 x5 x6 x7 a0 a2 a3 a5 a6 a7 a8 a9 a10 T9 Q9 hB9
                go_upto_region 8 with fail
                replace a1 := fun x : Ext w9 => keepc x.bel a1
                replace a4 := fun x : Ext w9 => keepc x.bel a4
                refine wp_region_ext (by kernel_rfl) (by kernel_rfl) ?_
                repeat (go_big_quiet_step (fail))
                refine wpQuiet_nil ?_
                rintro _ ⟨y, rfl⟩
                have hb10 := y.bel
                generalize y.w = w10 at hb10 ⊢
                clear a1 a4
                obtain ⟨T9, Q9, hB9⟩ := HK.out
                have T10 := T9.keep hb10
                have hB10 := hB9.trans (hb10.mono hB9.size)
                clear T9 Q9 hB9 HK
                have Y10 := Y9.keep hb10
                have htt10 := htt9.keep hb10
                obtain ⟨x0, x1, x2, x3, x4, x5, x6, x7⟩ := stn_cell0 T10
                have y0 := Y10.cell 0
                have y1 := Y10.cell 1
                have y2 := Y10.cell 2
                have y3 := Y10.cell 3
                have y4 := Y10.cell 4
                have y5 := Y10.cell 5
                simp at y0 y1 y2 y3 y4 y5
                go_wp2_with fail
                refine (H57c.out _ hB10 htt10).mono ?_
                rintro e w11 ⟨rfl, hb11⟩
                clear y0 y1 y2 y3 y4 y5 x0 x1 x2 x3 x4 x5 x6 x7 Y10 T10 htt10
                go_wp2_with fail
                go_ret
                exact ⟨rfl, hB10.trans (hb11.mono hB10.size)⟩
              · rw [hct]
                have hm2 : ¬ m' < 1 := by omega
                have hm3 : decide (m' < 1) = false := decide_eq_false hm2
                have hns : ¬ tv < sum := by
                  obtain ⟨l0, e1, e2, e3⟩ := hwl
                  have := hsnd l0 e1 e2
                  omega
                have hns2 : decide (tv < sum) = false := decide_eq_false hns
                go_wp2_with fail
                refine (H33.out _ hB8).mono ?_
                rintro e w9 ⟨rfl, hb9⟩
                have Y9 := Y8.keep hb9
                have htt9 := htt8.keep hb9
                clear Y8 htt8
                have T9 := T8.keep hb9
                have Q9 := Q8.keep hb9
                have hB9 := hB8.trans (hb9.mono hB8.size)
                clear T8 Q8 hB8 x0 x1 x2 x3 x4 x5 x6 x7 a0 a1 a2 a3 a4 a5 a6 a7 a8 a9 a10
                obtain ⟨x0, x1, x2, x3, x4, x5, x6, x7⟩ := stn_cell0 T9
                have a0 := Q9.cell 0
                have a1 := Q9.cell 1
                have a2 := Q9.cell 2
                have a3 := Q9.cell 3
                have a4 := Q9.cell 4
                have a5 := Q9.cell 5
                have a6 := Q9.cell 6
                have a7 := Q9.cell 7
                have a8 := Q9.cell 8
                have a9 := Q9.cell 9
                have a10 := Q9.cell 10
                simp at a0 a1 a2 a3 a4 a5 a6 a7 a8 a9 a10
                rcases hbl with hbl | hbl | ⟨hbl, hls, h34⟩
                · have q7 : (bl.2 == 0) = false := hbl
                  have HK := Lib.hid (And.intro T9 (And.intro Q9 hB9))
                  clear x0 x1 x2 x3 x4 x5 x6 x7 a0 a2 a3 a5 a6 a7 a8 a9 a10 T9 Q9 hB9
                  go_upto_region 8 with fail
                  replace a1 := fun x : Ext w9 => keepc x.bel a1
                  replace a4 := fun x : Ext w9 => keepc x.bel a4
                  refine wp_region_ext (by kernel_rfl) (by kernel_rfl) ?_
                  repeat (go_big_quiet_step (fail))
                  refine wpQuiet_nil ?_
                  rintro _ ⟨y, rfl⟩
                  have hb10 := y.bel
                  generalize y.w = w10 at hb10 ⊢
                  clear a1 a4
                  obtain ⟨T9, Q9, hB9⟩ := HK.out
                  have T10 := T9.keep hb10
                  have hB10 := hB9.trans (hb10.mono hB9.size)
                  clear T9 Q9 hB9 HK
                  have Y10 := Y9.keep hb10
                  have htt10 := htt9.keep hb10
                  obtain ⟨x0, x1, x2, x3, x4, x5, x6, x7⟩ := stn_cell0 T10
                  have y0 := Y10.cell 0
                  have y1 := Y10.cell 1
                  have y2 := Y10.cell 2
                  have y3 := Y10.cell 3
                  have y4 := Y10.cell 4
                  have y5 := Y10.cell 5
                  simp at y0 y1 y2 y3 y4 y5
                  go_wp2_with fail
                  refine (H57c.out _ hB10 htt10).mono ?_
                  rintro e w11 ⟨rfl, hb11⟩
                  clear y0 y1 y2 y3 y4 y5 x0 x1 x2 x3 x4 x5 x6 x7 Y10 T10 htt10
                  go_wp2_with fail
                  go_ret
                  exact ⟨rfl, hB10.trans (hb11.mono hB10.size)⟩
                · rw [hbl]
                  have HK := Lib.hid (And.intro T9 (And.intro Q9 hB9))
                  clear x0 x1 x2 x3 x4 x5 x6 x7 a0 a2 a3 a5 a6 a7 a8 a9 a10 T9 Q9 hB9
                  go_upto_region 8 with fail
                  replace a1 := fun x : Ext w9 => keepc x.bel a1
                  replace a4 := fun x : Ext w9 => keepc x.bel a4
                  refine wp_region_ext (by kernel_rfl) (by kernel_rfl) ?_
                  repeat (go_big_quiet_step (fail))
                  refine wpQuiet_nil ?_
                  rintro _ ⟨y, rfl⟩
                  have hb10 := y.bel
                  generalize y.w = w10 at hb10 ⊢
                  clear a1 a4
                  obtain ⟨T9, Q9, hB9⟩ := HK.out
                  have T10 := T9.keep hb10
                  have hB10 := hB9.trans (hb10.mono hB9.size)
                  clear T9 Q9 hB9 HK
                  have Y10 := Y9.keep hb10
                  have htt10 := htt9.keep hb10
                  obtain ⟨x0, x1, x2, x3, x4, x5, x6, x7⟩ := stn_cell0 T10
                  have y0 := Y10.cell 0
                  have y1 := Y10.cell 1
                  have y2 := Y10.cell 2
                  have y3 := Y10.cell 3
                  have y4 := Y10.cell 4
                  have y5 := Y10.cell 5
                  simp at y0 y1 y2 y3 y4 y5
                  go_wp2_with fail
                  refine (H57c.out _ hB10 htt10).mono ?_
                  rintro e w11 ⟨rfl, hb11⟩
                  clear y0 y1 y2 y3 y4 y5 x0 x1 x2 x3 x4 x5 x6 x7 Y10 T10 htt10
                  go_wp2_with fail
                  go_ret
                  exact ⟨rfl, hB10.trans (hb11.mono hB10.size)⟩
                · rw [hbl]
                  have K34 : Hid (∀ x : Ext w9, Calls Try.prog 34 #[.slice A L.length c] x.w fun e w' => e = .returned (.int .i64 (sumF L L.length)) ∧ x.w = w') := fun x => h34 x.w (hB9.trans (x.bel.mono hB9.size))
                  have hls2 : ¬ sumF L L.length < sum := by
                    have := hsnd L hls.1 hls.2
                    unfold sumL at this
                    omega
                  generalize sumF L L.length = SL at *
                  have hls3 : decide (SL < sum) = false := decide_eq_false hls2
                  have HK := Lib.hid (And.intro T9 (And.intro Q9 hB9))
                  clear x0 x1 x2 x3 x4 x5 x6 x7 a0 a2 a3 a5 a6 a7 a8 a9 a10 T9 Q9 hB9
                  go_upto_region 8 with fail
                  replace a1 := fun x : Ext w9 => keepc x.bel a1
                  replace a4 := fun x : Ext w9 => keepc x.bel a4
                  refine wp_region_ext (by kernel_rfl) (by kernel_rfl) ?_
                  repeat (go_big_quiet_step ((go_at_call 34; exact ext_same (K34.out _))))
                  refine wpQuiet_nil ?_
                  rintro _ ⟨y, rfl⟩
                  have hb10 := y.bel
                  generalize y.w = w10 at hb10 ⊢
                  clear a1 a4
                  obtain ⟨T9, Q9, hB9⟩ := HK.out
                  have T10 := T9.keep hb10
                  have hB10 := hB9.trans (hb10.mono hB9.size)
                  clear T9 Q9 hB9 HK
                  have Y10 := Y9.keep hb10
                  have htt10 := htt9.keep hb10
                  obtain ⟨x0, x1, x2, x3, x4, x5, x6, x7⟩ := stn_cell0 T10
                  have y0 := Y10.cell 0
                  have y1 := Y10.cell 1
                  have y2 := Y10.cell 2
                  have y3 := Y10.cell 3
                  have y4 := Y10.cell 4
                  have y5 := Y10.cell 5
                  simp at y0 y1 y2 y3 y4 y5
                  go_wp2_with fail
                  refine (H57c.out _ hB10 htt10).mono ?_
                  rintro e w11 ⟨rfl, hb11⟩
                  clear y0 y1 y2 y3 y4 y5 x0 x1 x2 x3 x4 x5 x6 x7 Y10 T10 htt10
                  go_wp2_with fail
                  go_ret
                  exact ⟨rfl, hB10.trans (hb11.mono hB10.size)⟩
        · have h40i : 40 < (L.length : Int) := by omega
          go_wp2_with fail
          go_ret
          exact ⟨rfl, hB4⟩
      · have hd : decide (S ≤ 5000) = false := decide_eq_false hz
        rw [hd] at H52
        clear hd hz H57 H53 H57d H18 H33 HCT HBL HLS
        go_wp2_with fail
        refine (H16.out _ hB1).mono ?_
        rintro e w2 ⟨rfl, hb2⟩
        have T2 := T1.keep hb2
        have Q2 := Q1.keep hb2
        have hB2 := hB1.trans (hb2.mono hB1.size)
        clear T1 Q1 hB1 x0 x1 x2 x3 x4 x5 x6 x7 a0 a1 a2 a3 a4 a5 a6 a7 a8 a9 a10
        obtain ⟨x0, x1, x2, x3, x4, x5, x6, x7⟩ := stn_cell0 T2
        have a0 := Q2.cell 0
        have a1 := Q2.cell 1
        have a2 := Q2.cell 2
        have a3 := Q2.cell 3
        have a4 := Q2.cell 4
        have a5 := Q2.cell 5
        have a6 := Q2.cell 6
        have a7 := Q2.cell 7
        have a8 := Q2.cell 8
        have a9 := Q2.cell 9
        have a10 := Q2.cell 10
        simp at a0 a1 a2 a3 a4 a5 a6 a7 a8 a9 a10
        go_wp2_with fail
        refine (H17.out _ hB2).mono ?_
        rintro e w3 ⟨rfl, hb3⟩
        have T3 := T2.keep hb3
        have Q3 := Q2.keep hb3
        have hB3 := hB2.trans (hb3.mono hB2.size)
        clear T2 Q2 hB2 x0 x1 x2 x3 x4 x5 x6 x7 a0 a1 a2 a3 a4 a5 a6 a7 a8 a9 a10
        obtain ⟨x0, x1, x2, x3, x4, x5, x6, x7⟩ := stn_cell0 T3
        have a0 := Q3.cell 0
        have a1 := Q3.cell 1
        have a2 := Q3.cell 2
        have a3 := Q3.cell 3
        have a4 := Q3.cell 4
        have a5 := Q3.cell 5
        have a6 := Q3.cell 6
        have a7 := Q3.cell 7
        have a8 := Q3.cell 8
        have a9 := Q3.cell 9
        have a10 := Q3.cell 10
        simp at a0 a1 a2 a3 a4 a5 a6 a7 a8 a9 a10
        go_wp2_with (go_at_call 52; refine (H52.out _ hB3).mono ?_; rintro e w4 ⟨rfl, hb4⟩)
        go_ret
        exact ⟨rfl, hB3.trans (hb4.mono hB3.size)⟩

end Go.Proofs.Ythmngnfdfelkeaa
