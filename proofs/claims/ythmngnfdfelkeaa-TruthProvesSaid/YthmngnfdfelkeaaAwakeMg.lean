/-
  What is proved: the contract of awake.
-/
import Derived.Test.YthmngnfdfelkeaaApartMg
import Derived.Test.YthmngnfdfelkeaaMg15
import Derived.Test.YthmngnfdfelkeaaRedMg
import Derived.Test.YthmngnfdfelkeaaSameMg
import Derived.Laws.StructEq
namespace Go.Proofs.Ythmngnfdfelkeaa
open Go.RowKit

theorem val_ok (m : Int) (h : m = 3 ∨ m = 1) : (sampleS m).ok = true := by rcases h with rfl | rfl <;> decide
theorem val_mom : momentR (sampleS 3) = ((12, 0), 0) := by decide
theorem val_lead : leadR (sampleS 3) = ([2, 0], 0) := by decide
theorem val_count : countR (sampleS 3) = (1, 0) := by decide
theorem val_least : leastR (sampleS 1) = (0, 61) := by decide
def sampG : Gp := ⟨⟨1, 1, 4, [0, 0, 0, 0]⟩, [3, 1, 1, 1], [3, 1, 1, 1]⟩
theorem val_close : closeR sampG 5 = ([-1, 1, 1, 1], 0) := by decide
theorem val_red : redR [5, 9, 8, 2] [0, 1, 2] 1 = ([false, true, true], 0) := by decide

theorem val_ways : preS 1 = [⟨(-1, 0), by simp [WayOk]⟩, ⟨(0, -1), by simp [WayOk]⟩, ⟨(0, 1), by simp [WayOk]⟩] ++ [⟨(1, 0), by simp [WayOk]⟩] := by rfl
theorem val_apart : apartR (sampleS 1) = ((1, 0), 0) := by
  have h1 : wayL.find? (farB (sampleS 1)) = some ⟨(1, 0), by simp [WayOk]⟩ := by
    refine find_pre (pre := [⟨(-1, 0), by simp [WayOk]⟩, ⟨(0, -1), by simp [WayOk]⟩, ⟨(0, 1), by simp [WayOk]⟩]) ?_ ?_ ?_
    · rw [← val_ways]
      exact preS_mono (by omega)
    · intro y hy
      simp only [List.mem_cons, List.not_mem_nil, or_false] at hy
      rcases hy with rfl | rfl | rfl <;> decide
    · decide
  unfold apartR
  rw [if_pos (val_ok 1 (.inr rfl)), h1]

set_option maxRecDepth 100000 in
theorem eq43 (W : World) (a b c d : Int) : (binOp .eql 43 (.agg #[.int .i64 a, .int .i64 b]) (.agg #[.int .i64 c, .int .i64 d])).run Try.prog W = .ok (.bool (a == c && b == d)) W := by
  simp [go_sem, Try.underlying43]
  by_cases h1 : a = c <;> by_cases h2 : b = d <;> simp [*]

set_option maxRecDepth 100000 in
set_option maxHeartbeats 8000000 in
theorem awake_any (w : World) : Calls Try.prog 15 #[] w fun e w' => e = .returned (.bool true) ∧ Below w.heap.size w w' := by
  have E43 := eq43
  go_enter Try.func15, Try.ntmps15
  go_wp2_with fail
  refine (sample_any 3 _).mono ?_
  rintro e w1 ⟨z1, rfl, hs1, hb1⟩
  have hB1 : Below w.heap.size w w1 := hb1
  clear hb1
  go_wp2_with fail
  refine (moment_any (sampleS 3) z1 _ (hs1.alloc _)).mono ?_
  rintro e w2 ⟨rfl, hb2⟩
  have X : Bk w2 w1.heap.size 28 #[.int .i64 1, .int .i64 1, .int .i64 4, .slice z1.a1 4 z1.c1, .slice z1.a2 4 z1.c2, .slice z1.a3 4 z1.c3, .slice z1.a4 2 z1.c4, .int .i64 4] := (bk_last rfl).keep hb2
  have hs2 := (hs1.alloc _).below hb2
  have hB2 : Below w.heap.size w w2 := (hB1.alloc hB1.size _).trans (hb2.mono (by have := hB1.size; simp; omega))
  rw [val_mom]
  unfold pointV
  clear hb2 hB1 hs1
  have xl := X.lt
  have x0 := X.cell 0
  have x1 := X.cell 1
  have x2 := X.cell 2
  have x3 := X.cell 3
  have x4 := X.cell 4
  have x5 := X.cell 5
  have x6 := X.cell 6
  have x7 := X.cell 7
  simp at x0 x1 x2 x3 x4 x5 x6 x7
  go_wp2_with fail
  refine (lead_any (sampleS 3) z1 _ (hs2.alloc _)).mono ?_
  rintro e w3 ⟨v3, rfl, ho3, hb3⟩
  have M : Bk w3 w2.heap.size 43 #[.int .i64 12, .int .i64 0] := (bk_last rfl).keep hb3
  replace X := (X.alloc _).keep hb3
  have hs3 := (hs2.alloc _).below hb3
  have hB3 : Below w.heap.size w w3 := (hB2.alloc hB2.size _).trans (hb3.mono (by have := hB2.size; simp; omega))
  rw [val_lead] at ho3 ⊢
  obtain ⟨A3, c3, rfl, _, hr3, _⟩ := own_form ho3
  clear hb3 hB2 hs2 ho3
  clear xl x0 x1 x2 x3 x4 x5 x6 x7
  have xl := X.lt
  have x0 := X.cell 0
  have x1 := X.cell 1
  have x2 := X.cell 2
  have x3 := X.cell 3
  have x4 := X.cell 4
  have x5 := X.cell 5
  have x6 := X.cell 6
  have x7 := X.cell 7
  simp at x0 x1 x2 x3 x4 x5 x6 x7
  go_wp2_with fail
  refine (count_any (sampleS 3) z1 _ hs3).mono ?_
  rintro e w4 ⟨rfl, hb4⟩
  replace M := M.keep hb4
  replace X := X.keep hb4
  replace hr3 := hr3.below hb4
  have hB4 := hB3.trans (hb4.mono hB3.size)
  have hs4 := hs3.below hb4
  rw [val_count]
  unfold pairV
  clear hb4 hB3 hs3
  clear xl x0 x1 x2 x3 x4 x5 x6 x7
  have xl := X.lt
  have x0 := X.cell 0
  have x1 := X.cell 1
  have x2 := X.cell 2
  have x3 := X.cell 3
  have x4 := X.cell 4
  have x5 := X.cell 5
  have x6 := X.cell 6
  have x7 := X.cell 7
  simp at x0 x1 x2 x3 x4 x5 x6 x7
  go_wp2_with fail
  refine (sample_any 1 _).mono ?_
  rintro e w5 ⟨z5, rfl, hs5, hb5⟩
  replace M := M.keep hb5
  replace X := X.keep hb5
  replace hr3 := hr3.below hb5
  have hB5 := hB4.trans (hb5.mono hB4.size)
  replace hs4 := hs4.below hb5
  clear hb5 hB4
  clear xl x0 x1 x2 x3 x4 x5 x6 x7
  go_wp2_with fail
  refine (apartT_any (sampleS 1) z5 _ hs5).mono ?_
  rintro e w6 ⟨rfl, hb6⟩
  replace M := M.keep hb6
  replace X := X.keep hb6
  replace hr3 := hr3.below hb6
  have hB6 := hB5.trans (hb6.mono hB5.size)
  replace hs4 := hs4.below hb6
  rw [val_apart]
  unfold pointV
  clear hb6 hB5 hs5
  go_wp2_with fail
  refine (sample_any 1 _).mono ?_
  rintro e w7 ⟨z7, rfl, hs7, hb7⟩
  have N : Bk w7 w6.heap.size 43 #[.int .i64 1, .int .i64 0] := (bk_last rfl).keep hb7
  replace M := (M.alloc _).keep hb7
  replace X := (X.alloc _).keep hb7
  replace hr3 := (hr3.alloc _).below hb7
  have hB7 : Below w.heap.size w w7 := (hB6.alloc hB6.size _).trans (hb7.mono (by have := hB6.size; simp; omega))
  replace hs4 := (hs4.alloc _).below hb7
  clear hb7 hB6
  go_wp2_with fail
  refine (least_any (sampleS 1) z7 _ hs7).mono ?_
  rintro e w8 ⟨rfl, hb8⟩
  replace N := N.keep hb8
  replace M := M.keep hb8
  replace X := X.keep hb8
  replace hr3 := hr3.below hb8
  have hB8 := hB7.trans (hb8.mono hB7.size)
  replace hs4 := hs4.below hb8
  rw [val_least]
  unfold pairV
  clear hb8 hB7 hs7
  have xl := X.lt
  have x0 := X.cell 0
  have x1 := X.cell 1
  have x2 := X.cell 2
  have x3 := X.cell 3
  have x4 := X.cell 4
  have x5 := X.cell 5
  have x6 := X.cell 6
  have x7 := X.cell 7
  simp at x0 x1 x2 x3 x4 x5 x6 x7
  go_wp2_with fail
  refine (closest_any sampG ⟨z1.a1, z1.c1, z1.a2, z1.c2, z1.a2, z1.c2⟩ 5 _ ⟨hs4.kinds, hs4.heights, hs4.heights, by decide, by decide, by decide⟩).mono ?_
  rintro e w9 ⟨v9, rfl, ho9, hb9⟩
  rw [val_close] at ho9 ⊢
  obtain ⟨A9, c9, rfl, _, hr9, _⟩ := own_form ho9
  replace N := N.keep hb9
  replace M := M.keep hb9
  replace hr3 := hr3.below hb9
  have hB9 := hB8.trans (hb9.mono hB8.size)
  clear hb9 hB8 hs4 ho9 X
  clear xl x0 x1 x2 x3 x4 x5 x6 x7
  go_wp2_with fail
  refine (red_any (some ⟨w9.heap.size, 0, none⟩) (some ⟨w9.heap.size + 1, 0, none⟩) 4 3 [5, 9, 8, 2] [0, 1, 2] 1 _ (row_bk ((bk_last rfl).alloc _) (by rfl)) (row_bk (bk_last (by simp)) (by rfl)) (by decide) (by decide)).mono ?_
  rintro e w10 ⟨v10, rfl, ho10, hb10⟩
  rw [val_red] at ho10 ⊢
  obtain ⟨A10, c10, rfl, _, hr10, _⟩ := own_form ho10
  replace N := ((N.alloc _).alloc _).keep hb10
  replace M := ((M.alloc _).alloc _).keep hb10
  replace hr3 := ((hr3.alloc _).alloc _).below hb10
  replace hr9 := ((hr9.alloc _).alloc _).below hb10
  have hB10 : Below w.heap.size w w10 := ((hB9.alloc hB9.size _).alloc (by have := hB9.size; simp; omega) _).trans (hb10.mono (by have := hB9.size; simp; omega))
  clear hb10 hB9 ho10
  have m0 := M.cell 0
  have m1 := M.cell 1
  have n0 := N.cell 0
  have n1 := N.cell 1
  simp at m0 m1 n0 n1
  have ml := M.lt
  have nl := N.lt
  go_wp2_with fail
  have hq := row_bk (w := w10.alloc (Obj.cells #[.int .i64 2, .int .i64 0] 3)) (xs := intCells [2, 0]) (bk_last rfl) (by rfl)
  refine (sameInts_any A3 (some ⟨w10.heap.size, 0, none⟩) c3 2 [2, 0] [2, 0] _ (hr3.alloc _) hq (by decide) (by decide)).mono ?_
  rintro e w11 ⟨rfl, k11, rfl⟩
  have hB11 : Below w.heap.size w ((w10.alloc (Obj.cells #[.int .i64 2, .int .i64 0] 3)).drewN k11) := below_drewN (hB10.alloc hB10.size _) _
  have hr9' : RowAt ((w10.alloc (Obj.cells #[.int .i64 2, .int .i64 0] 3)).drewN k11) A9 (intCells [-1, 1, 1, 1]) := hr9.alloc _
  have hr10' : RowAt ((w10.alloc (Obj.cells #[.int .i64 2, .int .i64 0] 3)).drewN k11) A10 (boolCells [false, true, true]) := hr10.alloc _
  replace N : Bk ((w10.alloc (Obj.cells #[.int .i64 2, .int .i64 0] 3)).drewN k11) _ _ _ := N.alloc _
  generalize (w10.alloc (Obj.cells #[.int .i64 2, .int .i64 0] 3)).drewN k11 = w11 at *
  clear m0 m1 n0 n1 hq hr3 hr9 hr10 hB10 M nl ml
  have n0 := N.cell 0
  have n1 := N.cell 1
  simp at n0 n1
  have nl := N.lt
  simp only [decide_true]
  go_wp2_with fail
  have hq := row_bk (w := w11.alloc (Obj.cells #[.int .i64 (-1), .int .i64 1, .int .i64 1, .int .i64 1] 3)) (xs := intCells [-1, 1, 1, 1]) (bk_last rfl) (by rfl)
  refine (sameInts_any A9 (some ⟨w11.heap.size, 0, none⟩) c9 4 [-1, 1, 1, 1] [-1, 1, 1, 1] _ (hr9'.alloc _) hq (by decide) (by decide)).mono ?_
  rintro e w12 ⟨rfl, k12, rfl⟩
  have hB12 : Below w.heap.size w ((w11.alloc (Obj.cells #[.int .i64 (-1), .int .i64 1, .int .i64 1, .int .i64 1] 3)).drewN k12) := below_drewN (hB11.alloc hB11.size _) _
  have hr10 : RowAt ((w11.alloc (Obj.cells #[.int .i64 (-1), .int .i64 1, .int .i64 1, .int .i64 1] 3)).drewN k12) A10 (boolCells [false, true, true]) := hr10'.alloc _
  generalize (w11.alloc (Obj.cells #[.int .i64 (-1), .int .i64 1, .int .i64 1, .int .i64 1] 3)).drewN k12 = w12 at *
  clear n0 n1 hq hr9' hr10' hB11 N nl
  simp only [decide_true]
  go_wp2_with fail
  have hq := row_bk (w := w12.alloc (Obj.cells #[.bool false, .bool true, .bool true] 4)) (xs := boolCells [false, true, true]) (bk_last rfl) (by rfl)
  refine (sameBools_any A10 (some ⟨w12.heap.size, 0, none⟩) c10 3 [false, true, true] [false, true, true] _ (hr10.alloc _) hq (by decide) (by decide)).mono ?_
  rintro e w13 ⟨rfl, k13, rfl⟩
  simp only [decide_true]
  go_wp2_with fail
  go_ret
  exact ⟨rfl, below_drewN (hB12.alloc hB12.size _) _⟩

end Go.Proofs.Ythmngnfdfelkeaa
