/-
  What is proved: TruthWays answers true.
-/
import Derived.Test.YthmngnfdfelkeaaAwake
import Derived.Test.YthmngnfdfelkeaaRReach
import Derived.Test.YthmngnfdfelkeaaRApart
import Derived.Test.YthmngnfdfelkeaaArgAsk
namespace Go.Proofs.Ythmngnfdfelkeaa
open Go.RowKit
attribute [local go_sem ↓] max_int min_int

theorem eq53 (W : World) (a b c d : Int) : (binOp .eql 53 (.agg #[.int .i64 a, .int .i64 b]) (.agg #[.int .i64 c, .int .i64 d])).run Try.prog W = .ok (.bool (a == c && b == d)) W := by
  simp [go_sem, Try.underlying53]
  by_cases h1 : a = c <;> by_cases h2 : b = d <;> simp [*]

set_option maxRecDepth 100000 in
set_option maxHeartbeats 8000000 in
theorem ways_law (s : Stn) (z : Loc) (cell : Int) (A : Option Addr) (c : Nat) (lead : List Int) (way : Int × Int) (sum : Int) (t0 t1 t2 t3 t4 t5 : Value) (w : World) (hs : StAt w s z) :
    Calls Try.prog 7 #[s.val z, .agg (askA cell A c lead way sum t0 t1 t2 t3 t4 t5)] w fun e w' => e = .returned (.bool true) ∧ Below w.heap.size w w' := by
  have T0 : Bk ((w.alloc (.cells (s.cells z) 28)).alloc (.cells (askA cell A c lead way sum t0 t1 t2 t3 t4 t5) 51)) w.heap.size 28 (s.cells z) := (bk_last rfl).alloc _
  have Q0 : Bk ((w.alloc (.cells (s.cells z) 28)).alloc (.cells (askA cell A c lead way sum t0 t1 t2 t3 t4 t5) 51)) (w.heap.size + 1) 51 (askA cell A c lead way sum t0 t1 t2 t3 t4 t5) := bk_last (by simp)
  have hB0 : Below w.heap.size w ((w.alloc (.cells (s.cells z) 28)).alloc (.cells (askA cell A c lead way sum t0 t1 t2 t3 t4 t5) 51)) := ((Below.refl _ _).alloc (Nat.le_refl _) _).alloc (by simp) _
  have H16 : Hid (∀ W, Below w.heap.size w W → Calls Try.prog 16 #[.agg (s.cells z)] W fun e w' => e = .returned (.bool (smallB s)) ∧ Below W.heap.size W w') := fun W h => small_any s z W (hs.below h)
  have H29 : Hid (∀ W, Below w.heap.size w W → Calls Try.prog 29 #[.agg (s.cells z), .agg #[.int .i64 way.1, .int .i64 way.2]] W fun e w' => e = .returned (.tuple #[.agg #[.int .i64 (reachR s way).1.1, .int .i64 (reachR s way).1.2], .int .i64 (reachR s way).2]) ∧ Below W.heap.size W w') := fun W h => reachT_any s z way W (hs.below h)
  have H30 : Hid (∀ W, Below w.heap.size w W → Calls Try.prog 30 #[.agg (s.cells z), .agg #[.int .i64 way.1, .int .i64 way.2]] W fun e w' => e = .returned (.tuple #[.agg #[.int .i64 (reachR s way).1.1, .int .i64 (reachR s way).1.2], .int .i64 (reachR s way).2]) ∧ Below W.heap.size W w') := fun W h => reachF_any s z way W (hs.below h)
  have H31 : Hid (∀ W, Below w.heap.size w W → Calls Try.prog 31 #[.agg (s.cells z)] W fun e w' => e = .returned (.tuple #[.agg #[.int .i64 (apartR s).1.1, .int .i64 (apartR s).1.2], .int .i64 (apartR s).2]) ∧ Below W.heap.size W w') := fun W h => apartT_any s z W (hs.below h)
  have H32 : Hid (∀ W, Below w.heap.size w W → Calls Try.prog 32 #[.agg (s.cells z)] W fun e w' => e = .returned (.tuple #[.agg #[.int .i64 (apartR s).1.1, .int .i64 (apartR s).1.2], .int .i64 (apartR s).2]) ∧ Below W.heap.size W w') := fun W h => apartF_any s z W (hs.below h)
  have E43 := eq43
  have E53 := eq53
  unfold Stn.cells askA at *
  unfold Stn.val Stn.cells
  generalize smallB s = sm at *
  generalize reachR s way = re at *
  generalize apartR s = ap at *
  obtain ⟨wx, wy⟩ := way
  obtain ⟨⟨o1, o2⟩, o3⟩ := re
  obtain ⟨⟨i1, i2⟩, i3⟩ := ap
  simp only at H29 H30 H31 H32 Q0 hB0 T0 ⊢
  go_enter Try.func7, Try.ntmps7
  go_wp2_with fail
  generalize (w.alloc (.cells _ 28)).alloc (.cells _ 51) = V at *
  refine (awake_any _).mono ?_
  rintro e w1 ⟨rfl, hb1⟩
  have T1 : Bk w1 w.heap.size 28 (s.cells z) := T0.keep hb1
  have Q1 := Q0.keep hb1
  have hB1 := hB0.trans (hb1.mono hB0.size)
  clear T0 Q0 hB0 hb1
  obtain ⟨x0, x1, x2, x3, x4, x5, x6, x7⟩ := stn_cell0 T1
  cases sm
  · go_wp2_with (go_at_call 16; refine (H16.out _ hB1).mono ?_; rintro e w2 ⟨rfl, hb2⟩)
    go_ret
    exact ⟨rfl, hB1.trans (hb2.mono hB1.size)⟩
  · go_wp2_with fail
    refine (H16.out _ hB1).mono ?_
    rintro e w2 ⟨rfl, hb2⟩
    have T2 := T1.keep hb2
    have Q2 := Q1.keep hb2
    have hB2 := hB1.trans (hb2.mono hB1.size)
    clear T1 Q1 hB1 hb2 H16 x0 x1 x2 x3 x4 x5 x6 x7
    obtain ⟨x0, x1, x2, x3, x4, x5, x6, x7⟩ := stn_cell0 T2
    have a2 := Q2.cell 2
    have a3 := Q2.cell 3
    simp at a2 a3
    go_wp2_with fail
    refine (H29.out _ hB2).mono ?_
    rintro e w3 ⟨rfl, hb3⟩
    have T3 := T2.keep hb3
    have Q3 := Q2.keep hb3
    have hB3 := hB2.trans (hb3.mono hB2.size)
    clear T2 Q2 hB2 hb3 H29 x0 x1 x2 x3 x4 x5 x6 x7 a2 a3
    have hB4 := hB3.alloc hB3.size (.cells #[.int .i64 o1, .int .i64 o2] 53)
    have A4 : Bk (w3.alloc (.cells #[.int .i64 o1, .int .i64 o2] 53)) w3.heap.size 53 #[.int .i64 o1, .int .i64 o2] := bk_last rfl
    have T4 := T3.alloc (.cells #[.int .i64 o1, .int .i64 o2] 53)
    have Q4 := Q3.alloc (.cells #[.int .i64 o1, .int .i64 o2] 53)
    clear T3 Q3 hB3
    go_upto_region 5 with fail
    generalize w3.alloc (.cells #[.int .i64 o1, .int .i64 o2] 53) = w4 at *
    generalize w3.heap.size = bA at *
    obtain ⟨x0, x1, x2, x3, x4, x5, x6, x7⟩ := stn_cell0 T4
    have a2 := Q4.cell 2
    have a3 := Q4.cell 3
    simp at a2 a3
    go_wp2_with fail
    refine (H30.out _ hB4).mono ?_
    rintro e w5 ⟨rfl, hb5⟩
    have T5 := T4.keep hb5
    have Q5 := Q4.keep hb5
    have A5 := A4.keep hb5
    have hB5 := hB4.trans (hb5.mono hB4.size)
    clear T4 Q4 A4 hB4 hb5 H30 x0 x1 x2 x3 x4 x5 x6 x7 a2 a3
    have hB6 := hB5.alloc hB5.size (.cells #[.int .i64 o1, .int .i64 o2] 53)
    have B6 : Bk (w5.alloc (.cells #[.int .i64 o1, .int .i64 o2] 53)) w5.heap.size 53 #[.int .i64 o1, .int .i64 o2] := bk_last rfl
    have T6 := T5.alloc (.cells #[.int .i64 o1, .int .i64 o2] 53)
    have Q6 := Q5.alloc (.cells #[.int .i64 o1, .int .i64 o2] 53)
    have A6 := A5.alloc (.cells #[.int .i64 o1, .int .i64 o2] 53)
    clear T5 Q5 A5 hB5
    go_upto_region 6 with fail
    generalize w5.alloc (.cells #[.int .i64 o1, .int .i64 o2] 53) = w6 at *
    generalize w5.heap.size = bB at *
    obtain ⟨x0, x1, x2, x3, x4, x5, x6, x7⟩ := stn_cell0 T6
    have a2 := Q6.cell 2
    have a3 := Q6.cell 3
    simp at a2 a3
    go_wp2_with fail
    refine (H31.out _ hB6).mono ?_
    rintro e w7 ⟨rfl, hb7⟩
    have T7 := T6.keep hb7
    have Q7 := Q6.keep hb7
    have A7 := A6.keep hb7
    have B7 := B6.keep hb7
    have hB7 := hB6.trans (hb7.mono hB6.size)
    clear T6 Q6 A6 B6 hB6 hb7 H31 x0 x1 x2 x3 x4 x5 x6 x7 a2 a3
    have hB8 := hB7.alloc hB7.size (.cells #[.int .i64 i1, .int .i64 i2] 43)
    have C8 : Bk (w7.alloc (.cells #[.int .i64 i1, .int .i64 i2] 43)) w7.heap.size 43 #[.int .i64 i1, .int .i64 i2] := bk_last rfl
    have T8 := T7.alloc (.cells #[.int .i64 i1, .int .i64 i2] 43)
    have Q8 := Q7.alloc (.cells #[.int .i64 i1, .int .i64 i2] 43)
    have A8 := A7.alloc (.cells #[.int .i64 i1, .int .i64 i2] 43)
    have B8 := B7.alloc (.cells #[.int .i64 i1, .int .i64 i2] 43)
    clear T7 Q7 A7 B7 hB7
    go_upto_region 7 with fail
    generalize w7.alloc (.cells #[.int .i64 i1, .int .i64 i2] 43) = w8 at *
    generalize w7.heap.size = bC at *
    obtain ⟨x0, x1, x2, x3, x4, x5, x6, x7⟩ := stn_cell0 T8
    have a2 := Q8.cell 2
    have a3 := Q8.cell 3
    simp at a2 a3
    go_wp2_with fail
    refine (H32.out _ hB8).mono ?_
    rintro e w9 ⟨rfl, hb9⟩
    have T9 := T8.keep hb9
    have Q9 := Q8.keep hb9
    have A9 := A8.keep hb9
    have B9 := B8.keep hb9
    have C9 := C8.keep hb9
    have hB9 := hB8.trans (hb9.mono hB8.size)
    clear T8 Q8 A8 B8 C8 hB8 hb9 H32 x0 x1 x2 x3 x4 x5 x6 x7 a2 a3
    have hB10 := hB9.alloc hB9.size (.cells #[.int .i64 i1, .int .i64 i2] 43)
    have D10 : Bk (w9.alloc (.cells #[.int .i64 i1, .int .i64 i2] 43)) w9.heap.size 43 #[.int .i64 i1, .int .i64 i2] := bk_last rfl
    have T10 := T9.alloc (.cells #[.int .i64 i1, .int .i64 i2] 43)
    have Q10 := Q9.alloc (.cells #[.int .i64 i1, .int .i64 i2] 43)
    have A10 := A9.alloc (.cells #[.int .i64 i1, .int .i64 i2] 43)
    have B10 := B9.alloc (.cells #[.int .i64 i1, .int .i64 i2] 43)
    have C10 := C9.alloc (.cells #[.int .i64 i1, .int .i64 i2] 43)
    clear T9 Q9 A9 B9 C9 hB9
    go_upto_region 8 with fail
    generalize w9.alloc (.cells #[.int .i64 i1, .int .i64 i2] 43) = w10 at *
    generalize w9.heap.size = bD at *
    have a0 := A10.cell 0
    have a1 := A10.cell 1
    simp at a0 a1
    have b0 := B10.cell 0
    have b1 := B10.cell 1
    simp at b0 b1
    have c0 := C10.cell 0
    have c1 := C10.cell 1
    simp at c0 c1
    have d0 := D10.cell 0
    have d1 := D10.cell 1
    simp at d0 d1
    go_wp2_with fail
    go_ret
    exact ⟨by simp, hB10⟩

end Go.Proofs.Ythmngnfdfelkeaa
