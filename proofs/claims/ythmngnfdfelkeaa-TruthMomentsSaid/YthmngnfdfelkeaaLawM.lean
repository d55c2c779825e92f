/-
  What is proved: TruthMoments answers true.
-/
import Derived.Test.YthmngnfdfelkeaaAwake
import Derived.Test.YthmngnfdfelkeaaBal
import Derived.Test.YthmngnfdfelkeaaRTop
import Derived.Test.YthmngnfdfelkeaaArgAsk
namespace Go.Proofs.Ythmngnfdfelkeaa
open Go.RowKit
attribute [local go_sem ↓] max_int min_int

set_option maxRecDepth 100000 in
set_option maxHeartbeats 8000000 in
theorem moments_law (s : Stn) (z : Loc) (cell : Int) (A : Option Addr) (c : Nat) (lead : List Int) (way : Int × Int) (sum : Int) (t0 t1 t2 t3 t4 t5 : Value) (w : World) (hs : StAt w s z) (hm : RowAt w A (intCells lead)) (hn : lead.length ≤ 9223372036854775807) :
    Calls Try.prog 12 #[s.val z, .agg (askA cell A c lead way sum t0 t1 t2 t3 t4 t5)] w fun e w' => e = .returned (.bool true) ∧ Below w.heap.size w w' := by
  have T0 : Bk ((w.alloc (.cells (s.cells z) 28)).alloc (.cells (askA cell A c lead way sum t0 t1 t2 t3 t4 t5) 51)) w.heap.size 28 (s.cells z) := (bk_last rfl).alloc _
  have Q0 : Bk ((w.alloc (.cells (s.cells z) 28)).alloc (.cells (askA cell A c lead way sum t0 t1 t2 t3 t4 t5) 51)) (w.heap.size + 1) 51 (askA cell A c lead way sum t0 t1 t2 t3 t4 t5) := bk_last (by simp)
  have hB0 : Below w.heap.size w ((w.alloc (.cells (s.cells z) 28)).alloc (.cells (askA cell A c lead way sum t0 t1 t2 t3 t4 t5) 51)) := ((Below.refl _ _).alloc (Nat.le_refl _) _).alloc (by simp) _
  have H16 : Hid (∀ W, Below w.heap.size w W → Calls Try.prog 16 #[.agg (s.cells z)] W fun e w' => e = .returned (.bool (smallB s)) ∧ Below W.heap.size W w') := fun W h => small_any s z W (hs.below h)
  have H45 : Hid (∀ W, Below w.heap.size w W → Calls Try.prog 45 #[.agg (s.cells z), .int .i64 cell] W fun e w' => e = .returned (.tuple #[.int .i64 (massR s cell).1, .int .i64 (massR s cell).2]) ∧ Below W.heap.size W w') := fun W h => massT_any s z cell W (hs.below h)
  have H46 : Hid (∀ W, Below w.heap.size w W → Calls Try.prog 46 #[.agg (s.cells z), .int .i64 cell] W fun e w' => e = .returned (.tuple #[.int .i64 (massR s cell).1, .int .i64 (massR s cell).2]) ∧ Below W.heap.size W w') := fun W h => massF_any s z cell W (hs.below h)
  have H28 : Hid (∀ W, Below w.heap.size w W → Calls Try.prog 28 #[.agg (s.cells z)] W fun e w' => e = .returned (.tuple #[.agg #[.int .i64 (momentR s).1.1, .int .i64 (momentR s).1.2], .int .i64 (momentR s).2]) ∧ Below W.heap.size W w') := fun W h => moment_any s z W (hs.below h)
  have H47 : Hid (∀ W, Below w.heap.size w W → Calls Try.prog 47 #[.agg (s.cells z)] W fun e w' => e = .returned (.tuple #[.agg #[.int .i64 (momentR s).1.1, .int .i64 (momentR s).1.2], .int .i64 (momentR s).2]) ∧ Below W.heap.size W w') := fun W h => momentF_any s z W (hs.below h)
  have H43 : Hid (∀ W, Below w.heap.size w W → Calls Try.prog 43 #[.agg (s.cells z), .slice A lead.length c] W fun e w' => e = .returned (.tuple #[.agg #[.int .i64 (withR s lead).1.1, .int .i64 (withR s lead).1.2], .int .i64 (withR s lead).2]) ∧ Below W.heap.size W w') := fun W h => withT_any s z A c lead W (hs.below h) (hm.below h) hn
  have H48 : Hid (∀ W, Below w.heap.size w W → Calls Try.prog 48 #[.agg (s.cells z), .slice A lead.length c] W fun e w' => e = .returned (.tuple #[.agg #[.int .i64 (withR s lead).1.1, .int .i64 (withR s lead).1.2], .int .i64 (withR s lead).2]) ∧ Below W.heap.size W w') := fun W h => withF_any s z A c lead W (hs.below h) (hm.below h) hn
  have H33 : Hid (∀ W, Below w.heap.size w W → Calls Try.prog 33 #[.agg (s.cells z), .slice A lead.length c] W fun e w' => e = .returned (.tuple #[.bool (balR s lead).1, .int .i64 (balR s lead).2]) ∧ Below W.heap.size W w') := fun W h => bal_any s z A c lead W (hs.below h) (hm.below h) hn
  have H49 : Hid (∀ W, Below w.heap.size w W → Calls Try.prog 49 #[.agg (s.cells z), .slice A lead.length c] W fun e w' => e = .returned (.tuple #[.bool (balR s lead).1, .int .i64 (balR s lead).2]) ∧ Below W.heap.size W w') := fun W h => balF_any s z A c lead W (hs.below h) (hm.below h) hn
  have H50 : Hid (∀ W, Below w.heap.size w W → Calls Try.prog 50 #[.agg (s.cells z)] W fun e w' => e = .returned (.int .i64 (checkE s)) ∧ Below W.heap.size W w') := fun W h => checkT_any s z W (hs.below h)
  have H51 : Hid (∀ W, Below w.heap.size w W → Calls Try.prog 51 #[.agg (s.cells z)] W fun e w' => e = .returned (.int .i64 (checkE s)) ∧ Below W.heap.size W w') := fun W h => rcheck_any s z W (hs.below h)
  have E43 := eq43
  unfold Stn.cells askA at *
  unfold Stn.val Stn.cells
  generalize smallB s = sm at *
  generalize massR s cell = mr at *
  generalize momentR s = mo at *
  generalize withR s lead = wi at *
  generalize balR s lead = bl at *
  generalize checkE s = ce at *
  obtain ⟨m1, m2⟩ := mr
  obtain ⟨⟨o1, o2⟩, o3⟩ := mo
  obtain ⟨⟨i1, i2⟩, i3⟩ := wi
  obtain ⟨b1, b2⟩ := bl
  simp only at H45 H46 H28 H47 H43 H48 H33 H49
  go_enter Try.func12, Try.ntmps12
  go_wp2_with fail
  generalize (w.alloc (.cells _ 28)).alloc (.cells _ 51) = V at *
  refine (awake_any _).mono ?_
  rintro e w1 ⟨rfl, hb1⟩
  have T1 : Bk w1 w.heap.size 28 (s.cells z) := T0.keep hb1
  have Q1 := Q0.keep hb1
  have hB1 := hB0.trans (hb1.mono hB0.size)
  clear T0 Q0 hB0 hb1
  obtain ⟨x0, x1, x2, x3, x4, x5, x6, x7⟩ := stn_cell0 T1
  have a0 := Q1.cell 0
  have a1 := Q1.cell 1
  simp at a0 a1
  cases sm
  · go_wp2_with (go_at_call 16; refine (H16.out _ hB1).mono ?_; rintro e w2 ⟨rfl, hb2⟩)
    go_ret
    exact ⟨rfl, hB1.trans (hb2.mono hB1.size)⟩
  · go_wp2_with fail
    refine (H16.out _ hB1).mono ?_
    rintro e w2 ⟨rfl, hb2⟩
    have T2 := T1.keep hb2
    have Q2 := Q1.keep hb2
    have hB2 := hB1.trans (hb2.mono hB1.size)
    clear T1 Q1 hB1 hb2 H16 x0 x1 x2 x3 x4 x5 x6 x7 a0 a1
    obtain ⟨x0, x1, x2, x3, x4, x5, x6, x7⟩ := stn_cell0 T2
    have a0 := Q2.cell 0
    have a1 := Q2.cell 1
    simp at a0 a1
    by_cases m3 : (lead.length : Int) ≤ 40
    · go_wp2_with fail
      refine (H45.out _ hB2).mono ?_
      rintro e w3 ⟨rfl, hb3⟩
      have T3 := (T2).keep hb3
      have Q3 := (Q2).keep hb3
      have hB3 := hB2.trans (hb3.mono hB2.size)
      clear T2 Q2 hB2 hb3 H45 x0 x1 x2 x3 x4 x5 x6 x7 a0 a1
      obtain ⟨x0, x1, x2, x3, x4, x5, x6, x7⟩ := stn_cell0 T3
      have a0 := Q3.cell 0
      have a1 := Q3.cell 1
      simp at a0 a1
      go_wp2_with fail
      refine (H46.out _ hB3).mono ?_
      rintro e w4 ⟨rfl, hb4⟩
      have T4 := (T3).keep hb4
      have Q4 := (Q3).keep hb4
      have hB4 := hB3.trans (hb4.mono hB3.size)
      clear T3 Q3 hB3 hb4 H46 x0 x1 x2 x3 x4 x5 x6 x7 a0 a1
      obtain ⟨x0, x1, x2, x3, x4, x5, x6, x7⟩ := stn_cell0 T4
      have a0 := Q4.cell 0
      have a1 := Q4.cell 1
      simp at a0 a1
      go_wp2_with fail
      refine (H28.out _ hB4).mono ?_
      rintro e w5 ⟨rfl, hb5⟩
      have T5 := (T4).keep hb5
      have Q5 := (Q4).keep hb5
      have hB5 := hB4.trans (hb5.mono hB4.size)
      clear T4 Q4 hB4 hb5 H28 x0 x1 x2 x3 x4 x5 x6 x7 a0 a1
      obtain ⟨x0, x1, x2, x3, x4, x5, x6, x7⟩ := stn_cell0 T5
      have a0 := Q5.cell 0
      have a1 := Q5.cell 1
      simp at a0 a1
      have P5 : Bk (w5.alloc (.cells #[.int .i64 o1, .int .i64 o2] 43)) w5.heap.size 43 #[.int .i64 o1, .int .i64 o2] := bk_last rfl
      have hC5 := hB5.alloc hB5.size (.cells #[.int .i64 o1, .int .i64 o2] 43)
      have tl := T5.lt
      have ql := Q5.lt
      go_wp2_with fail
      refine (H47.out _ hC5).mono ?_
      rintro e w6 ⟨rfl, hb6⟩
      have T6 := (T5.alloc _).keep hb6
      have Q6 := (Q5.alloc _).keep hb6
      have hB6 := hC5.trans (hb6.mono hC5.size)
      replace P5 := P5.keep hb6
      clear T5 Q5 hB5 hb6 H47 x0 x1 x2 x3 x4 x5 x6 x7 a0 a1 hC5 tl ql
      obtain ⟨x0, x1, x2, x3, x4, x5, x6, x7⟩ := stn_cell0 T6
      have a0 := Q6.cell 0
      have a1 := Q6.cell 1
      simp at a0 a1
      have P6 : Bk (w6.alloc (.cells #[.int .i64 o1, .int .i64 o2] 43)) w6.heap.size 43 #[.int .i64 o1, .int .i64 o2] := bk_last rfl
      have hC6 := hB6.alloc hB6.size (.cells #[.int .i64 o1, .int .i64 o2] 43)
      have tl := T6.lt
      have ql := Q6.lt
      go_wp2_with fail
      refine (H43.out _ hC6).mono ?_
      rintro e w7 ⟨rfl, hb7⟩
      have T7 := (T6.alloc _).keep hb7
      have Q7 := (Q6.alloc _).keep hb7
      have hB7 := hC6.trans (hb7.mono hC6.size)
      replace P5 := (P5.alloc _).keep hb7
      replace P6 := P6.keep hb7
      clear T6 Q6 hB6 hb7 H43 x0 x1 x2 x3 x4 x5 x6 x7 a0 a1 hC6 tl ql
      obtain ⟨x0, x1, x2, x3, x4, x5, x6, x7⟩ := stn_cell0 T7
      have a0 := Q7.cell 0
      have a1 := Q7.cell 1
      simp at a0 a1
      have P7 : Bk (w7.alloc (.cells #[.int .i64 i1, .int .i64 i2] 43)) w7.heap.size 43 #[.int .i64 i1, .int .i64 i2] := bk_last rfl
      have hC7 := hB7.alloc hB7.size (.cells #[.int .i64 i1, .int .i64 i2] 43)
      have tl := T7.lt
      have ql := Q7.lt
      go_wp2_with fail
      refine (H48.out _ hC7).mono ?_
      rintro e w8 ⟨rfl, hb8⟩
      have T8 := (T7.alloc _).keep hb8
      have Q8 := (Q7.alloc _).keep hb8
      have hB8 := hC7.trans (hb8.mono hC7.size)
      replace P5 := (P5.alloc _).keep hb8
      replace P6 := (P6.alloc _).keep hb8
      replace P7 := P7.keep hb8
      clear T7 Q7 hB7 hb8 H48 x0 x1 x2 x3 x4 x5 x6 x7 a0 a1 hC7 tl ql
      obtain ⟨x0, x1, x2, x3, x4, x5, x6, x7⟩ := stn_cell0 T8
      have a0 := Q8.cell 0
      have a1 := Q8.cell 1
      simp at a0 a1
      have P8 : Bk (w8.alloc (.cells #[.int .i64 i1, .int .i64 i2] 43)) w8.heap.size 43 #[.int .i64 i1, .int .i64 i2] := bk_last rfl
      have hC8 := hB8.alloc hB8.size (.cells #[.int .i64 i1, .int .i64 i2] 43)
      have tl := T8.lt
      have ql := Q8.lt
      go_wp2_with fail
      refine (H33.out _ hC8).mono ?_
      rintro e w9 ⟨rfl, hb9⟩
      have T9 := (T8.alloc _).keep hb9
      have Q9 := (Q8.alloc _).keep hb9
      have hB9 := hC8.trans (hb9.mono hC8.size)
      replace P5 := (P5.alloc _).keep hb9
      replace P6 := (P6.alloc _).keep hb9
      replace P7 := (P7.alloc _).keep hb9
      replace P8 := P8.keep hb9
      clear T8 Q8 hB8 hb9 H33 x0 x1 x2 x3 x4 x5 x6 x7 a0 a1 hC8 tl ql
      obtain ⟨x0, x1, x2, x3, x4, x5, x6, x7⟩ := stn_cell0 T9
      have a0 := Q9.cell 0
      have a1 := Q9.cell 1
      simp at a0 a1
      go_wp2_with fail
      refine (H49.out _ hB9).mono ?_
      rintro e w10 ⟨rfl, hb10⟩
      have T10 := (T9).keep hb10
      have Q10 := (Q9).keep hb10
      have hB10 := hB9.trans (hb10.mono hB9.size)
      replace P5 := (P5).keep hb10
      replace P6 := (P6).keep hb10
      replace P7 := (P7).keep hb10
      replace P8 := (P8).keep hb10
      clear T9 Q9 hB9 hb10 H49 x0 x1 x2 x3 x4 x5 x6 x7 a0 a1
      obtain ⟨x0, x1, x2, x3, x4, x5, x6, x7⟩ := stn_cell0 T10
      have a0 := Q10.cell 0
      have a1 := Q10.cell 1
      simp at a0 a1
      have y00 := P5.cell 0
      have y01 := P5.cell 1
      simp at y00 y01
      have y10 := P6.cell 0
      have y11 := P6.cell 1
      simp at y10 y11
      have y20 := P7.cell 0
      have y21 := P7.cell 1
      simp at y20 y21
      have y30 := P8.cell 0
      have y31 := P8.cell 1
      simp at y30 y31
      go_upto_region 12 with fail
      have K50 : Hid (∀ x : Ext w10, Calls Try.prog 50 #[.agg #[.int .i64 s.f.eye, .int .i64 s.f.rings, .int .i64 s.f.sec, .slice z.a1 s.f.kinds.length z.c1, .slice z.a2 s.heights.length z.c2, .slice z.a3 s.compass.length z.c3, .slice z.a4 s.pockets.length z.c4, .int .i64 s.tol]] x.w fun e w' => e = .returned (.int .i64 ce) ∧ Below x.w.heap.size x.w w') := fun x => H50.out x.w (hB10.trans (x.bel.mono hB10.size))
      have K51 : Hid (∀ x : Ext w10, Calls Try.prog 51 #[.agg #[.int .i64 s.f.eye, .int .i64 s.f.rings, .int .i64 s.f.sec, .slice z.a1 s.f.kinds.length z.c1, .slice z.a2 s.heights.length z.c2, .slice z.a3 s.compass.length z.c3, .slice z.a4 s.pockets.length z.c4, .int .i64 s.tol]] x.w fun e w' => e = .returned (.int .i64 ce) ∧ Below x.w.heap.size x.w w') := fun x => H51.out x.w (hB10.trans (x.bel.mono hB10.size))
      clear H50 H51
      refine wp_region_ext (by kernel_rfl) (by kernel_rfl) ?_
      have X0 := fun x : Ext w10 => keepc x.bel x0
      have X1 := fun x : Ext w10 => keepc x.bel x1
      have X2 := fun x : Ext w10 => keepc x.bel x2
      have X3 := fun x : Ext w10 => keepc x.bel x3
      have X4 := fun x : Ext w10 => keepc x.bel x4
      have X5 := fun x : Ext w10 => keepc x.bel x5
      have X6 := fun x : Ext w10 => keepc x.bel x6
      have X7 := fun x : Ext w10 => keepc x.bel x7
      have Y00 := fun x : Ext w10 => keepc x.bel y00
      have Y01 := fun x : Ext w10 => keepc x.bel y01
      have Y10 := fun x : Ext w10 => keepc x.bel y10
      have Y11 := fun x : Ext w10 => keepc x.bel y11
      have Y20 := fun x : Ext w10 => keepc x.bel y20
      have Y21 := fun x : Ext w10 => keepc x.bel y21
      have Y30 := fun x : Ext w10 => keepc x.bel y30
      have Y31 := fun x : Ext w10 => keepc x.bel y31
      clear x0 x1 x2 x3 x4 x5 x6 x7 a0 a1 y00 y01 y10 y11 y20 y21 y30 y31
      repeat (go_big_quiet_step ((first | (go_at_call 50; exact ext_of (K50.out _)) | (go_at_call 51; exact ext_of (K51.out _)))))
      refine wpQuiet_nil ?_
      rintro _ ⟨y, rfl⟩
      have hb20 := y.bel
      generalize y.w = w20 at hb20 ⊢
      have hB20 := hB10.trans (hb20.mono hB10.size)
      clear K50 K51
      go_wp2_with fail
      go_ret
      exact ⟨rfl, hB20⟩
    · have m3' : 40 < (lead.length : Int) := by omega
      go_wp2_with fail
      go_ret
      exact ⟨rfl, hB2⟩

end Go.Proofs.Ythmngnfdfelkeaa
