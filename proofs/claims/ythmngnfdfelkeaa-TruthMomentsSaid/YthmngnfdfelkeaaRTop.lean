/-
  What is proved: the contracts of Check and both Mass, and of the reference's Moment, With and Balanced.
-/
import Derived.Test.YthmngnfdfelkeaaRWith
namespace Go.Proofs.Ythmngnfdfelkeaa
open Go.RowKit
attribute [local go_sem ↓] max_int min_int

theorem checkT_any (s : Stn) (z : Loc) (w : World) (hs : StAt w s z) : Calls Try.prog 50 #[s.val z] w fun e w' => e = .returned (.int .i64 (checkE s)) ∧ Below w.heap.size w w' := by
  have HO : Hid (∀ W, StAt W s z → Calls Try.prog 71 #[.agg (s.cells z)] W (OpenPost s z W)) := fun W h => open_any s z W h
  unfold Stn.cells at HO
  unfold Stn.val Stn.cells
  go_enter Try.func50, Try.ntmps50
  go_wp2_with fail
  refine (HO.out _ (hs.alloc _)).mono ?_
  rintro e w1 ⟨hb1, h⟩
  have hB : Below w.heap.size w w1 := ((Below.refl _ _).alloc (Nat.le_refl _) _).trans (hb1.mono (by simp))
  rcases h with ⟨h1, rfl⟩ | ⟨h1, g, rfl, hg, R⟩
  · have HR := Lib.hid (show checkE s = 60 by simp [checkE, h1])
    go_wp2_with fail
    go_ret
    exact ⟨by first | (rw [HR.out]; done) | (rw [HR.out]; rfl), hB⟩
  · have HR := Lib.hid (show checkE s = 0 by simp [checkE, h1])
    go_wp2_with fail
    go_ret
    exact ⟨by first | (rw [HR.out]; done) | (rw [HR.out]; rfl), hB⟩

/-- What Mass gives. -/
def massR (s : Stn) (i : Int) : Int × Int := if s.ok then if inB i 0 ((s.heights.length : Int) - 1) then (massV s i.toNat, 0) else (0, 1) else (0, 60)

set_option maxRecDepth 100000 in
set_option maxHeartbeats 2000000 in
theorem massT_any (s : Stn) (z : Loc) (i : Int) (w : World) (hs : StAt w s z) : Calls Try.prog 45 #[s.val z, .int .i64 i] w fun e w' => e = .returned (pairV (massR s i)) ∧ Below w.heap.size w w' := by
  have n2 := hs.n2
  have HC : Hid (∀ W, StAt W s z → Calls Try.prog 50 #[.agg (s.cells z)] W fun e w' => e = .returned (.int .i64 (checkE s)) ∧ Below W.heap.size W w') := fun W h => checkT_any s z W h
  have HM : Hid (∀ W, StAt W s z → s.ok = true → ∀ k : Nat, k < s.f.kinds.length → Calls Try.prog 95 #[.agg (s.cells z), .int .i64 k] W fun e w' => e = .returned (.int .i64 (massV s k)) ∧ Below W.heap.size W w') := fun W h h2 k h3 => mass_any s z k W h h2 h3
  obtain ⟨X, hs1, hB⟩ := box_stn hs
  unfold Stn.cells at HC HM
  unfold Stn.val Stn.cells pairV
  go_enter Try.func45, Try.ntmps45
  go_wp2_with fail
  generalize w.alloc (.cells _ 28) = V at *
  refine (HC.out _ hs1).mono ?_
  rintro e w1 ⟨rfl, hb1⟩
  have hB1 := hB.trans (hb1.mono hB.size)
  obtain ⟨x0, x1, x2, x3, x4, x5, x6, x7⟩ := stn_cell0 (X.keep hb1)
  by_cases hok : s.ok = true
  · rw [show checkE s = 0 by simp [checkE, hok]]
    by_cases h0 : i < 0
    · have HR := Lib.hid (show massR s i = (0, 1) by simp only [massR, hok, if_true]; rw [if_neg]; simp [inB]; omega)
      go_wp2_with fail
      go_ret2
      exact ⟨by first | (rw [HR.out]; done) | (rw [HR.out]; rfl), hB1⟩
    · by_cases h1 : (s.heights.length : Int) ≤ i
      · have HR := Lib.hid (show massR s i = (0, 1) by simp only [massR, hok, if_true]; rw [if_neg]; simp [inB]; omega)
        go_wp2_with fail
        go_ret2
        exact ⟨by first | (rw [HR.out]; done) | (rw [HR.out]; rfl), hB1⟩
      · obtain ⟨k, rfl⟩ : ∃ k : Nat, i = k := ⟨i.toNat, by omega⟩
        have HR := Lib.hid (show massR s k = (massV s k, 0) by simp only [massR, hok, if_true]; rw [if_pos (by simp [inB]; omega), Int.toNat_natCast])
        have h1' : (k : Int) < s.heights.length := by omega
        have HX := Lib.hid (HM.out w1 (hs1.below hb1) hok k (by have := (stn_ok hok).2.1; omega))
        go_wp2_with fail
        refine (HX.out).mono ?_
        rintro e w2 ⟨rfl, hb2⟩
        go_wp2_with fail
        go_ret2
        exact ⟨by first | (rw [HR.out]; done) | (rw [HR.out]; rfl), hB1.trans (hb2.mono hB1.size)⟩
  · have hok' : s.ok = false := by simpa using hok
    have HR := Lib.hid (show massR s i = (0, 60) by simp [massR, hok'])
    rw [show checkE s = 60 by simp [checkE, hok']]
    go_wp2_with fail
    go_ret2
    exact ⟨by first | (rw [HR.out]; done) | (rw [HR.out]; rfl), hB1⟩

set_option maxRecDepth 100000 in
set_option maxHeartbeats 2000000 in
theorem massF_any (s : Stn) (z : Loc) (i : Int) (w : World) (hs : StAt w s z) : Calls Try.prog 46 #[s.val z, .int .i64 i] w fun e w' => e = .returned (pairV (massR s i)) ∧ Below w.heap.size w w' := by
  have n2 := hs.n2
  have HC : Hid (∀ W, StAt W s z → Calls Try.prog 51 #[.agg (s.cells z)] W fun e w' => e = .returned (.int .i64 (checkE s)) ∧ Below W.heap.size W w') := fun W h => rcheck_any s z W h
  have HM : Hid (∀ W, StAt W s z → s.ok = true → ∀ k : Nat, k < s.f.kinds.length → Calls Try.prog 96 #[.agg (s.cells z), .int .i64 k] W fun e w' => e = .returned (.int .i64 (massV s k)) ∧ Below W.heap.size W w') := fun W h h2 k h3 => rmass_any s z k W h h2 h3
  have HW : Hid (∀ W, Calls Try.prog 70 #[.int .i64 i, .int .i64 0, .int .i64 ((s.heights.length : Int) - 1)] W fun e w' => e = .returned (.bool (inB i 0 ((s.heights.length : Int) - 1))) ∧ W = w') := fun W => rwith_any _ _ _ W
  obtain ⟨X, hs1, hB⟩ := box_stn hs
  unfold Stn.cells at HC HM
  unfold Stn.val Stn.cells pairV
  go_enter Try.func46, Try.ntmps46
  go_wp2_with fail
  generalize w.alloc (.cells _ 28) = V at *
  refine (HC.out _ hs1).mono ?_
  rintro e w1 ⟨rfl, hb1⟩
  have hB1 := hB.trans (hb1.mono hB.size)
  obtain ⟨x0, x1, x2, x3, x4, x5, x6, x7⟩ := stn_cell0 (X.keep hb1)
  by_cases hok : s.ok = true
  · rw [show checkE s = 0 by simp [checkE, hok]]
    cases hin : inB i 0 ((s.heights.length : Int) - 1)
    · have HR := Lib.hid (show massR s i = (0, 1) by simp [massR, hok, hin])
      rw [hin] at HW
      clear hin
      go_wp2_with (go_at_call 70; refine (HW.out _).mono ?_; rintro e w' ⟨rfl, rfl⟩)
      go_ret2
      exact ⟨by first | (rw [HR.out]; done) | (rw [HR.out]; rfl), hB1⟩
    · have hin2 := of_decide_eq_true hin
      obtain ⟨k, rfl⟩ : ∃ k : Nat, i = k := ⟨i.toNat, by omega⟩
      have HR := Lib.hid (show massR s k = (massV s k, 0) by simp [massR, hok, hin])
      have HX := Lib.hid (HM.out w1 (hs1.below hb1) hok k (by have := (stn_ok hok).2.1; omega))
      rw [hin] at HW
      clear hin
      go_wp2_with (go_at_call 70; refine (HW.out _).mono ?_; rintro e w' ⟨rfl, rfl⟩)
      refine (HX.out).mono ?_
      rintro e w2 ⟨rfl, hb2⟩
      go_wp2_with fail
      go_ret2
      exact ⟨by first | (rw [HR.out]; done) | (rw [HR.out]; rfl), hB1.trans (hb2.mono hB1.size)⟩
  · have hok' : s.ok = false := by simpa using hok
    have HR := Lib.hid (show massR s i = (0, 60) by simp [massR, hok'])
    rw [show checkE s = 60 by simp [checkE, hok']]
    go_wp2_with fail
    go_ret2
    exact ⟨by first | (rw [HR.out]; done) | (rw [HR.out]; rfl), hB1⟩

set_option maxRecDepth 100000 in
set_option maxHeartbeats 2000000 in
theorem momentF_any (s : Stn) (z : Loc) (w : World) (hs : StAt w s z) : Calls Try.prog 47 #[s.val z] w fun e w' => e = .returned (pointV (momentR s)) ∧ Below w.heap.size w w' := by
  have HC : Hid (∀ W, StAt W s z → Calls Try.prog 51 #[.agg (s.cells z)] W fun e w' => e = .returned (.int .i64 (checkE s)) ∧ Below W.heap.size W w') := fun W h => rcheck_any s z W h
  have HM : Hid (∀ W, StAt W s z → s.ok = true → Calls Try.prog 77 #[.agg (s.cells z)] W fun e w' => e = .returned (.agg #[.int .i64 (momX s s.f.kinds.length), .int .i64 (momY s s.f.kinds.length)]) ∧ Below W.heap.size W w') := fun W h h2 => rmoment_any s z W h h2
  have X0 : Bk ((w.alloc (.cells (s.cells z) 28)).alloc (.cells #[.int .i64 0, .int .i64 0] 43)) w.heap.size 28 (s.cells z) := (bk_last rfl).alloc _
  have R0 : Bk ((w.alloc (.cells (s.cells z) 28)).alloc (.cells #[.int .i64 0, .int .i64 0] 43)) (w.heap.size + 1) 43 #[.int .i64 0, .int .i64 0] := bk_last (by simp)
  have hB : Below w.heap.size w ((w.alloc (.cells (s.cells z) 28)).alloc (.cells #[.int .i64 0, .int .i64 0] 43)) := ((Below.refl _ _).alloc (Nat.le_refl _) _).alloc (by simp) _
  have hs1 := (hs.alloc (.cells (s.cells z) 28)).alloc (.cells #[.int .i64 0, .int .i64 0] 43)
  unfold Stn.cells at HC HM X0 R0 hB hs1
  unfold Stn.val Stn.cells
  go_enter Try.func47, Try.ntmps47
  go_wp2_with fail
  generalize (w.alloc (.cells _ 28)).alloc (.cells _ 43) = V at *
  refine (HC.out _ hs1).mono ?_
  rintro e w1 ⟨rfl, hb1⟩
  have hB1 := hB.trans (hb1.mono hB.size)
  have X1 : Bk w1 w.heap.size 28 (s.cells z) := X0.keep hb1
  have R1 := R0.keep hb1
  obtain ⟨x0, x1, x2, x3, x4, x5, x6, x7⟩ := stn_cell0 X1
  have r0 := R1.cell 0
  have r1 := R1.cell 1
  have r2 := R1.fz 0
  have r3 := R1.fz 1
  have rl := R1.lt
  simp at r0 r1
  by_cases hok : s.ok = true
  · rw [show checkE s = 0 by simp [checkE, hok]]
    have HR := Lib.hid (show momentR s = ((momX s s.f.kinds.length, momY s s.f.kinds.length), 0) by simp [momentR, hok])
    have HX := Lib.hid (HM.out w1 (hs1.below hb1) hok)
    go_wp2_with fail
    refine (HX.out).mono ?_
    rintro e w2 ⟨rfl, hb2⟩
    have hB2 := hB1.trans (hb2.mono hB1.size)
    have R2 := R1.keep hb2
    clear r0 r1 r2 r3 rl
    have r0 := R2.cell 0
    have r1 := R2.cell 1
    have r2 := R2.fz 0
    have r3 := R2.fz 1
    have rl := R2.lt
    simp at r0 r1
    go_wp2_with fail
    refine bodyPost_ret (v := pointV ((momX s s.f.kinds.length, momY s s.f.kinds.length), 0)) (by simp [pointV, results, Try.results47, go_sem, r0, r1]) rfl ⟨by first | (rw [HR.out]; done) | (rw [HR.out]; rfl), ?_⟩
    repeat (first | exact hB2 | refine Below.setCell ?_ (by simp <;> omega) _)
  · have hok' : s.ok = false := by simpa using hok
    have HR := Lib.hid (show momentR s = ((0, 0), 60) by simp [momentR, hok'])
    rw [show checkE s = 60 by simp [checkE, hok']]
    go_wp2_with fail
    refine bodyPost_ret (v := pointV ((0, 0), 60)) (by simp [pointV, results, Try.results47, go_sem, r0, r1]) rfl ⟨by first | (rw [HR.out]; done) | (rw [HR.out]; rfl), ?_⟩
    repeat (first | exact hB1 | refine Below.setCell ?_ (by simp <;> omega) _)

set_option maxRecDepth 100000 in
set_option maxHeartbeats 4000000 in
theorem withF_any (s : Stn) (z : Loc) (A : Option Addr) (c : Nat) (l : List Int) (w : World) (hs : StAt w s z) (hl : RowAt w A (intCells l)) (hn : l.length ≤ 9223372036854775807) :
    Calls Try.prog 48 #[s.val z, .slice A l.length c] w fun e w' => e = .returned (pointV (withR s l)) ∧ Below w.heap.size w w' := by
  have HC : Hid (∀ W, Below w.heap.size w W → Calls Try.prog 97 #[.agg (s.cells z), .slice A l.length c] W fun e w' => e = .returned (.int .i64 (askedE s l)) ∧ Below W.heap.size W w') := fun W h => rasked_any s z A c l W (hs.below h) (hl.below h) hn
  have HM : Hid (∀ W, Below w.heap.size w W → s.ok = true → Calls Try.prog 77 #[.agg (s.cells z)] W fun e w' => e = .returned (.agg #[.int .i64 (momX s s.f.kinds.length), .int .i64 (momY s s.f.kinds.length)]) ∧ Below W.heap.size W w') := fun W h h2 => rmoment_any s z W (hs.below h) h2
  have HW : Hid (∀ W, Below w.heap.size w W → s.ok = true → leadB s l = true → Calls Try.prog 98 #[.agg (s.cells z), .agg #[.int .i64 (momX s s.f.kinds.length), .int .i64 (momY s s.f.kinds.length)], .slice A l.length c] W fun e w' => e = .returned (.agg #[.int .i64 (withX s l l.length), .int .i64 (withY s l l.length)]) ∧ Below W.heap.size W w') := fun W h h2 h3 => rwithM_any s z A c l W (hs.below h) h2 (hl.below h) ((leadB_iff s l).1 h3)
  have X0 : Bk ((w.alloc (.cells (s.cells z) 28)).alloc (.cells #[.int .i64 0, .int .i64 0] 43)) w.heap.size 28 (s.cells z) := (bk_last rfl).alloc _
  have R0 : Bk ((w.alloc (.cells (s.cells z) 28)).alloc (.cells #[.int .i64 0, .int .i64 0] 43)) (w.heap.size + 1) 43 #[.int .i64 0, .int .i64 0] := bk_last (by simp)
  have hB : Below w.heap.size w ((w.alloc (.cells (s.cells z) 28)).alloc (.cells #[.int .i64 0, .int .i64 0] 43)) := ((Below.refl _ _).alloc (Nat.le_refl _) _).alloc (by simp) _
  unfold Stn.cells at HC HM HW X0 R0 hB
  unfold Stn.val Stn.cells
  go_enter Try.func48, Try.ntmps48
  go_wp2_with fail
  generalize (w.alloc (.cells _ 28)).alloc (.cells _ 43) = V at *
  refine (HC.out _ hB).mono ?_
  rintro e w1 ⟨rfl, hb1⟩
  have hB1 := hB.trans (hb1.mono hB.size)
  have X1 : Bk w1 w.heap.size 28 (s.cells z) := X0.keep hb1
  have R1 := R0.keep hb1
  obtain ⟨x0, x1, x2, x3, x4, x5, x6, x7⟩ := stn_cell0 X1
  have r0 := R1.cell 0
  have r1 := R1.cell 1
  have r2 := R1.fz 0
  have r3 := R1.fz 1
  have rl := R1.lt
  simp at r0 r1
  by_cases hok : s.ok = true
  · cases hlb : leadB s l
    · rw [show askedE s l = 62 by simp [askedE, hok, hlb]]
      have HR := Lib.hid (show withR s l = ((0, 0), 62) by simp [withR, hok, hlb])
      clear hlb hok
      go_wp2_with fail
      refine bodyPost_ret (v := pointV ((0, 0), 62)) (by simp [pointV, results, Try.results48, go_sem, r0, r1]) rfl ⟨by first | (rw [HR.out]; done) | (rw [HR.out]; rfl), ?_⟩
      repeat (first | exact hB1 | refine Below.setCell ?_ (by simp <;> omega) _)
    · rw [show askedE s l = 0 by simp [askedE, hok, hlb]]
      have HR := Lib.hid (show withR s l = ((withX s l l.length, withY s l l.length), 0) by simp [withR, hok, hlb])
      have HM2 : Hid (∀ x : Ext w1, Calls Try.prog 77 #[.agg #[.int .i64 s.f.eye, .int .i64 s.f.rings, .int .i64 s.f.sec, .slice z.a1 s.f.kinds.length z.c1, .slice z.a2 s.heights.length z.c2, .slice z.a3 s.compass.length z.c3, .slice z.a4 s.pockets.length z.c4, .int .i64 s.tol]] x.w fun e w' => e = .returned (.agg #[.int .i64 (momX s s.f.kinds.length), .int .i64 (momY s s.f.kinds.length)]) ∧ Below x.w.heap.size x.w w') := fun x => HM.out x.w (hB1.trans (x.bel.mono hB1.size)) hok
      have HW2 : Hid (∀ x : Ext w1, Calls Try.prog 98 #[.agg #[.int .i64 s.f.eye, .int .i64 s.f.rings, .int .i64 s.f.sec, .slice z.a1 s.f.kinds.length z.c1, .slice z.a2 s.heights.length z.c2, .slice z.a3 s.compass.length z.c3, .slice z.a4 s.pockets.length z.c4, .int .i64 s.tol], .agg #[.int .i64 (momX s s.f.kinds.length), .int .i64 (momY s s.f.kinds.length)], .slice A l.length c] x.w fun e w' => e = .returned (.agg #[.int .i64 (withX s l l.length), .int .i64 (withY s l l.length)]) ∧ Below x.w.heap.size x.w w') := fun x => HW.out x.w (hB1.trans (x.bel.mono hB1.size)) hok hlb
      clear hlb hok HM HW HC
      generalize momX s s.f.kinds.length = mx at *
      generalize momY s s.f.kinds.length = my at *
      generalize withX s l l.length = vx at *
      generalize withY s l l.length = vy at *
      go_upto_region 4 with fail
      refine wp_region_extmix 5 (by kernel_rfl) (by kernel_rfl) (fun _ _ d _ _ h => by cases d <;> exact h) ?_
      simp only [List.take_succ_cons, List.take_zero, List.drop_succ_cons, List.drop_zero]
      have Y0 := fun x : Ext w1 => keepc x.bel x0
      have Y1 := fun x : Ext w1 => keepc x.bel x1
      have Y2 := fun x : Ext w1 => keepc x.bel x2
      have Y3 := fun x : Ext w1 => keepc x.bel x3
      have Y4 := fun x : Ext w1 => keepc x.bel x4
      have Y5 := fun x : Ext w1 => keepc x.bel x5
      have Y6 := fun x : Ext w1 => keepc x.bel x6
      have Y7 := fun x : Ext w1 => keepc x.bel x7
      clear x0 x1 x2 x3 x4 x5 x6 x7 r0 r1 r2 r3 rl
      repeat (go_big_quiet_step ((first | (go_at_call 77; exact ext_of (HM2.out _)) | (go_at_call 98; exact ext_of (HW2.out _)))))
      refine wpQuiet_nil ?_
      rintro _ ⟨y, rfl⟩
      clear Y0 Y1 Y2 Y3 Y4 Y5 Y6 Y7 HM2 HW2
      have hb2 := y.bel
      generalize y.w = w2 at hb2 ⊢
      have hB2 := hB1.trans (hb2.mono hB1.size)
      have R2 := R1.keep hb2
      have r0 := R2.cell 0
      have r1 := R2.cell 1
      have r2 := R2.fz 0
      have r3 := R2.fz 1
      have rl := R2.lt
      simp at r0 r1
      go_wp2_with fail
      refine bodyPost_ret (v := pointV ((vx, vy), 0)) (by simp [pointV, results, Try.results48, go_sem, r0, r1]) rfl ⟨by first | (rw [HR.out]; done) | (rw [HR.out]; rfl), ?_⟩
      repeat (first | exact hB2 | refine Below.setCell ?_ (by simp <;> omega) _)
  · have hok' : s.ok = false := by simpa using hok
    have HR := Lib.hid (show withR s l = ((0, 0), 60) by simp [withR, hok'])
    rw [show askedE s l = 60 by simp [askedE, hok']]
    go_wp2_with fail
    refine bodyPost_ret (v := pointV ((0, 0), 60)) (by simp [pointV, results, Try.results48, go_sem, r0, r1]) rfl ⟨by first | (rw [HR.out]; done) | (rw [HR.out]; rfl), ?_⟩
    repeat (first | exact hB1 | refine Below.setCell ?_ (by simp <;> omega) _)

set_option maxRecDepth 100000 in
set_option maxHeartbeats 4000000 in
theorem balF_any (s : Stn) (z : Loc) (A : Option Addr) (c : Nat) (l : List Int) (w : World) (hs : StAt w s z) (hl : RowAt w A (intCells l)) (hn : l.length ≤ 9223372036854775807) :
    Calls Try.prog 49 #[s.val z, .slice A l.length c] w fun e w' => e = .returned (.tuple #[.bool (balR s l).1, .int .i64 (balR s l).2]) ∧ Below w.heap.size w w' := by
  have HC : Hid (∀ W, Below w.heap.size w W → Calls Try.prog 97 #[.agg (s.cells z), .slice A l.length c] W fun e w' => e = .returned (.int .i64 (askedE s l)) ∧ Below W.heap.size W w') := fun W h => rasked_any s z A c l W (hs.below h) (hl.below h) hn
  have HM : Hid (∀ W, Below w.heap.size w W → s.ok = true → Calls Try.prog 77 #[.agg (s.cells z)] W fun e w' => e = .returned (.agg #[.int .i64 (momX s s.f.kinds.length), .int .i64 (momY s s.f.kinds.length)]) ∧ Below W.heap.size W w') := fun W h h2 => rmoment_any s z W (hs.below h) h2
  have HW : Hid (∀ W, Below w.heap.size w W → s.ok = true → leadB s l = true → Calls Try.prog 98 #[.agg (s.cells z), .agg #[.int .i64 (momX s s.f.kinds.length), .int .i64 (momY s s.f.kinds.length)], .slice A l.length c] W fun e w' => e = .returned (.agg #[.int .i64 (withX s l l.length), .int .i64 (withY s l l.length)]) ∧ Below W.heap.size W w') := fun W h h2 h3 => rwithM_any s z A c l W (hs.below h) h2 (hl.below h) ((leadB_iff s l).1 h3)
  have HF : Hid (∀ W, s.ok = true → Calls Try.prog 99 #[.agg (s.cells z), .agg #[.int .i64 (withX s l l.length), .int .i64 (withY s l l.length)]] W fun e w' => e = .returned (.bool (stillB s l)) ∧ Below W.heap.size W w') := fun W h => rfits_any s z _ _ W h
  obtain ⟨X, hs1, hB⟩ := box_stn hs
  unfold Stn.cells at HC HM HW HF
  unfold Stn.val Stn.cells
  go_enter Try.func49, Try.ntmps49
  go_wp2_with fail
  generalize w.alloc (.cells _ 28) = V at *
  refine (HC.out _ hB).mono ?_
  rintro e w1 ⟨rfl, hb1⟩
  have hB1 := hB.trans (hb1.mono hB.size)
  have X1 : Bk w1 w.heap.size 28 (s.cells z) := X.keep hb1
  obtain ⟨x0, x1, x2, x3, x4, x5, x6, x7⟩ := stn_cell0 X1
  by_cases hok : s.ok = true
  · cases hlb : leadB s l
    · rw [show askedE s l = 62 by simp [askedE, hok, hlb]]
      have HR := Lib.hid (show balR s l = (false, 62) by simp [balR, hok, hlb])
      clear hlb hok
      go_wp2_with fail
      go_ret2
      exact ⟨by first | (rw [HR.out]; done) | (rw [HR.out]; rfl), hB1⟩
    · rw [show askedE s l = 0 by simp [askedE, hok, hlb]]
      have HR := Lib.hid (show balR s l = (stillB s l, 0) by simp [balR, hok, hlb])
      have HM2 : Hid (∀ x : Ext w1, Calls Try.prog 77 #[.agg #[.int .i64 s.f.eye, .int .i64 s.f.rings, .int .i64 s.f.sec, .slice z.a1 s.f.kinds.length z.c1, .slice z.a2 s.heights.length z.c2, .slice z.a3 s.compass.length z.c3, .slice z.a4 s.pockets.length z.c4, .int .i64 s.tol]] x.w fun e w' => e = .returned (.agg #[.int .i64 (momX s s.f.kinds.length), .int .i64 (momY s s.f.kinds.length)]) ∧ Below x.w.heap.size x.w w') := fun x => HM.out x.w (hB1.trans (x.bel.mono hB1.size)) hok
      have HW2 : Hid (∀ x : Ext w1, Calls Try.prog 98 #[.agg #[.int .i64 s.f.eye, .int .i64 s.f.rings, .int .i64 s.f.sec, .slice z.a1 s.f.kinds.length z.c1, .slice z.a2 s.heights.length z.c2, .slice z.a3 s.compass.length z.c3, .slice z.a4 s.pockets.length z.c4, .int .i64 s.tol], .agg #[.int .i64 (momX s s.f.kinds.length), .int .i64 (momY s s.f.kinds.length)], .slice A l.length c] x.w fun e w' => e = .returned (.agg #[.int .i64 (withX s l l.length), .int .i64 (withY s l l.length)]) ∧ Below x.w.heap.size x.w w') := fun x => HW.out x.w (hB1.trans (x.bel.mono hB1.size)) hok hlb
      have HF2 : Hid (∀ x : Ext w1, Calls Try.prog 99 #[.agg #[.int .i64 s.f.eye, .int .i64 s.f.rings, .int .i64 s.f.sec, .slice z.a1 s.f.kinds.length z.c1, .slice z.a2 s.heights.length z.c2, .slice z.a3 s.compass.length z.c3, .slice z.a4 s.pockets.length z.c4, .int .i64 s.tol], .agg #[.int .i64 (withX s l l.length), .int .i64 (withY s l l.length)]] x.w fun e w' => e = .returned (.bool (stillB s l)) ∧ Below x.w.heap.size x.w w') := fun x => HF.out x.w hok
      clear hlb hok HM HW HC HF
      generalize momX s s.f.kinds.length = mx at *
      generalize momY s s.f.kinds.length = my at *
      generalize withX s l l.length = vx at *
      generalize withY s l l.length = vy at *
      generalize stillB s l = sb at *
      go_upto_region 4 with fail
      refine wp_region_ext (by kernel_rfl) (by kernel_rfl) ?_
      have Y0 := fun x : Ext w1 => keepc x.bel x0
      have Y1 := fun x : Ext w1 => keepc x.bel x1
      have Y2 := fun x : Ext w1 => keepc x.bel x2
      have Y3 := fun x : Ext w1 => keepc x.bel x3
      have Y4 := fun x : Ext w1 => keepc x.bel x4
      have Y5 := fun x : Ext w1 => keepc x.bel x5
      have Y6 := fun x : Ext w1 => keepc x.bel x6
      have Y7 := fun x : Ext w1 => keepc x.bel x7
      clear x0 x1 x2 x3 x4 x5 x6 x7
      repeat (go_big_quiet_step ((first | (go_at_call 77; exact ext_of (HM2.out _)) | (go_at_call 98; exact ext_of (HW2.out _)) | (go_at_call 99; exact ext_of (HF2.out _)))))
      refine wpQuiet_nil ?_
      rintro _ ⟨y, rfl⟩
      clear Y0 Y1 Y2 Y3 Y4 Y5 Y6 Y7 HM2 HW2 HF2
      have hb2 := y.bel
      generalize y.w = w2 at hb2 ⊢
      have hB2 := hB1.trans (hb2.mono hB1.size)
      go_wp2_with fail
      go_ret2
      exact ⟨by first | (rw [HR.out]; done) | (rw [HR.out]; rfl), hB2⟩
  · have hok' : s.ok = false := by simpa using hok
    have HR := Lib.hid (show balR s l = (false, 60) by simp [balR, hok'])
    rw [show askedE s l = 60 by simp [askedE, hok']]
    go_wp2_with fail
    go_ret2
    exact ⟨by first | (rw [HR.out]; done) | (rw [HR.out]; rfl), hB1⟩

end Go.Proofs.Ythmngnfdfelkeaa
