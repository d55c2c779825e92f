/-
  What is proved: the contracts of spans, spanOf, Steps and Cuts.
-/
import Derived.Test.YtkikjmkpndmdcaaFilled
import Derived.Test.YtkikjmkpndmdcaaSpansC
import Derived.Test.YtkikjmkpndmdcaaAsk
namespace Go.Proofs.Ytkikjmkpndmdcaa
open Go.RowKit Go.Shelf
attribute [local go_sem ↓] max_int min_int
attribute [local go_sem] Oper.semAt_some

set_option maxRecDepth 100000 in
set_option maxHeartbeats 4000000 in
theorem spans_any (f : Flr) (z : FLoc) (cnt : Mv → Int) (cf b i Bs bl : Nat) (w : World) (hval : ValCalls f cnt cf) (hf : FlAt w b f z) (hok : f.Ok) (hi : i < f.R * f.S * f.S) (ha : AccS f i)
    (h1 : Bk w Bs 28 #[.slice (some ⟨bl, 0, none⟩) 1 1]) (h2 : Bk w bl 3 #[.int .i64 i]) :
    Calls Try.prog 48 #[.pointer (some ⟨b, 0, none⟩), .func (.func 83) #[] #[.pointer (some ⟨Bs, 0, none⟩)], .func (.func cf) #[] #[]] w (FilledP f cnt i w) := by
  obtain ⟨W, hW⟩ : ∃ W, (w.alloc (.cells #[.pointer (some ⟨b, 0, none⟩)] 65)).alloc (.cells #[.func (.func cf) #[] #[]] 75) = W := ⟨_, rfl⟩
  have hbW : Below w.heap.size w W := by rw [← hW]; exact ((Below.refl _ _).alloc (Nat.le_refl _) _).alloc (by simp) _
  have X0 : Bk W w.heap.size 65 #[.pointer (some ⟨b, 0, none⟩)] := by rw [← hW]; exact (bk_last rfl).alloc _
  have X1 : Bk W (w.heap.size + 1) 75 #[.func (.func cf) #[] #[]] := by rw [← hW]; exact bk_last (by simp)
  have HF := Lib.hid (filled_any f z cnt cf b i Bs bl w.heap.size (w.heap.size + 1) W hval (hf.below hbW) hok hi ha (h1.keep hbW) (h2.keep hbW) X0 X1)
  have x0 := X0.cell 0
  simp at x0
  have HW := Lib.hid hW
  clear hW X0 X1 hf h1 h2
  go_enter Try.func48, Try.ntmps48
  go_upto_region 1 with fail
  rw [HW.out]
  clear HW
  go_wp2_with fail
  refine (HF.out).mono ?_
  clear HF
  rintro e w2 ⟨hb2, go, gk, sp, rfl, hr, hl, hv⟩
  generalize hn : f.R * f.S * f.S = n at *
  have HN := Lib.hid hn
  clear hn
  go_wp2_with fail
  go_ret2
  exact ⟨hbW.trans (hb2.mono hbW.size), go, gk, sp, by rw [HN.out]; rfl, hr, hl.trans HN.out.symm, hv⟩

def SpanOfP (f : Flr) (cnt : Mv → Int) (i : Nat) (w : World) (e : Ending) (w' : World) : Prop :=
  Below w.heap.size w w' ∧ ((AccS f i ∧ ∃ v : Int × Int, ValS f cnt i v ∧ e = .returned (.tuple #[.agg #[.int .i64 v.1, .int .i64 v.2], .int .i64 0])) ∨ (¬ AccS f i ∧ e = .returned (.tuple #[.agg #[.int .i64 0, .int .i64 0], .int .i64 22])))

set_option maxRecDepth 100000 in
set_option maxHeartbeats 8000000 in
theorem spanOf_any (f : Flr) (z : FLoc) (cnt : Mv → Int) (cf ring sec turn : Nat) (w : World) (hval : ValCalls f cnt cf) (hp : PrAt w f z) (hpre : f.Pre) (hd : drvOk f = true) (h1 : ring < f.R) (h2 : sec < f.S) (h3 : turn < f.S) :
    Calls Try.prog 23 #[f.pr z, stV ring sec turn, .func (.func cf) #[] #[]] w (SpanOfP f cnt (numN f.R f.S ring sec turn) w) := by
  have hok := hpre.ok hd
  have hiN := num_lt h1 h2 h3
  have HA := Lib.hid (fun (X : World) (h : Below w.heap.size w X) => asked_any f z ring sec turn X (hp.below h) hpre hd h1 h2 h3)
  obtain ⟨i, hi⟩ : ∃ i, numN f.R f.S ring sec turn = i := ⟨_, rfl⟩
  have HAP : Hid (∀ X e X', AskP f z ring sec turn X e X' → Below X.heap.size X X' ∧ ∃ b, e = .returned (.tuple #[.pointer (some ⟨b, 0, none⟩), .int .i64 i, .int .i64 0]) ∧ FlAt X' b f z) := fun X e X' ⟨a, b, _, c, d⟩ => ⟨a, b, by rw [c, hi], d⟩
  rw [hi] at hiN ⊢
  have HE := Lib.hid (fun (b Bs bl : Nat) (X : World) (hf : FlAt X b f z) (a : Bk X Bs 28 #[.slice (some ⟨bl, 0, none⟩) 1 1]) (c : Bk X bl 3 #[.int .i64 i]) => ends_any f z b i Bs bl X hf hok hiN a c)
  have HSP := Lib.hid (fun (b Bs bl : Nat) (X : World) (hf : FlAt X b f z) (a : Bk X Bs 28 #[.slice (some ⟨bl, 0, none⟩) 1 1]) (c : Bk X bl 3 #[.int .i64 i]) (ha : AccS f i) => spans_any f z cnt cf b i Bs bl X hval hf hok hiN ha a c)
  clear hi
  unfold Flr.pr stV at *
  obtain ⟨W, hW⟩ : ∃ W, ((w.alloc (.cells #[.int .i64 f.eye, .int .i64 f.R, .int .i64 f.S, .slice z.A1 f.bed.length z.c1, .int .i64 f.eye, .int .i64 f.R, .int .i64 f.S, .slice z.A2 f.run.length z.c2, .slice z.A3 f.drive.length z.c3] 35)).alloc (.cells #[.int .i64 ring, .int .i64 sec, .int .i64 turn] 40)).alloc (.cells #[.int .i64 0, .int .i64 0] 42) = W := ⟨_, rfl⟩
  have hbW : Below w.heap.size w W := by rw [← hW]; exact (((Below.refl _ _).alloc (Nat.le_refl _) _).alloc (by simp) _).alloc (by simp; omega) _
  have X := (show Bk W w.heap.size 35 #[.int .i64 f.eye, .int .i64 f.R, .int .i64 f.S, .slice z.A1 f.bed.length z.c1, .int .i64 f.eye, .int .i64 f.R, .int .i64 f.S, .slice z.A2 f.run.length z.c2, .slice z.A3 f.drive.length z.c3] by rw [← hW]; exact ((bk_last rfl).alloc _).alloc _)
  have Y := (show Bk W (w.heap.size + 1) 40 #[.int .i64 ring, .int .i64 sec, .int .i64 turn] by rw [← hW]; exact (bk_last (by simp)).alloc _)
  have R := (show Bk W (w.heap.size + 1 + 1) 42 #[.int .i64 0, .int .i64 0] by rw [← hW]; exact bk_last (by simp))
  have x0 := X.cell 0
  have x1 := X.cell 1
  have x2 := X.cell 2
  have x3 := X.cell 3
  have x4 := X.cell 4
  have x5 := X.cell 5
  have x6 := X.cell 6
  have x7 := X.cell 7
  have x8 := X.cell 8
  have y0 := Y.cell 0
  have y1 := Y.cell 1
  have y2 := Y.cell 2
  simp at x0 x1 x2 x3 x4 x5 x6 x7 x8 y0 y1 y2
  have HW := Lib.hid hW
  clear hW hp hpre X Y hd hok hval
  go_enter Try.func23, Try.ntmps23
  go_upto_region 1 with fail
  rw [HW.out]
  clear HW
  go_wp2_with fail
  refine (HA.out W hbW).mono ?_
  clear x0 x1 x2 x3 x4 x5 x6 x7 x8 y0 y1 y2 HA
  intro e w2 hap
  obtain ⟨hb2, b, rfl, hfl⟩ := HAP.out _ _ _ hap
  clear hap
  have hB := hbW.trans (hb2.mono hbW.size)
  replace R := R.keep hb2
  have HFL := Lib.hid hfl
  have hnl := hfl.blk.lt
  clear hb2 hfl HAP hbW
  have hiI := hiN
  go_wp2_with (go_at_call 47; refine (one_any i _).mono ?_; rintro e w3 ⟨rfl, a3, b3, hb3⟩)
  replace R := R.keep hb3
  have HFL3 := Lib.hid (HFL.out.below hb3)
  have hB3 := hB.trans (hb3.mono hB.size)
  clear hb3 HFL hB hnl
  go_wp2_with fail
  refine (HE.out _ _ _ _ HFL3.out b3 a3).mono ?_
  clear HE
  rintro e w4 ⟨hb4, hr4⟩
  replace R := R.keep hb4
  have HFL4 := Lib.hid (HFL3.out.below hb4)
  have hB4 := hB3.trans (hb4.mono hB3.size)
  have r0 := R.cell 0
  have r1 := R.cell 1
  have r2 := R.fz 0
  have r3 := R.fz 1
  have r4 := R.lt
  simp at r0 r1
  clear hb4 HFL3 hB3 a3 b3
  rcases hr4 with ⟨ha, rfl⟩ | ⟨na, rfl⟩
  · clear r0 r1 r2 r3 r4
    have HSP2 := Lib.hid (fun (b Bs bl : Nat) (X : World) (hf : FlAt X b f z) (a : Bk X Bs 28 #[.slice (some ⟨bl, 0, none⟩) 1 1]) (c : Bk X bl 3 #[.int .i64 i]) => HSP.out b Bs bl X hf a c ha)
    clear HSP
    go_wp2_with (go_at_call 47; refine (one_any i _).mono ?_; rintro e w5 ⟨rfl, a5, b5, hb5⟩)
    replace R := R.keep hb5
    have HFL5 := Lib.hid (HFL4.out.below hb5)
    have hB5 := hB4.trans (hb5.mono hB4.size)
    clear hb5 HFL4 hB4
    go_wp2_with fail
    refine (HSP2.out _ _ _ _ HFL5.out b5 a5).mono ?_
    clear HSP2
    rintro e w6 ⟨hb6, go, gk, sp, rfl, hr6, hl6, hv6⟩
    replace R := R.keep hb6
    have hB6 := hB5.trans (hb6.mono hB5.size)
    obtain ⟨e0, e1⟩ := sp_cell hr6 (k := i) (by omega)
    have HV := Lib.hid hv6
    have hiI : (i : Int) < (f.R * f.S * f.S : Nat) := by omega
    clear hb6 hB5 HFL5 a5 b5 hr6 hl6 hv6
    generalize f.R * f.S * f.S = n at *
    generalize hsv : sp.getD i (0, 0) = sv at *
    have HSV := Lib.hid hsv
    clear hsv
    have r0 := R.cell 0
    have r1 := R.cell 1
    have r2 := R.fz 0
    have r3 := R.fz 1
    have r4 := R.lt
    simp at r0 r1
    have HR := Lib.hid (And.intro R hB6)
    clear R hB6
    go_wp2_with fail
    refine bodyPost_ret (v := .tuple #[.agg #[.int .i64 sv.1, .int .i64 sv.2], .int .i64 0]) (by simp [results, Try.results23, go_sem, r0, r1, r4]) rfl ?_
    exact ⟨(HR.out.2.setCell (by simp <;> omega) _).setCell (by simp <;> omega) _, .inl ⟨ha, sv, HV.out, rfl⟩⟩
  · have HR := Lib.hid (And.intro R hB4)
    clear R hB4
    go_wp2_with fail
    refine bodyPost_ret (v := .tuple #[.agg #[.int .i64 0, .int .i64 0], .int .i64 22]) (by simp [results, Try.results23, go_sem, r0, r1, r4]) rfl ?_
    exact ⟨(HR.out.2.setCell (by simp <;> omega) _).setCell (by simp <;> omega) _, .inr ⟨na, rfl⟩⟩

set_option maxRecDepth 100000 in
set_option maxHeartbeats 4000000 in
theorem Steps_any (f : Flr) (z : FLoc) (ring sec turn : Nat) (w : World) (hp : PrAt w f z) (hpre : f.Pre) (hd : drvOk f = true) (h1 : ring < f.R) (h2 : sec < f.S) (h3 : turn < f.S) :
    Calls Try.prog 10 #[f.pr z, stV ring sec turn] w (SpanOfP f (fun _ => 1) (numN f.R f.S ring sec turn) w) := by
  have HO := Lib.hid (fun (X : World) (h : Below w.heap.size w X) => spanOf_any f z (fun _ => 1) 24 ring sec turn X (fun z b i Bf Bc gof N sp w a1 a2 a3 a4 a5 a6 a7 a8 => spansW_any f z b i Bf Bc gof N sp w a1 a2 a3 a4 a5 a6 a7 a8) (hp.below h) hpre hd h1 h2 h3)
  unfold Flr.pr stV at *
  obtain ⟨W, hW⟩ : ∃ W, ((w.alloc (.cells #[.int .i64 f.eye, .int .i64 f.R, .int .i64 f.S, .slice z.A1 f.bed.length z.c1, .int .i64 f.eye, .int .i64 f.R, .int .i64 f.S, .slice z.A2 f.run.length z.c2, .slice z.A3 f.drive.length z.c3] 35)).alloc (.cells #[.int .i64 ring, .int .i64 sec, .int .i64 turn] 40)).alloc (.cells #[.int .i64 0, .int .i64 0] 42) = W := ⟨_, rfl⟩
  have hbW : Below w.heap.size w W := by rw [← hW]; exact (((Below.refl _ _).alloc (Nat.le_refl _) _).alloc (by simp) _).alloc (by simp; omega) _
  have X := (show Bk W w.heap.size 35 #[.int .i64 f.eye, .int .i64 f.R, .int .i64 f.S, .slice z.A1 f.bed.length z.c1, .int .i64 f.eye, .int .i64 f.R, .int .i64 f.S, .slice z.A2 f.run.length z.c2, .slice z.A3 f.drive.length z.c3] by rw [← hW]; exact ((bk_last rfl).alloc _).alloc _)
  have Y := (show Bk W (w.heap.size + 1) 40 #[.int .i64 ring, .int .i64 sec, .int .i64 turn] by rw [← hW]; exact (bk_last (by simp)).alloc _)
  have R := (show Bk W (w.heap.size + 1 + 1) 42 #[.int .i64 0, .int .i64 0] by rw [← hW]; exact bk_last (by simp))
  have x0 := X.cell 0
  have x1 := X.cell 1
  have x2 := X.cell 2
  have x3 := X.cell 3
  have x4 := X.cell 4
  have x5 := X.cell 5
  have x6 := X.cell 6
  have x7 := X.cell 7
  have x8 := X.cell 8
  have y0 := Y.cell 0
  have y1 := Y.cell 1
  have y2 := Y.cell 2
  simp at x0 x1 x2 x3 x4 x5 x6 x7 x8 y0 y1 y2
  have HW := Lib.hid hW
  clear hW hp hpre X Y hd
  go_enter Try.func10, Try.ntmps10
  go_upto_region 1 with fail
  rw [HW.out]
  clear HW
  go_wp2_with fail
  refine (HO.out W hbW).mono ?_
  clear x0 x1 x2 x3 x4 x5 x6 x7 x8 y0 y1 y2 HO
  rintro e w2 ⟨hb2, h⟩
  have hB := hbW.trans (hb2.mono hbW.size)
  replace R := R.keep hb2
  have r0 := R.cell 0
  have r1 := R.cell 1
  have r2 := R.fz 0
  have r3 := R.fz 1
  have r4 := R.lt
  simp at r0 r1
  have HR := Lib.hid (And.intro R hB)
  clear R hB hb2 hbW
  rcases h with ⟨ha, sv, hv, rfl⟩ | ⟨na, rfl⟩
  · go_wp2_with fail
    refine bodyPost_ret (v := .tuple #[.agg #[.int .i64 sv.1, .int .i64 sv.2], .int .i64 0]) (by simp [results, Try.results10, go_sem, r0, r1, r4]) rfl ?_
    exact ⟨(HR.out.2.setCell (by simp <;> omega) _).setCell (by simp <;> omega) _, .inl ⟨ha, sv, hv, rfl⟩⟩
  · go_wp2_with fail
    refine bodyPost_ret (v := .tuple #[.agg #[.int .i64 0, .int .i64 0], .int .i64 22]) (by simp [results, Try.results10, go_sem, r0, r1, r4]) rfl ?_
    exact ⟨(HR.out.2.setCell (by simp <;> omega) _).setCell (by simp <;> omega) _, .inr ⟨na, rfl⟩⟩

set_option maxRecDepth 100000 in
set_option maxHeartbeats 4000000 in
theorem Cuts_any (f : Flr) (z : FLoc) (ring sec turn : Nat) (w : World) (hp : PrAt w f z) (hpre : f.Pre) (hd : drvOk f = true) (h1 : ring < f.R) (h2 : sec < f.S) (h3 : turn < f.S) :
    Calls Try.prog 11 #[f.pr z, stV ring sec turn] w (SpanOfP f cutsV (numN f.R f.S ring sec turn) w) := by
  have HO := Lib.hid (fun (X : World) (h : Below w.heap.size w X) => spanOf_any f z cutsV 25 ring sec turn X (fun z b i Bf Bc gof N sp w a1 a2 a3 a4 a5 a6 a7 a8 => spansC_any f z b i Bf Bc gof N sp w a1 a2 a3 a4 a5 a6 a7 a8) (hp.below h) hpre hd h1 h2 h3)
  unfold Flr.pr stV at *
  obtain ⟨W, hW⟩ : ∃ W, ((w.alloc (.cells #[.int .i64 f.eye, .int .i64 f.R, .int .i64 f.S, .slice z.A1 f.bed.length z.c1, .int .i64 f.eye, .int .i64 f.R, .int .i64 f.S, .slice z.A2 f.run.length z.c2, .slice z.A3 f.drive.length z.c3] 35)).alloc (.cells #[.int .i64 ring, .int .i64 sec, .int .i64 turn] 40)).alloc (.cells #[.int .i64 0, .int .i64 0] 42) = W := ⟨_, rfl⟩
  have hbW : Below w.heap.size w W := by rw [← hW]; exact (((Below.refl _ _).alloc (Nat.le_refl _) _).alloc (by simp) _).alloc (by simp; omega) _
  have X := (show Bk W w.heap.size 35 #[.int .i64 f.eye, .int .i64 f.R, .int .i64 f.S, .slice z.A1 f.bed.length z.c1, .int .i64 f.eye, .int .i64 f.R, .int .i64 f.S, .slice z.A2 f.run.length z.c2, .slice z.A3 f.drive.length z.c3] by rw [← hW]; exact ((bk_last rfl).alloc _).alloc _)
  have Y := (show Bk W (w.heap.size + 1) 40 #[.int .i64 ring, .int .i64 sec, .int .i64 turn] by rw [← hW]; exact (bk_last (by simp)).alloc _)
  have R := (show Bk W (w.heap.size + 1 + 1) 42 #[.int .i64 0, .int .i64 0] by rw [← hW]; exact bk_last (by simp))
  have x0 := X.cell 0
  have x1 := X.cell 1
  have x2 := X.cell 2
  have x3 := X.cell 3
  have x4 := X.cell 4
  have x5 := X.cell 5
  have x6 := X.cell 6
  have x7 := X.cell 7
  have x8 := X.cell 8
  have y0 := Y.cell 0
  have y1 := Y.cell 1
  have y2 := Y.cell 2
  simp at x0 x1 x2 x3 x4 x5 x6 x7 x8 y0 y1 y2
  have HW := Lib.hid hW
  clear hW hp hpre X Y hd
  go_enter Try.func11, Try.ntmps11
  go_upto_region 1 with fail
  rw [HW.out]
  clear HW
  go_wp2_with fail
  refine (HO.out W hbW).mono ?_
  clear x0 x1 x2 x3 x4 x5 x6 x7 x8 y0 y1 y2 HO
  rintro e w2 ⟨hb2, h⟩
  have hB := hbW.trans (hb2.mono hbW.size)
  replace R := R.keep hb2
  have r0 := R.cell 0
  have r1 := R.cell 1
  have r2 := R.fz 0
  have r3 := R.fz 1
  have r4 := R.lt
  simp at r0 r1
  have HR := Lib.hid (And.intro R hB)
  clear R hB hb2 hbW
  rcases h with ⟨ha, sv, hv, rfl⟩ | ⟨na, rfl⟩
  · go_wp2_with fail
    refine bodyPost_ret (v := .tuple #[.agg #[.int .i64 sv.1, .int .i64 sv.2], .int .i64 0]) (by simp [results, Try.results11, go_sem, r0, r1, r4]) rfl ?_
    exact ⟨(HR.out.2.setCell (by simp <;> omega) _).setCell (by simp <;> omega) _, .inl ⟨ha, sv, hv, rfl⟩⟩
  · go_wp2_with fail
    refine bodyPost_ret (v := .tuple #[.agg #[.int .i64 0, .int .i64 0], .int .i64 22]) (by simp [results, Try.results11, go_sem, r0, r1, r4]) rfl ?_
    exact ⟨(HR.out.2.setCell (by simp <;> omega) _).setCell (by simp <;> omega) _, .inr ⟨na, rfl⟩⟩

end Go.Proofs.Ytkikjmkpndmdcaa
