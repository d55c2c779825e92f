/-
  What is proved: the contract of TopHarps.
-/
import Derived.Test.YtkikjmkpndmdcaaLawA
import Derived.Test.YtkikjmkpndmdcaaAwake
import Derived.Test.YtkikjmkpndmdcaaAsk
import Derived.BigQuiet
namespace Go.Proofs.Ytkikjmkpndmdcaa
open Go.RowKit
attribute [local go_sem ↓] max_int min_int

theorem CountsP.m {f : Flr} {ixF : Flr → Nat → Nat → Nat → Nat} {X X' : World} {e : Ending} {M : Nat} (hM : f.R * f.S = M) (h : CountsP f ixF X e X') : Below X.heap.size X X' ∧ ∃ g, e = .returned (.tuple #[.slice (some ⟨g, 0, none⟩) M M, .int .i64 0]) ∧ Bk X' g 3 (intCells (cntL f ixF (f.R * f.S * f.S))).toArray := by
  subst hM
  exact h
theorem long_false {l : List (List Mv)} (h : longB l = false) : ∀ x ∈ l, x.length ≤ 10 := by
  unfold longB at h
  rw [List.any_eq_false] at h
  intro x hx
  have := h x hx
  simpa using this
theorem bk_row {W : World} {g : Nat} {l : List Int} (h : Bk W g 3 (intCells l).toArray) : RowAt W (some ⟨g, 0, none⟩) (intCells l) :=
  fun _ => ⟨g, 0, rfl, h.lt, fun j u hu => by rw [Nat.zero_add, h.cell]; simpa using hu⟩
theorem good_pre {b : Pat} {p1 p2 : Pat} {R H V R' H' V' : Nat} {K1 K2 : List Int} {d : List (List Mv)} (h1 : Good p1 R H V K1) (h2 : Good p2 R' H' V' K2) (hr : p2.rings = p1.rings) (hh : p2.harps = p1.harps) (hv : p2.wide = p1.wide) (he : p1.eye = b.eye) (hd : d.length ≤ 20) (hl : longB d = false) :
    ∃ f : Flr, f = ⟨b.eye, R, H * V, K1, K2, d⟩ ∧ f.Pre ∧ PerF f V ∧ R = R' ∧ H = H' ∧ V = V' := by
  obtain rfl : R' = R := by have := h1.pr; have := h2.pr; omega
  obtain rfl : H' = H := by have := h1.ph; have := h2.ph; omega
  obtain rfl : V' = V := by have := h1.pv; have := h2.pv; omega
  exact ⟨_, rfl, ⟨by rw [← he]; exact h1.e0, by rw [← he]; exact h1.e1, h1.r0, h1.r1, h1.s0, h1.s1, h1.kl, h2.kl, h1.ki, h2.ki, hd, long_false hl⟩, ⟨h1.kp, h2.kp⟩, rfl, rfl, rfl⟩

theorem per_both {f : Flr} {V R S : Nat} (hok : f.Ok) (hp : PerF f V) (hV : V ≤ f.S) (hR : f.R = R) (hS : f.S = S) {ring sec : Nat} (h1 : ring < R) (h2 : sec < S) :
    (cntL f bedIx (f.R * f.S * f.S)).getD (ring * S + (sec + V) % S) 0 = (cntL f bedIx (f.R * f.S * f.S)).getD (ring * S + sec) 0 ∧ (cntL f runIx (f.R * f.S * f.S)).getD (ring * S + (sec + V) % S) 0 = (cntL f runIx (f.R * f.S * f.S)).getD (ring * S + sec) 0 := by
  subst hR
  subst hS
  exact ⟨bed_per hok hp hV h1 h2, run_per hok hp hV h1 h2⟩

theorem steps_res {f : Flr} {z : FLoc} {W X : World} {S sec turn : Nat} {pv : Value} (hp : PrAt W f z) (hpre : f.Pre) (hd : drvOk f = true) (h : Below W.heap.size W X) (hS : f.S = S) (hv : f.pr z = pv) (h2 : sec < S) (h3 : turn < S) :
    Calls Try.prog 10 #[pv, .agg #[.int .i64 0, .int .i64 sec, .int .i64 turn]] X fun e X' => ∃ a b er, e = .returned (.tuple #[.agg #[.int .i64 a, .int .i64 b], .int .i64 er]) ∧ SpanRes f (fun _ => 1) (numN f.R f.S 0 sec turn) a b er ∧ Below X.heap.size X X' := by
  subst hS
  rw [← hv]
  exact (Steps_any f z 0 sec turn X (hp.below h) hpre hd (by have := hpre.r0; omega) h2 h3).mono fun e X' h => h.res
theorem cuts_res {f : Flr} {z : FLoc} {W X : World} {S sec turn : Nat} {pv : Value} (hp : PrAt W f z) (hpre : f.Pre) (hd : drvOk f = true) (h : Below W.heap.size W X) (hS : f.S = S) (hv : f.pr z = pv) (h2 : sec < S) (h3 : turn < S) :
    Calls Try.prog 11 #[pv, .agg #[.int .i64 0, .int .i64 sec, .int .i64 turn]] X fun e X' => ∃ a b er, e = .returned (.tuple #[.agg #[.int .i64 a, .int .i64 b], .int .i64 er]) ∧ SpanRes f cutsV (numN f.R f.S 0 sec turn) a b er ∧ Below X.heap.size X X' := by
  subst hS
  rw [← hv]
  exact (Cuts_any f z 0 sec turn X (hp.below h) hpre hd (by have := hpre.r0; omega) h2 h3).mono fun e X' h => h.res
theorem span_rot {f : Flr} {cnt : Mv → Int} {V S sec turn : Nat} {a b er a' b' er' : Int} (hok : f.Ok) (hp : PerF f V) (hS : f.S = S) (h2 : sec < S) (h3 : turn < S) (h : SpanRes f cnt (numN f.R f.S 0 sec turn) a b er) (h' : SpanRes f cnt (numN f.R f.S 0 ((sec + V) % S) turn) a' b' er') : a = a' ∧ b = b' ∧ er = er' := by
  subst hS
  have hr : 0 < f.R := by have := hok.r0; omega
  rw [← rot_num hr h2] at h'
  obtain ⟨e1, e2, e3⟩ := h.rot hok hp (num_lt hr h2 h3) h'
  exact ⟨e1.symm, e2.symm, e3.symm⟩
set_option maxRecDepth 100000 in
theorem neq42 (W : World) (a b : Int) : (binOp .neq 42 (.agg #[.int .i64 a, .int .i64 b]) (.agg #[.int .i64 a, .int .i64 b])).run Try.prog W = .ok (.bool false) W := by
  simp [go_sem, Try.underlying42]

set_option maxRecDepth 100000 in
set_option maxHeartbeats 20000000 in
theorem law_any (bed run : Pat) (A1 A2 : Option Addr) (c1 c2 : Nat) (f0 : Flr) (z0 : FLoc) (w : World) (hL1 : RowAt w A1 (furCells bed.furs)) (hL2 : RowAt w A2 (furCells run.furs)) (hp : RowAt w z0.A3 ((List.range f0.drive.length).map (drCell f0 z0)))
    (hrow : ∀ i, i < f0.drive.length → RowAt w (z0.dr.getD i (none, 0)).1 (mvCells (f0.drive.getD i []))) :
    Calls Try.prog 3 #[.agg (bed.arr A1 c1), .agg (run.arr A2 c2), .slice z0.A3 f0.drive.length z0.c3] w fun e w' => e = .returned (.bool true) ∧ Below w.heap.size w w' := by
  unfold Pat.arr
  obtain ⟨W, hW⟩ : ∃ W, (w.alloc (.cells #[.int .i64 bed.eye, .int .i64 bed.rings, .int .i64 bed.harps, .int .i64 bed.wide, .slice A1 bed.furs.length c1] 24)).alloc (.cells #[.int .i64 run.eye, .int .i64 run.rings, .int .i64 run.harps, .int .i64 run.wide, .slice A2 run.furs.length c2] 24) = W := ⟨_, rfl⟩
  have hbW : Below w.heap.size w W := by rw [← hW]; exact ((Below.refl _ _).alloc (Nat.le_refl _) _).alloc (by simp) _
  have X := (show Bk W w.heap.size 24 #[.int .i64 bed.eye, .int .i64 bed.rings, .int .i64 bed.harps, .int .i64 bed.wide, .slice A1 bed.furs.length c1] by rw [← hW]; exact (bk_last rfl).alloc _)
  have Y := (show Bk W (w.heap.size + 1) 24 #[.int .i64 run.eye, .int .i64 run.rings, .int .i64 run.harps, .int .i64 run.wide, .slice A2 run.furs.length c2] by rw [← hW]; exact bk_last (by simp))
  have HW := Lib.hid hW
  have HAW := Lib.hid awake_any
  have HL1 := Lib.hid hL1
  have HL2 := Lib.hid hL2
  have HP := Lib.hid hp
  have HR := Lib.hid hrow
  clear hW hL1 hL2 hp hrow
  go_enter Try.func3, Try.ntmps3
  go_upto_region 1 with fail
  rw [HW.out]
  clear HW
  go_upto_region 2 with (go_at_call 4; refine (HAW.out _).mono ?_; rintro e w1 ⟨rfl, hb1⟩)
  replace X := X.keep hb1
  replace Y := Y.keep hb1
  have hB1 := hbW.trans (hb1.mono hbW.size)
  have x0 := X.cell 0
  have x1 := X.cell 1
  have x2 := X.cell 2
  have x3 := X.cell 3
  have x4 := X.cell 4
  have y4 := Y.cell 4
  simp at x0 x1 x2 x3 x4 y4
  have HX := Lib.hid X
  have HY := Lib.hid Y
  clear hb1 hbW X Y HAW
  by_cases g0 : bed.rings > 4
  · go_wp2_with fail
    go_ret
    exact ⟨rfl, hB1⟩
  by_cases g1 : wrap64 (bed.harps * bed.wide) > 8
  · go_wp2_with fail
    go_ret
    exact ⟨rfl, hB1⟩
  by_cases g2 : bed.harps > 8
  · go_wp2_with fail
    go_ret
    exact ⟨rfl, hB1⟩
  by_cases g3 : bed.wide > 8
  · go_wp2_with fail
    go_ret
    exact ⟨rfl, hB1⟩
  by_cases g4 : (bed.furs.length : Int) > 20
  · go_wp2_with fail
    go_ret
    exact ⟨rfl, hB1⟩
  by_cases g5 : (run.furs.length : Int) > 20
  · go_wp2_with fail
    go_ret
    exact ⟨rfl, hB1⟩
  by_cases g6 : (f0.drive.length : Int) > 20
  · go_wp2_with fail
    go_ret
    exact ⟨rfl, hB1⟩
  have HG := Lib.hid (And.intro (show bed.rings ≤ 4 by omega) (And.intro (show bed.harps ≤ 8 by omega) (And.intro (show bed.wide ≤ 8 by omega) (And.intro (show IntKind.i64.wrap (bed.harps * bed.wide) ≤ 8 by rw [IntKind.wrap_i64]; unfold wrap64 at g1; omega) (And.intro (show bed.furs.length ≤ 20 by omega) (And.intro (show run.furs.length ≤ 20 by omega) (show f0.drive.length ≤ 20 by omega)))))))
  by_cases gl : longB f0.drive = true
  · go_wp2_with (go_at_call 5; refine (long_any f0 z0 _ (HP.out.below hB1) HG.out.2.2.2.2.2.2).mono ?_; rintro e w2 ⟨rfl, rfl⟩; rw [gl])
    go_ret
    exact ⟨rfl, hB1⟩
  have gl' : longB f0.drive = false := by simpa using gl
  have HLB := Lib.hid gl'
  clear gl
  go_upto_region 4 with (go_at_call 5; refine (long_any f0 z0 _ (HP.out.below hB1) HG.out.2.2.2.2.2.2).mono ?_; rintro e w2 ⟨rfl, rfl⟩; rw [gl'])
  clear g0 g1 g2 g3 g4 g5 g6 y4 x4
  have y0 := HY.out.cell 0
  have y1 := HY.out.cell 1
  have y2 := HY.out.cell 2
  have y3 := HY.out.cell 3
  have z0' := HY.out.fz 0
  have z1' := HY.out.fz 1
  have z2' := HY.out.fz 2
  have z3' := HY.out.fz 3
  have zl := HY.out.lt
  simp at y0 y1 y2 y3
  go_upto_region 8 with fail
  obtain ⟨W3, hW3⟩ : ∃ W3, ((((w2.setCell ⟨w.heap.size + 1, 0, none⟩ (.int .i64 bed.eye)).setCell ⟨w.heap.size + 1, 1, none⟩ (.int .i64 bed.rings)).setCell ⟨w.heap.size + 1, 2, none⟩ (.int .i64 bed.harps)).setCell ⟨w.heap.size + 1, 3, none⟩ (.int .i64 bed.wide)) = W3 := ⟨_, rfl⟩
  have X3 : Bk W3 w.heap.size 24 #[.int .i64 bed.eye, .int .i64 bed.rings, .int .i64 bed.harps, .int .i64 bed.wide, .slice A1 bed.furs.length c1] := by
    rw [← hW3]
    exact ((((HX.out).far (by simp only [ne_eq]; omega) _).far (by simp only [ne_eq]; omega) _).far (by simp only [ne_eq]; omega) _).far (by simp only [ne_eq]; omega) _
  have Y3 : Bk W3 (w.heap.size + 1) 24 #[.int .i64 bed.eye, .int .i64 bed.rings, .int .i64 bed.harps, .int .i64 bed.wide, .slice A2 run.furs.length c2] := by
    rw [← hW3]
    have := ((((HY.out).put 0 (.int .i64 bed.eye)).put 1 (.int .i64 bed.rings)).put 2 (.int .i64 bed.harps)).put 3 (.int .i64 bed.wide)
    simpa using this
  have hB3 : Below w.heap.size w W3 := by
    rw [← hW3]
    exact (((hB1.setCell (by simp only; omega) _).setCell (by simp only; omega) _).setCell (by simp only; omega) _).setCell (by simp only; omega) _
  rw [hW3]
  clear hW3 HX HY x0 x1 x2 x3 y0 y1 y2 y3 z0' z1' z2' z3' zl hB1 gl'
  obtain ⟨hG1, hG2, hG3, hG4, hG5, hG6, hG7⟩ := HG.out
  have HD1 := Lib.hid (fun (X : World) (h : Below w.heap.size w X) => dress_any bed A1 c1 X hG1 hG2 hG3 hG4 hG5 (HL1.out.below h))
  have HD2 := Lib.hid (fun (X : World) (h : Below w.heap.size w X) => dress_any ⟨bed.eye, bed.rings, bed.harps, bed.wide, run.furs⟩ A2 c2 X hG1 hG2 hG3 hG4 hG6 (HL2.out.below h))
  unfold Pat.arr at HD1 HD2
  simp only at HD2
  have H7 := Lib.hid hG7
  have HX := Lib.hid X3
  have HY := Lib.hid Y3
  have x0 := X3.cell 0
  have x1 := X3.cell 1
  have x2 := X3.cell 2
  have x3 := X3.cell 3
  have x4 := X3.cell 4
  simp at x0 x1 x2 x3 x4
  clear hG1 hG2 hG3 hG4 hG5 hG6 hG7 HG HL1 HL2 X3 Y3
  go_upto_region 9 with (go_at_call 6; refine (HD1.out _ hB3).mono ?_; rintro e w4 ⟨hb4, a1, b1, s1, B1, n1, k1, er1, rfl, hd1⟩)
  obtain ⟨W4, hW4⟩ : ∃ W4, w4.alloc (.cells #[.int .i64 a1, .int .i64 b1, .int .i64 s1, .slice B1 n1 k1] 30) = W4 := ⟨_, rfl⟩
  have hk34 : Below W3.heap.size W3 W4 := by rw [← hW4]; exact hb4.alloc hb4.size _
  have hB4 := hB3.trans (hk34.mono hB3.size)
  have FA : Bk W4 w4.heap.size 30 #[.int .i64 a1, .int .i64 b1, .int .i64 s1, .slice B1 n1 k1] := by rw [← hW4]; exact bk_last rfl
  have hw34 := hb4.size
  have hk44 : Below w4.heap.size w4 W4 := by rw [← hW4]; exact (Below.refl _ _).alloc (Nat.le_refl _) _
  have hw03 := hB3.size
  have X4 := HX.out.keep hk34
  have Y4 := HY.out.keep hk34
  obtain ⟨q1, hq1⟩ : ∃ q1, w4.heap.size = q1 := ⟨_, rfl⟩
  have hw4 := FA.lt
  have HFK := Lib.hid hk44
  rw [hW4, hq1]
  rw [hq1] at FA hw4 hw34
  have y0 := Y4.cell 0
  have y1 := Y4.cell 1
  have y2 := Y4.cell 2
  have y3 := Y4.cell 3
  have y4 := Y4.cell 4
  simp at y0 y1 y2 y3 y4
  clear x0 x1 x2 x3 x4 hb4 hW4 hk34 hk44 HX HY HD1 hB3 Y4
  go_upto_region 10 with (go_at_call 6; refine (HD2.out _ hB4).mono ?_; rintro e w5 ⟨hb5, a2, b2, s2, B2, n2, k2, er2, rfl, hd2⟩)
  obtain ⟨W5, hW5⟩ : ∃ W5, w5.alloc (.cells #[.int .i64 a2, .int .i64 b2, .int .i64 s2, .slice B2 n2 k2] 30) = W5 := ⟨_, rfl⟩
  have hk45 : Below W4.heap.size W4 W5 := by rw [← hW5]; exact hb5.alloc hb5.size _
  have hB5 := hB4.trans (hk45.mono hB4.size)
  have FB : Bk W5 w5.heap.size 30 #[.int .i64 a2, .int .i64 b2, .int .i64 s2, .slice B2 n2 k2] := by rw [← hW5]; exact bk_last rfl
  have hk55 : Below w5.heap.size w5 W5 := by rw [← hW5]; exact (Below.refl _ _).alloc (Nat.le_refl _) _
  replace FA := FA.keep hk45
  replace X4 := X4.keep hk45
  have HK45 := Lib.hid hk45
  have HGK := Lib.hid hk55
  obtain ⟨q2, hq2⟩ : ∃ q2, w5.heap.size = q2 := ⟨_, rfl⟩
  have hw45 : W4.heap.size ≤ q2 := by rw [← hq2]; exact hb5.size
  rw [hW5, hq2]
  rw [hq2] at FB
  have u0 := FA.cell 0
  have u1 := FA.cell 1
  have u2 := FA.cell 2
  have u3 := FA.cell 3
  have v0 := FB.cell 0
  have v1 := FB.cell 1
  have v2 := FB.cell 2
  have v3 := FB.cell 3
  simp at u0 u1 u2 u3 v0 v1 v2 v3
  clear y0 y1 y2 y3 y4 hb5 hW5 hk45 hk55 HD2 hB4
  go_upto_region 11 with fail
  clear u0 u1 u2 u3 v0 v1 v2 v3
  obtain ⟨W6, hW6⟩ : ∃ W6, W5.alloc (.cells #[.int .i64 a1, .int .i64 b1, .int .i64 s1, .slice B1 n1 k1, .int .i64 a2, .int .i64 b2, .int .i64 s2, .slice B2 n2 k2, .slice z0.A3 f0.drive.length z0.c3] 35) = W6 := ⟨_, rfl⟩
  obtain ⟨q3, hq3⟩ : ∃ q3, W5.heap.size = q3 := ⟨_, rfl⟩
  have PB : Bk W6 q3 35 #[.int .i64 a1, .int .i64 b1, .int .i64 s1, .slice B1 n1 k1, .int .i64 a2, .int .i64 b2, .int .i64 s2, .slice B2 n2 k2, .slice z0.A3 f0.drive.length z0.c3] := by rw [← hW6]; exact bk_last hq3
  have hB6 : Below w.heap.size w W6 := by rw [← hW6]; exact hB5.alloc hB5.size _
  have HK56 : Hid (Below W5.heap.size W5 W6) := by rw [Hid, ← hW6]; exact (Below.refl _ _).alloc (Nat.le_refl _) _
  replace FA := FA.keep HK56.out
  replace FB := FB.keep HK56.out
  replace X4 := X4.keep HK56.out
  rw [hW6, hq3]
  clear hW6 hB5
  rcases hd1 with rfl | ⟨rfl, R, H, V, K1, g1, hg1, rfl, rfl, rfl, rfl, rfl, rfl, G1⟩
  · clear FA FB X4 PB hd2
    go_wp2_with fail
    go_ret
    exact ⟨rfl, hB6⟩
  rcases hd2 with rfl | ⟨rfl, R', H', V', K2, g2, hg2, rfl, rfl, rfl, rfl, rfl, rfl, G2⟩
  · clear FA FB X4 PB
    go_wp2_with fail
    go_ret
    exact ⟨rfl, hB6⟩
  have hvp := hg1.pv
  have hvs := hg1.vs
  have hk1 := hg1.kl
  have hk2 := hg2.kl
  obtain ⟨f, hf, hpre, hper, rfl, rfl, rfl⟩ := good_pre (b := bed) hg1 hg2 rfl rfl rfl rfl H7.out HLB.out
  clear hg1 hg2
  replace G1 := ((G1.keep HFK.out).keep HK45.out).keep HK56.out
  replace G2 := (G2.keep HGK.out).keep HK56.out
  obtain ⟨S, hS⟩ : ∃ S, H * V = S := ⟨_, rfl⟩
  obtain ⟨M, hM⟩ : ∃ M, R * S = M := ⟨_, rfl⟩
  rw [hS] at hf hk1 hk2 hvs FA FB PB
  rw [hM] at hk1 hk2
  rw [hS]
  obtain ⟨z, hz⟩ : ∃ z : FLoc, z = ⟨some ⟨g1, 0, none⟩, some ⟨g2, 0, none⟩, z0.A3, M, M, z0.c3, z0.dr⟩ := ⟨_, rfl⟩
  have hpr : PrAt W6 f z := by
    rw [hf, hz]
    exact ⟨bk_row G1, bk_row G2, HP.out.below hB6, fun i hi => (HR.out i hi).below hB6⟩
  have hprv : f.pr z = .agg #[.int .i64 bed.eye, .int .i64 R, .int .i64 S, .slice (some ⟨g1, 0, none⟩) M M, .int .i64 bed.eye, .int .i64 R, .int .i64 S, .slice (some ⟨g2, 0, none⟩) M M, .slice z0.A3 f0.drive.length z0.c3] := by
    rw [hf, hz, ← hk1]
    simp only [Flr.pr, hk1, hk2]
  have hfR : f.R = R := by rw [hf]
  have hfS : f.S = S := by rw [hf]
  rw [hk1] at FA PB
  rw [hk2] at FB PB
  rw [hk1, hk2]
  have HFF := Lib.hid (And.intro hpr (And.intro hpre (And.intro hper (And.intro hfR (And.intro hfS (And.intro hprv hM))))))
  have hV0 : Hid (bed.wide = V ∧ V ≤ S) := ⟨hvp, hvs⟩
  clear hf hz hk1 hk2 hS hM HP HR H7 HLB HFK HK45 HGK HK56 G1 G2 hw03 hw34 hw45 hw4 hq1 hq2 hvp hvs
  have HC7 := Lib.hid (check_any f z W6 hpr hpre)
  rw [hprv] at HC7
  clear hpr hprv hfR hfS hper
  have p0 := PB.cell 0
  have p1 := PB.cell 1
  have p2 := PB.cell 2
  have p3 := PB.cell 3
  have p4 := PB.cell 4
  have p5 := PB.cell 5
  have p6 := PB.cell 6
  have p7 := PB.cell 7
  have p8 := PB.cell 8
  simp at p0 p1 p2 p3 p4 p5 p6 p7 p8
  have HPB := Lib.hid PB
  have HFA := Lib.hid FA
  have HXX := Lib.hid X4
  clear PB FA FB X4
  by_cases hd : drvOk f = true
  · have ec : chkV f = 0 := by unfold chkV; rw [if_pos hd]
    rw [ec] at HC7
    clear ec
    go_upto_region 13 with (go_at_call 7; refine (HC7.out).mono ?_; rintro e w7 ⟨rfl, hb7⟩)
    obtain ⟨hpr, _, hper, hfR, hfS, hprv, hM⟩ := HFF.out
    have HC8 := Lib.hid (fun (X : World) (h : Below W6.heap.size W6 X) => Counts_any f z X (hpr.below h) hpre hd)
    have HC9 := Lib.hid (fun (X : World) (h : Below W6.heap.size W6 X) => RunnerCounts_any f z X (hpr.below h) hpre hd)
    rw [hprv] at HC8 HC9
    have hMf : f.R * f.S = M := by rw [hfR, hfS]; exact hM
    have hok := hpre.ok hd
    have hS2 : 2 ≤ S ∧ S ≤ 8 := by rw [← hfS]; exact ⟨hok.s0, hok.s1⟩
    have hR2 : 1 ≤ R ∧ R ≤ 4 := by rw [← hfR]; exact ⟨hok.r0, hok.r1⟩
    have hMle : M ≤ 4 * 8 := by rw [← hM]; exact Nat.mul_le_mul hR2.2 hS2.2
    clear hpr hper hfR hfS hprv hM hok
    have hsz67 := hb7.size
    have PB7 := HPB.out.keep hb7
    have FA7 := HFA.out.keep hb7
    have r3 := FA7.cell 3
    have p0' := PB7.cell 0
    have p1' := PB7.cell 1
    have p2' := PB7.cell 2
    have p3' := PB7.cell 3
    have p4' := PB7.cell 4
    have p5' := PB7.cell 5
    have p6' := PB7.cell 6
    have p7' := PB7.cell 7
    have p8' := PB7.cell 8
    simp at p0' p1' p2' p3' p4' p5' p6' p7' p8' r3
    clear p0 p1 p2 p3 p4 p5 p6 p7 p8 r3
    go_upto_region 14 with (go_at_call 8; refine (HC8.out _ hb7).mono ?_; intro e w8 h8; obtain ⟨hb8, gb, rfl, G8⟩ := h8.m hMf)
    clear p0' p1' p2' p3' p4' p5' p6' p7' p8' FA7 PB7
    have hb68 := hb7.trans (hb8.mono hb7.size)
    have PB8 := HPB.out.keep hb68
    have p0 := PB8.cell 0
    have p1 := PB8.cell 1
    have p2 := PB8.cell 2
    have p3 := PB8.cell 3
    have p4 := PB8.cell 4
    have p5 := PB8.cell 5
    have p6 := PB8.cell 6
    have p7 := PB8.cell 7
    have p8 := PB8.cell 8
    simp at p0 p1 p2 p3 p4 p5 p6 p7 p8
    go_upto_region 15 with (go_at_call 9; refine (HC9.out _ hb68).mono ?_; intro e w9 h9; obtain ⟨hb9, gr, rfl, G9⟩ := h9.m hMf)
    clear p0 p1 p2 p3 p4 p5 p6 p7 p8 PB8
    have hb69 := hb68.trans (hb9.mono hb68.size)
    replace G8 := G8.keep hb9
    have FA9 := HFA.out.keep hb69
    have X9 := HXX.out.keep hb69
    have r2 := FA9.cell 2
    have r3 := FA9.cell 3
    have x3 := X9.cell 3
    simp at r2 r3 x3
    clear hb7 hb8 hb9 hb68 hsz67 HC7 HC8 HC9 FA9 X9
    go_upto_region 18 with fail
    have hlb := (cntL_len f bedIx (f.R * f.S * f.S)).trans hMf
    have hlr := (cntL_len f runIx (f.R * f.S * f.S)).trans hMf
    have HPER := Lib.hid (fun (ring sec : Nat) (h1 : ring < R) (h2 : sec < S) => per_both (hpre.ok hd) HFF.out.2.2.1 (by rw [HFF.out.2.2.2.2.1]; exact hV0.out.2) HFF.out.2.2.2.1 HFF.out.2.2.2.2.1 h1 h2)
    generalize cntL f bedIx (f.R * f.S * f.S) = BL at *
    generalize cntL f runIx (f.R * f.S * f.S) = RL at *
    have hRSM : Hid (R * S = M) := HFF.out.2.2.2.2.2.2
    clear h8 h9
    rw [hV0.out.1] at x3
    have hVS := hV0.out.2
    go_loopw [17] (fun c wr => ∃ n, wr = w9.drewN n ∧ ∃ k : Nat, k ≤ M ∧ c = .int .i64 k) (fun c _ => M - (intOf c).toNat)
    case atStart => exact ⟨0, rfl, 0, Nat.zero_le _, rfl⟩
    case round =>
      obtain ⟨n0, hwr, k, hk, rfl⟩ := hrel
      by_cases hlt : k < M
      · subst hwr
        have hkI : (k : Int) < M := by omega
        have hS0 : ((S : Int) == 0) = false := by simp; omega
        obtain ⟨ring, hring⟩ : ∃ ring, k / S = ring := ⟨_, rfl⟩
        obtain ⟨sec, hsec⟩ : ∃ sec, k % S = sec := ⟨_, rfl⟩
        have hks : ring * S + sec = k := by
          have := Nat.div_add_mod k S
          rw [hring, hsec, Nat.mul_comm] at this
          exact this
        have hsl : sec < S := by rw [← hsec]; exact Nat.mod_lt _ (by omega)
        have hrl : ring < R := by rw [← hring, Nat.div_lt_iff_lt_mul (by omega), hRSM.out]; exact hlt
        have e1 : (k : Int).tdiv S = ring := by rw [Int.tdiv_eq_ediv_of_nonneg (by omega), ← Int.natCast_ediv, hring]
        have e2 : (k : Int).tmod S = sec := by rw [Int.tmod_eq_emod_of_nonneg (by omega), ← Int.natCast_emod, hsec]
        obtain ⟨rs, hrs⟩ : ∃ rs, ring * S = rs := ⟨_, rfl⟩
        have e3 : (ring : Int) * S = rs := by rw [← hrs]; simp
        obtain ⟨so, hso⟩ : ∃ so, (sec + V) % S = so := ⟨_, rfl⟩
        have hsol : so < S := by rw [← hso]; exact Nat.mod_lt _ (by omega)
        have e4 : ((sec : Int) + V).tmod S = so := by rw [Int.tmod_eq_emod_of_nonneg (by omega), ← Int.natCast_add, ← Int.natCast_emod, hso]
        have hol : rs + so < M := by
          have := cell_lt hrl hsol
          rw [hRSM.out, hrs] at this
          exact this
        have e5 : (rs : Int) + so = ((rs + so : Nat) : Int) := by simp
        obtain ⟨hpb, hpn⟩ := HPER.out ring sec hrl hsl
        rw [hks, hso, hrs] at hpb hpn
        obtain ⟨ot, hot⟩ : ∃ ot, rs + so = ot := ⟨_, rfl⟩
        rw [hot] at hpb hpn hol e5
        have hotI : (ot : Int) < M := by omega
        have b1 := intRow_cell G8 (k := k) (by omega)
        have b2 := intRow_cell G8 (k := ot) (by omega)
        have n1 := intRow_cell G9 (k := k) (by omega)
        have n2 := intRow_cell G9 (k := ot) (by omega)
        rw [hpb] at b2
        rw [hpn] at n2
        generalize BL.getD k 0 = bv at *
        generalize RL.getD k 0 = nv at *
        have ew1 := IntWalk.i64_in (ring : Int) (by omega)
        have ew2 := IntWalk.i64_in (sec : Int) (by omega)
        have ew3 := IntWalk.i64_in (rs : Int) (by omega)
        have ew4 := IntWalk.i64_in (so : Int) (by omega)
        have ew5 := IntWalk.i64_in (ot : Int) (by omega)
        have ew6 := IntWalk.i64_in ((sec : Int) + V) (by omega)
        have hbl := G8.lt
        have hnl := G9.lt
        clear G8 G9 hlb hlr hpb hpn hring hsec hks hrs hso hot
        go_upto_region 21 with fail
        go_quiet (fail)
        go_upto_region 22 with fail
        go_quiet (fail)
        go_wp2_with fail
        go_roundw
        case rel => exact ⟨_, rfl, k + 1, by omega, by go_num⟩
        case measure => simp [intOf]; omega
      · obtain rfl : k = M := by omega
        have hB9 : Below w.heap.size w wr := by rw [hwr]; exact below_drewN (hB6.trans (hb69.mono hB6.size)) n0
        have hb6n : Below W6.heap.size W6 wr := by rw [hwr]; exact below_drewN hb69 n0
        clear G8 G9 hlb hlr HPER r3 r2 x3 hb69 hwr
        obtain ⟨WA, rfl⟩ : ∃ WA, WA = wr := ⟨_, rfl⟩
        have HST := Lib.hid (fun (X : World) (sec turn : Nat) (h : Below W6.heap.size W6 X) (h2 : sec < S) (h3 : turn < S) => steps_res HFF.out.1 hpre hd h HFF.out.2.2.2.2.1 HFF.out.2.2.2.2.2.1 h2 h3)
        have HCT := Lib.hid (fun (X : World) (sec turn : Nat) (h : Below W6.heap.size W6 X) (h2 : sec < S) (h3 : turn < S) => cuts_res HFF.out.1 hpre hd h HFF.out.2.2.2.2.1 HFF.out.2.2.2.2.2.1 h2 h3)
        have HRO := Lib.hid (fun (cnt : Mv → Int) (sec turn : Nat) (h2 : sec < S) (h3 : turn < S) (a b er a' b' er' : Int) => span_rot (cnt := cnt) (a := a) (b := b) (er := er) (a' := a') (b' := b') (er' := er') (hpre.ok hd) HFF.out.2.2.1 HFF.out.2.2.2.2.1 h2 h3)
        go_upto_region 25 with fail
        have E42 := neq42
        go_loopw [20] (fun v wr2 => ∃ s : Nat, s ≤ S ∧ v = .int .i64 s ∧ Below W6.heap.size W6 wr2) (fun v _ => S - (intOf v).toNat)
        case atStart => exact ⟨0, Nat.zero_le _, rfl, hb6n⟩
        case round =>
          clear hb6n hB9
          obtain ⟨s, hs, rfl, hbr⟩ := hrel
          have r2 := (HFA.out.keep hbr).cell 2
          simp at r2
          by_cases hsl : s < S
          · have hsI : (s : Int) < S := by omega
            go_upto_region 28 with fail
            clear r2
            go_loopw [21] (fun v wr3 => ∃ t : Nat, t ≤ S ∧ v = .int .i64 t ∧ Below W6.heap.size W6 wr3) (fun v _ => S - (intOf v).toNat)
            case atStart => exact ⟨0, Nat.zero_le _, rfl, hbr⟩
            case round =>
              clear hbr
              obtain ⟨t, ht, rfl, hbr⟩ := hrel
              have r2 := (HFA.out.keep hbr).cell 2
              simp at r2
              by_cases htl : t < S
              · have htI : (t : Int) < S := by omega
                have x3 := (HXX.out.keep hbr).cell 3
                simp at x3
                rw [hV0.out.1] at x3
                have hS0 : ((S : Int) == 0) = false := by simp; omega
                obtain ⟨so, hso⟩ : ∃ so, (s + V) % S = so := ⟨_, rfl⟩
                have hsol : so < S := by rw [← hso]; exact Nat.mod_lt _ (by omega)
                have e4 : ((s : Int) + V).tmod S = so := by rw [Int.tmod_eq_emod_of_nonneg (by omega), ← Int.natCast_add, ← Int.natCast_emod, hso]
                have ew4 := IntWalk.i64_in (so : Int) (by omega)
                have ew6 := IntWalk.i64_in ((s : Int) + V) (by omega)
                have x3a : (wr.alloc (.cells #[.int .i64 0, .int .i64 s, .int .i64 t] 40)).cell? ⟨w.heap.size, 3, none⟩ = some (.int .i64 V) := keepa x3
                have r2a : (wr.alloc (.cells #[.int .i64 0, .int .i64 s, .int .i64 t] 40)).cell? ⟨q1, 2, none⟩ = some (.int .i64 S) := keepa r2
                go_upto_region 32 with fail
                obtain ⟨Y0, hY0⟩ : ∃ Y0, ((wr.alloc (.cells #[.int .i64 0, .int .i64 s, .int .i64 t] 40)).alloc (.cells #[.int .i64 0, .int .i64 so, .int .i64 t] 40)) = Y0 := ⟨_, rfl⟩
                have BX : Bk Y0 wr.heap.size 40 #[.int .i64 0, .int .i64 s, .int .i64 t] := by rw [← hY0]; exact (bk_last rfl).alloc _
                have BY : Bk Y0 (wr.heap.size + 1) 40 #[.int .i64 0, .int .i64 so, .int .i64 t] := by rw [← hY0]; exact bk_last (by simp)
                have hy0 : Below W6.heap.size W6 Y0 := by rw [← hY0]; exact (hbr.alloc hbr.size _).alloc (by have := hbr.size; simp; omega) _
                rw [hY0]
                clear hY0 x3 x3a r2 r2a hbr
                have PB0 := HPB.out.keep hy0
                have p0 := PB0.cell 0
                have p1 := PB0.cell 1
                have p2 := PB0.cell 2
                have p3 := PB0.cell 3
                have p4 := PB0.cell 4
                have p5 := PB0.cell 5
                have p6 := PB0.cell 6
                have p7 := PB0.cell 7
                have p8 := PB0.cell 8
                have s0 := BX.cell 0
                have s1 := BX.cell 1
                have s2 := BX.cell 2
                simp at p0 p1 p2 p3 p4 p5 p6 p7 p8 s0 s1 s2
                clear PB0
                go_upto_region 33 with (go_at_call 10; refine (HST.out _ s t hy0 hsl htl).mono ?_; rintro e v1 ⟨a0, b0, er0, rfl, res0, hv0⟩)
                clear p0 p1 p2 p3 p4 p5 p6 p7 p8 s0 s1 s2
                obtain ⟨Y1, hY1⟩ : ∃ Y, v1.alloc (.cells #[.int .i64 a0, .int .i64 b0] 42) = Y := ⟨_, rfl⟩
                have hk0 : Below Y0.heap.size Y0 Y1 := by rw [← hY1]; exact hv0.alloc hv0.size _
                have hy1 := hy0.trans (hk0.mono hy0.size)
                have M0 : Bk Y1 v1.heap.size 42 #[.int .i64 a0, .int .i64 b0] := by rw [← hY1]; exact bk_last rfl
                replace BX := BX.keep hk0
                replace BY := BY.keep hk0
                rw [hY1]
                clear hY1 hk0 hv0
                have PB1 := HPB.out.keep hy1
                have p0 := PB1.cell 0
                have p1 := PB1.cell 1
                have p2 := PB1.cell 2
                have p3 := PB1.cell 3
                have p4 := PB1.cell 4
                have p5 := PB1.cell 5
                have p6 := PB1.cell 6
                have p7 := PB1.cell 7
                have p8 := PB1.cell 8
                have s0 := BY.cell 0
                have s1 := BY.cell 1
                have s2 := BY.cell 2
                simp at p0 p1 p2 p3 p4 p5 p6 p7 p8 s0 s1 s2
                clear PB1
                go_upto_region 34 with (go_at_call 10; refine (HST.out _ so t hy1 hsol htl).mono ?_; rintro e v2 ⟨a1, b1, er1, rfl, res1, hv1⟩)
                clear p0 p1 p2 p3 p4 p5 p6 p7 p8 s0 s1 s2
                obtain ⟨Y2, hY2⟩ : ∃ Y, v2.alloc (.cells #[.int .i64 a1, .int .i64 b1] 42) = Y := ⟨_, rfl⟩
                have hk1 : Below Y1.heap.size Y1 Y2 := by rw [← hY2]; exact hv1.alloc hv1.size _
                have hy2 := hy1.trans (hk1.mono hy1.size)
                have M1 : Bk Y2 v2.heap.size 42 #[.int .i64 a1, .int .i64 b1] := by rw [← hY2]; exact bk_last rfl
                replace BX := BX.keep hk1
                replace BY := BY.keep hk1
                replace M0 := M0.keep hk1
                rw [hY2]
                clear hY2 hk1 hv1
                have PB2 := HPB.out.keep hy2
                have p0 := PB2.cell 0
                have p1 := PB2.cell 1
                have p2 := PB2.cell 2
                have p3 := PB2.cell 3
                have p4 := PB2.cell 4
                have p5 := PB2.cell 5
                have p6 := PB2.cell 6
                have p7 := PB2.cell 7
                have p8 := PB2.cell 8
                have s0 := BX.cell 0
                have s1 := BX.cell 1
                have s2 := BX.cell 2
                simp at p0 p1 p2 p3 p4 p5 p6 p7 p8 s0 s1 s2
                clear PB2
                go_upto_region 35 with (go_at_call 11; refine (HCT.out _ s t hy2 hsl htl).mono ?_; rintro e v3 ⟨a2, b2, er2, rfl, res2, hv2⟩)
                clear p0 p1 p2 p3 p4 p5 p6 p7 p8 s0 s1 s2
                obtain ⟨Y3, hY3⟩ : ∃ Y, v3.alloc (.cells #[.int .i64 a2, .int .i64 b2] 42) = Y := ⟨_, rfl⟩
                have hk2 : Below Y2.heap.size Y2 Y3 := by rw [← hY3]; exact hv2.alloc hv2.size _
                have hy3 := hy2.trans (hk2.mono hy2.size)
                have M2 : Bk Y3 v3.heap.size 42 #[.int .i64 a2, .int .i64 b2] := by rw [← hY3]; exact bk_last rfl
                replace BX := BX.keep hk2
                replace BY := BY.keep hk2
                replace M0 := M0.keep hk2
                replace M1 := M1.keep hk2
                rw [hY3]
                clear hY3 hk2 hv2
                have PB3 := HPB.out.keep hy3
                have p0 := PB3.cell 0
                have p1 := PB3.cell 1
                have p2 := PB3.cell 2
                have p3 := PB3.cell 3
                have p4 := PB3.cell 4
                have p5 := PB3.cell 5
                have p6 := PB3.cell 6
                have p7 := PB3.cell 7
                have p8 := PB3.cell 8
                have s0 := BY.cell 0
                have s1 := BY.cell 1
                have s2 := BY.cell 2
                simp at p0 p1 p2 p3 p4 p5 p6 p7 p8 s0 s1 s2
                clear PB3
                go_upto_region 36 with (go_at_call 11; refine (HCT.out _ so t hy3 hsol htl).mono ?_; rintro e v4 ⟨a3, b3, er3, rfl, res3, hv3⟩)
                clear p0 p1 p2 p3 p4 p5 p6 p7 p8 s0 s1 s2
                obtain ⟨Y4, hY4⟩ : ∃ Y, v4.alloc (.cells #[.int .i64 a3, .int .i64 b3] 42) = Y := ⟨_, rfl⟩
                have hk3 : Below Y3.heap.size Y3 Y4 := by rw [← hY4]; exact hv3.alloc hv3.size _
                have hy4 := hy3.trans (hk3.mono hy3.size)
                have M3 : Bk Y4 v4.heap.size 42 #[.int .i64 a3, .int .i64 b3] := by rw [← hY4]; exact bk_last rfl
                replace BX := BX.keep hk3
                replace BY := BY.keep hk3
                replace M0 := M0.keep hk3
                replace M1 := M1.keep hk3
                replace M2 := M2.keep hk3
                rw [hY4]
                clear hY4 hk3 hv3
                rw [← hso] at res1 res3
                obtain ⟨rfl, rfl, rfl⟩ := HRO.out _ s t hsl htl _ _ _ _ _ _ res0 res1
                obtain ⟨rfl, rfl, rfl⟩ := HRO.out _ s t hsl htl _ _ _ _ _ _ res2 res3
                have c00 := M0.cell 0
                have c01 := M0.cell 1
                have c10 := M1.cell 0
                have c11 := M1.cell 1
                have c20 := M2.cell 0
                have c21 := M2.cell 1
                have c30 := M3.cell 0
                have c31 := M3.cell 1
                simp at c00 c01 c10 c11 c20 c21 c30 c31
                have HY4 := Lib.hid hy4
                clear M0 M1 M2 M3 BX BY res0 res1 res2 res3 hy0 hy1 hy2 hy3 hy4
                go_wp2_with fail
                go_roundw
                case rel => exact ⟨t + 1, by omega, by go_num, HY4.out⟩
                case measure => simp [intOf]; omega
              · obtain rfl : S = t := by omega
                go_wp2_with fail
                go_roundw
                case rel => exact ⟨s + 1, by omega, by go_num, hbr⟩
                case measure => simp [intOf]; omega
          · obtain rfl : S = s := by omega
            go_wp2_with fail
            go_ret
            exact ⟨rfl, hB6.trans (hbr.mono hB6.size)⟩
  · have ec : chkV f = 20 := by unfold chkV; rw [if_neg hd]
    rw [ec] at HC7
    clear ec
    go_wp2_with (go_at_call 7; refine (HC7.out).mono ?_; rintro e w7 ⟨rfl, hb7⟩)
    go_ret
    exact ⟨rfl, hB6.trans (hb7.mono hB6.size)⟩
end Go.Proofs.Ytkikjmkpndmdcaa
