/-
  What is proved: TruthGaps answers true.
-/
import Derived.Test.YthmngnfdfelkeaaAwake
import Derived.Test.YthmngnfdfelkeaaRGap4
namespace Go.Proofs.Ythmngnfdfelkeaa
open Go.RowKit
attribute [local go_sem ↓] max_int min_int

def standG (p : Gp) (z : GLoc) (lift turn least : Int) : Array Value := #[.slice z.a2 p.bed.length z.c2, .slice z.a3 p.run.length z.c3, .int .i64 lift, .int .i64 turn, .int .i64 least]

theorem rubsR_len (p : Gp) (l : Int) : (rubsR p l).1.length ≤ p.bed.length := by
  unfold rubsR
  exact Nat.le_trans (rubN_len _ _) (closeR_len l)
theorem gapsR_len (p : Gp) (l t : Int) : (gapsR p l t).1.length ≤ p.bed.length := by
  unfold gapsR
  split
  · split <;> simp
  · simp

set_option maxRecDepth 100000 in
set_option maxHeartbeats 8000000 in
theorem gaps_law (p : Gp) (z : GLoc) (lift turn least : Int) (w : World) (hp : GpAt w p z) :
    Calls Try.prog 9 #[p.f.val z.a1 z.c1, .agg (standG p z lift turn least)] w fun e w' => e = .returned (.bool true) ∧ Below w.heap.size w w' := by
  have F0 : Bk ((w.alloc (.cells (facC p z) 24)).alloc (.cells (standG p z lift turn least) 62)) w.heap.size 24 (facC p z) := (bk_last rfl).alloc _
  have S0 : Bk ((w.alloc (.cells (facC p z) 24)).alloc (.cells (standG p z lift turn least) 62)) (w.heap.size + 1) 62 (standG p z lift turn least) := bk_last (by simp)
  have hB0 : Below w.heap.size w ((w.alloc (.cells (facC p z) 24)).alloc (.cells (standG p z lift turn least) 62)) := ((Below.refl _ _).alloc (Nat.le_refl _) _).alloc (by simp) _
  have H35 : Hid (∀ W, Below w.heap.size w W → Calls Try.prog 35 #[.agg (facC p z), .slice z.a2 p.bed.length z.c2, .slice z.a3 p.run.length z.c3, .int .i64 lift, .int .i64 turn] W fun e w' => ∃ v, e = .returned (.tuple #[v, .int .i64 (gapsR p lift turn).2]) ∧ w'.ownsRow W.heap.size 3 1 v (gapsR p lift turn).1.length (intCells (gapsR p lift turn).1) ∧ Below W.heap.size W w') := fun W h => gapsT_any p z lift turn W (hp.below h)
  have H36 : Hid (∀ W, Below w.heap.size w W → Calls Try.prog 36 #[.agg (facC p z), .slice z.a2 p.bed.length z.c2, .slice z.a3 p.run.length z.c3, .int .i64 lift, .int .i64 turn] W fun e w' => ∃ v, e = .returned (.tuple #[v, .int .i64 (gapsR p lift turn).2]) ∧ w'.ownsRow W.heap.size 3 1 v (gapsR p lift turn).1.length (intCells (gapsR p lift turn).1) ∧ Below W.heap.size W w') := fun W h => gapsF_any p z lift turn W (hp.below h)
  have H37 : Hid (∀ W, Below w.heap.size w W → Calls Try.prog 37 #[.agg (facC p z), .slice z.a2 p.bed.length z.c2, .slice z.a3 p.run.length z.c3, .int .i64 lift] W fun e w' => ∃ v, e = .returned (.tuple #[v, .int .i64 (closeR p lift).2]) ∧ w'.ownsRow W.heap.size 3 1 v (closeR p lift).1.length (intCells (closeR p lift).1) ∧ Below W.heap.size W w') := fun W h => closest_any p z lift W (hp.below h)
  have H38 : Hid (∀ W, Below w.heap.size w W → Calls Try.prog 38 #[.agg (facC p z), .slice z.a2 p.bed.length z.c2, .slice z.a3 p.run.length z.c3, .int .i64 lift] W fun e w' => ∃ v, e = .returned (.tuple #[v, .int .i64 (closeR p lift).2]) ∧ w'.ownsRow W.heap.size 3 1 v (closeR p lift).1.length (intCells (closeR p lift).1) ∧ Below W.heap.size W w') := fun W h => closestF_any p z lift W (hp.below h)
  have H39 : Hid (p.bed.length ≤ 100000 → ∀ W, Below w.heap.size w W → Calls Try.prog 39 #[.agg (facC p z), .slice z.a2 p.bed.length z.c2, .slice z.a3 p.run.length z.c3, .int .i64 lift] W fun e w' => ∃ v, e = .returned (.tuple #[v, .int .i64 (rubsR p lift).2]) ∧ w'.ownsRow W.heap.size 3 1 v (rubsR p lift).1.length (intCells (rubsR p lift).1) ∧ Below W.heap.size W w') := fun hl W h => rubsT_any p z lift W (hp.below h) hl
  have H40 : Hid (p.bed.length ≤ 100000 → ∀ W, Below w.heap.size w W → Calls Try.prog 40 #[.agg (facC p z), .slice z.a2 p.bed.length z.c2, .slice z.a3 p.run.length z.c3, .int .i64 lift] W fun e w' => ∃ v, e = .returned (.tuple #[v, .int .i64 (rubsR p lift).2]) ∧ w'.ownsRow W.heap.size 3 1 v (rubsR p lift).1.length (intCells (rubsR p lift).1) ∧ Below W.heap.size W w') := fun hl W h => rubsF_any p z lift W (hp.below h) hl
  have H41 : Hid (∀ W, Below w.heap.size w W → Calls Try.prog 41 #[.agg (facC p z), .slice z.a2 p.bed.length z.c2, .slice z.a3 p.run.length z.c3, .int .i64 least] W fun e w' => e = .returned (.tuple #[.int .i64 (liftR p least).1, .int .i64 (liftR p least).2]) ∧ Below W.heap.size W w') := fun W h => liftT_any p z least W (hp.below h)
  have H42 : Hid (∀ W, Below w.heap.size w W → Calls Try.prog 42 #[.agg (facC p z), .slice z.a2 p.bed.length z.c2, .slice z.a3 p.run.length z.c3, .int .i64 least] W fun e w' => e = .returned (.tuple #[.int .i64 (liftR p least).1, .int .i64 (liftR p least).2]) ∧ Below W.heap.size W w') := fun W h => liftF_any p z least W (hp.below h)
  have n1 := hp.n1
  have n2 := hp.n2
  have n3 := hp.n3
  have L1 := gapsR_len p lift turn
  have L2 := closeR_len (p := p) lift
  have L3 := rubsR_len p lift
  unfold facC standG at *
  unfold Fac.val
  generalize gapsR p lift turn = RG at *
  generalize closeR p lift = RC at *
  generalize rubsR p lift = RR at *
  generalize liftR p least = RL at *
  obtain ⟨G1, G2⟩ := RG
  obtain ⟨C1, C2⟩ := RC
  obtain ⟨R1, R2⟩ := RR
  obtain ⟨K1, K2⟩ := RL
  simp only at H35 H36 H37 H38 H39 H40 H41 H42 L1 L2 L3
  go_enter Try.func9, Try.ntmps9
  go_wp2_with fail
  generalize (w.alloc (.cells _ 24)).alloc (.cells _ 62) = V at *
  refine (awake_any _).mono ?_
  rintro e w1 ⟨rfl, hb1⟩
  have F1 := F0.keep hb1
  have S1 := S0.keep hb1
  have hB1 := hB0.trans (hb1.mono hB0.size)
  clear F0 S0 hB0 hb1
  have f0 := F1.cell 0
  have f1 := F1.cell 1
  have f2 := F1.cell 2
  have f3 := F1.cell 3
  have s0 := S1.cell 0
  have s1 := S1.cell 1
  have s2 := S1.cell 2
  have s3 := S1.cell 3
  have s4 := S1.cell 4
  simp at f0 f1 f2 f3 s0 s1 s2 s3 s4
  by_cases m1 : (p.f.kinds.length : Int) ≤ 300
  · by_cases m2 : (p.bed.length : Int) ≤ 300
    · by_cases m3 : (p.run.length : Int) ≤ 300
      · have hlen : p.bed.length ≤ 100000 := by omega
        have H39' := Lib.hid (H39.out hlen)
        have H40' := Lib.hid (H40.out hlen)
        clear H39 H40
        go_wp2_with fail
        refine (H35.out _ hB1).mono ?_
        rintro e w2 ⟨v2, rfl, ho2, hb2⟩
        obtain ⟨A2, c2, rfl, _, hr2, _⟩ := own_form ho2
        clear ho2
        have F2 := F1.keep hb2
        have S2 := S1.keep hb2
        have hB2 := hB1.trans (hb2.mono hB1.size)
        clear F1 S1 hB1 hb2 f0 f1 f2 f3 s0 s1 s2 s3 s4 H35
        have f0 := F2.cell 0
        have f1 := F2.cell 1
        have f2 := F2.cell 2
        have f3 := F2.cell 3
        have s0 := S2.cell 0
        have s1 := S2.cell 1
        have s2 := S2.cell 2
        have s3 := S2.cell 3
        have s4 := S2.cell 4
        simp at f0 f1 f2 f3 s0 s1 s2 s3 s4
        go_wp2_with fail
        refine (H36.out _ hB2).mono ?_
        rintro e w3 ⟨v3, rfl, ho3, hb3⟩
        obtain ⟨A3, c3, rfl, _, hr3, _⟩ := own_form ho3
        clear ho3
        have F3 := F2.keep hb3
        have S3 := S2.keep hb3
        have hB3 := hB2.trans (hb3.mono hB2.size)
        replace hr2 := hr2.below hb3
        clear F2 S2 hB2 hb3 f0 f1 f2 f3 s0 s1 s2 s3 s4 H36
        have f0 := F3.cell 0
        have f1 := F3.cell 1
        have f2 := F3.cell 2
        have f3 := F3.cell 3
        have s0 := S3.cell 0
        have s1 := S3.cell 1
        have s2 := S3.cell 2
        have s3 := S3.cell 3
        have s4 := S3.cell 4
        simp at f0 f1 f2 f3 s0 s1 s2 s3 s4
        go_wp2_with fail
        refine (H37.out _ hB3).mono ?_
        rintro e w4 ⟨v4, rfl, ho4, hb4⟩
        obtain ⟨A4, c4, rfl, _, hr4, _⟩ := own_form ho4
        clear ho4
        have F4 := F3.keep hb4
        have S4 := S3.keep hb4
        have hB4 := hB3.trans (hb4.mono hB3.size)
        replace hr2 := hr2.below hb4
        replace hr3 := hr3.below hb4
        clear F3 S3 hB3 hb4 f0 f1 f2 f3 s0 s1 s2 s3 s4 H37
        have f0 := F4.cell 0
        have f1 := F4.cell 1
        have f2 := F4.cell 2
        have f3 := F4.cell 3
        have s0 := S4.cell 0
        have s1 := S4.cell 1
        have s2 := S4.cell 2
        have s3 := S4.cell 3
        have s4 := S4.cell 4
        simp at f0 f1 f2 f3 s0 s1 s2 s3 s4
        go_wp2_with fail
        refine (H38.out _ hB4).mono ?_
        rintro e w5 ⟨v5, rfl, ho5, hb5⟩
        obtain ⟨A5, c5, rfl, _, hr5, _⟩ := own_form ho5
        clear ho5
        have F5 := F4.keep hb5
        have S5 := S4.keep hb5
        have hB5 := hB4.trans (hb5.mono hB4.size)
        replace hr2 := hr2.below hb5
        replace hr3 := hr3.below hb5
        replace hr4 := hr4.below hb5
        clear F4 S4 hB4 hb5 f0 f1 f2 f3 s0 s1 s2 s3 s4 H38
        have f0 := F5.cell 0
        have f1 := F5.cell 1
        have f2 := F5.cell 2
        have f3 := F5.cell 3
        have s0 := S5.cell 0
        have s1 := S5.cell 1
        have s2 := S5.cell 2
        have s3 := S5.cell 3
        have s4 := S5.cell 4
        simp at f0 f1 f2 f3 s0 s1 s2 s3 s4
        go_wp2_with fail
        refine (H39'.out _ hB5).mono ?_
        rintro e w6 ⟨v6, rfl, ho6, hb6⟩
        obtain ⟨A6, c6, rfl, _, hr6, _⟩ := own_form ho6
        clear ho6
        have F6 := F5.keep hb6
        have S6 := S5.keep hb6
        have hB6 := hB5.trans (hb6.mono hB5.size)
        replace hr2 := hr2.below hb6
        replace hr3 := hr3.below hb6
        replace hr4 := hr4.below hb6
        replace hr5 := hr5.below hb6
        clear F5 S5 hB5 hb6 f0 f1 f2 f3 s0 s1 s2 s3 s4 H39'
        have f0 := F6.cell 0
        have f1 := F6.cell 1
        have f2 := F6.cell 2
        have f3 := F6.cell 3
        have s0 := S6.cell 0
        have s1 := S6.cell 1
        have s2 := S6.cell 2
        have s3 := S6.cell 3
        have s4 := S6.cell 4
        simp at f0 f1 f2 f3 s0 s1 s2 s3 s4
        go_wp2_with fail
        refine (H40'.out _ hB6).mono ?_
        rintro e w7 ⟨v7, rfl, ho7, hb7⟩
        obtain ⟨A7, c7, rfl, _, hr7, _⟩ := own_form ho7
        clear ho7
        have F7 := F6.keep hb7
        have S7 := S6.keep hb7
        have hB7 := hB6.trans (hb7.mono hB6.size)
        replace hr2 := hr2.below hb7
        replace hr3 := hr3.below hb7
        replace hr4 := hr4.below hb7
        replace hr5 := hr5.below hb7
        replace hr6 := hr6.below hb7
        clear F6 S6 hB6 hb7 f0 f1 f2 f3 s0 s1 s2 s3 s4 H40'
        have f0 := F7.cell 0
        have f1 := F7.cell 1
        have f2 := F7.cell 2
        have f3 := F7.cell 3
        have s0 := S7.cell 0
        have s1 := S7.cell 1
        have s2 := S7.cell 2
        have s3 := S7.cell 3
        have s4 := S7.cell 4
        simp at f0 f1 f2 f3 s0 s1 s2 s3 s4
        go_wp2_with fail
        refine (H41.out _ hB7).mono ?_
        rintro e w8 ⟨rfl, hb8⟩
        have F8 := F7.keep hb8
        have S8 := S7.keep hb8
        have hB8 := hB7.trans (hb8.mono hB7.size)
        replace hr2 := hr2.below hb8
        replace hr3 := hr3.below hb8
        replace hr4 := hr4.below hb8
        replace hr5 := hr5.below hb8
        replace hr6 := hr6.below hb8
        replace hr7 := hr7.below hb8
        clear F7 S7 hB7 hb8 f0 f1 f2 f3 s0 s1 s2 s3 s4 H41
        have f0 := F8.cell 0
        have f1 := F8.cell 1
        have f2 := F8.cell 2
        have f3 := F8.cell 3
        have s0 := S8.cell 0
        have s1 := S8.cell 1
        have s2 := S8.cell 2
        have s3 := S8.cell 3
        have s4 := S8.cell 4
        simp at f0 f1 f2 f3 s0 s1 s2 s3 s4
        go_wp2_with fail
        refine (H42.out _ hB8).mono ?_
        rintro e w9 ⟨rfl, hb9⟩
        have F9 := F8.keep hb9
        have S9 := S8.keep hb9
        have hB9 := hB8.trans (hb9.mono hB8.size)
        replace hr2 := hr2.below hb9
        replace hr3 := hr3.below hb9
        replace hr4 := hr4.below hb9
        replace hr5 := hr5.below hb9
        replace hr6 := hr6.below hb9
        replace hr7 := hr7.below hb9
        clear F8 S8 hB8 hb9 f0 f1 f2 f3 s0 s1 s2 s3 s4 H42
        have f0 := F9.cell 0
        have f1 := F9.cell 1
        have f2 := F9.cell 2
        have f3 := F9.cell 3
        have s0 := S9.cell 0
        have s1 := S9.cell 1
        have s2 := S9.cell 2
        have s3 := S9.cell 3
        have s4 := S9.cell 4
        simp at f0 f1 f2 f3 s0 s1 s2 s3 s4
        have q1 : (G2 == G2) = true := by simp
        have q2 : (C2 == C2) = true := by simp
        have q3 : (R2 == R2) = true := by simp
        have q4 : (K2 == K2) = true := by simp
        have q5 : (K1 == K1) = true := by simp
        go_wp2_with fail
        refine (sameInts_any A2 A3 c2 c3 G1 G1 _ hr2 hr3 (by omega) (by omega)).mono ?_
        rintro e w20 ⟨rfl, n20, hw20⟩
        simp only [decide_true]
        have hB20 := below_drewN hB9 n20
        rw [← hw20] at hB20
        have hq4 := hr4.drewN n20
        rw [← hw20] at hq4
        have hq6 := hr6.drewN n20
        rw [← hw20] at hq6
        have hq5 := hr5.drewN n20
        rw [← hw20] at hq5
        have hq7 := hr7.drewN n20
        rw [← hw20] at hq7
        clear hw20 hB9 hr4 hr6 hr5 hr7
        have hr4 := hq4
        have hr6 := hq6
        have hr5 := hq5
        have hr7 := hq7
        clear hq4 hq6 hq5 hq7
        go_wp2_with fail
        refine (sameInts_any A4 A5 c4 c5 C1 C1 _ hr4 hr5 (by omega) (by omega)).mono ?_
        rintro e w21 ⟨rfl, n21, hw21⟩
        simp only [decide_true]
        have hB21 := below_drewN hB20 n21
        rw [← hw21] at hB21
        have hq6 := hr6.drewN n21
        rw [← hw21] at hq6
        have hq7 := hr7.drewN n21
        rw [← hw21] at hq7
        clear hw21 hB20 hr6 hr7
        have hr6 := hq6
        have hr7 := hq7
        clear hq6 hq7
        go_wp2_with fail
        refine (sameInts_any A6 A7 c6 c7 R1 R1 _ hr6 hr7 (by omega) (by omega)).mono ?_
        rintro e w22 ⟨rfl, n22, hw22⟩
        simp only [decide_true]
        have hB22 := below_drewN hB21 n22
        rw [← hw22] at hB22
        clear hw22 hB21
        go_wp2_with fail
        go_ret
        exact ⟨rfl, hB22⟩
      · have m3' : 300 < (p.run.length : Int) := by omega
        go_wp2_with fail
        go_ret
        exact ⟨rfl, hB1⟩
    · have m2' : 300 < (p.bed.length : Int) := by omega
      go_wp2_with fail
      go_ret
      exact ⟨rfl, hB1⟩
  · have m1' : 300 < (p.f.kinds.length : Int) := by omega
    go_wp2_with fail
    go_ret
    exact ⟨rfl, hB1⟩

end Go.Proofs.Ythmngnfdfelkeaa
