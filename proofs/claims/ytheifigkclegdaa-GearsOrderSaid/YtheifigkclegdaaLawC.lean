/-
  What is proved: the walk of GearsOrder.
-/
import Derived.Test.YtheifigkclegdaaLawO
import Derived.Test.YtheifigkclegdaaOrd
namespace Go.Proofs.Ytheifigkclegdaa
open Go.RowKit
attribute [local go_sem] Res.val

set_option maxRecDepth 100000 in
set_option maxHeartbeats 16000000 in
theorem order_bad (a b c d e f : Int) (w : World) (h1 : Hid (Ret 51 #[.agg #[.int .i64 a, .int .i64 b], .agg #[.int .i64 c, .int .i64 d]] (pairV (0, 71)))) (h2 : Hid (Ret 51 #[.agg #[.int .i64 c, .int .i64 d], .agg #[.int .i64 a, .int .i64 b]] (pairV (0, 71)))) :
    Calls Try.prog 14 #[.agg #[.int .i64 a, .int .i64 b], .agg #[.int .i64 c, .int .i64 d], .agg #[.int .i64 e, .int .i64 f]] w fun e w' => e = .returned (.bool true) ∧ Below w.heap.size w w' := by
  go_enter Try.func14, Try.ntmps14
  go_wp2_with fail
  refine (awake_any _).mono ?_
  rintro e' w0 ⟨rfl, hb0⟩
  have A : Bk w0 w.heap.size 42 #[.int .i64 a, .int .i64 b] := (((bk_last rfl).alloc _).alloc _).keep hb0
  have B : Bk w0 (w.heap.size + 1) 42 #[.int .i64 c, .int .i64 d] := ((bk_last (by simp)).alloc _).keep hb0
  have C : Bk w0 (w.heap.size + 1 + 1) 42 #[.int .i64 e, .int .i64 f] := (bk_last (by simp)).keep hb0
  have hB0 : Below w.heap.size w w0 := ((((Below.refl w.heap.size w).alloc (Nat.le_refl _) _).alloc (by simp <;> omega) _).alloc (by simp <;> omega) _).trans (hb0.mono (by simp <;> omega))
  clear hb0
  have Ac0 := A.cell 0
  have Ac1 := A.cell 1
  simp at Ac0 Ac1
  have Al := A.lt
  have Bc0 := B.cell 0
  have Bc1 := B.cell 1
  simp at Bc0 Bc1
  have Bl := B.lt
  go_wp2_with fail
  refine (h1.out _).mono ?_
  rintro e' w1 ⟨rfl, hb1⟩
  replace A := A.keep hb1
  replace B := B.keep hb1
  replace C := C.keep hb1
  have hB1 := hB0.trans (hb1.mono hB0.size)
  clear Ac0 Ac1 Al Bc0 Bc1 Bl
  clear hb1 hB0
  have Ac0 := A.cell 0
  have Ac1 := A.cell 1
  simp at Ac0 Ac1
  have Al := A.lt
  have Bc0 := B.cell 0
  have Bc1 := B.cell 1
  simp at Bc0 Bc1
  have Bl := B.lt
  unfold pairV
  go_wp2_with fail
  refine (h2.out _).mono ?_
  rintro e' w2 ⟨rfl, hb2⟩
  replace A := A.keep hb2
  replace B := B.keep hb2
  replace C := C.keep hb2
  have hB2 := hB1.trans (hb2.mono hB1.size)
  clear Ac0 Ac1 Al Bc0 Bc1 Bl
  clear hb2 hB1
  unfold pairV
  go_wp2_with fail
  go_ret
  exact ⟨rfl, hB2⟩

set_option maxRecDepth 100000 in
set_option maxHeartbeats 16000000 in
theorem order_core (a b c d e f n : Int) (x y p q : Res) (w : World) (hn1 : -1 ≤ n) (hn2 : n ≤ 1) (heq : n = 0 ↔ (a = c ∧ b = d))
    (h1 : Hid (Ret 51 #[.agg #[.int .i64 a, .int .i64 b], .agg #[.int .i64 c, .int .i64 d]] (pairV (n, 0)))) (h2 : Hid (Ret 51 #[.agg #[.int .i64 c, .int .i64 d], .agg #[.int .i64 a, .int .i64 b]] (pairV (-n, 0))))
    (h3 : Hid (Ret 36 #[.agg #[.int .i64 a, .int .i64 b], .agg #[.int .i64 e, .int .i64 f]] x.val)) (h4 : Hid (Ret 36 #[.agg #[.int .i64 c, .int .i64 d], .agg #[.int .i64 e, .int .i64 f]] y.val)) (h5 : Hid (x.err = 0 → y.err = 0 → Ret 51 #[.agg #[.int .i64 x.num, .int .i64 x.den], .agg #[.int .i64 y.num, .int .i64 y.den]] (pairV (n, 0))))
    (h6 : Hid (Ret 35 #[.agg #[.int .i64 a, .int .i64 b], .agg #[.int .i64 e, .int .i64 f]] p.val)) (h7 : Hid (Ret 35 #[.agg #[.int .i64 c, .int .i64 d], .agg #[.int .i64 e, .int .i64 f]] q.val)) (h8 : Hid (0 < e → p.err = 0 → q.err = 0 → Ret 51 #[.agg #[.int .i64 p.num, .int .i64 p.den], .agg #[.int .i64 q.num, .int .i64 q.den]] (pairV (n, 0)))) :
    Calls Try.prog 14 #[.agg #[.int .i64 a, .int .i64 b], .agg #[.int .i64 c, .int .i64 d], .agg #[.int .i64 e, .int .i64 f]] w fun e w' => e = .returned (.bool true) ∧ Below w.heap.size w w' := by
  have E42 := eq42
  obtain ⟨xn, xd, xe⟩ := x
  obtain ⟨yn, yd, ye⟩ := y
  obtain ⟨pn, pd, pe⟩ := p
  obtain ⟨qn, qd, qe⟩ := q
  simp only at h5 h8
  go_enter Try.func14, Try.ntmps14
  go_wp2_with fail
  refine (awake_any _).mono ?_
  rintro e' w0 ⟨rfl, hb0⟩
  have A : Bk w0 w.heap.size 42 #[.int .i64 a, .int .i64 b] := (((bk_last rfl).alloc _).alloc _).keep hb0
  have B : Bk w0 (w.heap.size + 1) 42 #[.int .i64 c, .int .i64 d] := ((bk_last (by simp)).alloc _).keep hb0
  have C : Bk w0 (w.heap.size + 1 + 1) 42 #[.int .i64 e, .int .i64 f] := (bk_last (by simp)).keep hb0
  have hB0 : Below w.heap.size w w0 := ((((Below.refl w.heap.size w).alloc (Nat.le_refl _) _).alloc (by simp <;> omega) _).alloc (by simp <;> omega) _).trans (hb0.mono (by simp <;> omega))
  clear hb0
  have Ac0 := A.cell 0
  have Ac1 := A.cell 1
  simp at Ac0 Ac1
  have Al := A.lt
  have Bc0 := B.cell 0
  have Bc1 := B.cell 1
  simp at Bc0 Bc1
  have Bl := B.lt
  go_wp2_with fail
  refine (h1.out _).mono ?_
  rintro e' w1 ⟨rfl, hb1⟩
  replace A := A.keep hb1
  replace B := B.keep hb1
  replace C := C.keep hb1
  have hB1 := hB0.trans (hb1.mono hB0.size)
  clear Ac0 Ac1 Al Bc0 Bc1 Bl
  clear hb1 hB0
  have Ac0 := A.cell 0
  have Ac1 := A.cell 1
  simp at Ac0 Ac1
  have Al := A.lt
  have Bc0 := B.cell 0
  have Bc1 := B.cell 1
  simp at Bc0 Bc1
  have Bl := B.lt
  unfold pairV
  go_wp2_with fail
  refine (h2.out _).mono ?_
  rintro e' w2 ⟨rfl, hb2⟩
  replace A := A.keep hb2
  replace B := B.keep hb2
  replace C := C.keep hb2
  have hB2 := hB1.trans (hb2.mono hB1.size)
  clear Ac0 Ac1 Al Bc0 Bc1 Bl
  clear hb2 hB1
  have Ac0 := A.cell 0
  have Ac1 := A.cell 1
  simp at Ac0 Ac1
  have Al := A.lt
  have Bc0 := B.cell 0
  have Bc1 := B.cell 1
  simp at Bc0 Bc1
  have Bl := B.lt
  have Cc0 := C.cell 0
  have Cc1 := C.cell 1
  simp at Cc0 Cc1
  have Cl := C.lt
  have HJ : Hid ((n == 0) = (a == c && b == d)) := by
    unfold Hid
    by_cases hz : n = 0
    · obtain ⟨u, v⟩ := heq.1 hz
      subst u v
      simp [hz]
    · have : ¬ (a = c ∧ b = d) := fun h => hz (heq.2 h)
      have e1 : (n == 0) = false := by simpa using hz
      rw [e1]
      by_cases u : a = c
      · have v : ¬ b = d := fun h => this ⟨u, h⟩
        simp [u, v]
      · simp [u]
  clear heq
  obtain ⟨z, hz⟩ : ∃ z, (a == c && b == d) = z := ⟨_, rfl⟩
  have hz0 : (n == 0) = z := by rw [HJ.out, hz]
  clear HJ
  unfold pairV
  go_wp2_with fail
  refine (h3.out _).mono ?_
  rintro e' w3 ⟨rfl, hb3⟩
  replace A := A.keep hb3
  replace B := B.keep hb3
  replace C := C.keep hb3
  have hB3 := hB2.trans (hb3.mono hB2.size)
  clear Ac0 Ac1 Al Bc0 Bc1 Bl Cc0 Cc1 Cl
  clear hb3 hB2
  have z1 : w.heap.size + 1 + 1 < w3.heap.size := C.lt
  have Bc0 := B.cell 0
  have Bc1 := B.cell 1
  simp at Bc0 Bc1
  have Bl := B.lt
  have Cc0 := C.cell 0
  have Cc1 := C.cell 1
  simp at Cc0 Cc1
  have Cl := C.lt
  go_wp2_with fail
  refine (h4.out _).mono ?_
  rintro e' w4 ⟨rfl, hb4⟩
  have R12 : Bk w4 w3.heap.size 42 #[.int .i64 xn, .int .i64 xd] := (bk_last rfl).keep hb4
  replace A := (A.alloc _).keep hb4
  replace B := (B.alloc _).keep hb4
  replace C := (C.alloc _).keep hb4
  have hB4 : Below w.heap.size w w4 := (hB3.alloc hB3.size _).trans (hb4.mono (by have := hB3.size; simp; omega))
  clear Bc0 Bc1 Bl Cc0 Cc1 Cl
  clear hb4 hB3
  have z2 : w3.heap.size < w4.heap.size := R12.lt
  by_cases q1 : xe = 0
  · by_cases q2 : ye = 0
    · have hk := h5.out q1 q2
      subst q1 q2
      have R12c0 := R12.cell 0
      have R12c1 := R12.cell 1
      simp at R12c0 R12c1
      have R12l := R12.lt
      go_wp2_with fail
      refine (hk _).mono ?_
      rintro e' w5 ⟨rfl, hb5⟩
      have R14 : Bk w5 w4.heap.size 42 #[.int .i64 yn, .int .i64 yd] := (bk_last rfl).keep hb5
      replace A := (A.alloc _).keep hb5
      replace B := (B.alloc _).keep hb5
      replace C := (C.alloc _).keep hb5
      replace R12 := (R12.alloc _).keep hb5
      have hB5 : Below w.heap.size w w5 := (hB4.alloc hB4.size _).trans (hb5.mono (by have := hB4.size; simp; omega))
      clear R12c0 R12c1 R12l
      clear hb5 hB4
      unfold pairV
      clear hk
      have Ac0 := A.cell 0
      have Ac1 := A.cell 1
      simp at Ac0 Ac1
      have Al := A.lt
      have Cc0 := C.cell 0
      have Cc1 := C.cell 1
      simp at Cc0 Cc1
      have Cl := C.lt
      go_wp2_with fail
      refine (h6.out _).mono ?_
      rintro e' w6 ⟨rfl, hb6⟩
      replace A := A.keep hb6
      replace B := B.keep hb6
      replace C := C.keep hb6
      replace R12 := R12.keep hb6
      replace R14 := R14.keep hb6
      have hB6 := hB5.trans (hb6.mono hB5.size)
      clear Ac0 Ac1 Al Cc0 Cc1 Cl
      clear hb6 hB5
      have Bc0 := B.cell 0
      have Bc1 := B.cell 1
      simp at Bc0 Bc1
      have Bl := B.lt
      have Cc0 := C.cell 0
      have Cc1 := C.cell 1
      simp at Cc0 Cc1
      have Cl := C.lt
      have R12c0 := R12.cell 0
      have R12c1 := R12.cell 1
      simp at R12c0 R12c1
      have R12l := R12.lt
      have R12f0 := R12.fz 0
      have R12f1 := R12.fz 1
      go_wp2_with fail
      refine (h7.out _).mono ?_
      rintro e' w7 ⟨rfl, hb7⟩
      replace A := (((A.far (by simp; omega) _).far (by simp; omega) _)).keep hb7
      replace B := (((B.far (by simp; omega) _).far (by simp; omega) _)).keep hb7
      replace C := (((C.far (by simp; omega) _).far (by simp; omega) _)).keep hb7
      replace R14 := (((R14.far (by simp; omega) _).far (by simp; omega) _)).keep hb7
      replace R12 : Bk w7 w3.heap.size 42 #[.int .i64 pn, .int .i64 pd] := by simpa using ((R12.put 0 _).put 1 _).keep hb7
      have hB7 : Below w.heap.size w w7 := ((hB6.setCell (by simp; omega) _).setCell (by simp; omega) _).trans (hb7.mono (by have := hB6.size; simp; omega))
      clear Bc0 Bc1 Bl Cc0 Cc1 Cl R12c0 R12c1 R12l
      clear hb7 hB6 R12f0 R12f1
      have Cc0 := C.cell 0
      have Cc1 := C.cell 1
      simp at Cc0 Cc1
      have Cl := C.lt
      have R12c0 := R12.cell 0
      have R12c1 := R12.cell 1
      simp at R12c0 R12c1
      have R12l := R12.lt
      have R14c0 := R14.cell 0
      have R14c1 := R14.cell 1
      simp at R14c0 R14c1
      have R14l := R14.lt
      have R14f0 := R14.fz 0
      have R14f1 := R14.fz 1
      by_cases q1 : pe = 0
      · by_cases q2 : qe = 0
        · by_cases q3 : 0 < e
          · have hk := h8.out q3 q1 q2
            subst q1 q2
            go_wp2_with fail
            refine (hk _).mono ?_
            rintro e' wz ⟨rfl, hbz⟩
            have hBz : Below w.heap.size w wz := ((hB7.setCell (by simp; omega) _).setCell (by simp; omega) _).trans (hbz.mono (by have := hB7.size; simp; omega))
            clear hbz hk
            unfold pairV
            go_wp2_with fail
            go_ret
            exact ⟨rfl, hBz⟩
          · subst q1 q2
            go_wp2_with fail
            go_ret
            exact ⟨rfl, (hB7.setCell (by simp; omega) _).setCell (by simp; omega) _⟩
        · subst q1
          have q2' : ((qe : Int) == 0) = false := by simp; omega
          go_wp2_with fail
          go_ret
          exact ⟨rfl, (hB7.setCell (by simp; omega) _).setCell (by simp; omega) _⟩
      · have q1' : ((pe : Int) == 0) = false := by simp; omega
        go_wp2_with fail
        go_ret
        exact ⟨rfl, (hB7.setCell (by simp; omega) _).setCell (by simp; omega) _⟩
    · subst q1
      have q2' : ((ye : Int) == 0) = false := by simp; omega
      have Ac0 := A.cell 0
      have Ac1 := A.cell 1
      simp at Ac0 Ac1
      have Al := A.lt
      have Cc0 := C.cell 0
      have Cc1 := C.cell 1
      simp at Cc0 Cc1
      have Cl := C.lt
      go_wp2_with fail
      refine (h6.out _).mono ?_
      rintro e' w5 ⟨rfl, hb5⟩
      have R14 : Bk w5 w4.heap.size 42 #[.int .i64 yn, .int .i64 yd] := (bk_last rfl).keep hb5
      replace A := (A.alloc _).keep hb5
      replace B := (B.alloc _).keep hb5
      replace C := (C.alloc _).keep hb5
      replace R12 := (R12.alloc _).keep hb5
      have hB5 : Below w.heap.size w w5 := (hB4.alloc hB4.size _).trans (hb5.mono (by have := hB4.size; simp; omega))
      clear Ac0 Ac1 Al Cc0 Cc1 Cl
      clear hb5 hB4
      have Bc0 := B.cell 0
      have Bc1 := B.cell 1
      simp at Bc0 Bc1
      have Bl := B.lt
      have Cc0 := C.cell 0
      have Cc1 := C.cell 1
      simp at Cc0 Cc1
      have Cl := C.lt
      have R12c0 := R12.cell 0
      have R12c1 := R12.cell 1
      simp at R12c0 R12c1
      have R12l := R12.lt
      have R12f0 := R12.fz 0
      have R12f1 := R12.fz 1
      go_wp2_with fail
      refine (h7.out _).mono ?_
      rintro e' w6 ⟨rfl, hb6⟩
      replace A := (((A.far (by simp; omega) _).far (by simp; omega) _)).keep hb6
      replace B := (((B.far (by simp; omega) _).far (by simp; omega) _)).keep hb6
      replace C := (((C.far (by simp; omega) _).far (by simp; omega) _)).keep hb6
      replace R14 := (((R14.far (by simp; omega) _).far (by simp; omega) _)).keep hb6
      replace R12 : Bk w6 w3.heap.size 42 #[.int .i64 pn, .int .i64 pd] := by simpa using ((R12.put 0 _).put 1 _).keep hb6
      have hB6 : Below w.heap.size w w6 := ((hB5.setCell (by simp; omega) _).setCell (by simp; omega) _).trans (hb6.mono (by have := hB5.size; simp; omega))
      clear Bc0 Bc1 Bl Cc0 Cc1 Cl R12c0 R12c1 R12l
      clear hb6 hB5 R12f0 R12f1
      have Cc0 := C.cell 0
      have Cc1 := C.cell 1
      simp at Cc0 Cc1
      have Cl := C.lt
      have R12c0 := R12.cell 0
      have R12c1 := R12.cell 1
      simp at R12c0 R12c1
      have R12l := R12.lt
      have R14c0 := R14.cell 0
      have R14c1 := R14.cell 1
      simp at R14c0 R14c1
      have R14l := R14.lt
      have R14f0 := R14.fz 0
      have R14f1 := R14.fz 1
      by_cases q1 : pe = 0
      · by_cases q2 : qe = 0
        · by_cases q3 : 0 < e
          · have hk := h8.out q3 q1 q2
            subst q1 q2
            go_wp2_with fail
            refine (hk _).mono ?_
            rintro e' wz ⟨rfl, hbz⟩
            have hBz : Below w.heap.size w wz := ((hB6.setCell (by simp; omega) _).setCell (by simp; omega) _).trans (hbz.mono (by have := hB6.size; simp; omega))
            clear hbz hk
            unfold pairV
            go_wp2_with fail
            go_ret
            exact ⟨rfl, hBz⟩
          · subst q1 q2
            go_wp2_with fail
            go_ret
            exact ⟨rfl, (hB6.setCell (by simp; omega) _).setCell (by simp; omega) _⟩
        · subst q1
          have q2' : ((qe : Int) == 0) = false := by simp; omega
          go_wp2_with fail
          go_ret
          exact ⟨rfl, (hB6.setCell (by simp; omega) _).setCell (by simp; omega) _⟩
      · have q1' : ((pe : Int) == 0) = false := by simp; omega
        go_wp2_with fail
        go_ret
        exact ⟨rfl, (hB6.setCell (by simp; omega) _).setCell (by simp; omega) _⟩
  · have q1' : ((xe : Int) == 0) = false := by simp; omega
    have Ac0 := A.cell 0
    have Ac1 := A.cell 1
    simp at Ac0 Ac1
    have Al := A.lt
    have Cc0 := C.cell 0
    have Cc1 := C.cell 1
    simp at Cc0 Cc1
    have Cl := C.lt
    go_wp2_with fail
    refine (h6.out _).mono ?_
    rintro e' w5 ⟨rfl, hb5⟩
    have R14 : Bk w5 w4.heap.size 42 #[.int .i64 yn, .int .i64 yd] := (bk_last rfl).keep hb5
    replace A := (A.alloc _).keep hb5
    replace B := (B.alloc _).keep hb5
    replace C := (C.alloc _).keep hb5
    replace R12 := (R12.alloc _).keep hb5
    have hB5 : Below w.heap.size w w5 := (hB4.alloc hB4.size _).trans (hb5.mono (by have := hB4.size; simp; omega))
    clear Ac0 Ac1 Al Cc0 Cc1 Cl
    clear hb5 hB4
    have Bc0 := B.cell 0
    have Bc1 := B.cell 1
    simp at Bc0 Bc1
    have Bl := B.lt
    have Cc0 := C.cell 0
    have Cc1 := C.cell 1
    simp at Cc0 Cc1
    have Cl := C.lt
    have R12c0 := R12.cell 0
    have R12c1 := R12.cell 1
    simp at R12c0 R12c1
    have R12l := R12.lt
    have R12f0 := R12.fz 0
    have R12f1 := R12.fz 1
    go_wp2_with fail
    refine (h7.out _).mono ?_
    rintro e' w6 ⟨rfl, hb6⟩
    replace A := (((A.far (by simp; omega) _).far (by simp; omega) _)).keep hb6
    replace B := (((B.far (by simp; omega) _).far (by simp; omega) _)).keep hb6
    replace C := (((C.far (by simp; omega) _).far (by simp; omega) _)).keep hb6
    replace R14 := (((R14.far (by simp; omega) _).far (by simp; omega) _)).keep hb6
    replace R12 : Bk w6 w3.heap.size 42 #[.int .i64 pn, .int .i64 pd] := by simpa using ((R12.put 0 _).put 1 _).keep hb6
    have hB6 : Below w.heap.size w w6 := ((hB5.setCell (by simp; omega) _).setCell (by simp; omega) _).trans (hb6.mono (by have := hB5.size; simp; omega))
    clear Bc0 Bc1 Bl Cc0 Cc1 Cl R12c0 R12c1 R12l
    clear hb6 hB5 R12f0 R12f1
    have Cc0 := C.cell 0
    have Cc1 := C.cell 1
    simp at Cc0 Cc1
    have Cl := C.lt
    have R12c0 := R12.cell 0
    have R12c1 := R12.cell 1
    simp at R12c0 R12c1
    have R12l := R12.lt
    have R14c0 := R14.cell 0
    have R14c1 := R14.cell 1
    simp at R14c0 R14c1
    have R14l := R14.lt
    have R14f0 := R14.fz 0
    have R14f1 := R14.fz 1
    by_cases q1 : pe = 0
    · by_cases q2 : qe = 0
      · by_cases q3 : 0 < e
        · have hk := h8.out q3 q1 q2
          subst q1 q2
          go_wp2_with fail
          refine (hk _).mono ?_
          rintro e' wz ⟨rfl, hbz⟩
          have hBz : Below w.heap.size w wz := ((hB6.setCell (by simp; omega) _).setCell (by simp; omega) _).trans (hbz.mono (by have := hB6.size; simp; omega))
          clear hbz hk
          unfold pairV
          go_wp2_with fail
          go_ret
          exact ⟨rfl, hBz⟩
        · subst q1 q2
          go_wp2_with fail
          go_ret
          exact ⟨rfl, (hB6.setCell (by simp; omega) _).setCell (by simp; omega) _⟩
      · subst q1
        have q2' : ((qe : Int) == 0) = false := by simp; omega
        go_wp2_with fail
        go_ret
        exact ⟨rfl, (hB6.setCell (by simp; omega) _).setCell (by simp; omega) _⟩
    · have q1' : ((pe : Int) == 0) = false := by simp; omega
      go_wp2_with fail
      go_ret
      exact ⟨rfl, (hB6.setCell (by simp; omega) _).setCell (by simp; omega) _⟩

theorem cmp_range (x y : Int) : -1 ≤ cmpI x y ∧ cmpI x y ≤ 1 := by
  unfold cmpI
  split
  · omega
  · split <;> omega

theorem order_law (a b c d e f : Int) (w : World) :
    Calls Try.prog 14 #[.agg #[.int .i64 a, .int .i64 b], .agg #[.int .i64 c, .int .i64 d], .agg #[.int .i64 e, .int .i64 f]] w fun e w' => e = .returned (.bool true) ∧ Below w.heap.size w w' := by
  by_cases h : okRatio a b = true ∧ okRatio c d = true
  · have hc := compare_eq h.1 h.2
    have hr := cmp_range (a * d) (c * b)
    have hs := compare_self h.1 h.2
    have hbk := compare_back a b c d h.1 h.2
    have c1 : ∀ a b c d W, Calls Try.prog 51 #[.agg #[.int .i64 a, .int .i64 b], .agg #[.int .i64 c, .int .i64 d]] W fun e w' => e = .returned (pairV (compareR a b c d)) ∧ Below W.heap.size W w' := fun a b c d W => compare_any a b c d W
    have hk : compareR a b c d = ((compareR a b c d).1, 0) := by rw [hc]
    refine order_core a b c d e f (compareR a b c d).1 (plusR a b e f) (plusR c d e f) (timesR a b e f) (timesR c d e f) w (by rw [hc]; exact hr.1) (by rw [hc]; exact hr.2) hs ?_ ?_
      (fun W => plus_any _ _ _ _ W) (fun W => plus_any _ _ _ _ W) ?_ (fun W => times_any _ _ _ _ W) (fun W => times_any _ _ _ _ W) ?_
    · intro W; rw [← hk]; exact c1 a b c d W
    · intro W; rw [← hbk]; exact c1 c d a b W
    · intro h1 h2 W; rw [← compare_plus h1 h2]; exact c1 _ _ _ _ W
    · intro h0 h1 h2 W; rw [← compare_times h0 h1 h2]; exact c1 _ _ _ _ W
  · obtain ⟨h1, h2⟩ := compare_bad h
    refine order_bad a b c d e f w ?_ ?_
    · intro W; rw [← h1]; exact compare_any a b c d W
    · intro W; rw [← h2]; exact compare_any c d a b W

end Go.Proofs.Ytheifigkclegdaa
