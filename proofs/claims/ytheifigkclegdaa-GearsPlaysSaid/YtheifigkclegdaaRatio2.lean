/-
  What is proved: contracts of the specification's functions on ratios.
-/
import Derived.Test.YtheifigkclegdaaRatio
namespace Go.Proofs.Ytheifigkclegdaa
open Go.RowKit
attribute [local go_sem] Res.val

set_option maxHeartbeats 1000000 in
theorem rreduce_any (x y : Int) (w : World) (hx : x ≤ 9223372036854775807) (hy : y ≤ 9223372036854775807) :
    Calls Try.prog 53 #[.int .i64 x, .int .i64 y] w fun e w' => e = .returned (reduceR x y).val ∧ Below w.heap.size w w' := by
  by_cases h1 : x < 0 ∨ y < 1
  · have hR : reduceR x y = ⟨0, 0, 1⟩ := by rw [reduceR, if_pos h1]
    rw [hR]
    clear hR
    rcases h1 with h1 | h1
    · go_enter Try.func53, Try.ntmps53
      go_wp2_with fail
      refine bodyPost_ret (v := .tuple #[.agg #[.int .i64 0, .int .i64 0], .int .i64 1]) (by simp [results, Try.results53, go_sem]) rfl ⟨rfl, by go_grown⟩
    · by_cases h0 : x < 0
      all_goals
        go_enter Try.func53, Try.ntmps53
        go_wp2_with fail
        refine bodyPost_ret (v := .tuple #[.agg #[.int .i64 0, .int .i64 0], .int .i64 1]) (by simp [results, Try.results53, go_sem]) rfl ⟨rfl, by go_grown⟩
  · have hR : reduceR x y = low x.toNat y.toNat := by rw [reduceR, if_neg h1]
    rw [hR]
    clear hR
    obtain ⟨a, rfl⟩ := Int.eq_ofNat_of_zero_le (show 0 ≤ x by omega)
    obtain ⟨b, rfl⟩ := Int.eq_ofNat_of_zero_le (show 0 ≤ y by omega)
    simp only [Int.toNat_natCast]
    have g1 : ¬ ((a : Int) < 0) := by omega
    have g2 : ¬ ((b : Int) < 1) := by omega
    have hg : 0 < Nat.gcd a b := Nat.gcd_pos_of_pos_right _ (by omega)
    have hL : low a b = if a / Nat.gcd a b ≤ 1000000000 ∧ b / Nat.gcd a b ≤ 1000000000 then ⟨a / Nat.gcd a b, b / Nat.gcd a b, 0⟩ else ⟨0, 0, 2⟩ := rfl
    have HL := Lib.hid hL
    clear hL
    have e1 : (a : Int) / ((Nat.gcd a b : Nat) : Int) = ((a / Nat.gcd a b : Nat) : Int) := by rw [Int.natCast_ediv]
    have e2 : (b : Int) / ((Nat.gcd a b : Nat) : Int) = ((b / Nat.gcd a b : Nat) : Int) := by rw [Int.natCast_ediv]
    have l1 : a / Nat.gcd a b ≤ a := Nat.div_le_self _ _
    have l2 : b / Nat.gcd a b ≤ b := Nat.div_le_self _ _
    generalize a / Nat.gcd a b = p at *
    generalize b / Nat.gcd a b = q at *
    have g3 : 1 ≤ ((Nat.gcd a b : Nat) : Int) := by omega
    have g4 : (((Nat.gcd a b : Nat) : Int) == 0) = false := by simp; omega
    go_enter Try.func53, Try.ntmps53
    go_wp2_with (go_at_call 67; refine (rgcd_any _ _ _ (by omega) (by omega)).mono ?_; rintro e w1 ⟨rfl, rfl⟩)
    go_region
    by_cases hp : 1000000000 < p
    · have hp' : decide ((1000000000 : Int) < (p : Int)) = true := by simp; omega
      go_wp2_with fail
      refine bodyPost_ret (v := .tuple #[.agg #[.int .i64 0, .int .i64 0], .int .i64 2]) (by simp [results, Try.results53, go_sem]) rfl ⟨?_, by go_grown⟩
      rw [HL.out, if_neg (by omega)]
      rfl
    · by_cases hq : 1000000000 < q
      · have hp' : decide ((1000000000 : Int) < (p : Int)) = false := by simp; omega
        have hq' : decide ((1000000000 : Int) < (q : Int)) = true := by simp; omega
        go_wp2_with fail
        refine bodyPost_ret (v := .tuple #[.agg #[.int .i64 0, .int .i64 0], .int .i64 2]) (by simp [results, Try.results53, go_sem]) rfl ⟨?_, by go_grown⟩
        rw [HL.out, if_neg (by omega)]
        rfl
      · have hp' : decide ((1000000000 : Int) < (p : Int)) = false := by simp; omega
        have hq' : decide ((1000000000 : Int) < (q : Int)) = false := by simp; omega
        go_wp2_with fail
        refine bodyPost_ret (v := .tuple #[.agg #[.int .i64 p, .int .i64 q], .int .i64 0]) (by simp [results, Try.results53, go_sem]) rfl ⟨?_, by go_grown⟩
        rw [HL.out, if_pos (by omega)]
        rfl

set_option maxHeartbeats 1000000 in
theorem rtimes_any (a b c d : Int) (w : World) :
    Calls Try.prog 54 #[.agg #[.int .i64 a, .int .i64 b], .agg #[.int .i64 c, .int .i64 d]] w fun e w' => e = .returned (timesR a b c d).val ∧ Below w.heap.size w w' := by
  by_cases h1 : okRatio a b = true
  · by_cases h2 : okRatio c d = true
    · have hR : timesR a b c d = low (a.toNat * c.toNat) (b.toNat * d.toNat) := by rw [timesR, h1, h2]; rfl
      rw [hR]
      clear hR
      have b1 := okRatio_bounds h1
      have b2 := okRatio_bounds h2
      obtain ⟨a, rfl⟩ := Int.eq_ofNat_of_zero_le (show 0 ≤ a by omega)
      obtain ⟨b, rfl⟩ := Int.eq_ofNat_of_zero_le (show 0 ≤ b by omega)
      obtain ⟨c, rfl⟩ := Int.eq_ofNat_of_zero_le (show 0 ≤ c by omega)
      obtain ⟨d, rfl⟩ := Int.eq_ofNat_of_zero_le (show 0 ≤ d by omega)
      simp only [Int.toNat_natCast] at b1 b2 ⊢
      have B := Lib.hid (And.intro b1 b2)
      clear b1 b2
      go_enter Try.func54, Try.ntmps54
      go_wp2_with fail
      refine (rvalidRatio_any _ _ _).mono ?_
      rintro e w1 ⟨rfl, hb1⟩
      have A : Bk w1 w.heap.size 42 #[.int .i64 a, .int .i64 b] := (((bk_last rfl).alloc _).alloc _).keep hb1
      have C : Bk w1 (w.heap.size + 1) 42 #[.int .i64 c, .int .i64 d] := ((bk_last (by simp)).alloc _).keep hb1
      have E : Bk w1 (w.heap.size + 1 + 1) 42 #[.int .i64 0, .int .i64 0] := (bk_last (by simp)).keep hb1
      have hB1 : Below w.heap.size w w1 := ((((Below.refl _ _).alloc (Nat.le_refl _) _).alloc (by simp) _).alloc (by simp; omega) _).trans (hb1.mono (by simp; omega))
      have hz1 := hb1.size
      simp at hz1
      clear hb1
      have ac0 := A.cell 0
      have ac1 := A.cell 1
      have cc0 := C.cell 0
      have cc1 := C.cell 1
      simp at ac0 ac1 cc0 cc1
      go_wp2_with fail
      refine (rvalidRatio_any _ _ _).mono ?_
      rintro e w2 ⟨rfl, hb2⟩
      have hz2 := hb2.size
      replace A := A.keep hb2
      replace C := C.keep hb2
      replace E := E.keep hb2
      have hB2 := hB1.trans (hb2.mono hB1.size)
      clear hb2 hB1 ac0 ac1 cc0 cc1
      have ac0 := A.cell 0
      have ac1 := A.cell 1
      have cc0 := C.cell 0
      have cc1 := C.cell 1
      simp at ac0 ac1 cc0 cc1
      have m0 : 0 ≤ (a : Int) * (c : Int) := Int.mul_nonneg (by omega) (by omega)
      have n0 : (a : Int) * (c : Int) ≤ 1000000000000000000 := by have := Int.mul_le_mul (show (a : Int) ≤ 1000000000 by have := B.out; omega) (show (c : Int) ≤ 1000000000 by have := B.out; omega) (by omega) (by omega); omega
      have m1 : 0 ≤ (b : Int) * (d : Int) := Int.mul_nonneg (by omega) (by omega)
      have n1 : (b : Int) * (d : Int) ≤ 1000000000000000000 := by have := Int.mul_le_mul (show (b : Int) ≤ 1000000000 by have := B.out; omega) (show (d : Int) ≤ 1000000000 by have := B.out; omega) (by omega) (by omega); omega
      go_wp2_with fail
      refine (rreduce_any _ _ _ (by omega) (by omega)).mono ?_
      rintro e w4 ⟨rfl, hb4⟩
      have hz4 := hb4.size
      replace E := E.keep hb4
      have hB4 := hB2.trans (hb4.mono hB2.size)
      clear hb4 hB2 A C
      have hRd : reduceR ((a : Int) * c) ((b : Int) * d) = low (a * c) (b * d) := by
        have hbB := B.out
        have hd : 1 ≤ b * d := Nat.mul_pos (by omega) (by omega)
        rw [show ((a : Int) * c : Int) = ((a * c : Nat) : Int) by simp, show ((b : Int) * d : Int) = ((b * d : Nat) : Int) by simp, reduceR, if_neg (by omega)]
        simp only [Int.toNat_natCast]
      rw [hRd]
      clear hRd
      have e0 := E.cell 0
      have e1 := E.cell 1
      have e2 := E.fz 0
      have e3 := E.fz 1
      simp at e0 e1
      go_wp2_with fail
      refine bodyPost_ret (v := (low (a * c) (b * d)).val) (by simp [results, Try.results54, go_sem, e0, e1]) rfl ⟨rfl, (hB4.setCell (by simp; omega) _).setCell (by simp; omega) _⟩
    · have hR : timesR a b c d = ⟨0, 0, 71⟩ := by rw [timesR]; simp [h2]
      rw [hR]
      clear hR
      have h2' : okRatio c d = false := by simpa using h2
      go_enter Try.func54, Try.ntmps54
      go_wp2_with fail
      refine (rvalidRatio_any _ _ _).mono ?_
      rintro e w1 ⟨rfl, hb1⟩
      have A : Bk w1 w.heap.size 42 #[.int .i64 a, .int .i64 b] := (((bk_last rfl).alloc _).alloc _).keep hb1
      have C : Bk w1 (w.heap.size + 1) 42 #[.int .i64 c, .int .i64 d] := ((bk_last (by simp)).alloc _).keep hb1
      have E : Bk w1 (w.heap.size + 1 + 1) 42 #[.int .i64 0, .int .i64 0] := (bk_last (by simp)).keep hb1
      have hB1 : Below w.heap.size w w1 := ((((Below.refl _ _).alloc (Nat.le_refl _) _).alloc (by simp) _).alloc (by simp; omega) _).trans (hb1.mono (by simp; omega))
      have hz1 := hb1.size
      simp at hz1
      clear hb1
      have cc0 := C.cell 0
      have cc1 := C.cell 1
      simp at cc0 cc1
      go_wp2_with fail
      refine (rvalidRatio_any _ _ _).mono ?_
      rintro e w2 ⟨rfl, hb2⟩
      have hz2 := hb2.size
      replace E := E.keep hb2
      have hB2 := hB1.trans (hb2.mono hB1.size)
      clear hb2 hB1 A C cc0 cc1
      have e0 := E.cell 0
      have e1 := E.cell 1
      have e2 := E.fz 0
      have e3 := E.fz 1
      simp at e0 e1
      go_wp2_with fail
      refine bodyPost_ret (v := .tuple #[.agg #[.int .i64 0, .int .i64 0], .int .i64 71]) (by simp [results, Try.results54, go_sem, e0, e1]) rfl ⟨rfl, (hB2.setCell (by simp; omega) _).setCell (by simp; omega) _⟩
  · have hR : timesR a b c d = ⟨0, 0, 71⟩ := by rw [timesR]; simp [h1]
    rw [hR]
    clear hR
    have h1' : okRatio a b = false := by simpa using h1
    go_enter Try.func54, Try.ntmps54
    go_wp2_with fail
    refine (rvalidRatio_any _ _ _).mono ?_
    rintro e w1 ⟨rfl, hb1⟩
    have A : Bk w1 w.heap.size 42 #[.int .i64 a, .int .i64 b] := (((bk_last rfl).alloc _).alloc _).keep hb1
    have C : Bk w1 (w.heap.size + 1) 42 #[.int .i64 c, .int .i64 d] := ((bk_last (by simp)).alloc _).keep hb1
    have E : Bk w1 (w.heap.size + 1 + 1) 42 #[.int .i64 0, .int .i64 0] := (bk_last (by simp)).keep hb1
    have hB1 : Below w.heap.size w w1 := ((((Below.refl _ _).alloc (Nat.le_refl _) _).alloc (by simp) _).alloc (by simp; omega) _).trans (hb1.mono (by simp; omega))
    have hz1 := hb1.size
    simp at hz1
    clear hb1
    have e0 := E.cell 0
    have e1 := E.cell 1
    have e2 := E.fz 0
    have e3 := E.fz 1
    simp at e0 e1
    go_wp2_with fail
    refine bodyPost_ret (v := .tuple #[.agg #[.int .i64 0, .int .i64 0], .int .i64 71]) (by simp [results, Try.results54, go_sem, e0, e1]) rfl ⟨rfl, (hB1.setCell (by simp; omega) _).setCell (by simp; omega) _⟩

set_option maxHeartbeats 1000000 in
theorem rplus_any (a b c d : Int) (w : World) :
    Calls Try.prog 55 #[.agg #[.int .i64 a, .int .i64 b], .agg #[.int .i64 c, .int .i64 d]] w fun e w' => e = .returned (plusR a b c d).val ∧ Below w.heap.size w w' := by
  by_cases h1 : okRatio a b = true
  · by_cases h2 : okRatio c d = true
    · have hR : plusR a b c d = low (a.toNat * d.toNat + c.toNat * b.toNat) (b.toNat * d.toNat) := by rw [plusR, h1, h2]; rfl
      rw [hR]
      clear hR
      have b1 := okRatio_bounds h1
      have b2 := okRatio_bounds h2
      obtain ⟨a, rfl⟩ := Int.eq_ofNat_of_zero_le (show 0 ≤ a by omega)
      obtain ⟨b, rfl⟩ := Int.eq_ofNat_of_zero_le (show 0 ≤ b by omega)
      obtain ⟨c, rfl⟩ := Int.eq_ofNat_of_zero_le (show 0 ≤ c by omega)
      obtain ⟨d, rfl⟩ := Int.eq_ofNat_of_zero_le (show 0 ≤ d by omega)
      simp only [Int.toNat_natCast] at b1 b2 ⊢
      have B := Lib.hid (And.intro b1 b2)
      clear b1 b2
      go_enter Try.func55, Try.ntmps55
      go_wp2_with fail
      refine (rvalidRatio_any _ _ _).mono ?_
      rintro e w1 ⟨rfl, hb1⟩
      have A : Bk w1 w.heap.size 42 #[.int .i64 a, .int .i64 b] := (((bk_last rfl).alloc _).alloc _).keep hb1
      have C : Bk w1 (w.heap.size + 1) 42 #[.int .i64 c, .int .i64 d] := ((bk_last (by simp)).alloc _).keep hb1
      have E : Bk w1 (w.heap.size + 1 + 1) 42 #[.int .i64 0, .int .i64 0] := (bk_last (by simp)).keep hb1
      have hB1 : Below w.heap.size w w1 := ((((Below.refl _ _).alloc (Nat.le_refl _) _).alloc (by simp) _).alloc (by simp; omega) _).trans (hb1.mono (by simp; omega))
      have hz1 := hb1.size
      simp at hz1
      clear hb1
      have ac0 := A.cell 0
      have ac1 := A.cell 1
      have cc0 := C.cell 0
      have cc1 := C.cell 1
      simp at ac0 ac1 cc0 cc1
      go_wp2_with fail
      refine (rvalidRatio_any _ _ _).mono ?_
      rintro e w2 ⟨rfl, hb2⟩
      have hz2 := hb2.size
      replace A := A.keep hb2
      replace C := C.keep hb2
      replace E := E.keep hb2
      have hB2 := hB1.trans (hb2.mono hB1.size)
      clear hb2 hB1 ac0 ac1 cc0 cc1
      have ac0 := A.cell 0
      have ac1 := A.cell 1
      have cc0 := C.cell 0
      have cc1 := C.cell 1
      simp at ac0 ac1 cc0 cc1
      have m0 : 0 ≤ (a : Int) * (d : Int) := Int.mul_nonneg (by omega) (by omega)
      have n0 : (a : Int) * (d : Int) ≤ 1000000000000000000 := by have := Int.mul_le_mul (show (a : Int) ≤ 1000000000 by have := B.out; omega) (show (d : Int) ≤ 1000000000 by have := B.out; omega) (by omega) (by omega); omega
      have m1 : 0 ≤ (c : Int) * (b : Int) := Int.mul_nonneg (by omega) (by omega)
      have n1 : (c : Int) * (b : Int) ≤ 1000000000000000000 := by have := Int.mul_le_mul (show (c : Int) ≤ 1000000000 by have := B.out; omega) (show (b : Int) ≤ 1000000000 by have := B.out; omega) (by omega) (by omega); omega
      have m2 : 0 ≤ (b : Int) * (d : Int) := Int.mul_nonneg (by omega) (by omega)
      have n2 : (b : Int) * (d : Int) ≤ 1000000000000000000 := by have := Int.mul_le_mul (show (b : Int) ≤ 1000000000 by have := B.out; omega) (show (d : Int) ≤ 1000000000 by have := B.out; omega) (by omega) (by omega); omega
      go_wp2_with fail
      refine (rreduce_any _ _ _ (by omega) (by omega)).mono ?_
      rintro e w4 ⟨rfl, hb4⟩
      have hz4 := hb4.size
      replace E := E.keep hb4
      have hB4 := hB2.trans (hb4.mono hB2.size)
      clear hb4 hB2 A C
      have hRd : reduceR ((a : Int) * d + c * b) ((b : Int) * d) = low (a * d + c * b) (b * d) := by
        have hbB := B.out
        have hd : 1 ≤ b * d := Nat.mul_pos (by omega) (by omega)
        rw [show ((a : Int) * d + c * b : Int) = ((a * d + c * b : Nat) : Int) by simp, show ((b : Int) * d : Int) = ((b * d : Nat) : Int) by simp, reduceR, if_neg (by omega)]
        simp only [Int.toNat_natCast]
      rw [hRd]
      clear hRd
      have e0 := E.cell 0
      have e1 := E.cell 1
      have e2 := E.fz 0
      have e3 := E.fz 1
      simp at e0 e1
      go_wp2_with fail
      refine bodyPost_ret (v := (low (a * d + c * b) (b * d)).val) (by simp [results, Try.results55, go_sem, e0, e1]) rfl ⟨rfl, (hB4.setCell (by simp; omega) _).setCell (by simp; omega) _⟩
    · have hR : plusR a b c d = ⟨0, 0, 71⟩ := by rw [plusR]; simp [h2]
      rw [hR]
      clear hR
      have h2' : okRatio c d = false := by simpa using h2
      go_enter Try.func55, Try.ntmps55
      go_wp2_with fail
      refine (rvalidRatio_any _ _ _).mono ?_
      rintro e w1 ⟨rfl, hb1⟩
      have A : Bk w1 w.heap.size 42 #[.int .i64 a, .int .i64 b] := (((bk_last rfl).alloc _).alloc _).keep hb1
      have C : Bk w1 (w.heap.size + 1) 42 #[.int .i64 c, .int .i64 d] := ((bk_last (by simp)).alloc _).keep hb1
      have E : Bk w1 (w.heap.size + 1 + 1) 42 #[.int .i64 0, .int .i64 0] := (bk_last (by simp)).keep hb1
      have hB1 : Below w.heap.size w w1 := ((((Below.refl _ _).alloc (Nat.le_refl _) _).alloc (by simp) _).alloc (by simp; omega) _).trans (hb1.mono (by simp; omega))
      have hz1 := hb1.size
      simp at hz1
      clear hb1
      have cc0 := C.cell 0
      have cc1 := C.cell 1
      simp at cc0 cc1
      go_wp2_with fail
      refine (rvalidRatio_any _ _ _).mono ?_
      rintro e w2 ⟨rfl, hb2⟩
      have hz2 := hb2.size
      replace E := E.keep hb2
      have hB2 := hB1.trans (hb2.mono hB1.size)
      clear hb2 hB1 A C cc0 cc1
      have e0 := E.cell 0
      have e1 := E.cell 1
      have e2 := E.fz 0
      have e3 := E.fz 1
      simp at e0 e1
      go_wp2_with fail
      refine bodyPost_ret (v := .tuple #[.agg #[.int .i64 0, .int .i64 0], .int .i64 71]) (by simp [results, Try.results55, go_sem, e0, e1]) rfl ⟨rfl, (hB2.setCell (by simp; omega) _).setCell (by simp; omega) _⟩
  · have hR : plusR a b c d = ⟨0, 0, 71⟩ := by rw [plusR]; simp [h1]
    rw [hR]
    clear hR
    have h1' : okRatio a b = false := by simpa using h1
    go_enter Try.func55, Try.ntmps55
    go_wp2_with fail
    refine (rvalidRatio_any _ _ _).mono ?_
    rintro e w1 ⟨rfl, hb1⟩
    have A : Bk w1 w.heap.size 42 #[.int .i64 a, .int .i64 b] := (((bk_last rfl).alloc _).alloc _).keep hb1
    have C : Bk w1 (w.heap.size + 1) 42 #[.int .i64 c, .int .i64 d] := ((bk_last (by simp)).alloc _).keep hb1
    have E : Bk w1 (w.heap.size + 1 + 1) 42 #[.int .i64 0, .int .i64 0] := (bk_last (by simp)).keep hb1
    have hB1 : Below w.heap.size w w1 := ((((Below.refl _ _).alloc (Nat.le_refl _) _).alloc (by simp) _).alloc (by simp; omega) _).trans (hb1.mono (by simp; omega))
    have hz1 := hb1.size
    simp at hz1
    clear hb1
    have e0 := E.cell 0
    have e1 := E.cell 1
    have e2 := E.fz 0
    have e3 := E.fz 1
    simp at e0 e1
    go_wp2_with fail
    refine bodyPost_ret (v := .tuple #[.agg #[.int .i64 0, .int .i64 0], .int .i64 71]) (by simp [results, Try.results55, go_sem, e0, e1]) rfl ⟨rfl, (hB1.setCell (by simp; omega) _).setCell (by simp; omega) _⟩

set_option maxHeartbeats 1000000 in
theorem rcompare_any (a b c d : Int) (w : World) :
    Calls Try.prog 56 #[.agg #[.int .i64 a, .int .i64 b], .agg #[.int .i64 c, .int .i64 d]] w fun e w' => e = .returned (.tuple #[.int .i64 (compareR a b c d).1, .int .i64 (compareR a b c d).2]) ∧ Below w.heap.size w w' := by
  by_cases h1 : okRatio a b = true
  · by_cases h2 : okRatio c d = true
    · have hR : compareR a b c d = (cmpI (a * d) (c * b), 0) := by rw [compareR, h1, h2]; rfl
      rw [hR]
      clear hR
      have b1 := okRatio_bounds h1
      have b2 := okRatio_bounds h2
      obtain ⟨a, rfl⟩ := Int.eq_ofNat_of_zero_le (show 0 ≤ a by omega)
      obtain ⟨b, rfl⟩ := Int.eq_ofNat_of_zero_le (show 0 ≤ b by omega)
      obtain ⟨c, rfl⟩ := Int.eq_ofNat_of_zero_le (show 0 ≤ c by omega)
      obtain ⟨d, rfl⟩ := Int.eq_ofNat_of_zero_le (show 0 ≤ d by omega)
      simp only [Int.toNat_natCast] at b1 b2 ⊢
      have B := Lib.hid (And.intro b1 b2)
      clear b1 b2
      go_enter Try.func56, Try.ntmps56
      go_wp2_with fail
      refine (rvalidRatio_any _ _ _).mono ?_
      rintro e w1 ⟨rfl, hb1⟩
      have A : Bk w1 w.heap.size 42 #[.int .i64 a, .int .i64 b] := ((bk_last rfl).alloc _).keep hb1
      have C : Bk w1 (w.heap.size + 1) 42 #[.int .i64 c, .int .i64 d] := (bk_last (by simp)).keep hb1
      have hB1 : Below w.heap.size w w1 := (((Below.refl _ _).alloc (Nat.le_refl _) _).alloc (by simp) _).trans (hb1.mono (by simp; omega))
      have hz1 := hb1.size
      simp at hz1
      clear hb1
      have ac0 := A.cell 0
      have ac1 := A.cell 1
      have cc0 := C.cell 0
      have cc1 := C.cell 1
      simp at ac0 ac1 cc0 cc1
      go_wp2_with fail
      refine (rvalidRatio_any _ _ _).mono ?_
      rintro e w2 ⟨rfl, hb2⟩
      have hz2 := hb2.size
      replace A := A.keep hb2
      replace C := C.keep hb2
      have hB2 := hB1.trans (hb2.mono hB1.size)
      clear hb2 hB1 ac0 ac1 cc0 cc1
      have ac0 := A.cell 0
      have ac1 := A.cell 1
      have cc0 := C.cell 0
      have cc1 := C.cell 1
      simp at ac0 ac1 cc0 cc1
      have m0 : 0 ≤ (a : Int) * (d : Int) := Int.mul_nonneg (by omega) (by omega)
      have n0 : (a : Int) * (d : Int) ≤ 1000000000000000000 := by have := Int.mul_le_mul (show (a : Int) ≤ 1000000000 by have := B.out; omega) (show (d : Int) ≤ 1000000000 by have := B.out; omega) (by omega) (by omega); omega
      have m1 : 0 ≤ (c : Int) * (b : Int) := Int.mul_nonneg (by omega) (by omega)
      have n1 : (c : Int) * (b : Int) ≤ 1000000000000000000 := by have := Int.mul_le_mul (show (c : Int) ≤ 1000000000 by have := B.out; omega) (show (b : Int) ≤ 1000000000 by have := B.out; omega) (by omega) (by omega); omega
      rcases Int.lt_trichotomy ((a : Int) * d) ((c : Int) * b) with h | h | h
      · go_wp2_with fail
        go_ret2
        exact ⟨by rw [cmpI, if_pos h]; rfl, hB2⟩
      · have hn : ¬ (a : Int) * d < (c : Int) * b := by omega
        have hn2 : ¬ (c : Int) * b < (a : Int) * d := by omega
        have HH := Lib.hid h
        clear h
        go_wp2_with fail
        go_ret2
        exact ⟨by rw [cmpI, if_neg (by omega), if_neg (by omega)]; rfl, hB2⟩
      · have hn : ¬ (a : Int) * d < (c : Int) * b := by omega
        go_wp2_with fail
        go_ret2
        exact ⟨by rw [cmpI, if_neg (by omega), if_pos h]; rfl, hB2⟩

    · have hR : compareR a b c d = (0, 71) := by rw [compareR]; simp [h2]
      rw [hR]
      clear hR
      have h2' : okRatio c d = false := by simpa using h2
      go_enter Try.func56, Try.ntmps56
      go_wp2_with fail
      refine (rvalidRatio_any _ _ _).mono ?_
      rintro e w1 ⟨rfl, hb1⟩
      have A : Bk w1 w.heap.size 42 #[.int .i64 a, .int .i64 b] := ((bk_last rfl).alloc _).keep hb1
      have C : Bk w1 (w.heap.size + 1) 42 #[.int .i64 c, .int .i64 d] := (bk_last (by simp)).keep hb1
      have hB1 : Below w.heap.size w w1 := (((Below.refl _ _).alloc (Nat.le_refl _) _).alloc (by simp) _).trans (hb1.mono (by simp; omega))
      have hz1 := hb1.size
      simp at hz1
      clear hb1
      have cc0 := C.cell 0
      have cc1 := C.cell 1
      simp at cc0 cc1
      go_wp2_with fail
      refine (rvalidRatio_any _ _ _).mono ?_
      rintro e w2 ⟨rfl, hb2⟩
      have hz2 := hb2.size
      have hB2 := hB1.trans (hb2.mono hB1.size)
      clear hb2 hB1 A C cc0 cc1
      go_wp2_with fail
      go_ret2
      exact ⟨rfl, hB2⟩
  · have hR : compareR a b c d = (0, 71) := by rw [compareR]; simp [h1]
    rw [hR]
    clear hR
    have h1' : okRatio a b = false := by simpa using h1
    go_enter Try.func56, Try.ntmps56
    go_wp2_with fail
    refine (rvalidRatio_any _ _ _).mono ?_
    rintro e w1 ⟨rfl, hb1⟩
    have A : Bk w1 w.heap.size 42 #[.int .i64 a, .int .i64 b] := ((bk_last rfl).alloc _).keep hb1
    have C : Bk w1 (w.heap.size + 1) 42 #[.int .i64 c, .int .i64 d] := (bk_last (by simp)).keep hb1
    have hB1 : Below w.heap.size w w1 := (((Below.refl _ _).alloc (Nat.le_refl _) _).alloc (by simp) _).trans (hb1.mono (by simp; omega))
    have hz1 := hb1.size
    simp at hz1
    clear hb1
    go_wp2_with fail
    go_ret2
    exact ⟨rfl, hB1⟩


end Go.Proofs.Ytheifigkclegdaa
