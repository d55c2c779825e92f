/-
  What is proved: products and sums of ratios: orders, groupings, the distributive law. No program in sight.
-/
import Derived.Test.YtheifigkclegdaaRatio
namespace Go.Proofs.Ytheifigkclegdaa

theorem okRatio_low {N D : Nat} (hD : 1 ≤ D) (h : (low N D).err = 0) : okRatio (low N D).num (low N D).den = true := by
  obtain ⟨_, g0, g1, g2, g3⟩ := low_ok N D hD h
  simp only [okRatio, inB, Bool.and_eq_true, decide_eq_true_eq, beq_iff_eq, Int.toNat_natCast]
  exact ⟨⟨⟨by omega, by omega⟩, ⟨by omega, by omega⟩⟩, g0⟩

/-- What a product of two ratios that is none too large says. -/
theorem times_spec {a b c d : Int} (h : (timesR a b c d).err = 0) :
    okRatio a b = true ∧ okRatio c d = true ∧ 1 ≤ b.toNat ∧ 1 ≤ d.toNat ∧ timesR a b c d = low (a.toNat * c.toNat) (b.toNat * d.toNat) ∧
      (timesR a b c d).num * (b.toNat * d.toNat) = a.toNat * c.toNat * (timesR a b c d).den ∧ 1 ≤ (timesR a b c d).den ∧ okRatio (timesR a b c d).num (timesR a b c d).den = true := by
  by_cases hr : (okRatio a b && okRatio c d) = true
  · have e : timesR a b c d = low (a.toNat * c.toNat) (b.toNat * d.toNat) := by rw [timesR, if_pos hr]
    simp only [Bool.and_eq_true] at hr
    have h1 := okRatio_bounds hr.1
    have h2 := okRatio_bounds hr.2
    have hD : 1 ≤ b.toNat * d.toNat := Nat.mul_le_mul (show 1 ≤ b.toNat by omega) (show 1 ≤ d.toNat by omega)
    rw [e] at h ⊢
    obtain ⟨g, _, g1, _, _⟩ := low_ok _ _ hD h
    exact ⟨hr.1, hr.2, by omega, by omega, rfl, g, g1, okRatio_low hD h⟩
  · rw [timesR, if_neg hr] at h
    cases h
theorem plus_spec {a b c d : Int} (h : (plusR a b c d).err = 0) :
    okRatio a b = true ∧ okRatio c d = true ∧ 1 ≤ b.toNat ∧ 1 ≤ d.toNat ∧ plusR a b c d = low (a.toNat * d.toNat + c.toNat * b.toNat) (b.toNat * d.toNat) ∧
      (plusR a b c d).num * (b.toNat * d.toNat) = (a.toNat * d.toNat + c.toNat * b.toNat) * (plusR a b c d).den ∧ 1 ≤ (plusR a b c d).den ∧ okRatio (plusR a b c d).num (plusR a b c d).den = true := by
  by_cases hr : (okRatio a b && okRatio c d) = true
  · have e : plusR a b c d = low (a.toNat * d.toNat + c.toNat * b.toNat) (b.toNat * d.toNat) := by rw [plusR, if_pos hr]
    simp only [Bool.and_eq_true] at hr
    have h1 := okRatio_bounds hr.1
    have h2 := okRatio_bounds hr.2
    have hD : 1 ≤ b.toNat * d.toNat := Nat.mul_le_mul (show 1 ≤ b.toNat by omega) (show 1 ≤ d.toNat by omega)
    rw [e] at h ⊢
    obtain ⟨g, _, g1, _, _⟩ := low_ok _ _ hD h
    exact ⟨hr.1, hr.2, by omega, by omega, rfl, g, g1, okRatio_low hD h⟩
  · rw [plusR, if_neg hr] at h
    cases h
theorem times_of_ok {a b c d : Int} (h1 : okRatio a b = true) (h2 : okRatio c d = true) : timesR a b c d = low (a.toNat * c.toNat) (b.toNat * d.toNat) := by
  rw [timesR, h1, h2]; rfl
theorem plus_of_ok {a b c d : Int} (h1 : okRatio a b = true) (h2 : okRatio c d = true) : plusR a b c d = low (a.toNat * d.toNat + c.toNat * b.toNat) (b.toNat * d.toNat) := by
  rw [plusR, h1, h2]; rfl

theorem times_comm (a b c d : Int) : timesR c d a b = timesR a b c d := by
  unfold timesR
  rw [Bool.and_comm, Nat.mul_comm c.toNat, Nat.mul_comm d.toNat]
theorem plus_comm (a b c d : Int) : plusR c d a b = plusR a b c d := by
  unfold plusR
  rw [Bool.and_comm, Nat.add_comm (c.toNat * b.toNat), Nat.mul_comm d.toNat b.toNat]

theorem assoc_eq {A A' B B' a b c d e f : Nat} (hd : 1 ≤ d) (h1 : A * (b * d) = a * c * A') (h2 : B * (d * f) = c * e * B') : a * B * (A' * f) = A * e * (b * B') := by
  refine Nat.eq_of_mul_eq_mul_right (show 0 < d by omega) ?_
  grind
theorem sum_eq {S S' U U' a b c d e f : Nat} (hd : 1 ≤ d) (h1 : S * (b * d) = (a * d + c * b) * S') (h2 : U * (d * f) = (c * f + e * d) * U') : (a * U' + U * b) * (S' * f) = (S * f + e * S') * (b * U') := by
  refine Nat.eq_of_mul_eq_mul_right (show 0 < d by omega) ?_
  grind
theorem dist_eq {X X' Y Y' U U' a b c d e f : Nat} (hd : 1 ≤ d) (hf : 1 ≤ f) (h1 : X * (b * d) = a * c * X') (h2 : Y * (b * f) = a * e * Y') (h3 : U * (d * f) = (c * f + e * d) * U') : a * U * (X' * Y') = (X * Y' + Y * X') * (b * U') := by
  refine Nat.eq_of_mul_eq_mul_right (show 0 < d * f from Nat.mul_pos (by omega) (by omega)) ?_
  grind

theorem one_mul_one {a b : Nat} (ha : 1 ≤ a) (hb : 1 ≤ b) : 1 ≤ a * b := Nat.mul_le_mul ha hb

theorem times_assoc {a b c d e f : Int} (h1 : (timesR a b c d).err = 0) (h2 : (timesR c d e f).err = 0) :
    timesR a b (timesR c d e f).num (timesR c d e f).den = timesR (timesR a b c d).num (timesR a b c d).den e f := by
  obtain ⟨o1, o2, b1, d1, _, e1, n1, k1⟩ := times_spec h1
  obtain ⟨_, o4, _, f1, _, e2, n2, k2⟩ := times_spec h2
  rw [times_of_ok o1 k2, times_of_ok k1 o4]
  simp only [Int.toNat_natCast]
  exact low_congr _ _ _ _ (one_mul_one b1 n2) (one_mul_one n1 f1) (assoc_eq d1 e1 e2)
theorem plus_assoc {a b c d e f : Int} (h1 : (plusR a b c d).err = 0) (h2 : (plusR c d e f).err = 0) :
    plusR a b (plusR c d e f).num (plusR c d e f).den = plusR (plusR a b c d).num (plusR a b c d).den e f := by
  obtain ⟨o1, o2, b1, d1, _, e1, n1, k1⟩ := plus_spec h1
  obtain ⟨_, o4, _, f1, _, e2, n2, k2⟩ := plus_spec h2
  rw [plus_of_ok o1 k2, plus_of_ok k1 o4]
  simp only [Int.toNat_natCast]
  exact low_congr _ _ _ _ (one_mul_one b1 n2) (one_mul_one n1 f1) (sum_eq d1 e1 e2)
theorem times_dist {a b c d e f : Int} (h1 : (timesR a b c d).err = 0) (h2 : (timesR a b e f).err = 0) (h3 : (plusR c d e f).err = 0) :
    timesR a b (plusR c d e f).num (plusR c d e f).den = plusR (timesR a b c d).num (timesR a b c d).den (timesR a b e f).num (timesR a b e f).den := by
  obtain ⟨o1, o2, b1, d1, _, e1, n1, k1⟩ := times_spec h1
  obtain ⟨_, _, _, f1, _, e2, n2, k2⟩ := times_spec h2
  obtain ⟨_, _, _, _, _, e3, n3, k3⟩ := plus_spec h3
  rw [times_of_ok o1 k3, plus_of_ok k1 k2]
  simp only [Int.toNat_natCast]
  exact low_congr _ _ _ _ (one_mul_one b1 n3) (one_mul_one n1 n2) (dist_eq d1 f1 e1 e2 e3)

end Go.Proofs.Ytheifigkclegdaa
