/-
  Plain laws of comparisons of ratios.
-/
import Derived.Test.YtheifigkclegdaaFracs
namespace Go.Proofs.Ytheifigkclegdaa

theorem lt_cross {xn xd yn yd A B C D : Nat} (hB : 1 ≤ B) (hD : 1 ≤ D) (hx1 : 1 ≤ xd) (hy1 : 1 ≤ yd) (hx : xn * B = A * xd) (hy : yn * D = C * yd) : xn * yd < yn * xd ↔ A * D < C * B := by
  have e1 : xn * yd * (B * D) = A * D * (xd * yd) := by
    calc xn * yd * (B * D) = xn * B * (yd * D) := by ac_rfl
      _ = A * xd * (yd * D) := by rw [hx]
      _ = A * D * (xd * yd) := by ac_rfl
  have e2 : yn * xd * (B * D) = C * B * (xd * yd) := by
    calc yn * xd * (B * D) = yn * D * (xd * B) := by ac_rfl
      _ = C * yd * (xd * B) := by rw [hy]
      _ = C * B * (xd * yd) := by ac_rfl
  have p1 : 0 < B * D := Nat.mul_pos hB hD
  have p2 : 0 < xd * yd := Nat.mul_pos hx1 hy1
  rw [← Nat.mul_lt_mul_right p1, e1, e2, Nat.mul_lt_mul_right p2]

theorem cmp_of {x y x' y' : Nat} (h1 : x < y ↔ x' < y') (h2 : y < x ↔ y' < x') : cmpI x y = cmpI x' y' := by
  simp only [cmpI, Int.ofNat_lt, h1, h2]

theorem cmp_neg (x y : Int) : cmpI y x = - cmpI x y := by
  unfold cmpI
  split <;> split <;> first | omega | (split <;> omega) | rfl
theorem cmp_zero (x y : Int) : cmpI x y = 0 ↔ x = y := by
  unfold cmpI
  split
  · omega
  · split <;> omega

theorem ratio_nat {a b : Int} (h : okRatio a b = true) : ∃ m n : Nat, a = m ∧ b = n ∧ m ≤ 1000000000 ∧ 1 ≤ n ∧ n ≤ 1000000000 ∧ Nat.gcd m n = 1 := by
  have := okRatio_bounds h
  exact ⟨a.toNat, b.toNat, by omega, by omega, by omega, by omega, by omega, this.2.2.2.2⟩

/-- Equal ratios in lowest terms are alike. -/
theorem low_uniq {a b c d : Nat} (hb : 1 ≤ b) (hd : 1 ≤ d) (h1 : Nat.gcd a b = 1) (h2 : Nat.gcd c d = 1) (h : a * d = c * b) : a = c ∧ b = d := by
  obtain ⟨e1, e2⟩ := low_of a b a b hb hb rfl h1
  obtain ⟨e3, e4⟩ := low_of a b c d hb hd (by rw [h]) h2
  omega

theorem compare_eq {a b c d : Int} (h1 : okRatio a b = true) (h2 : okRatio c d = true) : compareR a b c d = (cmpI (a * d) (c * b), 0) := by
  rw [compareR, h1, h2]; rfl

theorem compare_self {a b c d : Int} (h1 : okRatio a b = true) (h2 : okRatio c d = true) : (compareR a b c d).1 = 0 ↔ (a = c ∧ b = d) := by
  rw [compare_eq h1 h2]
  show cmpI (a * d) (c * b) = 0 ↔ _
  rw [cmp_zero]
  obtain ⟨m, n, rfl, rfl, _, hn, _, hg⟩ := ratio_nat h1
  obtain ⟨p, q, rfl, rfl, _, hq, _, hg'⟩ := ratio_nat h2
  constructor
  · intro h
    have h' : m * q = p * n := by rw [← Int.natCast_mul, ← Int.natCast_mul] at h; omega
    obtain ⟨e1, e2⟩ := low_uniq hn hq hg hg' h'
    omega
  · rintro ⟨h, h'⟩
    have e1 : m = p := by omega
    have e2 : n = q := by omega
    subst e1 e2
    rfl

theorem compare_back (a b c d : Int) (h1 : okRatio a b = true) (h2 : okRatio c d = true) : compareR c d a b = (- (compareR a b c d).1, 0) := by
  rw [compare_eq h2 h1, compare_eq h1 h2]
  show (cmpI (c * b) (a * d), (0 : Int)) = (- cmpI (a * d) (c * b), 0)
  rw [cmp_neg]

theorem compare_bad {a b c d : Int} (h : ¬ (okRatio a b = true ∧ okRatio c d = true)) : compareR a b c d = (0, 71) ∧ compareR c d a b = (0, 71) := by
  unfold compareR
  cases h1 : okRatio a b <;> cases h2 : okRatio c d <;> simp_all

/-- What is added to both changes no comparison. -/
theorem compare_plus {a b c d e f : Int} (h1 : (plusR a b e f).err = 0) (h2 : (plusR c d e f).err = 0) :
    compareR (plusR a b e f).num (plusR a b e f).den (plusR c d e f).num (plusR c d e f).den = ((compareR a b c d).1, 0) := by
  obtain ⟨o1, o2, b1, f1, _, e1, n1, k1⟩ := plus_spec h1
  obtain ⟨o3, _, d1, _, _, e2, n2, k2⟩ := plus_spec h2
  rw [compare_eq k1 k2, compare_eq o1 o3]
  refine Prod.ext ?_ rfl
  show cmpI _ _ = cmpI _ _
  generalize plusR a b e f = x at *
  generalize plusR c d e f = y at *
  obtain ⟨m, n, rfl, rfl, _, hn, _, _⟩ := ratio_nat o1
  obtain ⟨p, q, rfl, rfl, _, hq, _, _⟩ := ratio_nat o3
  obtain ⟨r, s, rfl, rfl, _, hs, _, _⟩ := ratio_nat o2
  simp only [Int.toNat_natCast] at e1 e2 b1 f1 d1
  have hf : 0 < s * s := Nat.mul_pos (by omega) (by omega)
  have p1 : 1 ≤ n * s := one_mul_one b1 f1
  have p2 : 1 ≤ q * s := one_mul_one d1 f1
  rw [← Int.natCast_mul, ← Int.natCast_mul, ← Int.natCast_mul, ← Int.natCast_mul]
  refine cmp_of ?_ ?_
  · rw [lt_cross p1 p2 n1 n2 e1 e2, ← Nat.mul_lt_mul_right hf (b := m * q) (c := p * n)]
    have k1 : (m * s + r * n) * (q * s) = m * q * (s * s) + r * n * q * s := by grind
    have k2 : (p * s + r * q) * (n * s) = p * n * (s * s) + r * n * q * s := by grind
    omega
  · rw [lt_cross p2 p1 n2 n1 e2 e1, ← Nat.mul_lt_mul_right hf (b := p * n) (c := m * q)]
    have k1 : (m * s + r * n) * (q * s) = m * q * (s * s) + r * n * q * s := by grind
    have k2 : (p * s + r * q) * (n * s) = p * n * (s * s) + r * n * q * s := by grind
    omega

/-- What is multiplied by more than 0 neither. -/
theorem compare_times {a b c d e f : Int} (he : 0 < e) (h1 : (timesR a b e f).err = 0) (h2 : (timesR c d e f).err = 0) :
    compareR (timesR a b e f).num (timesR a b e f).den (timesR c d e f).num (timesR c d e f).den = ((compareR a b c d).1, 0) := by
  obtain ⟨o1, o2, b1, f1, _, e1, n1, k1⟩ := times_spec h1
  obtain ⟨o3, _, d1, _, _, e2, n2, k2⟩ := times_spec h2
  rw [compare_eq k1 k2, compare_eq o1 o3]
  refine Prod.ext ?_ rfl
  show cmpI _ _ = cmpI _ _
  generalize timesR a b e f = x at *
  generalize timesR c d e f = y at *
  obtain ⟨m, n, rfl, rfl, _, hn, _, _⟩ := ratio_nat o1
  obtain ⟨p, q, rfl, rfl, _, hq, _, _⟩ := ratio_nat o3
  obtain ⟨r, s, rfl, rfl, _, hs, _, _⟩ := ratio_nat o2
  simp only [Int.toNat_natCast] at e1 e2 b1 f1 d1
  have hf : 0 < r * s := Nat.mul_pos (by omega) (by omega)
  have p1 : 1 ≤ n * s := one_mul_one b1 f1
  have p2 : 1 ≤ q * s := one_mul_one d1 f1
  have k1 : m * r * (q * s) = m * q * (r * s) := by ac_rfl
  have k2 : p * r * (n * s) = p * n * (r * s) := by ac_rfl
  rw [← Int.natCast_mul, ← Int.natCast_mul, ← Int.natCast_mul, ← Int.natCast_mul]
  refine cmp_of ?_ ?_
  · rw [lt_cross p1 p2 n1 n2 e1 e2, k1, k2, Nat.mul_lt_mul_right hf]
  · rw [lt_cross p2 p1 n2 n1 e2 e1, k1, k2, Nat.mul_lt_mul_right hf]

end Go.Proofs.Ytheifigkclegdaa
