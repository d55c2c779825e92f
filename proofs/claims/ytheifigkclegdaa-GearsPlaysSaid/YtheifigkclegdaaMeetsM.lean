/-
  Plain laws of teeth that meet.
-/
import Derived.Test.YtheifigkclegdaaTeeth
namespace Go.Proofs.Ytheifigkclegdaa

theorem bez (a b : Nat) : ∃ x y : Int, (a : Int) * x + b * y = (Nat.gcd a b : Nat) := by
  induction a, b using Nat.gcd.induction with
  | H0 b => exact ⟨0, 1, by simp⟩
  | H1 a b ha ih =>
    obtain ⟨x, y, h⟩ := ih
    refine ⟨y - ((b / a : Nat) : Int) * x, x, ?_⟩
    rw [Nat.gcd_rec a b, ← h]
    have e : ((b % a : Nat) : Int) = (b : Int) - a * ((b / a : Nat) : Int) := by
      have := Nat.div_add_mod b a
      rw [← Int.natCast_mul]
      omega
    rw [e]
    grind

/-- Two numbers with the same remainder by the greatest common divisor are the remainders of one number. -/
theorem crt {p q a b : Nat} (hp : 1 ≤ p) (hq : 1 ≤ q) (ha : a < p) (hb : b < q) (h : a % Nat.gcd p q = b % Nat.gcd p q) :
    ∃ k, k < p * q / Nat.gcd p q ∧ k % p = a ∧ k % q = b := by
  obtain ⟨x, y, hxy⟩ := bez p q
  have g0 : 0 < Nat.gcd p q := Nat.gcd_pos_of_pos_left _ (by omega)
  have gp := Nat.gcd_dvd_left p q
  have gq := Nat.gcd_dvd_right p q
  have l1 : p * q / Nat.gcd p q = p * (q / Nat.gcd p q) := Nat.mul_div_assoc _ gq
  have l2 : p * q / Nat.gcd p q = q * (p / Nat.gcd p q) := by rw [Nat.mul_comm p q]; exact Nat.mul_div_assoc _ gp
  generalize hg : Nat.gcd p q = g at *
  have hL : 0 < p * q / g := by rw [l1]; exact Nat.mul_pos (by omega) (Nat.div_pos (Nat.le_of_dvd (by omega) gq) g0)
  generalize hLd : p * q / g = L at *
  -- b - a = g * d
  obtain ⟨d, hd⟩ : ∃ d : Int, (b : Int) - a = g * d := by
    refine ⟨(b / g : Nat) - (a / g : Nat), ?_⟩
    have e1 := Nat.div_add_mod b g
    have e2 := Nat.div_add_mod a g
    rw [Int.mul_sub, ← Int.natCast_mul, ← Int.natCast_mul]
    omega
  obtain ⟨k, hk⟩ : ∃ k : Nat, (k : Int) = ((a : Int) + p * (d * x)) % L := ⟨(((a : Int) + p * (d * x)) % L).toNat, Int.toNat_of_nonneg (Int.emod_nonneg _ (by omega))⟩
  have hlt : (k : Int) < L := by rw [hk]; exact Int.emod_lt_of_pos _ (by omega)
  have hpL : (p : Int) ∣ L := ⟨(q / g : Nat), by rw [l1]; simp⟩
  have hqL : (q : Int) ∣ L := ⟨(p / g : Nat), by rw [l2]; simp⟩
  refine ⟨k, by omega, ?_, ?_⟩
  · have e : ((k % p : Nat) : Int) = a := by
      rw [Int.natCast_emod, hk, Int.emod_emod_of_dvd _ hpL, Int.add_mul_emod_self_left]
      exact Int.emod_eq_of_lt (by omega) (by omega)
    omega
  · have e : ((k % q : Nat) : Int) = b := by
      have e0 : (a : Int) + p * (d * x) = b + q * (-(d * y)) := by
        have : (g : Int) * d = (p * x + q * y) * d := by rw [hxy]
        grind
      rw [Int.natCast_emod, hk, Int.emod_emod_of_dvd _ hqL, e0, Int.add_mul_emod_self_left]
      exact Int.emod_eq_of_lt (by omega) (by omega)
    omega

theorem meetAt_some {many dr dn cog : Nat} (hd : 0 < dr) : ∀ (f n k : Nat), many - n ≤ f → meetAt many dr dn cog n = some k → k < many ∧ k % dn = cog ∧ k % dr = n % dr
  | f, n, k, hf, h => by
    rcases Nat.lt_or_ge n many with hlt | hge
    · by_cases hc : n % dn = cog
      · rw [meetAt_hit hlt hd hc] at h
        injection h with h
        subst h
        exact ⟨hlt, hc, rfl⟩
      · rw [← meetAt_next hlt hd hc] at h
        match f, hf with
        | 0, hf => omega
        | f + 1, hf =>
          have := meetAt_some hd f (n + dr) k (by omega) h
          rwa [Nat.add_mod_right] at this
    · rw [meetAt_none hge] at h
      cases h

theorem meetAt_full {many dr dn cog : Nat} (hd : 0 < dr) : ∀ (i n : Nat), n + dr * i < many → (n + dr * i) % dn = cog → meetAt many dr dn cog n ≠ none
  | 0, n, h1, h2 => by
    rw [meetAt_hit (by simpa using h1) hd (by simpa using h2)]
    simp
  | i + 1, n, h1, h2 => by
    have e : n + dr * (i + 1) = n + dr + dr * i := by rw [Nat.mul_add, Nat.mul_one]; omega
    by_cases hc : n % dn = cog
    · rw [meetAt_hit (by omega) hd hc]
      simp
    · rw [← meetAt_next (by omega) hd hc]
      exact meetAt_full hd i (n + dr) (by omega) (by rw [← e]; exact h2)

/-- Two teeth meet if and only if .. -/
theorem meet_iff {p q a b : Nat} (hp : 1 ≤ p) (hq : 1 ≤ q) (ha : a < p) (hb : b < q) :
    (a % Nat.gcd p q = b % Nat.gcd p q ∧ ∃ k, meetAt (p * q / Nat.gcd p q) p q b a = some k ∧ k < p * q / Nat.gcd p q ∧ k % p = a ∧ k % q = b) ∨
    (¬ a % Nat.gcd p q = b % Nat.gcd p q ∧ meetAt (p * q / Nat.gcd p q) p q b a = none) := by
  have gp := Nat.gcd_dvd_left p q
  have gq := Nat.gcd_dvd_right p q
  by_cases h : a % Nat.gcd p q = b % Nat.gcd p q
  · obtain ⟨k, h1, h2, h3⟩ := crt hp hq ha hb h
    have e : a + p * (k / p) = k := by have := Nat.mod_add_div k p; rw [h2] at this; exact this
    have hne := meetAt_full (cog := b) (dn := q) (show 0 < p by omega) (k / p) a (by rw [e]; exact h1) (by rw [e]; exact h3)
    cases hm : meetAt (p * q / Nat.gcd p q) p q b a with
    | none => exact absurd hm hne
    | some m =>
      obtain ⟨k1, k2, k3⟩ := meetAt_some (show 0 < p by omega) _ a m (Nat.le_refl _) hm
      rw [Nat.mod_eq_of_lt ha] at k3
      exact .inl ⟨h, m, rfl, k1, k3, k2⟩
  · refine .inr ⟨h, ?_⟩
    cases hm : meetAt (p * q / Nat.gcd p q) p q b a with
    | none => rfl
    | some m =>
      obtain ⟨k1, k2, k3⟩ := meetAt_some (show 0 < p by omega) _ a m (Nat.le_refl _) hm
      rw [Nat.mod_eq_of_lt ha] at k3
      refine absurd ?_ h
      rw [← k3, ← k2, Nat.mod_mod_of_dvd _ gp, Nat.mod_mod_of_dvd _ gq]

/-- How many numbers below b have the remainder r by g. -/
def cntR (r g b : Nat) : Nat := (b + (g - 1 - r)) / g
theorem cntR_zero {r g : Nat} (hr : r < g) : cntR r g 0 = 0 := by
  unfold cntR
  exact Nat.div_eq_of_lt (by omega)
theorem cntR_full {r g q : Nat} (hr : r < g) : cntR r g (g * q) = q := by
  unfold cntR
  rw [Nat.mul_add_div (by omega), Nat.div_eq_of_lt (by omega : g - 1 - r < g), Nat.add_zero]
theorem cntR_succ {r g b : Nat} (hr : r < g) : cntR r g (b + 1) = cntR r g b + (if b % g = r then 1 else 0) := by
  unfold cntR
  have hv := Nat.mod_lt b (show g > 0 by omega)
  have e := Nat.div_add_mod b g
  generalize b / g = u at *
  generalize b % g = v at *
  subst e
  have e1 : g * u + v + 1 + (g - 1 - r) = g * u + (v + g - r) := by omega
  have e0 : g * u + v + (g - 1 - r) = g * u + (v + g - 1 - r) := by omega
  rw [e1, e0, Nat.mul_add_div (by omega), Nat.mul_add_div (by omega)]
  have big : ∀ s, g ≤ s → s < 2 * g → s / g = 1 := fun s h1 h2 => by
    rw [Nat.div_eq_sub_div (by omega) h1, Nat.div_eq_of_lt (by omega)]
  rcases Nat.lt_trichotomy v r with h | h | h
  · rw [Nat.div_eq_of_lt (by omega), Nat.div_eq_of_lt (by omega), if_neg (by omega)]
  · rw [big _ (by omega) (by omega), Nat.div_eq_of_lt (by omega), if_pos h]
  · rw [big _ (by omega) (by omega), big _ (by omega) (by omega), if_neg (by omega)]

theorem same_tmod {a b g : Nat} (_hg : 1 ≤ g) : (Int.tmod ((a : Int) - b) g == 0) = decide (a % g = b % g) := by
  have h : Int.tmod ((a : Int) - b) g = 0 ↔ a % g = b % g := by
    rw [← Int.dvd_iff_tmod_eq_zero]
    constructor
    · rintro ⟨d, hd⟩
      have e : (a : Int) = b + g * d := by omega
      have e2 : ((a % g : Nat) : Int) = ((b % g : Nat) : Int) := by
        rw [Int.natCast_emod, Int.natCast_emod, e, Int.add_mul_emod_self_left]
      omega
    · intro h
      refine ⟨(a / g : Nat) - (b / g : Nat), ?_⟩
      have e1 := Nat.div_add_mod b g
      have e2 := Nat.div_add_mod a g
      rw [Int.mul_sub, ← Int.natCast_mul, ← Int.natCast_mul]
      omega
  by_cases hs : a % g = b % g
  · rw [h.2 hs]; simp [hs]
  · have : ¬ Int.tmod ((a : Int) - b) g = 0 := fun h' => hs (h.1 h')
    simp [hs, this]

theorem grips_quo {p q : Nat} (hp : 1 ≤ p) (hq : 1 ≤ q) : p * q / (p * q / Nat.gcd p q) = Nat.gcd p q ∧ 1 ≤ p * q / Nat.gcd p q := by
  have g0 : 0 < Nat.gcd p q := Nat.gcd_pos_of_pos_left _ (by omega)
  have hd : Nat.gcd p q ∣ p * q := Nat.dvd_trans (Nat.gcd_dvd_left p q) (Nat.dvd_mul_right _ _)
  have hpq : 0 < p * q := Nat.mul_pos (by omega) (by omega)
  refine ⟨Nat.div_div_self hd (by omega), Nat.div_pos (Nat.le_of_dvd hpq hd) g0⟩

end Go.Proofs.Ytheifigkclegdaa
