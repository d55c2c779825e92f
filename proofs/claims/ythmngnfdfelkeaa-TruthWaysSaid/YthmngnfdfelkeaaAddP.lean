/-
  What is proved: plain laws of moments for the law TruthAdds.
-/
import Derived.Test.YthmngnfdfelkeaaTops
namespace Go.Proofs.Ythmngnfdfelkeaa
open Go.RowKit

/-- A stone with other heights. -/
def withH (s : Stn) (l : List Int) : Stn := { s with heights := l }
def zipH (a b : List Int) (k : Nat) : List Int := (List.range k).map fun i => a.getD i 0 + b.getD i 0
theorem zipH_len (a b : List Int) (k : Nat) : (zipH a b k).length = k := by simp [zipH]
theorem zipH_succ (a b : List Int) (k : Nat) : zipH a b (k + 1) = zipH a b k ++ [a.getD k 0 + b.getD k 0] := by
  unfold zipH
  rw [List.range_succ, List.map_append]
  rfl
theorem zipH_get (a b : List Int) {k i : Nat} (h : i < k) : (zipH a b k).getD i 0 = a.getD i 0 + b.getD i 0 := by
  rw [List.getD_eq_getElem?_getD]
  simp [zipH, h]
theorem mul_split (c a x y b : Int) : c * (a * (x + y) * b) = c * (a * x * b) + c * (a * y * b) := by
  rw [Int.mul_add, Int.add_mul, Int.mul_add]

theorem mom_add (s : Stn) (m : List Int) (n : Nat) : ∀ k, k ≤ n → momX (withH s (zipH s.heights m n)) k = momX s k + momX (withH s m) k ∧ momY (withH s (zipH s.heights m n)) k = momY s k + momY (withH s m) k
  | 0, _ => by simp [momX, momY]
  | k + 1, hk => by
    obtain ⟨h1, h2⟩ := mom_add s m n k (by omega)
    simp only [momX, momY, massV]
    rw [h1, h2]
    simp only [withH]
    rw [zipH_get _ _ (show k < n by omega), mul_split, mul_split]
    omega

/-- The sum of the first coordinates of a compass; of the second ones. -/
def sumPX (l : List (Int × Int)) : Nat → Int
  | 0 => 0
  | k + 1 => sumPX l k + (l.getD k (0, 0)).1
def sumPY (l : List (Int × Int)) : Nat → Int
  | 0 => 0
  | k + 1 => sumPY l k + (l.getD k (0, 0)).2
theorem sumP_bound {l : List (Int × Int)} (h : ∀ p ∈ l, (-1000 ≤ p.1 ∧ p.1 ≤ 1000) ∧ -1000 ≤ p.2 ∧ p.2 ≤ 1000) : ∀ k, k ≤ l.length → (-((k : Int) * 1000) ≤ sumPX l k ∧ sumPX l k ≤ (k : Int) * 1000) ∧ -((k : Int) * 1000) ≤ sumPY l k ∧ sumPY l k ≤ (k : Int) * 1000
  | 0, _ => by simp [sumPX, sumPY]
  | k + 1, hk => by
    have ih := sumP_bound h k (by omega)
    have h2 := h _ (getD_mem (0, 0) (show k < l.length by omega))
    simp only [sumPX, sumPY]
    omega

def flatK (s : Stn) (h : Int) (r : Nat) : Int := (2 * (s.f.eye + (r : Int)) + 1) * h * (s.f.eye + (r : Int) + 1)
theorem mom_flat (s : Stn) (h : Int) (n S : Nat) (hS : s.f.sec = S) (hS0 : 0 < S) (hx : sumPX s.compass S = 0) (hy : sumPY s.compass S = 0) :
    ∀ k, k ≤ n → momX (withH s (List.replicate n h)) k = sumPX s.compass (k % S) * flatK s h (k / S) ∧ momY (withH s (List.replicate n h)) k = sumPY s.compass (k % S) * flatK s h (k / S)
  | 0, _ => by simp [momX, momY, sumPX, sumPY]
  | k + 1, hk => by
    obtain ⟨h1, h2⟩ := mom_flat s h n S hS hS0 hx hy k (by omega)
    simp only [momX, momY, massV]
    rw [h1, h2]
    simp only [withH, hS, Int.toNat_natCast]
    have hg : (List.replicate n h).getD k 0 = h := by
      rw [List.getD_eq_getElem?_getD, List.getElem?_replicate, if_pos (by omega)]; rfl
    rw [hg]
    have hd : (k : Int) / (S : Int) = ((k / S : Nat) : Int) := (Int.natCast_ediv k S).symm
    rw [hd]
    have e : (2 * (s.f.eye + ((k / S : Nat) : Int)) + 1) * h * (s.f.eye + ((k / S : Nat) : Int) + 1) = flatK s h (k / S) := rfl
    rw [e, ← Int.add_mul, ← Int.add_mul]
    have hm := Nat.mod_lt k hS0
    have hdm := Nat.div_add_mod k S
    have ex : sumPX s.compass (k % S) + (s.compass.getD (k % S) (0, 0)).1 = sumPX s.compass (k % S + 1) := rfl
    have ey : sumPY s.compass (k % S) + (s.compass.getD (k % S) (0, 0)).2 = sumPY s.compass (k % S + 1) := rfl
    rw [ex, ey]
    by_cases hq : k % S + 1 = S
    · have e0 : k + 1 = S * (k / S + 1) := by
        rw [Nat.mul_add, Nat.mul_one]
        omega
      have e1 : (k + 1) % S = 0 := by rw [e0, Nat.mul_mod_right]
      rw [e1, hq, hx, hy]
      simp [sumPX, sumPY]
    · have hlt : k % S + 1 < S := Nat.lt_of_le_of_ne hm hq
      have e0 : k + 1 = S * (k / S) + (k % S + 1) := by omega
      have e1 : (k + 1) / S = k / S ∧ (k + 1) % S = k % S + 1 := by
        generalize k / S = u at *
        generalize k % S = v at *
        constructor
        · rw [e0, Nat.mul_add_div hS0, Nat.div_eq_of_lt hlt, Nat.add_zero]
        · rw [e0, Nat.mul_add_mod, Nat.mod_eq_of_lt hlt]
      rw [e1.1, e1.2]
      exact ⟨rfl, rfl⟩

theorem withH_ok {s : Stn} (h : s.ok = true) {l : List Int} (hl : l.length = s.f.kinds.length) (hb : flatB 100000 l = true) : (withH s l).ok = true := by
  simp only [Stn.ok, Bool.and_eq_true] at h ⊢
  obtain ⟨⟨⟨⟨⟨⟨⟨h1, _⟩, _⟩, h4⟩, h5⟩, h6⟩, h7⟩, h8⟩ := h
  exact ⟨⟨⟨⟨⟨⟨⟨h1, by simpa [withH] using hl⟩, hb⟩, h4⟩, h5⟩, h6⟩, h7⟩, h8⟩

theorem flat_zero {s : Stn} (h : s.ok = true) {x : Int} (hx : sumPX s.compass s.compass.length = 0) (hy : sumPY s.compass s.compass.length = 0) :
    momX (withH s (List.replicate s.f.kinds.length x)) s.f.kinds.length = 0 ∧ momY (withH s (List.replicate s.f.kinds.length x)) s.f.kinds.length = 0 := by
  obtain ⟨h1, _, _, h4, _⟩ := stn_ok h
  obtain ⟨_, _, k3, _, k5, _, k7, _⟩ := fac_ok h1
  obtain ⟨S, hS⟩ : ∃ S : Nat, s.f.sec = S := ⟨s.f.sec.toNat, by omega⟩
  obtain ⟨R, hR⟩ : ∃ R : Nat, s.f.rings = R := ⟨s.f.rings.toNat, by omega⟩
  have hn : s.f.kinds.length = S * R := by
    have : (s.f.kinds.length : Int) = ((S * R : Nat) : Int) := by rw [k7, hS, hR]; simp [Int.mul_comm]
    omega
  have hc : s.compass.length = S := by omega
  rw [hc] at hx hy
  obtain ⟨q1, q2⟩ := mom_flat s x s.f.kinds.length S hS (by omega) hx hy s.f.kinds.length (Nat.le_refl _)
  rw [q1, q2, hn, Nat.mul_mod_right]
  simp [sumPX, sumPY]

end Go.Proofs.Ythmngnfdfelkeaa
