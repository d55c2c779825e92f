/-
  What is proved: plain laws of gaps for the law TruthLifts.
-/
import Derived.Test.YthmngnfdfelkeaaRubs
namespace Go.Proofs.Ythmngnfdfelkeaa
open Go.RowKit

theorem most_up {F : Nat → Int} : ∀ (n i : Nat), i < n → F i ≤ mostF F n
  | n + 1, i, h => by
    simp only [mostF]
    by_cases e : i = n
    · subst e; omega
    · have := most_up (F := F) n i (by omega)
      omega
theorem most_hit {F : Nat → Int} : ∀ n, 0 < n → ∃ i, i < n ∧ mostF F n = F i
  | 1, _ => ⟨0, by omega, by simp [mostF]⟩
  | n + 2, _ => by
    obtain ⟨i, h1, h2⟩ := most_hit (F := F) (n + 1) (by omega)
    simp only [mostF] at h2 ⊢
    by_cases e : max (mostF F n) (F n) ≤ F (n + 1)
    · exact ⟨n + 1, by omega, by omega⟩
    · exact ⟨i, by omega, by omega⟩

theorem closeR_cases (p : Gp) (l : Int) : ((closeR p l).1 = [] ∧ ((closeR p l).2 == 0) = false ∧ (p.ok = true → ¬ (0 ≤ l ∧ l ≤ 1000000000))) ∨ (p.ok = true ∧ (0 ≤ l ∧ l ≤ 1000000000) ∧ closeR p l = ((List.range p.bed.length).map fun c => l - topV p c, 0)) := by
  cases h1 : p.ok
  · left
    have := lay_ne h1
    simp [closeR, h1] at this ⊢
    exact this
  · by_cases h2 : 0 ≤ l ∧ l ≤ 1000000000
    · right
      simp [closeR, h1, inB, h2]
    · left
      simp [closeR, h1, inB, h2]

/-- Whether the closest gap at a cell is met by one of the first turns. -/
def seenB (p : Gp) (t c : Nat) : Bool := (List.range t).any fun u => decide (sumV p c u = topV p c)
theorem seenB_succ (p : Gp) (t c : Nat) : seenB p (t + 1) c = (seenB p t c || decide (sumV p c t = topV p c)) := by
  unfold seenB
  rw [List.range_succ, List.any_append]
  simp
def seenL (p : Gp) (t i : Nat) : List Bool := (List.range p.bed.length).map fun c => seenB p (if c < i then t + 1 else t) c
theorem seenL_len (p : Gp) (t i : Nat) : (seenL p t i).length = p.bed.length := by simp [seenL]
theorem seenL_full (p : Gp) (t : Nat) : seenL p t p.bed.length = seenL p (t + 1) 0 := by
  unfold seenL
  apply List.map_congr_left
  intro c hc
  rw [if_pos (List.mem_range.1 hc), if_neg (by omega)]
theorem seenL_get (p : Gp) (t i j : Nat) (hj : j < p.bed.length) : (seenL p t i).getD j false = seenB p (if j < i then t + 1 else t) j := by
  rw [List.getD_eq_getElem?_getD, List.getElem?_eq_getElem (by rw [seenL_len]; exact hj)]
  simp [seenL]
theorem seenL_set (p : Gp) (t i : Nat) (_hi : i < p.bed.length) : (seenL p t i).set i (seenB p (t + 1) i) = seenL p t (i + 1) := by
  apply List.ext_getElem
  · simp [seenL]
  · intro n h1 h2
    simp only [List.getElem_set, seenL, List.getElem_map, List.getElem_range]
    by_cases e : i = n
    · subst e; simp
    · rw [if_neg e]
      by_cases e2 : n < i
      · rw [if_pos e2, if_pos (by omega)]
      · rw [if_neg e2, if_neg (by omega)]
theorem seenL_zero (p : Gp) : seenL p 0 0 = List.replicate p.bed.length false := by
  apply List.ext_getElem
  · simp [seenL]
  · intro n h1 h2
    simp [seenL, seenB]

theorem sum_le_top {p : Gp} {t c : Nat} (h : (t : Int) < p.f.sec) : sumV p c t ≤ topV p c := most_up (F := fun t => sumV p c t) _ t (by omega)
theorem seen_all {p : Gp} (h : p.ok = true) (c : Nat) : seenB p p.f.sec.toNat c = true := by
  obtain ⟨_, _, _, _, k5, _⟩ := fac_ok (gp_ok h).1
  obtain ⟨i, h1, h2⟩ := most_hit (F := fun t => sumV p c t) p.f.sec.toNat (by omega)
  unfold seenB
  rw [List.any_eq_true]
  exact ⟨i, List.mem_range.2 h1, by simp [topV, h2]⟩

theorem gapsR_ok {p : Gp} (h : p.ok = true) {l : Int} (hl : 0 ≤ l ∧ l ≤ 1000000000) {t : Nat} (ht : (t : Int) < p.f.sec) : gapsR p l t = ((List.range p.bed.length).map fun c => l - sumV p c t, 0) := by
  simp [gapsR, h, inB, hl, ht]

/-- The least lift for 1. -/
def lowL (p : Gp) : Int := max 0 (1 + mostF (topV p) p.bed.length)
theorem liftR_one {p : Gp} (h : p.ok = true) : liftR p 1 = (lowL p, 0) := by simp [liftR, h, inB, lowL]
theorem gp_pos {p : Gp} (h : p.ok = true) : 1 ≤ p.bed.length ∧ p.bed.length ≤ 2304 := by
  obtain ⟨h2, h3, _⟩ := gp_ok h
  obtain ⟨_, _, k3, _, k5, k6, k7, k8⟩ := fac_ok h2
  have : (1 : Int) * 1 ≤ p.f.rings * p.f.sec := Int.mul_le_mul k3 (by omega) (by omega) (by omega)
  omega
theorem lowL_bound {p : Gp} (h : p.ok = true) : 0 ≤ lowL p ∧ lowL p ≤ 200001 := by
  have h3 := (gp_ok h).2.1
  have := most_bound (F := topV p) (lo := -200000) (hi := 200000) p.bed.length (fun i hi => top_bound h (by omega)) (gp_pos h).1
  unfold lowL
  omega
theorem map_getD (F : Nat → Int) {n i : Nat} (h : i < n) : ((List.range n).map F).getD i 0 = F i := by
  rw [List.getD_eq_getElem?_getD]
  simp [h]
theorem rubN_nil {l : List Int} : ∀ n, (∀ i, i < n → 1 ≤ l.getD i 0) → rubN l n = []
  | 0, _ => rfl
  | n + 1, h => by
    rw [rubN_no (by have := h n (by omega); omega), rubN_nil n (fun i hi => h i (by omega))]
theorem rubN_pos {l : List Int} : ∀ {n i : Nat}, i < n → l.getD i 0 < 1 → 0 < (rubN l n).length
  | n + 1, i, hi, h => by
    by_cases e : l.getD n 0 < 1
    · rw [rubN_yes e]; simp
    · rw [rubN_no e]
      exact rubN_pos (i := i) (by
        rcases Nat.lt_or_ge i n with h2 | h2
        · exact h2
        · have : i = n := by omega
          subst this
          exact absurd h e) h
theorem rubs_free {p : Gp} (h : p.ok = true) : rubsR p (lowL p) = ([], 0) := by
  have hb := lowL_bound h
  have e : closeR p (lowL p) = ((List.range p.bed.length).map fun c => lowL p - topV p c, 0) := by
    rcases closeR_cases p (lowL p) with ⟨_, _, h3⟩ | ⟨_, _, h3⟩
    · exact absurd ⟨hb.1, by omega⟩ (h3 h)
    · exact h3
  unfold rubsR
  rw [e]
  simp only [List.length_map, List.length_range]
  rw [rubN_nil]
  intro i hi
  rw [map_getD _ hi]
  have := most_up (F := topV p) p.bed.length i hi
  unfold lowL
  omega
theorem rubs_some {p : Gp} (h : p.ok = true) (h0 : lowL p ≠ 0) : (rubsR p (lowL p - 1)).2 = 0 ∧ 0 < (rubsR p (lowL p - 1)).1.length := by
  have hb := lowL_bound h
  have e : closeR p (lowL p - 1) = ((List.range p.bed.length).map fun c => lowL p - 1 - topV p c, 0) := by
    rcases closeR_cases p (lowL p - 1) with ⟨_, _, h3⟩ | ⟨_, _, h3⟩
    · exact absurd ⟨by omega, by omega⟩ (h3 h)
    · exact h3
  unfold rubsR
  rw [e]
  simp only [List.length_map, List.length_range]
  refine ⟨trivial, ?_⟩
  obtain ⟨i, h1, h2⟩ := most_hit (F := topV p) p.bed.length (by have := gp_pos h; omega)
  refine rubN_pos (i := i) h1 ?_
  rw [map_getD _ h1]
  unfold lowL at h0 ⊢
  omega

end Go.Proofs.Ythmngnfdfelkeaa
