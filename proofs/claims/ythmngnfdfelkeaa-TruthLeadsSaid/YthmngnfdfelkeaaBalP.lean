/-
  What is proved: plain laws of leads for the law TruthBalances.
-/
import Derived.Test.YthmngnfdfelkeaaBal
namespace Go.Proofs.Ythmngnfdfelkeaa
open Go.RowKit

theorem inM_of_get : ∀ {ms l : List Nat}, l.length = ms.length → (∀ i, i < l.length → l.getD i 0 ≤ ms.getD i 0) → inM ms l
  | [], [], _, _ => trivial
  | [], _ :: _, h, _ => by simp at h
  | _ :: _, [], h, _ => by simp at h
  | m :: ms, d :: l, h, hb => by
    refine ⟨by simpa using hb 0 (by simp), inM_of_get (by simpa using h) fun i hi => ?_⟩
    have := hb (i + 1) (by simpa using hi)
    simpa using this

theorem lead_rank {s : Stn} (h : s.ok = true) {l : List Int} (hl : leadP s l) : ∃ k, k < prodM (mosts s) ∧ leadN s k = l := by
  obtain ⟨h1, h2⟩ := hl
  have hin : inM (mosts s) (l.map Int.toNat) := inM_of_get (by simp [mosts_len, h1]) fun i hi => by
    have hi' : i < l.length := by simpa using hi
    have h3 := h2 i hi'
    rw [mosts_get h (by omega)] at h3
    have e : (l.map Int.toNat).getD i 0 = (l.getD i 0).toNat := by
      rw [List.getD_eq_getElem?_getD, List.getD_eq_getElem?_getD, List.getElem?_map, List.getElem?_eq_getElem hi']
      rfl
    rw [e]
    omega
  refine ⟨_, rank_lt hin, ?_⟩
  rw [leadN, leadAt_rank hin]
  unfold toI
  rw [List.map_map]
  apply List.ext_getElem
  · simp
  · intro i hi1 hi2
    have h3 := (h2 i hi2).1
    rw [getD_get _ _ hi2] at h3
    simp
    omega

theorem many_of {s : Stn} : ∀ n k, k < n → stillB s (leadN s k) = true → 0 < manyN s n ∧ sumL (bestL s n) ≤ sumL (leadN s k)
  | n + 1, k, hk, h => by
    by_cases e : k = n
    · subst e
      simp only [manyN, bestL, h, if_true]
      refine ⟨by omega, ?_⟩
      by_cases hc : manyN s k = 0 ∨ sumL (leadN s k) < sumL (bestL s k)
      · rw [if_pos hc]; omega
      · rw [if_neg hc]; omega
    · obtain ⟨h1, h2⟩ := many_of n k (by omega) h
      simp only [manyN, bestL]
      refine ⟨by split <;> omega, ?_⟩
      split
      · split
        · rename_i h4
          rcases h4 with h4 | h4 <;> omega
        · exact h2
      · exact h2

theorem best_of_many {s : Stn} : ∀ n, 0 < manyN s n → ∃ j, j < n ∧ bestL s n = leadN s j ∧ stillB s (leadN s j) = true
  | n + 1, h => by
    simp only [manyN, bestL] at h ⊢
    by_cases hs : stillB s (leadN s n) = true
    · rw [if_pos hs]
      by_cases hc : manyN s n = 0 ∨ sumL (leadN s n) < sumL (bestL s n)
      · rw [if_pos hc]
        exact ⟨n, by omega, rfl, hs⟩
      · rw [if_neg hc]
        have hpos : 0 < manyN s n := by
          rcases Nat.eq_zero_or_pos (manyN s n) with h0 | h0
          · exact absurd (.inl h0) hc
          · exact h0
        obtain ⟨j, h1, h2, h3⟩ := best_of_many n hpos
        exact ⟨j, by omega, h2, h3⟩
    · rw [if_neg hs] at h ⊢
      obtain ⟨j, h1, h2, h3⟩ := best_of_many n h
      exact ⟨j, by omega, h2, h3⟩

theorem leadN_ok {s : Stn} (h : s.ok = true) {k : Nat} (hk : k < prodM (mosts s)) : leadB s (leadN s k) = true := by
  rw [leadB_iff]
  have hl : (leadN s k).length = s.pockets.length := by rw [leadN, toI_len, leadAt_len, mosts_len]
  refine ⟨hl, fun i hi => ?_⟩
  have h3 := inM_get (leadAt_in hk) i (by rw [leadAt_len, mosts_len]; omega)
  rw [mosts_get h (by omega), leadN, toI_get]
  omega

/-- What of a stone the law asks. -/
def balS (s : Stn) : Prop :=
  (((leadR s).2 == 0) = false ∧ ((leadR s).2 == 61) = false ∧ (countR s).2 = (leadR s).2) ∨
  ((leadR s).2 = 61 ∧ countR s = (0, 0) ∧ ∀ l, (balR s l).2 = 0 → (balR s l).1 = false) ∨
  ((leadR s).2 = 0 ∧ (countR s).2 = 0 ∧ 1 ≤ (countR s).1 ∧ balR s (leadR s).1 = (true, 0) ∧ ∀ l, (balR s l).2 = 0 → (balR s l).1 = true → sumL (leadR s).1 ≤ sumL l ∧ l.length ≤ 8 ∧ ∀ x ∈ l, 0 ≤ x ∧ x ≤ 255)

theorem balS_all (s : Stn) : balS s := by
  unfold balS leadR countR
  by_cases h : s.ok = true
  · simp only [h, if_true]
    by_cases hp : prodM (mosts s) ≤ 200000
    · simp only [hp, if_true]
      by_cases hm : manyN s (prodM (mosts s)) = 0
      · right; left
        simp only [hm, if_true]
        refine ⟨trivial, rfl, fun l h2 => ?_⟩
        unfold balR at h2 ⊢
        simp only [h, if_true] at h2 ⊢
        by_cases hl : leadB s l = true
        · simp only [hl, if_true] at h2 ⊢
          obtain ⟨k, hk, rfl⟩ := lead_rank h ((leadB_iff s l).1 hl)
          cases hb : stillB s (leadN s k)
          · rfl
          · have := (many_of _ k hk hb).1
            omega
        · simp [hl] at h2
      · right; right
        simp only [hm, if_false]
        obtain ⟨j, hj, hb, hs⟩ := best_of_many (s := s) (prodM (mosts s)) (by omega)
        refine ⟨trivial, trivial, by omega, ?_, fun l h2 h3 => ?_⟩
        · rw [hb]
          simp [balR, h, leadN_ok h hj, hs]
        · unfold balR at h2 h3
          simp only [h, if_true] at h2 h3
          by_cases hl : leadB s l = true
          · simp only [hl, if_true] at h2 h3
            obtain ⟨k, hk, rfl⟩ := lead_rank h ((leadB_iff s l).1 hl)
            refine ⟨(many_of _ k hk h3).2, ?_⟩
            obtain ⟨p1, p2⟩ := (leadB_iff s _).1 hl
            obtain ⟨_, _, _, _, h5, _, _, _, hpk⟩ := stn_ok h
            refine ⟨by omega, fun x hx => ?_⟩
            obtain ⟨i, hi, rfl⟩ := List.getElem_of_mem hx
            have h6 := p2 i hi
            rw [getD_get _ _ hi] at h6
            have h4 := (hpk _ (getD_mem ((0, 0), 0) (show i < s.pockets.length by omega))).2.2
            omega
          · simp [hl] at h2
    · left
      simp [hp]
  · left
    simp [h]

end Go.Proofs.Ythmngnfdfelkeaa
