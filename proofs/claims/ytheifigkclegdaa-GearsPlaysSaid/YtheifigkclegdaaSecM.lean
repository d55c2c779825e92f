/-
  Plain laws of the sectors: every place at which the runner stands is among all of them; a period more shifts by whole turns.
-/
import Derived.Test.YtheifigkclegdaaAllAny
namespace Go.Proofs.Ytheifigkclegdaa

/-- The span moves with whole turns. -/
theorem span_shift {rn den : Nat} {p : Res} {s t u q : Nat} (h : t * rn = den * q + u) (hd : 1 ≤ den) :
    (spanR ⟨rn, den, 0⟩ p s t).1 = (spanR ⟨1, den, 0⟩ p s u).1 + (q * s : Nat) ∧ (spanR ⟨rn, den, 0⟩ p s t).2 = (spanR ⟨1, den, 0⟩ p s u).2 + (q * s : Nat) := by
  have e1 : t * rn * s = u * 1 * s + den * (q * s) := by
    rw [h, Nat.add_mul, Nat.mul_one]
    have : den * q * s = den * (q * s) := by ac_rfl
    omega
  have e2 : t * rn * s / den = u * 1 * s / den + q * s := by rw [e1, Nat.add_mul_div_left _ _ (by omega)]
  have e3 : t * rn * s % den = u * 1 * s % den := by rw [e1, Nat.add_mul_mod_self_left]
  simp only [spanR]
  rw [e2, e3]
  generalize u * 1 * s / den = x
  generalize p.num * s / p.den = y
  generalize q * s = z
  constructor
  · split <;> omega
  · omega

theorem hit_shift {a b : Int × Int} {s k z : Nat} (hs : 0 < s) (hk : k < s) (h1 : a.1 = b.1 + (z * s : Nat)) (h2 : a.2 = b.2 + (z * s : Nat)) (h : hit a s k = true) : hit b s k = true := by
  obtain ⟨x, x1, x2, x3⟩ := (hit_iff hs hk).1 h
  refine (hit_iff hs hk).2 ⟨x - (z * s : Nat), by omega, by omega, ?_⟩
  have e : x - ((z * s : Nat) : Int) = x + s * (-(z : Int)) := by
    rw [Int.natCast_mul, Int.mul_neg, Int.mul_comm (s : Int)]
    omega
  rw [e, Int.add_mul_emod_self_left, x3]

/-- Wherever it stands, the sector is among all of them. -/
theorem all_hit {r : Res} {p : Res} {s t k : Nat} (hr : r.err = 0) (hd : 1 ≤ r.den) (hs : 0 < s) (hk : k < s) (h : hit (spanR r p s t) s k = true) : allB r.den p s k = true := by
  obtain ⟨rn, den, re⟩ := r
  simp only at hr hd
  subst hr
  obtain ⟨e1, e2⟩ := span_shift (rn := rn) (den := den) (p := p) (s := s) (t := t) (u := t * rn % den) (q := t * rn / den) (Nat.div_add_mod _ _).symm hd
  have h2 := hit_shift hs hk e1 e2 h
  unfold allB
  simp only [Bool.or_eq_true, decide_eq_true_eq, List.any_eq_true, List.mem_range]
  exact .inr ⟨t * rn % den, Nat.mod_lt _ (by omega), h2⟩

theorem filtI_mem {P : Nat → Bool} {s k : Nat} (hk : k < s) (h : P k = true) : ((k : Nat) : Int) ∈ filtI P s := by
  unfold filtI
  exact List.mem_map.2 ⟨k, List.mem_filter.2 ⟨List.mem_range.2 hk, h⟩, rfl⟩

theorem filtI_range {P : Nat → Bool} {s : Nat} {x : Int} (h : x ∈ filtI P s) : 0 ≤ x ∧ x < s := by
  unfold filtI at h
  obtain ⟨k, hk, rfl⟩ := List.mem_map.1 h
  have := List.mem_range.1 (List.mem_filter.1 hk).1
  omega

theorem filtI_sorted (P : Nat → Bool) (s : Nat) : (filtI P s).Pairwise (· < ·) := by
  unfold filtI
  rw [List.pairwise_map]
  refine List.Pairwise.imp (fun h => by omega) (List.Pairwise.filter P List.pairwise_lt_range)

/-- What the law asks of Where, All and Period. -/
theorem sectors_ok {L : List Mesh} {sec t : Int} (h : (whereR L sec t).2 = 0) :
    okTrain L = true ∧ 0 ≤ t ∧ t ≤ 1000000 ∧ 2 ≤ sec ∧ sec ≤ 96 ∧ (allR L sec).2 = 0 ∧ (allR L sec).1 ≠ [] ∧ (∀ x ∈ (allR L sec).1, 0 ≤ x ∧ x < sec) ∧ (allR L sec).1.Pairwise (· < ·) ∧
    (whereR L sec t).1.1 ≤ (whereR L sec t).1.2 ∧ -1000000000000 ≤ (whereR L sec t).1.1 ∧ (whereR L sec t).1.2 ≤ 96000000000000000 ∧
    (∀ x : Int, (whereR L sec t).1.1 ≤ x → x ≤ (whereR L sec t).1.2 → x % sec ∈ (allR L sec).1) ∧
    ((periodR L).2 = 0 → (periodR L).1 ≤ 1000000 - t → ∃ d : Int, whereR L sec (t + (periodR L).1) = (((whereR L sec t).1.1 + d * sec, (whereR L sec t).1.2 + d * sec), 0) ∧ 1 ≤ d ∧ d * sec ≤ 96000000000000000) := by
  unfold whereR at h
  split at h
  · rename_i ha
    split at h
    · rename_i hs
      split at h
      · rename_i hr
        obtain ⟨hok, ht0, ht1⟩ := asked_ok ha
        obtain ⟨k1, k2, k3⟩ := ok_train hok
        have hs' := hs
        simp only [inB, decide_eq_true_eq] at hs'
        obtain ⟨s, rfl⟩ := Int.eq_ofNat_of_zero_le (show 0 ≤ sec by omega)
        obtain ⟨t, rfl⟩ := Int.eq_ofNat_of_zero_le ht0
        have hb := runner_bounds hok hr
        have hle : (lastR L).err = 0 := by
          unfold runnerE at hr
          split at hr
          · rename_i h0; exact h0
          · rename_i h0; exact absurd hr h0
        have hW : ∀ u : Nat, u ≤ 1000000 → whereR L s u = (spanR (lastR L) (playGo L ⟨0, 1, 0⟩) s u, 0) := fun u hu => by
          have hau : askedR L u = 0 := by rw [askedR, if_pos hok, if_pos (by simp [inB]; omega)]
          rw [whereR, if_pos hau, if_pos hs, if_pos hr]
          simp
        have hA : allR L s = (filtI (allB (lastR L).den (playGo L ⟨0, 1, 0⟩) s) s, 0) := by
          rw [allR, if_pos hok, if_pos hs, if_pos hr]
          simp [filtI]
        rw [hW t (by omega), hA]
        have hs0 : 0 < s := by omega
        have hmem : ∀ x : Int, (spanR (lastR L) (playGo L ⟨0, 1, 0⟩) s t).1 ≤ x → x ≤ (spanR (lastR L) (playGo L ⟨0, 1, 0⟩) s t).2 → x % s ∈ filtI (allB (lastR L).den (playGo L ⟨0, 1, 0⟩) s) s := fun x h1 h2 => by
          have q1 := Int.emod_nonneg x (show (s : Int) ≠ 0 by omega)
          have q2 := Int.emod_lt_of_pos x (show (0 : Int) < s by omega)
          obtain ⟨k, hk⟩ := Int.eq_ofNat_of_zero_le q1
          rw [hk]
          exact filtI_mem (by omega) (all_hit hle hb.2.1 hs0 (by omega) ((hit_iff hs0 (by omega)).2 ⟨x, h1, h2, hk⟩))
        have hlh := span_le (lastR L) (playGo L ⟨0, 1, 0⟩) s t
        have hlo : -1000000000000 ≤ (spanR (lastR L) (playGo L ⟨0, 1, 0⟩) s t).1 ∧ (spanR (lastR L) (playGo L ⟨0, 1, 0⟩) s t).2 ≤ 96000000000000000 := by
          simp only [spanR]
          have h1 : (playGo L ⟨0, 1, 0⟩).num * s / (playGo L ⟨0, 1, 0⟩).den ≤ (playGo L ⟨0, 1, 0⟩).num * s := Nat.div_le_self _ _
          have h2 : (playGo L ⟨0, 1, 0⟩).num * s ≤ 1000000000 * 96 := Nat.mul_le_mul hb.2.2.2.1 (by omega)
          have h3 : t * (lastR L).num * s / (lastR L).den ≤ t * (lastR L).num * s := Nat.div_le_self _ _
          have h4 : t * (lastR L).num * s ≤ 1000000 * 1000000000 * 96 := Nat.mul_le_mul (Nat.mul_le_mul (by omega) hb.1) (by omega)
          generalize (playGo L ⟨0, 1, 0⟩).num * s / (playGo L ⟨0, 1, 0⟩).den = y at *
          generalize t * (lastR L).num * s / (lastR L).den = x at *
          constructor
          · split <;> omega
          · omega
        refine ⟨hok, by omega, by omega, by omega, by omega, rfl, ?_, fun x hx => filtI_range hx, filtI_sorted _ _, hlh, hlo.1, hlo.2, hmem, ?_⟩
        · intro he
          have := hmem _ hlh (Int.le_refl _)
          simp only at he
          rw [he] at this
          cases this
        · intro hp hle2
          have hP : periodR L = perV (perGo (shaftL L) 1) := by rw [periodR, if_pos hok]
          rw [hP] at hp hle2 ⊢
          cases hg : perGo (shaftL L) 1 with
          | none => rw [hg] at hp; simp [perV] at hp
          | some n =>
            rw [hg] at hle2
            simp only [perV] at hle2 ⊢
            have hsh : shaftsOK L (L.length + 1) := by
              refine Classical.byContradiction fun hne => ?_
              rw [perGo_all hne] at hg
              cases hg
            obtain ⟨_, n1, n2⟩ := perGo_some _ _ _ hg (by omega) (den_pos hok hsh)
            obtain ⟨z, hz⟩ := n2 _ (shaftL_mem (Nat.le_refl L.length))
            have hlast : shaftR L L.length = lastR L := rfl
            rw [hlast] at hz
            have hnum : 1 ≤ (lastR L).num := by
              have k4 : ∀ m ∈ L.take L.length, m.ok = true := fun m hm => k3 m (List.mem_of_mem_take hm)
              have hp1 : 1 ≤ pr (drs (L.take L.length)) := pr_pos _ fun x hx => (drs_mem k4 x hx).1
              have hp2 : 1 ≤ pr (dns (L.take L.length)) := pr_pos _ fun x hx => (dns_mem k4 x hx).1
              have hD : 1 ≤ pr (dns (L.take L.length)) * (drs L).getD 0 1 := Nat.mul_le_mul hp2 (drs_getD k3 0).1
              obtain ⟨e, _, e2, _, _⟩ := low_ok _ _ hD hle
              have e' : (lastR L).num * (pr (dns (L.take L.length)) * (drs L).getD 0 1) = pr (drs (L.take L.length)) * (lastR L).den := e
              rcases Nat.eq_zero_or_pos (lastR L).num with h0 | h0
              · rw [h0, Nat.zero_mul] at e'
                have e2' : 1 ≤ (lastR L).den := e2
                have : 1 ≤ pr (drs (L.take L.length)) * (lastR L).den := Nat.mul_le_mul hp1 e2'
                omega
              · exact h0
            have ht2 : t + n ≤ 1000000 := by omega
            have e0 : ((t : Int) + n) = ((t + n : Nat) : Int) := by simp
            rw [e0, hW (t + n) ht2]
            have hb2 := hb.2.1
            have hz1 : 1 ≤ z := by
              rcases Nat.eq_zero_or_pos z with h0 | h0
              · rw [h0, Nat.mul_zero] at hz; omega
              · exact h0
            have hshift : (t + n) * (lastR L).num * s = t * (lastR L).num * s + (lastR L).den * (z * (lastR L).num * s) := by
              rw [hz, Nat.add_mul, Nat.add_mul]
              congr 1
              ac_rfl
            have hle3 : z * (lastR L).num * s ≤ 1000000 * 1000000000 * 96 := by
              have : z ≤ n := by rw [hz]; exact Nat.le_mul_of_pos_left _ (by omega)
              exact Nat.mul_le_mul (Nat.mul_le_mul (by omega) hb.1) (by omega)
            refine ⟨((z * (lastR L).num : Nat) : Int), ?_, ?_, ?_⟩
            · have q2 : (t + n) * (lastR L).num * s / (lastR L).den = t * (lastR L).num * s / (lastR L).den + z * (lastR L).num * s := by rw [hshift, Nat.add_mul_div_left _ _ (by omega)]
              have q3 : (t + n) * (lastR L).num * s % (lastR L).den = t * (lastR L).num * s % (lastR L).den := by rw [hshift, Nat.add_mul_mod_self_left]
              have q4 : ((z * (lastR L).num : Nat) : Int) * (s : Int) = ((z * (lastR L).num * s : Nat) : Int) := (Int.natCast_mul _ _).symm
              rw [q4]
              refine Prod.ext (Prod.ext ?_ ?_) rfl
              · simp only [spanR]
                rw [q2, q3]
                generalize t * (lastR L).num * s / (lastR L).den = x
                generalize (playGo L ⟨0, 1, 0⟩).num * s / (playGo L ⟨0, 1, 0⟩).den = y
                generalize z * (lastR L).num * s = v
                split <;> omega
              · simp only [spanR]
                rw [q2]
                generalize t * (lastR L).num * s / (lastR L).den = x
                generalize z * (lastR L).num * s = v
                omega
            · have : 1 ≤ z * (lastR L).num := one_mul_one hz1 hnum
              omega
            · have q4 : ((z * (lastR L).num : Nat) : Int) * (s : Int) = ((z * (lastR L).num * s : Nat) : Int) := (Int.natCast_mul _ _).symm
              rw [q4]
              omega
      · rename_i hr
        simp at h
        exact absurd h hr
    · simp at h
  · rename_i ha
    exact absurd h ha

/-- Without a place: All has the same error, or an argument was wrong. -/
theorem sectors_bad {L : List Mesh} {sec t : Int} (h : (whereR L sec t).2 ≠ 0) : (allR L sec).2 = (whereR L sec t).2 ∨ (whereR L sec t).2 = 1 := by
  unfold whereR at h ⊢
  unfold allR
  by_cases hok : okTrain L = true
  · rw [if_pos hok]
    by_cases ht : inB t 0 1000000 = true
    · have ha : askedR L t = 0 := by rw [askedR, if_pos hok, if_pos ht]
      rw [if_pos ha] at h ⊢
      by_cases hs : inB sec 2 96 = true
      · rw [if_pos hs] at h ⊢
        rw [if_pos hs]
        by_cases hr : runnerE L = 0
        · rw [if_pos hr] at h
          exact absurd rfl h
        · rw [if_neg hr, if_neg hr]
          exact .inl rfl
      · rw [if_neg hs, if_neg hs]
        exact .inl rfl
    · have ha : askedR L t = 1 := by rw [askedR, if_pos hok, if_neg ht]
      rw [if_neg (show ¬ askedR L t = 0 by omega)]
      exact .inr ha
  · have ha : askedR L t = 70 := by rw [askedR, if_neg hok]
    rw [if_neg hok, if_neg (show ¬ askedR L t = 0 by omega)]
    exact .inl ha.symm

end Go.Proofs.Ytheifigkclegdaa
