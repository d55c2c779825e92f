/-
  Plain laws of numbers: lowest terms of a product of fractions. No program in sight.
-/
namespace Go.Proofs.Ytheifigkclegdaa

/-- The product of a list. -/
def pr : List Nat → Nat
  | [] => 1
  | n :: l => n * pr l

theorem pr_append (a b : List Nat) : pr (a ++ b) = pr a * pr b := by
  induction a with
  | nil => simp [pr]
  | cons x a ih => simp [pr, ih, Nat.mul_assoc]

theorem pr_pos (l : List Nat) (h : ∀ x ∈ l, 1 ≤ x) : 1 ≤ pr l := by
  induction l with
  | nil => simp [pr]
  | cons x l ih =>
    have h1 := h x (by simp)
    have h2 := ih fun y hy => h y (by simp [hy])
    exact Nat.mul_pos h1 h2

theorem pr_set (l : List Nat) (i : Nat) (hi : i < l.length) (x g : Nat) (h : l[i] = x * g) : pr (l.set i x) * g = pr l := by
  induction l generalizing i with
  | nil => simp at hi
  | cons y l ih =>
    cases i with
    | zero =>
      simp at h
      simp [pr, h, Nat.mul_assoc, Nat.mul_comm g]
    | succ i =>
      have := ih i (by simpa using hi) (by simpa using h)
      simp [pr, Nat.mul_assoc, this]

theorem pr_zero (l : List Nat) (i : Nat) (hi : i < l.length) (h : l[i] = 0) : pr l = 0 := by
  induction l generalizing i with
  | nil => simp at hi
  | cons y l ih =>
    cases i with
    | zero => simp at h; simp [pr, h]
    | succ i => simp [pr, ih i (by simpa using hi) (by simpa using h)]

theorem pr_take_succ (l : List Nat) (i : Nat) (hi : i < l.length) : pr (l.take (i + 1)) = pr (l.take i) * l[i] := by
  rw [List.take_succ_eq_append_getElem hi, pr_append]
  simp [pr]

theorem pr_take_le (l : List Nat) (i : Nat) (h : ∀ x ∈ l, 1 ≤ x) : pr (l.take i) ≤ pr l := by
  have e : pr l = pr (l.take i) * pr (l.drop i) := by rw [← pr_append, List.take_append_drop]
  rw [e]
  exact Nat.le_mul_of_pos_right _ (pr_pos _ fun x hx => h x (List.mem_of_mem_drop hx))

/-- What the functions on ratios return: a ratio and an error. -/
structure Res where
  num : Nat
  den : Nat
  err : Nat
  deriving DecidableEq

/-- The lowest terms of N / D, or the error 2. -/
def low (N D : Nat) : Res :=
  if N / Nat.gcd N D ≤ 1000000000 ∧ D / Nat.gcd N D ≤ 1000000000 then ⟨N / Nat.gcd N D, D / Nat.gcd N D, 0⟩ else ⟨0, 0, 2⟩

/-- Lowest terms are what they are by two facts. -/
theorem low_of (N D n d : Nat) (hD : 1 ≤ D) (hd : 1 ≤ d) (hx : n * D = N * d) (hc : Nat.gcd n d = 1) : N / Nat.gcd N D = n ∧ D / Nat.gcd N D = d := by
  have hcop : Nat.Coprime d n := by rw [Nat.coprime_iff_gcd_eq_one, Nat.gcd_comm]; exact hc
  have h1 : d ∣ D := by
    have : d ∣ n * D := by rw [hx]; exact Nat.dvd_mul_left d N
    exact hcop.dvd_of_dvd_mul_left this
  obtain ⟨g, rfl⟩ := h1
  have hg : 0 < g := Nat.pos_of_ne_zero (by rintro rfl; simp at hD)
  have hN : N = n * g := by
    have : N * d = (n * g) * d := by rw [← hx]; ac_rfl
    exact Nat.eq_of_mul_eq_mul_right (by omega) this
  subst hN
  have e : Nat.gcd (n * g) (d * g) = g := by rw [Nat.gcd_mul_right, hc, Nat.one_mul]
  rw [e]
  exact ⟨Nat.mul_div_cancel _ hg, Nat.mul_div_cancel _ hg⟩

theorem low_eq (N D n d : Nat) (hD : 1 ≤ D) (hd : 1 ≤ d) (hx : n * D = N * d) (hc : Nat.gcd n d = 1) :
    low N D = if n ≤ 1000000000 ∧ d ≤ 1000000000 then ⟨n, d, 0⟩ else ⟨0, 0, 2⟩ := by
  obtain ⟨h1, h2⟩ := low_of N D n d hD hd hx hc
  simp only [low, h1, h2]

/-- Only the fraction counts. -/
theorem low_congr (N D N' D' : Nat) (hD : 1 ≤ D) (hD' : 1 ≤ D') (h : N * D' = N' * D) : low N D = low N' D' := by
  have hg : 0 < Nat.gcd N' D' := Nat.gcd_pos_of_pos_right _ (by omega)
  have hd : 1 ≤ D' / Nat.gcd N' D' := Nat.div_pos (Nat.gcd_le_right _ (by omega)) hg
  have hc : Nat.gcd (N' / Nat.gcd N' D') (D' / Nat.gcd N' D') = 1 := Nat.gcd_div_gcd_div_gcd_of_pos_right (by omega)
  have hx' : N' / Nat.gcd N' D' * D' = N' * (D' / Nat.gcd N' D') := by
    rw [Nat.div_mul_right_comm (Nat.gcd_dvd_left _ _), Nat.mul_div_assoc _ (Nat.gcd_dvd_right _ _)]
  have hx : N' / Nat.gcd N' D' * D = N * (D' / Nat.gcd N' D') := by
    refine Nat.eq_of_mul_eq_mul_right (show 0 < D' by omega) ?_
    calc N' / Nat.gcd N' D' * D * D' = N' / Nat.gcd N' D' * D' * D := by ac_rfl
      _ = N' * (D' / Nat.gcd N' D') * D := by rw [hx']
      _ = N' * D * (D' / Nat.gcd N' D') := by ac_rfl
      _ = N * D' * (D' / Nat.gcd N' D') := by rw [h]
      _ = N * (D' / Nat.gcd N' D') * D' := by ac_rfl
  rw [low_eq N D _ _ hD hd hx hc, low_eq N' D' _ _ hD' hd hx' hc]

/-- What low returns without error. -/
theorem low_ok (N D : Nat) (hD : 1 ≤ D) (h : (low N D).err = 0) :
    (low N D).num * D = N * (low N D).den ∧ Nat.gcd (low N D).num (low N D).den = 1 ∧ 1 ≤ (low N D).den ∧ (low N D).num ≤ 1000000000 ∧ (low N D).den ≤ 1000000000 := by
  unfold low at h ⊢
  split at h
  · rename_i hle
    rw [if_pos hle]
    have hg : 0 < Nat.gcd N D := Nat.gcd_pos_of_pos_right _ (by omega)
    refine ⟨?_, Nat.gcd_div_gcd_div_gcd_of_pos_right (by omega), Nat.div_pos (Nat.gcd_le_right _ (by omega)) hg, hle.1, hle.2⟩
    show N / Nat.gcd N D * D = N * (D / Nat.gcd N D)
    rw [Nat.div_mul_right_comm (Nat.gcd_dvd_left _ _), Nat.mul_div_assoc _ (Nat.gcd_dvd_right _ _)]
  · simp at h

theorem low_err (N D : Nat) : (low N D).err = 0 ∨ low N D = ⟨0, 0, 2⟩ := by
  unfold low
  split
  · exact .inl rfl
  · exact .inr rfl

theorem low_zero (D : Nat) (hD : 1 ≤ D) : low 0 D = ⟨0, 1, 0⟩ := by
  rw [low_eq 0 D 0 1 hD (by omega) (by simp) (by simp)]
  simp

/-! ### The reduction, pair by pair -/

/-- Ns / Ds is N / D, and the pairs before (i, k) have no common divisor. -/
structure Red (N D Ns Ds : List Nat) (M i k : Nat) : Prop where
  lenN : Ns.length = N.length
  lenD : Ds.length = D.length
  leN : ∀ j, Ns.getD j 1 ≤ M
  leD : ∀ j, Ds.getD j 1 ≤ M
  posD : ∀ j, 1 ≤ Ds.getD j 1
  cross : pr Ns * pr D = pr N * pr Ds
  cop : ∀ i' k', i' < i → Nat.gcd (Ns.getD i' 1) (Ds.getD k' 1) = 1
  copk : ∀ k', k' < k → Nat.gcd (Ns.getD i 1) (Ds.getD k' 1) = 1

theorem getD_set (l : List Nat) (i j x : Nat) : (l.set i x).getD j 1 = if i = j ∧ i < l.length then x else l.getD j 1 := by
  simp only [List.getD_eq_getElem?_getD, List.getElem?_set]
  by_cases h : i = j
  · subst h
    by_cases hl : i < l.length
    · simp [hl]
    · simp [hl]
  · simp [h]

theorem cop_div (a b a' b' : Nat) (h : Nat.gcd a b = 1) (ha : a' ∣ a) (hb : b' ∣ b) : Nat.gcd a' b' = 1 := by
  have : Nat.gcd a' b' ∣ Nat.gcd a b := Nat.dvd_gcd (Nat.dvd_trans (Nat.gcd_dvd_left _ _) ha) (Nat.dvd_trans (Nat.gcd_dvd_right _ _) hb)
  rw [h] at this
  exact Nat.dvd_one.1 this

theorem Red.start (N D : List Nat) (M : Nat) (hN : ∀ j, N.getD j 1 ≤ M) (hD : ∀ j, D.getD j 1 ≤ M) (hp : ∀ j, 1 ≤ D.getD j 1) : Red N D N D M 0 0 :=
  ⟨rfl, rfl, hN, hD, hp, rfl, fun _ _ h => absurd h (by omega), fun _ h => absurd h (by omega)⟩

/-- One pair is reduced. -/
theorem Red.step {N D Ns Ds : List Nat} {M i k : Nat} (h : Red N D Ns Ds M i k) (hi : i < Ns.length) (hk : k < Ds.length) :
    Red N D (Ns.set i (Ns[i] / Nat.gcd Ns[i] Ds[k])) (Ds.set k (Ds[k] / Nat.gcd Ns[i] Ds[k])) M i (k + 1) := by
  have ei : Ns.getD i 1 = Ns[i] := by simp [List.getD_eq_getElem?_getD, hi]
  have ek : Ds.getD k 1 = Ds[k] := by simp [List.getD_eq_getElem?_getD, hk]
  have hpk : 1 ≤ Ds[k] := ek ▸ h.posD k
  have hg : 0 < Nat.gcd Ns[i] Ds[k] := Nat.gcd_pos_of_pos_right _ (by omega)
  have gN := Nat.gcd_dvd_left Ns[i] Ds[k]
  have gD := Nat.gcd_dvd_right Ns[i] Ds[k]
  have hle : Nat.gcd Ns[i] Ds[k] ≤ Ds[k] := Nat.gcd_le_right _ (by omega)
  have dN : ∀ j, (Ns.set i (Ns[i] / Nat.gcd Ns[i] Ds[k])).getD j 1 ∣ Ns.getD j 1 := fun j => by
    rw [getD_set]
    split
    · rename_i hh; obtain ⟨rfl, _⟩ := hh; rw [ei]; exact Nat.div_dvd_of_dvd gN
    · exact Nat.dvd_refl _
  have dD : ∀ j, (Ds.set k (Ds[k] / Nat.gcd Ns[i] Ds[k])).getD j 1 ∣ Ds.getD j 1 := fun j => by
    rw [getD_set]
    split
    · rename_i hh; obtain ⟨rfl, _⟩ := hh; rw [ek]; exact Nat.div_dvd_of_dvd gD
    · exact Nat.dvd_refl _
  refine ⟨by simpa using h.lenN, by simpa using h.lenD, fun j => ?_, fun j => ?_, fun j => ?_, ?_, fun i' k' hi' => ?_, fun k' hk' => ?_⟩
  · rw [getD_set]
    split
    · exact Nat.le_trans (Nat.div_le_self _ _) (ei ▸ h.leN i)
    · exact h.leN j
  · rw [getD_set]
    split
    · exact Nat.le_trans (Nat.div_le_self _ _) (ek ▸ h.leD k)
    · exact h.leD j
  · rw [getD_set]
    split
    · exact Nat.div_pos hle hg
    · exact h.posD j
  · have e1 := pr_set Ns i hi (Ns[i] / Nat.gcd Ns[i] Ds[k]) (Nat.gcd Ns[i] Ds[k]) (Nat.div_mul_cancel gN).symm
    have e2 := pr_set Ds k hk (Ds[k] / Nat.gcd Ns[i] Ds[k]) (Nat.gcd Ns[i] Ds[k]) (Nat.div_mul_cancel gD).symm
    have hx := h.cross
    rw [← e1, ← e2] at hx
    refine Nat.eq_of_mul_eq_mul_right hg ?_
    calc _ = pr (Ns.set i (Ns[i] / Nat.gcd Ns[i] Ds[k])) * Nat.gcd Ns[i] Ds[k] * pr D := by ac_rfl
      _ = pr N * (pr (Ds.set k (Ds[k] / Nat.gcd Ns[i] Ds[k])) * Nat.gcd Ns[i] Ds[k]) := hx
      _ = _ := by ac_rfl
  · exact cop_div _ _ _ _ (h.cop i' k' hi') (dN i') (dD k')
  · rcases Nat.lt_or_ge k' k with hlt | hge
    · exact cop_div _ _ _ _ (h.copk k' hlt) (dN i) (dD k')
    · have : k' = k := by omega
      subst this
      rw [getD_set, getD_set, if_pos ⟨rfl, hi⟩, if_pos ⟨rfl, hk⟩]
      exact Nat.gcd_div_gcd_div_gcd_of_pos_right (by omega)

/-- A row of pairs is done. -/
theorem Red.next {N D Ns Ds : List Nat} {M i k : Nat} (h : Red N D Ns Ds M i k) (hk : Ds.length ≤ k) : Red N D Ns Ds M (i + 1) 0 := by
  refine ⟨h.lenN, h.lenD, h.leN, h.leD, h.posD, h.cross, fun i' k' hi' => ?_, fun _ h => absurd h (by omega)⟩
  rcases Nat.lt_or_ge i' i with hlt | hge
  · exact h.cop i' k' hlt
  · have : i' = i := by omega
    subst this
    rcases Nat.lt_or_ge k' k with hlt | hge
    · exact h.copk k' hlt
    · have : Ds.getD k' 1 = 1 := by simp [List.getD_eq_getElem?_getD, List.getElem?_eq_none (show Ds.length ≤ k' by omega)]
      rw [this, Nat.gcd_one_right]

theorem cop_mul (a b c : Nat) (h1 : Nat.gcd a c = 1) (h2 : Nat.gcd b c = 1) : Nat.gcd (a * b) c = 1 :=
  Nat.Coprime.mul_left h1 h2

theorem cop_pr (l : List Nat) (c : Nat) (h : ∀ j, Nat.gcd (l.getD j 1) c = 1) : Nat.gcd (pr l) c = 1 := by
  induction l with
  | nil => simp [pr]
  | cons x l ih =>
    have h0 := h 0
    simp at h0
    exact cop_mul x (pr l) c h0 (ih fun j => by have := h (j + 1); simpa using this)

theorem mem_getD {l : List Nat} {x : Nat} (h : x ∈ l) : ∃ j, l.getD j 1 = x := by
  obtain ⟨j, hj, rfl⟩ := List.getElem_of_mem h
  exact ⟨j, by simp [List.getD_eq_getElem?_getD, hj]⟩

/-- All pairs are done: what is left are the lowest terms. -/
theorem Red.done {N D Ns Ds : List Nat} {M i : Nat} (h : Red N D Ns Ds M i 0) (hi : Ns.length ≤ i) (hD : ∀ d ∈ D, 1 ≤ d) :
    low (pr N) (pr D) = if pr Ns ≤ 1000000000 ∧ pr Ds ≤ 1000000000 then ⟨pr Ns, pr Ds, 0⟩ else ⟨0, 0, 2⟩ := by
  refine low_eq _ _ _ _ (pr_pos D hD) (pr_pos Ds fun x hx => ?_) h.cross ?_
  · obtain ⟨j, rfl⟩ := mem_getD hx
    exact h.posD j
  · refine cop_pr Ns _ fun j => ?_
    rw [Nat.gcd_comm]
    refine cop_pr Ds _ fun k => ?_
    rw [Nat.gcd_comm]
    rcases Nat.lt_or_ge j i with hlt | hge
    · exact h.cop j k hlt
    · have : Ns.getD j 1 = 1 := by simp [List.getD_eq_getElem?_getD, List.getElem?_eq_none (show Ns.length ≤ j by omega)]
      rw [this, Nat.gcd_one_left]

/-- A numerator is 0: so is the product. -/
theorem Red.zero {N D Ns Ds : List Nat} {M i k : Nat} (h : Red N D Ns Ds M i k) (hi : i < Ns.length) (h0 : Ns[i] = 0) (hD : ∀ d ∈ D, 1 ≤ d) : low (pr N) (pr D) = ⟨0, 1, 0⟩ := by
  have h1 := pr_zero Ns i hi h0
  have hx := h.cross
  rw [h1, Nat.zero_mul] at hx
  have hp : 1 ≤ pr Ds := pr_pos Ds fun x hx => by obtain ⟨j, rfl⟩ := mem_getD hx; exact h.posD j
  have : pr N = 0 := by
    rcases Nat.mul_eq_zero.1 hx.symm with h | h
    · exact h
    · omega
  rw [this]
  exact low_zero _ (pr_pos D hD)

/-- The product of the first ones is too large: so is that of all. -/
theorem pr_too_much (l : List Nat) (j : Nat) (hj : j < l.length) (hpos : ∀ x ∈ l, 1 ≤ x) (h1 : 1 ≤ pr (l.take j)) (h : 1000000000 / pr (l.take j) < l[j]) : ¬ pr l ≤ 1000000000 := by
  have h2 := pr_take_le l (j + 1) hpos
  rw [pr_take_succ l j hj] at h2
  have h3 : 1000000000 < pr (l.take j) * l[j] := by
    have := (Nat.div_lt_iff_lt_mul (show 0 < pr (l.take j) by omega)).1 h
    rwa [Nat.mul_comm] at this
  omega

theorem pr_fits (l : List Nat) (j : Nat) (hj : j < l.length) (h1 : 1 ≤ pr (l.take j)) (h : l[j] ≤ 1000000000 / pr (l.take j)) : pr (l.take (j + 1)) ≤ 1000000000 := by
  rw [pr_take_succ l j hj, Nat.mul_comm]
  exact (Nat.le_div_iff_mul_le (show 0 < pr (l.take j) by omega)).1 h

end Go.Proofs.Ytheifigkclegdaa
