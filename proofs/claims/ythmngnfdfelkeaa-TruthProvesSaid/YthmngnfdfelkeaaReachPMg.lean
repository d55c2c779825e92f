/-
  What is proved: the plain laws of Reach and Apart: the moment with each lead goes by a way within its reach, both ends occur, and no lead balances a stone that is apart.
-/
import Derived.Test.YthmngnfdfelkeaaReach3Mg
import Derived.Test.YthmngnfdfelkeaaMg22
namespace Go.Proofs.Ythmngnfdfelkeaa
open Go.RowKit

/-- How far a point goes by a way. -/
def alongV (way p : Int × Int) : Int := way.1 * p.1 + way.2 * p.2

theorem alongV_by (way p : Int × Int) : alongV way p = byV p way := by
  simp only [alongV, byV, Int.mul_comm]

theorem mid_mul (b l m : Int) (h0 : 0 ≤ l) (h1 : l ≤ m) : min (b * 0) (b * m) ≤ b * l ∧ b * l ≤ max (b * 0) (b * m) := by
  rcases Int.le_total 0 b with h | h
  · have e1 := Int.mul_le_mul_of_nonneg_left h1 h
    have e2 := Int.mul_nonneg h h0
    omega
  · have e1 := Int.mul_le_mul_of_nonpos_left h h1
    have e2 := Int.mul_nonpos_of_nonpos_of_nonneg h h0
    omega

theorem lowZ_get {k : Nat} (h : k < 8) : lowZ.getD k 0 = 0 := by
  rw [lowZ, List.getD_eq_getElem?_getD, List.getElem?_replicate, if_pos h]; rfl
theorem highK_get (s : Stn) {n k : Nat} (h8 : k < 8) (hk : k < n) : (highK s n).getD k 0 = (s.pockets.getD k ((0, 0), 0)).2 := by
  simp only [highK, List.getD_eq_getElem?_getD, List.getElem?_map]
  rw [List.getElem?_eq_getElem (by simpa using h8)]
  simp [hk]

theorem along_succ (s : Stn) (way : Int × Int) (l : List Int) (k : Nat) :
    alongV way (withX s l (k + 1), withY s l (k + 1)) = alongV way (withX s l k, withY s l k) + byV (s.pockets.getD k ((0, 0), 0)).1 way * l.getD k 0 := by
  simp only [alongV, byV, withX, withY]
  generalize (s.pockets.getD k ((0, 0), 0)).1.1 = a
  generalize (s.pockets.getD k ((0, 0), 0)).1.2 = b
  generalize l.getD k 0 = x
  generalize withX s l k = u
  generalize withY s l k = v
  rw [Int.mul_add, Int.mul_add, Int.add_mul, ← Int.mul_assoc, ← Int.mul_assoc, Int.mul_comm way.1 a, Int.mul_comm way.2 b]
  omega

theorem reach_in {s : Stn} (h : s.ok = true) {l : List Int} (hl : leadP s l) (way : Int × Int) : ∀ k, k ≤ s.pockets.length →
    reachLo s way lowZ (highK s s.pockets.length) k ≤ alongV way (withX s l k, withY s l k) ∧ alongV way (withX s l k, withY s l k) ≤ reachHi s way lowZ (highK s s.pockets.length) k
  | 0, _ => by
    simp only [alongV, reachLo, reachHi, byV, withX, withY, Int.mul_comm]
    omega
  | k + 1, hk => by
    have ih := reach_in h hl way k (by omega)
    have h8 := (stn_ok h).2.2.2.2.1
    have hb := hl.2 k (by have := hl.1; omega)
    have hm := mid_mul (byV (s.pockets.getD k ((0, 0), 0)).1 way) _ _ hb.1 hb.2
    rw [along_succ]
    simp only [reachLo, reachHi]
    rw [lowZ_get (by omega), highK_get s (by omega) (by omega)]
    omega

/-- The leads of the two ends. -/
def endL (s : Stn) (c : Int → Bool) (way : Int × Int) (k : Nat) : List Int :=
  (List.range s.pockets.length).map fun i => if i < k ∧ c (alongV way (s.pockets.getD i ((0, 0), 0)).1) = true then (s.pockets.getD i ((0, 0), 0)).2 else 0
theorem endL_len (s : Stn) (c : Int → Bool) (way : Int × Int) (k : Nat) : (endL s c way k).length = s.pockets.length := by simp [endL]
theorem endL_get (s : Stn) (c : Int → Bool) (way : Int × Int) (k : Nat) {i : Nat} (hi : i < s.pockets.length) :
    (endL s c way k).getD i 0 = if i < k ∧ c (alongV way (s.pockets.getD i ((0, 0), 0)).1) = true then (s.pockets.getD i ((0, 0), 0)).2 else 0 := by
  simp only [endL, List.getD_eq_getElem?_getD, List.getElem?_map]
  rw [List.getElem?_eq_getElem (by simpa using hi)]
  simp
theorem endL_zero (s : Stn) (c : Int → Bool) (way : Int × Int) : endL s c way 0 = List.replicate s.pockets.length 0 := by
  apply List.ext_getElem
  · simp [endL]
  · intro i h1 h2
    simp [endL]
theorem endL_no (s : Stn) (c : Int → Bool) (way : Int × Int) {k : Nat} (hc : c (alongV way (s.pockets.getD k ((0, 0), 0)).1) = false) : endL s c way (k + 1) = endL s c way k := by
  apply List.map_congr_left
  intro i hi
  rcases Nat.lt_trichotomy i k with h | h | h
  · simp [h, show i < k + 1 by omega]
  · subst h
    rw [hc]
    simp
  · simp [show ¬ i < k by omega, show ¬ i < k + 1 by omega]
theorem endL_yes (s : Stn) (c : Int → Bool) (way : Int × Int) {k : Nat} (hc : c (alongV way (s.pockets.getD k ((0, 0), 0)).1) = true) : (endL s c way k).set k (s.pockets.getD k ((0, 0), 0)).2 = endL s c way (k + 1) := by
  apply List.ext_getElem
  · simp [endL]
  · intro i h1 h2
    have hi : i < s.pockets.length := by simpa [endL] using h1
    rw [List.getElem_set]
    split
    · rename_i he
      subst he
      have := endL_get s c way (k + 1) hi
      rw [hc, getD_get _ _ h2] at this
      simpa using this.symm
    · rename_i he
      have e1 := endL_get s c way (k + 1) hi
      have e2 := endL_get s c way k hi
      rw [getD_get _ _ h2] at e1
      rw [getD_get _ _ (by simpa [endL] using hi)] at e2
      rw [e1, e2]
      by_cases hq : i < k
      · simp [hq, show i < k + 1 by omega]
      · simp [hq, show ¬ i < k + 1 by omega]

theorem endL_lead {s : Stn} (h : s.ok = true) (c : Int → Bool) (way : Int × Int) (k : Nat) : leadP s (endL s c way k) := by
  refine ⟨endL_len _ _ _ _, fun i hi => ?_⟩
  rw [endL_len] at hi
  rw [endL_get s c way k hi]
  obtain ⟨_, _, _, _, _, _, _, _, hp⟩ := stn_ok h
  have := (hp _ (getD_mem ((0, 0), 0) hi)).2
  split <;> omega

def lowC (n : Int) : Bool := decide (n < 0)
def highC (n : Int) : Bool := decide (0 < n)

theorem end_low {s : Stn} (h : s.ok = true) (way : Int × Int) : ∀ k, k ≤ s.pockets.length →
    alongV way (withX s (endL s lowC way s.pockets.length) k, withY s (endL s lowC way s.pockets.length) k) = reachLo s way lowZ (highK s s.pockets.length) k
  | 0, _ => by
    simp only [alongV, reachLo, byV, withX, withY, Int.mul_comm]
  | k + 1, hk => by
    have ih := end_low h way k (by omega)
    have h8 := (stn_ok h).2.2.2.2.1
    obtain ⟨_, _, _, _, _, _, _, _, hp⟩ := stn_ok h
    have hb := (hp _ (getD_mem ((0, 0), 0) (show k < s.pockets.length by omega))).2
    rw [along_succ, ih, endL_get s _ _ _ (by omega), alongV_by]
    simp only [reachLo]
    rw [lowZ_get (by omega), highK_get s (by omega) (by omega)]
    generalize byV (s.pockets.getD k ((0, 0), 0)).1 way = b
    generalize (s.pockets.getD k ((0, 0), 0)).2 = m at hb ⊢
    congr 1
    by_cases hn : b < 0
    · have e := Int.mul_nonpos_of_nonpos_of_nonneg (show b ≤ 0 by omega) hb.1
      simp only [lowC, hn, decide_true, and_true]
      rw [if_pos (by omega)]
      omega
    · have e := Int.mul_nonneg (show 0 ≤ b by omega) hb.1
      simp only [lowC, hn, decide_false, Bool.false_eq_true, and_false, if_false]
      omega

theorem end_high {s : Stn} (h : s.ok = true) (way : Int × Int) : ∀ k, k ≤ s.pockets.length →
    alongV way (withX s (endL s highC way s.pockets.length) k, withY s (endL s highC way s.pockets.length) k) = reachHi s way lowZ (highK s s.pockets.length) k
  | 0, _ => by
    simp only [alongV, reachHi, byV, withX, withY, Int.mul_comm]
  | k + 1, hk => by
    have ih := end_high h way k (by omega)
    have h8 := (stn_ok h).2.2.2.2.1
    obtain ⟨_, _, _, _, _, _, _, _, hp⟩ := stn_ok h
    have hb := (hp _ (getD_mem ((0, 0), 0) (show k < s.pockets.length by omega))).2
    rw [along_succ, ih, endL_get s _ _ _ (by omega), alongV_by]
    simp only [reachHi]
    rw [lowZ_get (by omega), highK_get s (by omega) (by omega)]
    generalize byV (s.pockets.getD k ((0, 0), 0)).1 way = b
    generalize (s.pockets.getD k ((0, 0), 0)).2 = m at hb ⊢
    congr 1
    by_cases hn : 0 < b
    · have e := Int.mul_nonneg (show 0 ≤ b by omega) hb.1
      simp only [highC, hn, decide_true, and_true]
      rw [if_pos (by omega)]
      omega
    · have e := Int.mul_nonpos_of_nonpos_of_nonneg (show b ≤ 0 by omega) hb.1
      simp only [highC, hn, decide_false, Bool.false_eq_true, and_false, if_false]
      omega

theorem abs_dot {x y t a b : Int} (_h0 : 0 ≤ t) (h1 : -t ≤ x ∧ x ≤ t) (h2 : -t ≤ y ∧ y ≤ t) : a * x + b * y ≤ t * ((a.natAbs : Int) + b.natAbs) := by
  have e1 := (abs_mul (x := x) (y := a) (a := t) (b := a.natAbs) h1 (by omega)).2
  have e2 := (abs_mul (x := y) (y := b) (a := t) (b := b.natAbs) h2 (by omega)).2
  rw [Int.mul_add, Int.mul_comm a x, Int.mul_comm b y]
  omega

/-- What the law of the reaches needs of them. -/
structure ReachFacts (s : Stn) (way : Int × Int) (l : List Int) (rR wR aR : (Int × Int) × Int) (bR : Bool × Int) : Prop where
  ok : rR.2 = 0 → s.ok = true ∧ WayOk way
  same : wR.2 = bR.2
  inn : rR.2 = 0 → wR.2 = 0 → (rR.1.1 ≤ alongV way wR.1 ∧ alongV way wR.1 ≤ rR.1.2) ∧ (-1000000000000000 ≤ wR.1.1 ∧ wR.1.1 ≤ 1000000000000000) ∧ -1000000000000000 ≤ wR.1.2 ∧ wR.1.2 ≤ 1000000000000000
  bal : aR.2 = 0 → bR.2 = 0 → bR.1 = false
  wok : aR.2 = 0 → WayOk aR.1
  tol : aR.2 = 0 → 0 ≤ s.tol ∧ s.tol ≤ 1000000000000
  far : aR.2 = 0 → (reachR s aR.1).2 = 0 ∧ s.tol * (max aR.1.1 (-aR.1.1) + max aR.1.2 (-aR.1.2)) < (reachR s aR.1).1.1
  low : rR.2 = 0 → (withR s (endL s lowC way s.pockets.length)).2 = 0 ∧ alongV way (withR s (endL s lowC way s.pockets.length)).1 = rR.1.1
  high : rR.2 = 0 → (withR s (endL s highC way s.pockets.length)).2 = 0 ∧ alongV way (withR s (endL s highC way s.pockets.length)).1 = rR.1.2
  lowb : rR.2 = 0 → (-1000000000000000 ≤ (withR s (endL s lowC way s.pockets.length)).1.1 ∧ (withR s (endL s lowC way s.pockets.length)).1.1 ≤ 1000000000000000) ∧ -1000000000000000 ≤ (withR s (endL s lowC way s.pockets.length)).1.2 ∧ (withR s (endL s lowC way s.pockets.length)).1.2 ≤ 1000000000000000
  highb : rR.2 = 0 → (-1000000000000000 ≤ (withR s (endL s highC way s.pockets.length)).1.1 ∧ (withR s (endL s highC way s.pockets.length)).1.1 ≤ 1000000000000000) ∧ -1000000000000000 ≤ (withR s (endL s highC way s.pockets.length)).1.2 ∧ (withR s (endL s highC way s.pockets.length)).1.2 ≤ 1000000000000000

theorem withR_small {s : Stn} (h : s.ok = true) {l : List Int} (hl : leadP s l) :
    (-1000000000000000 ≤ withX s l l.length ∧ withX s l l.length ≤ 1000000000000000) ∧ -1000000000000000 ≤ withY s l l.length ∧ withY s l l.length ≤ 1000000000000000 := by
  have hb := with_bound h hl l.length (Nat.le_refl _)
  have h8 := (stn_ok h).2.2.2.2.1
  have := hl.1
  omega

theorem reach_facts (s : Stn) (way : Int × Int) (l : List Int) : ReachFacts s way l (reachR s way) (withR s l) (apartR s) (balR s l) := by
  have hra : (reachR s way).2 = 0 → s.ok = true ∧ wayB way = true ∧ reachR s way = ((reachLo s way lowZ (highK s s.pockets.length) s.pockets.length, reachHi s way lowZ (highK s s.pockets.length) s.pockets.length), 0) := by
    intro h
    unfold reachR at h ⊢
    split at h
    · rename_i h1
      split at h
      · rename_i h2
        refine ⟨h1, h2, ?_⟩
        simp [h1, h2]
      · cases h
    · cases h
  have hwa : (withR s l).2 = 0 → leadP s l ∧ withR s l = ((withX s l l.length, withY s l l.length), 0) := by
    intro h
    unfold withR at h ⊢
    split at h
    · rename_i h1
      split at h
      · rename_i h2
        refine ⟨(leadB_iff s l).1 h2, ?_⟩
        simp [h1, h2]
      · cases h
    · cases h
  have haa : (apartR s).2 = 0 → s.ok = true ∧ ∃ x : Way, apartR s = (x.1, 0) ∧ farB s x = true := by
    intro h
    unfold apartR at h ⊢
    split at h
    · rename_i h1
      refine ⟨h1, ?_⟩
      rw [if_pos h1]
      split at h
      · rename_i x hx
        have := List.find?_some hx
        exact ⟨x, rfl, this⟩
      · cases h
    · cases h
  have hend : s.ok = true → ∀ c, withR s (endL s c way s.pockets.length) = ((withX s (endL s c way s.pockets.length) s.pockets.length, withY s (endL s c way s.pockets.length) s.pockets.length), 0) := by
    intro h1 c
    have := (leadB_iff s _).2 (endL_lead h1 c way s.pockets.length)
    simp [withR, h1, this, endL_len]
  have hendb : s.ok = true → ∀ c, (-1000000000000000 ≤ (withR s (endL s c way s.pockets.length)).1.1 ∧ (withR s (endL s c way s.pockets.length)).1.1 ≤ 1000000000000000) ∧ -1000000000000000 ≤ (withR s (endL s c way s.pockets.length)).1.2 ∧ (withR s (endL s c way s.pockets.length)).1.2 ≤ 1000000000000000 := by
    intro h1 c
    have hb := withR_small h1 (endL_lead h1 c way s.pockets.length)
    rw [hend h1 c]
    rw [endL_len] at hb
    exact hb
  refine ⟨?_, (withR_bal s l).1, ?_, ?_, ?_, ?_, ?_, ?_, ?_, ?_, ?_⟩
  · intro h
    exact ⟨(hra h).1, wayB_ok (hra h).2.1⟩
  · intro h1 h2
    obtain ⟨ho, _, hr⟩ := hra h1
    obtain ⟨hl, hw⟩ := hwa h2
    have hi := reach_in ho hl way s.pockets.length (Nat.le_refl _)
    rw [hr, hw, hl.1]
    have hb := withR_small ho hl
    rw [hl.1] at hb
    exact ⟨hi, hb⟩
  · intro h1 h2
    obtain ⟨ho, x, hx, hf⟩ := haa h1
    have hs := withR_bal s l
    rw [h2] at hs
    obtain ⟨hl, hw⟩ := hwa hs.1
    obtain ⟨t0, t1, hb⟩ := hs.2.1 rfl
    rw [hb, hw]
    by_cases hfl : flatB s.tol [withX s l l.length, withY s l l.length] = true
    · exfalso
      simp only [flatB, List.all_cons, List.all_nil, Bool.and_true, Bool.and_eq_true, inB, decide_eq_true_eq] at hfl
      simp only [farB, apartB, decide_eq_true_eq] at hf
      have hi := (reach_in ho hl x.1 s.pockets.length (Nat.le_refl _)).1
      have hd := abs_dot (a := x.1.1) (b := x.1.2) t0 hfl.1 hfl.2
      rw [hl.1] at hd
      simp only [alongV] at hi
      omega
    · simpa using hfl
  · intro h1
    obtain ⟨ho, x, hx, hf⟩ := haa h1
    rw [hx]
    exact x.2
  · intro h1
    obtain ⟨ho, _⟩ := haa h1
    obtain ⟨_, _, _, _, _, t0, t1, _⟩ := stn_ok ho
    exact ⟨t0, t1⟩
  · intro h1
    obtain ⟨ho, x, hx, hf⟩ := haa h1
    rw [hx]
    simp only [farB, apartB, decide_eq_true_eq] at hf
    have hw : wayB x.1 = true := by
      obtain ⟨⟨a1, a2⟩, b1, b2⟩ := x.2
      simp only [wayB, Bool.and_eq_true, inB, decide_eq_true_eq]
      refine ⟨⟨⟨a1, a2⟩, b1, b2⟩, ?_⟩
      simp only [Bool.not_eq_true', Bool.and_eq_false_iff, beq_eq_false_iff_ne]
      by_cases hz : x.1.1 = 0
      · right
        intro hz2
        have hlo : ∀ k, reachLo s x.1 lowZ (highK s s.pockets.length) k = 0 := by
          intro k
          induction k with
          | zero => simp [reachLo, byV, hz, hz2]
          | succ k ih => simp [reachLo, ih, byV, hz, hz2]
        rw [hlo, hz, hz2] at hf
        simp at hf
      · exact Or.inl hz
    have hr : reachR s x.1 = ((reachLo s x.1 lowZ (highK s s.pockets.length) s.pockets.length, reachHi s x.1 lowZ (highK s s.pockets.length) s.pockets.length), 0) := by simp [reachR, ho, hw]
    rw [hr]
    refine ⟨rfl, ?_⟩
    have e1 : max x.1.1 (-x.1.1) = (x.1.1.natAbs : Int) := by omega
    have e2 : max x.1.2 (-x.1.2) = (x.1.2.natAbs : Int) := by omega
    simp only
    rw [e1, e2]
    exact hf
  · intro h
    obtain ⟨ho, _, hr⟩ := hra h
    rw [hend ho, hr]
    exact ⟨rfl, end_low ho way _ (Nat.le_refl _)⟩
  · intro h
    obtain ⟨ho, _, hr⟩ := hra h
    rw [hend ho, hr]
    exact ⟨rfl, end_high ho way _ (Nat.le_refl _)⟩
  · intro h
    exact hendb (hra h).1 _
  · intro h
    exact hendb (hra h).1 _

end Go.Proofs.Ythmngnfdfelkeaa
