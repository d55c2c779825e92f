/-
  Plain laws of the sectors at which the runner may stand.
-/
import Derived.Test.YtheifigkclegdaaPlayM
import Derived.Test.YtheifigkclegdaaAgainM
namespace Go.Proofs.Ytheifigkclegdaa

/-- Whether a number of a span has the remainder k by sec. -/
def hit (s : Int × Int) (sec k : Nat) : Bool := decide (s.1 ≤ s.2 - (s.2 - k) % sec)

theorem emod_le_self {a : Int} {b : Nat} (ha : 0 ≤ a) : a % (b : Int) ≤ a := by
  obtain ⟨n, rfl⟩ := Int.eq_ofNat_of_zero_le ha
  rw [← Int.natCast_emod]
  have := Nat.mod_le n b
  omega

theorem hit_top (hi : Int) {sec k : Nat} (hs : 0 < sec) (hk : k < sec) : hi - (hi - k) % sec ≤ hi ∧ hi - sec + 1 ≤ hi - (hi - k) % sec ∧ (hi - (hi - k) % sec) % sec = k := by
  have h1 := Int.emod_nonneg (hi - k) (show (sec : Int) ≠ 0 by omega)
  have h2 := Int.emod_lt_of_pos (hi - k) (show (0 : Int) < sec by omega)
  refine ⟨by omega, by omega, ?_⟩
  have e : hi - (hi - k) % sec = k + sec * ((hi - k) / sec) := by
    have := Int.emod_add_mul_ediv (hi - k) sec
    omega
  rw [e, Int.add_mul_emod_self_left]
  exact Int.emod_eq_of_lt (by omega) (by omega)

theorem hit_iff {s : Int × Int} {sec k : Nat} (hs : 0 < sec) (hk : k < sec) : hit s sec k = true ↔ ∃ x : Int, s.1 ≤ x ∧ x ≤ s.2 ∧ x % sec = k := by
  obtain ⟨t1, t2, t3⟩ := hit_top s.2 hs hk
  unfold hit
  rw [decide_eq_true_eq]
  constructor
  · intro h
    exact ⟨_, h, t1, t3⟩
  · rintro ⟨x, h1, h2, h3⟩
    have e : (s.2 - k) % sec = (s.2 - x) % sec := by
      rw [← h3, Int.sub_emod s.2 (x % sec), Int.emod_emod, ← Int.sub_emod]
    have := emod_le_self (a := s.2 - x) (b := sec) (by omega)
    omega

/-- The last sec numbers of a span suffice. -/
theorem hit_last {s : Int × Int} {sec k : Nat} (hs : 0 < sec) (hk : k < sec) : hit s sec k = true ↔ ∃ x : Int, max s.1 (s.2 - sec + 1) ≤ x ∧ x ≤ s.2 ∧ x % sec = k := by
  obtain ⟨t1, t2, t3⟩ := hit_top s.2 hs hk
  constructor
  · intro h
    unfold hit at h
    rw [decide_eq_true_eq] at h
    exact ⟨_, by omega, t1, t3⟩
  · rintro ⟨x, h1, h2, h3⟩
    exact (hit_iff hs hk).2 ⟨x, by omega, h2, h3⟩

/-- The first sec numbers of a span suffice too. -/
theorem hit_first {s : Int × Int} {sec k : Nat} (hs : 0 < sec) (hk : k < sec) : hit s sec k = true ↔ ∃ i : Nat, i < sec ∧ s.1 + i ≤ s.2 ∧ (s.1 + i) % sec = k := by
  constructor
  · intro h
    obtain ⟨x, h1, h2, h3⟩ := (hit_iff hs hk).1 h
    have e1 := Int.emod_nonneg (x - s.1) (show (sec : Int) ≠ 0 by omega)
    have e2 := Int.emod_lt_of_pos (x - s.1) (show (0 : Int) < sec by omega)
    have e3 := emod_le_self (a := x - s.1) (b := sec) (by omega)
    refine ⟨((x - s.1) % sec).toNat, by omega, by omega, ?_⟩
    have e : (((x - s.1) % sec).toNat : Int) = (x - s.1) % sec := Int.toNat_of_nonneg e1
    rw [e, ← h3, Int.add_emod, Int.emod_emod, ← Int.add_emod]
    congr 1
    omega
  · rintro ⟨i, _, h2, h3⟩
    exact (hit_iff hs hk).2 ⟨s.1 + i, by omega, h2, h3⟩

/-- Go's ((n % sec) + sec) % sec. -/
theorem go_mod (n : Int) {sec : Nat} (hs : 0 < sec) : - (sec : Int) < Int.tmod n sec ∧ Int.tmod n sec < sec ∧ 0 ≤ Int.tmod n sec + sec ∧ (Int.tmod n sec + sec) % sec = n % sec ∧ 0 ≤ n % sec ∧ n % sec < sec := by
  have h1 := Int.emod_nonneg n (show (sec : Int) ≠ 0 by omega)
  have h2 := Int.emod_lt_of_pos n (show (0 : Int) < sec by omega)
  have h3 : -(sec : Int) < Int.tmod n sec ∧ Int.tmod n sec < sec := by
    rw [Int.tmod_eq_emod]
    split <;> simp <;> omega
  refine ⟨h3.1, h3.2, by omega, ?_, h1, h2⟩
  have e := Int.mul_tdiv_add_tmod n sec
  have e2 : Int.tmod n sec + sec = n + sec * (1 - n.tdiv sec) := by
    rw [Int.mul_sub, Int.mul_one]
    omega
  rw [e2, Int.add_mul_emod_self_left]

/-- Whether the runner ever may stand at sector k. -/
def allB (den : Nat) (p : Res) (sec k : Nat) : Bool := decide (sec ≤ den) || (List.range den).any fun t => hit (spanR ⟨1, den, 0⟩ p sec t) sec k

def allR (L : List Mesh) (sec : Int) : List Int × Int :=
  if okTrain L then
    if inB sec 2 96 then
      if runnerE L = 0 then (((List.range sec.toNat).filter (allB (lastR L).den (playGo L ⟨0, 1, 0⟩) sec.toNat)).map fun k : Nat => (k : Int), 0) else ([], (runnerE L : Nat))
    else ([], 1)
  else ([], 70)

end Go.Proofs.Ytheifigkclegdaa
