/-
  What is proved: plain laws of a floor that is alike in each harp: going round by one harp maps moves to moves.
-/
import Derived.Test.YtkikjmkpndmdcaaGraph
namespace Go.Proofs.Ytkikjmkpndmdcaa
open Go.RowKit

/-- The kinds are alike in each harp. -/
structure PerF (f : Flr) (V : Nat) : Prop where
  bed : ∀ ring sec, ring < f.R → sec < f.S → f.bed.getD (ring * f.S + (sec + V) % f.S) 0 = f.bed.getD (ring * f.S + sec) 0
  run : ∀ ring sec, ring < f.R → sec < f.S → f.run.getD (ring * f.S + (sec + V) % f.S) 0 = f.run.getD (ring * f.S + sec) 0
def rotN (f : Flr) (V i : Nat) : Nat := numN f.R f.S (ringN f.R f.S i) ((secN f.S i + V) % f.S) (turnN f.R f.S i)

theorem num_parts {R S ring sec turn : Nat} (h1 : ring < R) (h2 : sec < S) : ringN R S (numN R S ring sec turn) = ring ∧ secN S (numN R S ring sec turn) = sec ∧ turnN R S (numN R S ring sec turn) = turn := by
  have e1 : numN R S ring sec turn / S = turn * R + ring := by
    unfold numN
    rw [Nat.mul_comm, Nat.mul_add_div (by omega), Nat.div_eq_of_lt h2, Nat.add_zero]
  refine ⟨?_, ?_, ?_⟩
  · unfold ringN
    rw [e1, Nat.mul_comm, Nat.mul_add_mod]
    exact Nat.mod_eq_of_lt h1
  · unfold secN numN
    rw [Nat.mul_comm, Nat.mul_add_mod]
    exact Nat.mod_eq_of_lt h2
  · unfold turnN
    rw [← Nat.div_div_eq_div_mul, e1, Nat.mul_comm, Nat.mul_add_div (by omega), Nat.div_eq_of_lt h1, Nat.add_zero]
theorem num_lt {R S ring sec turn : Nat} (h1 : ring < R) (h2 : sec < S) (h3 : turn < S) : numN R S ring sec turn < R * S * S := by
  unfold numN
  have a1 : turn * R + ring < S * R := by
    have : (turn + 1) * R ≤ S * R := Nat.mul_le_mul_right R h3
    rw [Nat.add_mul] at this
    omega
  have a2 : (turn * R + ring + 1) * S ≤ S * R * S := Nat.mul_le_mul_right S a1
  rw [Nat.add_mul] at a2
  rw [Nat.mul_comm R S]
  omega
theorem runS_rot {S sec turn V : Nat} (h2 : sec < S) (h3 : turn < S) : runS S ((sec + V) % S) turn = (runS S sec turn + V) % S := by
  unfold runS
  have a : (sec + V) % S < S := Nat.mod_lt _ (by omega)
  have e : ((sec + V) % S + S - turn) % S = ((sec + V) % S + (S - turn)) % S := by congr 1; omega
  have e2 : (sec + S - turn) % S = (sec + (S - turn)) % S := by congr 1; omega
  rw [e, e2, Nat.add_mod, Nat.mod_mod, ← Nat.add_mod, Nat.add_mod (_ % S), Nat.mod_mod, ← Nat.add_mod]
  congr 1
  omega
theorem bedK_rot {f : Flr} {V : Nat} (h : PerF f V) {ring sec : Nat} (h1 : ring < f.R) (h2 : sec < f.S) : bedK f ring ((sec + V) % f.S) = bedK f ring sec := h.bed ring sec h1 h2
theorem runK_rot {f : Flr} {V : Nat} (h : PerF f V) {ring sec turn : Nat} (h1 : ring < f.R) (h2 : sec < f.S) (h3 : turn < f.S) : runK f ring ((sec + V) % f.S) turn = runK f ring sec turn := by
  unfold runK
  rw [runS_rot h2 h3]
  exact h.run ring _ h1 (runS_lt (by omega))
theorem mvs_rot {f : Flr} {V : Nat} (h : PerF f V) {ring sec turn : Nat} (h1 : ring < f.R) (h2 : sec < f.S) (h3 : turn < f.S) : mvsOf f ring ((sec + V) % f.S) turn = mvsOf f ring sec turn := by
  unfold mvsOf mvIx
  rw [bedK_rot h h1 h2, runK_rot h h1 h2 h3]

theorem sec_rot {S sec V : Nat} {d : Int} (hS : 0 < S) : ((((sec + V) % S : Nat) : Int) + d) % S = (((((sec : Int) + d) % S).toNat + V) % S : Nat) := by
  have h0 : 0 ≤ ((sec : Int) + d) % S := Int.emod_nonneg _ (by omega)
  rw [Int.natCast_emod, Int.natCast_emod, Int.natCast_add, Int.natCast_add, Int.toNat_of_nonneg h0, Int.emod_add_emod, Int.emod_add_emod]
  congr 1
  omega
theorem next_rot {f : Flr} (hok : f.Ok) {V ring sec turn : Nat} {m : Mv} (h1 : ring < f.R) (h2 : sec < f.S) (h3 : turn < f.S) (hm : -1 ≤ m.out ∧ m.out ≤ 1) :
    nextN f ring ((sec + V) % f.S) turn m = (nextN f ring sec turn m).map (rotN f V) := by
  have hS := hok.s0
  unfold nextN
  by_cases hq : (ring : Int) + m.out = f.R
  · rw [if_pos hq, if_pos hq]; rfl
  · rw [if_neg hq, if_neg hq]
    have a1 : ((ring : Int) + m.out).toNat < f.R := by omega
    have a2 : (((sec : Int) + m.side) % f.S).toNat < f.S := by
      have := Int.emod_lt_of_pos ((sec : Int) + m.side) (b := f.S) (by omega)
      have := Int.emod_nonneg ((sec : Int) + m.side) (b := f.S) (by omega)
      omega
    obtain ⟨p1, p2, p3⟩ := num_parts (turn := (turn + 1) % f.S) a1 a2
    simp only [Option.map_some, rotN, p1, p2, p3, Option.some.injEq]
    rw [sec_rot (by omega), Int.toNat_natCast]

theorem rot_turns {f : Flr} (hok : f.Ok) {V : Nat} (h : PerF f V) : Turns f (rotN f V) (fun i => i < f.R * f.S * f.S) := by
  intro i hi
  obtain ⟨e1, e2, e3, _⟩ := state_lt hok hi
  have e2' : (secN f.S i + V) % f.S < f.S := Nat.mod_lt _ (by omega)
  have hd := fun m (hm : m ∈ mvsOf f (ringN f.R f.S i) (secN f.S i) (turnN f.R f.S i)) => (hok.dk _ (getD_mem [] (show mvIx f (ringN f.R f.S i) (secN f.S i) (turnN f.R f.S i) < f.drive.length by rw [hok.dl]; exact (kinds_in hok e1 e2).2.2))).2.2 m hm
  obtain ⟨p1, p2, p3⟩ := num_parts (turn := turnN f.R f.S i) e1 e2'
  constructor
  · unfold stepsL
    simp only [rotN, p1, p2, p3]
    rw [mvs_rot h e1 e2 e3, List.map_map]
    refine List.map_congr_left (fun m hm => ?_)
    have := hd m hm
    simp only [Function.comp, Prod.mk.injEq, true_and]
    exact next_rot hok e1 e2 e3 ⟨this.1, this.2.1⟩
  · rintro k ⟨m, hm⟩
    unfold stepsL at hm
    obtain ⟨m', hm', he⟩ := List.mem_map.1 hm
    simp only [Prod.mk.injEq] at he
    have hb := hd m' hm'
    have he2 := he.2
    unfold nextN at he2
    split at he2
    · cases he2
    · rename_i hq
      simp only [Option.some.injEq] at he2
      rw [← he2]
      refine num_lt (by omega) ?_ (Nat.mod_lt _ (by omega))
      have := Int.emod_lt_of_pos ((secN f.S i : Int) + m'.side) (b := f.S) (by omega)
      have := Int.emod_nonneg ((secN f.S i : Int) + m'.side) (b := f.S) (by omega)
      omega

end Go.Proofs.Ytkikjmkpndmdcaa
