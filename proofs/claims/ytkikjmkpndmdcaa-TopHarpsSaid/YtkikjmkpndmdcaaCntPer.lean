/-
  What is proved: plain law: the counts of a floor that is alike in each harp are alike in each harp.
-/
import Derived.Test.YtkikjmkpndmdcaaCountsT
import Derived.Test.YtkikjmkpndmdcaaRot
namespace Go.Proofs.Ytkikjmkpndmdcaa

def sumN (h : Nat → Int) : Nat → Int
  | 0 => 0
  | n + 1 => sumN h n + h n
theorem sumN_congr {h g : Nat → Int} : ∀ n, (∀ i, i < n → h i = g i) → sumN h n = sumN g n
  | 0, _ => rfl
  | n + 1, e => by rw [sumN, sumN, sumN_congr n (fun i hi => e i (by omega)), e n (by omega)]
theorem sumN_add (h : Nat → Int) (a : Nat) : ∀ b, sumN h (a + b) = sumN h a + sumN (fun i => h (a + i)) b
  | 0 => by simp [sumN]
  | b + 1 => by rw [← Nat.add_assoc, sumN, sumN_add h a b, sumN]; omega
theorem sumN_mul (h : Nat → Int) (S : Nat) : ∀ B, sumN h (B * S) = sumN (fun b => sumN (fun s => h (b * S + s)) S) B
  | 0 => by simp [sumN]
  | B + 1 => by rw [Nat.add_mul, Nat.one_mul, sumN_add, sumN_mul h S B, sumN]
theorem mod_small {a V S : Nat} (ha : a < S) (hV : V ≤ S) : (a + V) % S = if a + V < S then a + V else a + V - S := by
  split
  · rename_i h; exact Nat.mod_eq_of_lt h
  · rename_i h
    rw [Nat.mod_eq_sub_mod (by omega), Nat.mod_eq_of_lt (by omega)]
theorem sumN_rot (h : Nat → Int) {S V : Nat} (hV : V ≤ S) : sumN (fun s => h ((s + V) % S)) S = sumN h S := by
  obtain ⟨d, rfl⟩ : ∃ d, S = d + V := ⟨S - V, by omega⟩
  have e1 : sumN (fun s => h ((s + V) % (d + V))) d = sumN (fun i => h (V + i)) d := sumN_congr d fun i hi => by
    rw [mod_small (by omega) (by omega), if_pos (by omega), Nat.add_comm]
  have e2 : sumN (fun s => h ((d + s + V) % (d + V))) V = sumN h V := sumN_congr V fun i hi => by
    rw [mod_small (by omega) (by omega), if_neg (by omega)]
    congr 1
    omega
  rw [sumN_add (fun s => h ((s + V) % (d + V))), e1, e2, Nat.add_comm d V, sumN_add h]
  omega
theorem mod_inj {a b V S : Nat} (ha : a < S) (hb : b < S) (hV : V ≤ S) (h : (a + V) % S = (b + V) % S) : a = b := by
  rw [mod_small ha hV, mod_small hb hV] at h
  split at h <;> split at h <;> omega
theorem pair_inj {S a b x y : Nat} (hx : x < S) (hy : y < S) (h : a * S + x = b * S + y) : a = b ∧ x = y := by
  have e : (a * S + x) / S = (b * S + y) / S := by rw [h]
  rw [Nat.mul_comm, Nat.mul_add_div (by omega), Nat.div_eq_of_lt hx, Nat.mul_comm b, Nat.mul_add_div (by omega), Nat.div_eq_of_lt hy] at e
  have e' : a = b := by omega
  subst e'
  exact ⟨rfl, by omega⟩

open Classical in
theorem cnt_sum (f : Flr) (ixF : Flr → Nat → Nat → Nat → Nat) (c : Nat) : ∀ k, (∀ i, i < k → ixOf f ixF i < f.R * f.S) → (cntL f ixF k).getD c 0 = sumN (fun i => if hitB f i = true ∧ ixOf f ixF i = c then 1 else 0) k
  | 0, _ => by
    simp only [cntL, sumN, List.getD_eq_getElem?_getD, List.getElem?_replicate]
    split <;> rfl
  | k + 1, hix => by
    have ih := fun c => cnt_sum f ixF c k (fun i hi => hix i (by omega))
    have hl := cntL_len f ixF k
    have hk := hix k (by omega)
    rw [sumN, ← ih c]
    simp only [cntL]
    by_cases h1 : hitB f k = true
    · rw [if_pos h1]
      by_cases h2 : ixOf f ixF k = c
      · rw [if_pos ⟨h1, h2⟩, h2]
        rw [List.getD_eq_getElem?_getD, List.getElem?_set_self (by omega)]
        rfl
      · rw [if_neg (fun a => h2 a.2), List.getD_eq_getElem?_getD, List.getElem?_set_ne h2, ← List.getD_eq_getElem?_getD]
        omega
    · rw [if_neg h1, if_neg (fun a => h1 a.1)]
      omega

theorem block_parts {R S b s : Nat} (hs : s < S) : ringN R S (b * S + s) = b % R ∧ secN S (b * S + s) = s ∧ turnN R S (b * S + s) = b / R := by
  have e : (b * S + s) / S = b := by rw [Nat.mul_comm, Nat.mul_add_div (by omega), Nat.div_eq_of_lt hs, Nat.add_zero]
  refine ⟨?_, ?_, ?_⟩
  · unfold ringN; rw [e]
  · unfold secN; rw [Nat.mul_comm, Nat.mul_add_mod]; exact Nat.mod_eq_of_lt hs
  · unfold turnN; rw [← Nat.div_div_eq_div_mul, e]

/-- Counts by a place that goes round with the harps. -/
theorem cnt_per {f : Flr} {V : Nat} (hok : f.Ok) (hp : PerF f V) (hV : V ≤ f.S) (ixF : Flr → Nat → Nat → Nat → Nat) (se : Nat → Nat → Nat)
    (h1 : ∀ ring sec turn, sec < f.S → turn < f.S → ixF f ring sec turn = ring * f.S + se sec turn) (h2 : ∀ sec turn, sec < f.S → turn < f.S → se sec turn < f.S)
    (h3 : ∀ sec turn, sec < f.S → turn < f.S → se ((sec + V) % f.S) turn = (se sec turn + V) % f.S) {ring sec : Nat} (hr : ring < f.R) (hs : sec < f.S) :
    (cntL f ixF (f.R * f.S * f.S)).getD (ring * f.S + (sec + V) % f.S) 0 = (cntL f ixF (f.R * f.S * f.S)).getD (ring * f.S + sec) 0 := by
  have hS : 0 < f.S := by have := hok.s0; omega
  have hix : ∀ i, i < f.R * f.S * f.S → ixOf f ixF i < f.R * f.S := fun i hi => by
    obtain ⟨e1, e2, e3, _⟩ := state_lt hok hi
    unfold ixOf
    rw [h1 _ _ _ e2 e3]
    exact cell_lt e1 (h2 _ _ e2 e3)
  rw [cnt_sum f ixF _ _ hix, cnt_sum f ixF _ _ hix, sumN_mul _ f.S (f.R * f.S), sumN_mul _ f.S (f.R * f.S)]
  refine sumN_congr _ fun b hb => ?_
  rw [← sumN_rot _ hV]
  refine sumN_congr _ fun s hs' => ?_
  have hs2 : (s + V) % f.S < f.S := Nat.mod_lt _ hS
  have hbR : b % f.R < f.R := Nat.mod_lt _ (by have := hok.r0; omega)
  have hbT : b / f.R < f.S := by
    rw [Nat.div_lt_iff_lt_mul (by have := hok.r0; omega), Nat.mul_comm]; exact hb
  obtain ⟨a1, a2, a3⟩ := block_parts (R := f.R) (b := b) hs2
  obtain ⟨b1, b2, b3⟩ := block_parts (R := f.R) (b := b) hs'
  have eh : hitB f (b * f.S + (s + V) % f.S) = hitB f (b * f.S + s) := by
    unfold hitB
    rw [a1, a2, a3, b1, b2, b3, mvs_rot hp hbR hs' hbT]
  rw [eh]
  have ei : ixOf f ixF (b * f.S + (s + V) % f.S) = (b % f.R) * f.S + (se s (b / f.R) + V) % f.S := by
    unfold ixOf
    rw [a1, a2, a3, h1 _ _ _ hs2 hbT, h3 _ _ hs' hbT]
  have ej : ixOf f ixF (b * f.S + s) = (b % f.R) * f.S + se s (b / f.R) := by
    unfold ixOf
    rw [b1, b2, b3, h1 _ _ _ hs' hbT]
  rw [ei, ej]
  have hse := h2 s (b / f.R) hs' hbT
  have key : ((b % f.R) * f.S + (se s (b / f.R) + V) % f.S = ring * f.S + (sec + V) % f.S) ↔ ((b % f.R) * f.S + se s (b / f.R) = ring * f.S + sec) := by
    constructor
    · intro h
      obtain ⟨p, q⟩ := pair_inj (Nat.mod_lt _ hS) (Nat.mod_lt _ hS) h
      rw [p, mod_inj hse hs hV q]
    · intro h
      obtain ⟨p, q⟩ := pair_inj hse hs h
      rw [p, q]
  by_cases hh : hitB f (b * f.S + s) = true ∧ (b % f.R) * f.S + se s (b / f.R) = ring * f.S + sec
  · rw [if_pos hh, if_pos ⟨hh.1, key.2 hh.2⟩]
  · rw [if_neg hh, if_neg (fun a => hh ⟨a.1, key.1 a.2⟩)]

theorem bed_per {f : Flr} {V : Nat} (hok : f.Ok) (hp : PerF f V) (hV : V ≤ f.S) {ring sec : Nat} (hr : ring < f.R) (hs : sec < f.S) :
    (cntL f bedIx (f.R * f.S * f.S)).getD (ring * f.S + (sec + V) % f.S) 0 = (cntL f bedIx (f.R * f.S * f.S)).getD (ring * f.S + sec) 0 :=
  cnt_per hok hp hV bedIx (fun sec _ => sec) (fun _ _ _ _ _ => rfl) (fun _ _ h _ => h) (fun _ _ _ _ => rfl) hr hs
theorem run_per {f : Flr} {V : Nat} (hok : f.Ok) (hp : PerF f V) (hV : V ≤ f.S) {ring sec : Nat} (hr : ring < f.R) (hs : sec < f.S) :
    (cntL f runIx (f.R * f.S * f.S)).getD (ring * f.S + (sec + V) % f.S) 0 = (cntL f runIx (f.R * f.S * f.S)).getD (ring * f.S + sec) 0 :=
  cnt_per hok hp hV runIx (fun sec turn => runS f.S sec turn) (fun _ _ _ _ _ => rfl) (fun _ _ h _ => runS_lt (by omega)) (fun _ _ h1 h2 => runS_rot h1 h2) hr hs

end Go.Proofs.Ytkikjmkpndmdcaa
