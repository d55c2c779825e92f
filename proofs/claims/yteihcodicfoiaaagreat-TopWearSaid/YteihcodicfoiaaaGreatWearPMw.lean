/-
  What is proved: plain law of TopWear: in each pass both stones lose as much on each ring.
-/
import Derived.Test.YteihcodicfoiaaaGreatStoriesMw
import Derived.Test.YteihcodicfoiaaaGreatMw8
import Derived.Test.YteihcodicfoiaaaGreatMw6
namespace Go.Proofs.YteihcodicfoiaaaGreat
open Go.RowKit

theorem sumN_zero : ∀ S, sumN (fun _ => 0) S = 0
  | 0 => rfl
  | S + 1 => by rw [sumN, sumN_zero S]; rfl
theorem sumN_plus (g h : Nat → Int) : ∀ S, sumN (fun s => g s + h s) S = sumN g S + sumN h S
  | 0 => rfl
  | S + 1 => by rw [sumN, sumN, sumN, sumN_plus g h S]; omega
theorem sumN_swap (g : Nat → Nat → Int) (S : Nat) : ∀ k, sumN (fun s => sumN (g s) k) S = sumN (fun i => sumN (fun s => g s i) S) k
  | 0 => sumN_zero S
  | k + 1 => by
    have : sumN (fun s => sumN (g s) (k + 1)) S = sumN (fun s => sumN (g s) k + g s k) S := rfl
    rw [this, sumN_plus, sumN_swap g S k]
    rfl
theorem sumN_scale (t : Int) (g : Nat → Int) : ∀ S, sumN (fun s => t * g s) S = t * sumN g S
  | 0 => by simp [sumN]
  | S + 1 => by rw [sumN, sumN, sumN_scale t g S, Int.mul_add]
theorem sumN_one (x : Nat) : ∀ S, sumN (fun s => if x = s then 1 else 0) S = if x < S then 1 else 0
  | 0 => rfl
  | S + 1 => by
    rw [sumN, sumN_one x S]
    by_cases h : x = S
    · subst h
      rw [if_pos rfl, if_neg (by omega), if_pos (by omega)]
      rfl
    · rw [if_neg h]
      by_cases h2 : x < S
      · rw [if_pos h2, if_pos (by omega)]; rfl
      · rw [if_neg h2, if_neg (by omega)]; rfl
open Classical in
/-- What a stone loses on a ring. -/
theorem ring_sum {f : Flr} (hok : f.Ok) (ixF : Flr → Nat → Nat → Nat → Nat) (se : Nat → Nat → Nat)
    (h1 : ∀ ring sec turn, sec < f.S → turn < f.S → ixF f ring sec turn = ring * f.S + se sec turn) (h2 : ∀ sec turn, sec < f.S → turn < f.S → se sec turn < f.S) (ring : Nat) :
    sumN (fun s => (cntOf f ixF).getD (ring * f.S + s) 0) f.S = sumN (fun i => if hitB f i = true ∧ ringN f.R f.S i = ring then 1 else 0) (f.R * f.S * f.S) := by
  have hix : ∀ i, i < f.R * f.S * f.S → ixOf f ixF i < f.R * f.S := fun i hi => by
    obtain ⟨e1, e2, e3, _⟩ := state_lt hok hi
    unfold ixOf
    rw [h1 _ _ _ e2 e3]
    exact cell_lt e1 (h2 _ _ e2 e3)
  have e1 : sumN (fun s => (cntOf f ixF).getD (ring * f.S + s) 0) f.S = sumN (fun s => sumN (fun i => if hitB f i = true ∧ ixOf f ixF i = ring * f.S + s then 1 else 0) (f.R * f.S * f.S)) f.S :=
    sumN_congr _ fun s _ => cnt_sum f ixF (ring * f.S + s) _ hix
  rw [e1, sumN_swap (fun s i => if hitB f i = true ∧ ixOf f ixF i = ring * f.S + s then 1 else 0)]
  refine sumN_congr _ fun i hi => ?_
  obtain ⟨e1, e2, e3, _⟩ := state_lt hok hi
  have hx := h2 _ _ e2 e3
  have he : ixOf f ixF i = ringN f.R f.S i * f.S + se (secN f.S i) (turnN f.R f.S i) := h1 _ _ _ e2 e3
  rw [he]
  generalize ringN f.R f.S i = a at *
  generalize se (secN f.S i) (turnN f.R f.S i) = x at *
  by_cases hc : hitB f i = true ∧ a = ring
  · rw [if_pos hc]
    have := sumN_one x f.S
    rw [if_pos hx] at this
    refine Eq.trans ?_ this
    refine sumN_congr _ fun s hs => ?_
    obtain ⟨hc1, rfl⟩ := hc
    by_cases h : x = s
    · rw [if_pos h, if_pos ⟨hc1, by rw [h]⟩]
    · rw [if_neg h, if_neg (fun k => h (by have := k.2; omega))]
  · rw [if_neg hc]
    refine Eq.trans ?_ (sumN_zero f.S)
    refine sumN_congr _ fun s hs => ?_
    rw [if_neg]
    rintro ⟨k1, k2⟩
    exact hc ⟨k1, (pair_inj hx hs k2).1⟩
theorem wear_sum {f : Flr} (hok : f.Ok) (ring : Nat) : sumN (fun s => (cntOf f bedIx).getD (ring * f.S + s) 0) f.S = sumN (fun s => (cntOf f runIx).getD (ring * f.S + s) 0) f.S := by
  rw [ring_sum hok bedIx (fun sec _ => sec) (fun _ _ _ _ _ => rfl) (fun _ _ h _ => h), ring_sum hok runIx (fun sec turn => runS f.S sec turn) (fun _ _ _ _ _ => rfl) (fun _ _ h _ => runS_lt (by omega))]
theorem sumZ_sub (l : List Int) (a : Nat) : ∀ n, a + n ≤ l.length → sumZ ((l.drop a).take n) = sumN (fun s => l.getD (a + s) 0) n
  | 0, _ => by simp [sumZ, sumN]
  | n + 1, h => by
    rw [sumZ_take _ _ (by simp; omega), sumN, sumZ_sub l a n (by omega)]
    congr 1
    rw [List.getD_eq_getElem?_getD, List.getD_eq_getElem?_getD, List.getElem?_drop]
theorem times_sum (t : Int) (cnt : List Int) (a n : Nat) (h : a + n ≤ cnt.length) : sumZ (((cnt.map (t * ·)).drop a).take n) = t * sumN (fun s => cnt.getD (a + s) 0) n := by
  rw [sumZ_sub _ _ _ (by simpa using h), ← sumN_scale]
  refine sumN_congr _ fun s hs => ?_
  rw [getD_get _ _ (by simp; omega), getD_get _ _ (by omega)]
  simp

def step0 : StepD := ⟨0, 0, [], none, 0, 0, 0⟩
/-- The passes of a story. -/
def passS (S : List StepD) : List StepD := S.filter fun s => s.kind == 1
theorem passS_plain (S : List StepD) : (passS S).map StepD.plain = (S.map StepD.plain).filter fun s => s.kind == 1 := by
  unfold passS
  rw [List.filter_map]
  rfl
theorem passS_take (S : List StepD) (k : Nat) (hk : k < S.length) : passS (S.take (k + 1)) = if (S.getD k step0).kind = 1 then passS (S.take k) ++ [S.getD k step0] else passS (S.take k) := by
  have e : S.take (k + 1) = S.take k ++ [S.getD k step0] := by rw [List.take_add_one, List.getElem?_eq_getElem hk, getD_get _ _ hk]; rfl
  unfold passS
  rw [e, List.filter_append, List.filter_cons]
  by_cases h : (S.getD k step0).kind = 1
  · rw [if_pos h, if_pos (by simpa using h)]; rfl
  · rw [if_neg h, if_neg (by simpa using h)]; simp
structure PairOk (b : BaseC) (P Q : List StepD) : Prop where
  len : P.length = Q.length
  each : ∀ i, i < P.length → (P.getD i step0).heap = (Q.getD i step0).heap ∧ (P.getD i step0).times.length = b.flr.R * b.flr.S ∧ (Q.getD i step0).times.length = b.flr.R * b.flr.S ∧
    (∀ x ∈ (P.getD i step0).times, 0 ≤ x ∧ x ≤ 1000000000000) ∧ (∀ x ∈ (Q.getD i step0).times, 0 ≤ x ∧ x ≤ 1000000000000) ∧
    ∀ ring, ring < b.flr.R → sumZ (((P.getD i step0).times.drop (ring * b.flr.S)).take b.flr.S) = sumZ (((Q.getD i step0).times.drop (ring * b.flr.S)).take b.flr.S)
theorem pass_get {S : List StepD} {cnt : List Int} {H E : List EvD} (h : (passS S).map StepD.plain = passesOf cnt H E) : (passS S).length = (E.filter fun e => e.note.kind == 2).length ∧ ∀ i, i < (passS S).length →
    ((passS S).getD i step0).heap = heapIx H ((E.filter fun e => e.note.kind == 2).getD i ev0).note.rh ((E.filter fun e => e.note.kind == 2).getD i ev0).note.rn ∧ ((passS S).getD i step0).times = cnt.map (((E.filter fun e => e.note.kind == 2).getD i ev0).note.turns * ·) := by
  have hl : (passS S).length = (E.filter fun e => e.note.kind == 2).length := by
    have := congrArg List.length h
    simpa [passesOf] using this
  refine ⟨hl, fun i hi => ?_⟩
  have h1 : ((passS S).map StepD.plain)[i]? = (passesOf cnt H E)[i]? := by rw [h]
  unfold passesOf at h1
  rw [List.getElem?_map, List.getElem?_map, List.getElem?_eq_getElem hi, List.getElem?_eq_getElem (by omega)] at h1
  simp only [Option.map_some] at h1
  injection h1 with h1
  rw [getD_get _ _ hi, getD_get _ _ (by omega)]
  have e1 := congrArg StepD.heap h1
  have e2 := congrArg StepD.times h1
  exact ⟨e1, e2⟩
theorem times_bd {t : Int} {cnt : List Int} (ht : 1 ≤ t ∧ t ≤ 10000) (hc : Upto 1000 cnt) : ∀ x ∈ cnt.map (t * ·), 0 ≤ x ∧ x ≤ 1000000000000 := by
  intro x hx
  obtain ⟨y, hy, rfl⟩ := List.mem_map.1 hx
  have := hc y hy
  refine ⟨Int.mul_nonneg (by omega) this.1, ?_⟩
  have : t * y ≤ 10000 * 1000 := Int.mul_le_mul ht.2 this.2 this.1 (by omega)
  omega
theorem pair_ok {b : BaseC} {l L : List NoteD} {H E : List EvD} (hR : SetR b l L H E) {S0 S1 : List StepD} {R0 R1 : List ReadD}
    (h0 : (S0.map StepD.plain, R0) = toldF b 0 (cntOf b.flr bedIx) H E) (h1 : (S1.map StepD.plain, R1) = toldF b 1 (cntOf b.flr runIx) H E) : PairOk b (passS S0) (passS S1) := by
  have hfr := fr_ok hR.chk
  have hok : b.flr.Ok := (pre_of hR.few hR.chk.1.1).ok hR.chk.1.2.1
  have p0 : (passS S0).map StepD.plain = passesOf (cntOf b.flr bedIx) H E := by rw [passS_plain, show S0.map StepD.plain = (toldF b 0 (cntOf b.flr bedIx) H E).1 by rw [← h0], toldF_passes]
  have p1 : (passS S1).map StepD.plain = passesOf (cntOf b.flr runIx) H E := by rw [passS_plain, show S1.map StepD.plain = (toldF b 1 (cntOf b.flr runIx) H E).1 by rw [← h1], toldF_passes]
  obtain ⟨l0, g0⟩ := pass_get p0
  obtain ⟨l1, g1⟩ := pass_get p1
  refine ⟨by omega, fun i hi => ?_⟩
  obtain ⟨a0, b0⟩ := g0 i hi
  obtain ⟨a1, b1⟩ := g1 i (by omega)
  have hm : (E.filter fun e => e.note.kind == 2).getD i ev0 ∈ E.filter fun e => e.note.kind == 2 := getD_mem ev0 (by omega)
  have hm2 := List.mem_filter.1 hm
  have ht := (hR.tell _ hm2.1).turns (by simpa using hm2.2)
  generalize (E.filter fun e => e.note.kind == 2).getD i ev0 = ev at *
  rw [b0, b1]
  have c0 := cntOf_upto hfr hR.few bedIx
  have c1 := cntOf_upto hfr hR.few runIx
  refine ⟨by rw [a0, a1], by rw [List.length_map, cntOf_len], by rw [List.length_map, cntOf_len], times_bd ht c0, times_bd ht c1, fun ring hr => ?_⟩
  have hlt : ring * b.flr.S + b.flr.S ≤ b.flr.R * b.flr.S := by
    have : (ring + 1) * b.flr.S ≤ b.flr.R * b.flr.S := Nat.mul_le_mul_right _ hr
    rwa [Nat.add_mul, Nat.one_mul] at this
  rw [times_sum _ _ _ _ (by rw [cntOf_len]; exact hlt), times_sum _ _ _ _ (by rw [cntOf_len]; exact hlt), wear_sum hok]
end Go.Proofs.YteihcodicfoiaaaGreat
