/-
  What is proved: plain laws of the states of a floor: which come to no loop, what their moves count for, and that nothing of it turns when a floor of harps goes round by one harp.
-/
import Derived.Test.YtkikjmkpndmdcaaSteps
namespace Go.Proofs.Ytkikjmkpndmdcaa
open Go.RowKit Classical

def stepR (f : Flr) (i k : Nat) : Prop := ∃ m, (m, some k) ∈ stepsL f i
/-- No loop can be come to. -/
inductive AccS (f : Flr) : Nat → Prop
  | mk {i : Nat} : (∀ k, stepR f i k → AccS f k) → AccS f i
def restOf (D : Nat → Int × Int) : Option Nat → Int × Int
  | none => (0, 0)
  | some k => D k
def spanF (cnt : Mv → Int) (D : Nat → Int × Int) (out : Int × Int) (x : Mv × Option Nat) : Int × Int :=
  (min out.1 (IntKind.i64.wrap ((restOf D x.2).1 + cnt x.1)), max out.2 (IntKind.i64.wrap ((restOf D x.2).2 + cnt x.1)))
def spanL (cnt : Mv → Int) (D : Nat → Int × Int) (l : List (Mv × Option Nat)) : Int × Int := l.foldl (spanF cnt D) (70000, 0)
/-- What the moves from a state count for. -/
inductive ValS (f : Flr) (cnt : Mv → Int) : Nat → Int × Int → Prop
  | mk {i : Nat} (D : Nat → Int × Int) : (∀ k, stepR f i k → ValS f cnt k (D k)) → ValS f cnt i (spanL cnt D (stepsL f i))

theorem fold_congr {cnt : Mv → Int} {D D' : Nat → Int × Int} : ∀ (l : List (Mv × Option Nat)) (o : Int × Int), (∀ x ∈ l, restOf D x.2 = restOf D' x.2) → l.foldl (spanF cnt D) o = l.foldl (spanF cnt D') o
  | [], _, _ => rfl
  | x :: l, o, h => by
    simp only [List.foldl_cons]
    have e : spanF cnt D o x = spanF cnt D' o x := by unfold spanF; rw [h x (by simp)]
    rw [e]
    exact fold_congr l _ (fun y hy => h y (by simp [hy]))
theorem span_congr {cnt : Mv → Int} {D D' : Nat → Int × Int} {l : List (Mv × Option Nat)} (h : ∀ m k, (m, some k) ∈ l → D k = D' k) : spanL cnt D l = spanL cnt D' l :=
  fold_congr l _ (fun x hx => by
    obtain ⟨m, o⟩ := x
    cases o with
    | none => rfl
    | some k => exact h m k hx)
theorem ValS.uniq {f : Flr} {cnt : Mv → Int} {i : Nat} {v : Int × Int} (h : ValS f cnt i v) : ∀ {v'}, ValS f cnt i v' → v = v' := by
  induction h with
  | mk D hD ih =>
    intro v' h'
    cases h' with
    | mk D' hD' => exact span_congr (fun m k hk => ih k ⟨m, hk⟩ (hD' k ⟨m, hk⟩))
theorem AccS.val {f : Flr} {cnt : Mv → Int} {i : Nat} (h : AccS f i) : ∃ v, ValS f cnt i v := by
  induction h with
  | @mk i _ ih =>
    have : ∃ D : Nat → Int × Int, ∀ k, stepR f i k → ValS f cnt k (D k) := by
      refine ⟨fun k => if h : ∃ v, ValS f cnt k v then h.choose else (0, 0), fun k hk => ?_⟩
      have hv := ih k hk
      simp only [dif_pos hv]
      exact hv.choose_spec
    obtain ⟨D, hD⟩ := this
    exact ⟨_, .mk D hD⟩

/-- A map of states under which moves go over into moves. -/
def Turns (f : Flr) (r : Nat → Nat) (P : Nat → Prop) : Prop := ∀ i, P i → stepsL f (r i) = (stepsL f i).map (fun x => (x.1, x.2.map r)) ∧ ∀ k, stepR f i k → P k
theorem Turns.acc {f : Flr} {r : Nat → Nat} {P : Nat → Prop} (h : Turns f r P) {i : Nat} (ha : AccS f i) : P i → AccS f (r i) := by
  induction ha with
  | @mk i _ ih =>
    intro hp
    refine .mk (fun k hk => ?_)
    obtain ⟨m, hm⟩ := hk
    rw [(h i hp).1] at hm
    obtain ⟨⟨m', o⟩, hx, he⟩ := List.mem_map.1 hm
    cases o with
    | none => simp at he
    | some k' =>
      simp only [Option.map_some, Prod.mk.injEq, Option.some.injEq] at he
      obtain ⟨rfl, rfl⟩ := he
      exact ih k' ⟨_, hx⟩ ((h i hp).2 k' ⟨_, hx⟩)
theorem Turns.acc_back {f : Flr} {r : Nat → Nat} {P : Nat → Prop} (h : Turns f r P) {j : Nat} (ha : AccS f j) : ∀ i, P i → j = r i → AccS f i := by
  induction ha with
  | @mk j _ ih =>
    rintro i hp rfl
    refine .mk (fun k hk => ?_)
    obtain ⟨m, hm⟩ := hk
    refine ih (r k) ⟨m, ?_⟩ k ((h i hp).2 k ⟨m, hm⟩) rfl
    rw [(h i hp).1]
    exact List.mem_map.2 ⟨_, hm, rfl⟩
theorem fold_map {cnt : Mv → Int} {D D' : Nat → Int × Int} {r : Nat → Nat} : ∀ (l : List (Mv × Option Nat)) (o : Int × Int), (∀ m k, (m, some k) ∈ l → D' (r k) = D k) → (l.map (fun x => (x.1, x.2.map r))).foldl (spanF cnt D') o = l.foldl (spanF cnt D) o
  | [], _, _ => rfl
  | x :: l, o, h => by
    simp only [List.map_cons, List.foldl_cons]
    have e : spanF cnt D' o (x.1, x.2.map r) = spanF cnt D o x := by
      obtain ⟨m, o'⟩ := x
      cases o' with
      | none => rfl
      | some k =>
        have := h m k (by simp)
        simp only [spanF, restOf, Option.map_some, this]
    rw [e]
    exact fold_map l _ (fun m k hk => h m k (by simp [hk]))
theorem Turns.val {f : Flr} {r : Nat → Nat} {P : Nat → Prop} {cnt : Mv → Int} (h : Turns f r P) {i : Nat} {v : Int × Int} (hv : ValS f cnt i v) : P i → ValS f cnt (r i) v := by
  induction hv with
  | @mk i D hD ih =>
    intro hp
    have hr : ∀ k, stepR f i k → ValS f cnt (r k) (D k) := fun k hk => ih k hk ((h i hp).2 k hk)
    let D' : Nat → Int × Int := fun j => if h : ∃ v, ValS f cnt j v then h.choose else (0, 0)
    have hD' : ∀ k, stepR f i k → D' (r k) = D k := fun k hk => by
      have hex : ∃ v, ValS f cnt (r k) v := ⟨_, hr k hk⟩
      show (if h : ∃ v, ValS f cnt (r k) v then h.choose else (0, 0)) = D k
      rw [dif_pos hex]
      exact hex.choose_spec.uniq (hr k hk)
    have e : spanL cnt D' (stepsL f (r i)) = spanL cnt D (stepsL f i) := by
      rw [(h i hp).1]
      exact fold_map _ _ (fun m k hk => hD' k ⟨m, hk⟩)
    rw [← e]
    refine .mk D' (fun j hj => ?_)
    obtain ⟨m, hm⟩ := hj
    rw [(h i hp).1] at hm
    obtain ⟨⟨m', o⟩, hx, he⟩ := List.mem_map.1 hm
    cases o with
    | none => simp at he
    | some k' =>
      simp only [Option.map_some, Prod.mk.injEq, Option.some.injEq] at he
      obtain ⟨rfl, rfl⟩ := he
      rw [hD' k' ⟨_, hx⟩]
      exact hr k' ⟨_, hx⟩

end Go.Proofs.Ytkikjmkpndmdcaa
