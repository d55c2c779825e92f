/-
  What is proved: inside the wide fence: a region that draws its order, whose first operations are quiet and whose others come one after the other.
-/
import Derived.Test.YtkikjmkpndmdcaaMix
import Derived.Sort.QuietThIn
import Derived.TacticsIn
namespace Go.Proofs.Ytkikjmkpndmdcaa
open Go Go.RowKit

section
variable {P : Program} {ops : Array Oper} {md : Region.Mode} {C : World → Prop} {m : Nat}

theorem room1 {n : Nat} : (Fence.wide.depth.isSome = true → 1 ≤ n) := fun h => by simp [Fence.wide] at h

theorem qOpIn_of_qOp {i : Nat} {K : Act → Prop} {a : Act} (h : qOp P ops C i K a) : qOpIn Fence.wide m P ops C i K a := by
  unfold qOp at h
  unfold qOpIn
  cases ho : ops[i]? with
  | none => simp only [ho] at h ⊢; exact h
  | some o =>
    simp only [ho] at h ⊢
    refine ⟨fun _ _ _ _ => trivial, ?_⟩
    split
    · rename_i hw
      simp only [hw, if_true] at h
      obtain ⟨v, h1, h2⟩ := h
      refine ⟨v, fun w hC => ?_, h2⟩
      have h3 := h1 w hC
      unfold Oper.quietAt at h3
      unfold Oper.quietAtIn
      generalize (execOp a.eval o).run P w = r at *
      unfold Oper.quietUpon at h3
      unfold Oper.quietUponIn
      split at h3
      · exact h3
      · exact h3
      · exact ⟨h3.1, room1, callsIn_wide.2 h3.2⟩
      · exact h3.elim
    · rename_i hw
      simp only [hw] at h
      exact h

theorem wpAnyIn_of_headM {n g : Nat} {L : Array Bool → Act → Prop} {Q' : Exit → Act → World → Prop} (hL : ∀ listed a, L listed a → ∀ w, C w → wpAnyIn Fence.wide m P md ops Q' g listed a w) :
    ∀ (f : Nat) (listed : Array Bool) (a : Act) (w : World), C w → wpAnyM P md ops C n L f listed a → wpAnyIn Fence.wide m P md ops Q' (f + g) listed a w
  | 0, listed, a, w, hC, h => by rw [Nat.zero_add]; exact hL _ _ h w hC
  | f + 1, listed, a, w, hC, h => by
    rw [show f + 1 + g = (f + g) + 1 by omega]
    exact ⟨fun h0 => absurd h0 h.1, fun i hi => wpOpIn_of_qOpIn rfl hC (fun a' w' hC' h' => wpAnyIn_of_headM hL f _ a' w' hC' h') (qOpIn_of_qOp (h.2 i hi).2)⟩

/-- Nothing from number n on looks at no world. -/
def loudB (ops : Array Oper) (n : Nat) : Bool := (List.range ops.size).all fun t => decide (t < n) || !((ops[t]?).map plainOp).getD false

theorem wpAnyIn_of_mix {Q : Exit → Act → World → Prop} {n : Nat} (hl : loudB ops n = true) :
    ∀ (l : List Oper) (k : Nat) (listed : Array Bool) (a : Act) (w : World), n ≤ k → (∀ j, l[j]? = ops[k + j]?) →
    seqM md ops l.length k listed = true → wpListIn Fence.wide m P ops Q l a w → wpAnyIn Fence.wide m P md ops Q l.length listed a w
  | [], _, _, _, _, _, _, hB, h => ⟨by simpa [seqM] using hB, h⟩
  | o :: l, k, listed, a, w, hk, hlj, hB, h => by
    have h0 : ops[k]? = some o := by simpa using (hlj 0).symm
    have hks : k < ops.size := (Array.getElem?_eq_some_iff.1 h0).1
    have hl' : ∀ j, l[j]? = ops[k + 1 + j]? := fun j => by have := hlj (j + 1); simpa [Nat.add_assoc, Nat.add_comm 1 j] using this
    have hnp : plainOp o = false := by
      have h1 := List.all_eq_true.1 hl k (List.mem_range.2 hks)
      simp only [h0, Option.map_some, Option.getD_some, Bool.or_eq_true, decide_eq_true_eq, Bool.not_eq_true'] at h1
      rcases h1 with h1 | h1
      · omega
      · exact h1
    simp only [List.length_cons, seqM, Bool.and_eq_true, Bool.or_eq_true, decide_eq_true_eq] at hB
    obtain ⟨hB1 | ⟨⟨hp, hr⟩, hf⟩, hB2⟩ := hB
    · refine ⟨fun h1 => (by rw [hB1] at h1; cases h1), fun i hi => ?_⟩
      rw [hB1] at hi
      have hik : i = k := by simpa using hi
      subst hik
      have hw : wpOpIn Fence.wide m P ops Q i (wpListIn Fence.wide m P ops Q l) a w := by unfold wpOpIn; simp only [h0]; exact h
      exact wpOpIn_mono (fun a' w' h' => wpAnyIn_of_mix hl l (i + 1) _ a' w' (by omega) hl' hB2 h') hw
    · simp [h0, hnp] at hp

theorem wpIn_region_mix {id : Nat} {Q : Exit → Act → World → Prop} {a : Act} {w : World} {l : List Oper} (n : Nat) (hm : P.follows .mixedOrders = true) (hB : mixB .any l.toArray n = true) (hl : loudB l.toArray n = true)
    (hC : C { w with drawn := w.drawn + 1 })
    (h : wpQuiet P l.toArray C (fun a' => ∀ w', C w' → wpListIn Fence.wide m P l.toArray Q (l.drop n) a' w') (l.take n) a) : (Code.region id l.toArray true).wpIn Fence.wide m P Q a w := by
  simp only [mixB, Bool.and_eq_true, decide_eq_true_eq] at hB
  obtain ⟨⟨⟨⟨hsel, hn⟩, hs⟩, hc⟩, hlex⟩ := hB
  have hn' : n < l.length := by simpa using hn
  have htl : (l.take n).length = n := by simp; omega
  have hdl : (l.drop n).length = l.toArray.size - n := by simp
  have inv0 : HeadInv .any l.toArray n (Array.replicate l.toArray.size false) :=
    ⟨by simp, fun j oj _ hl => (by rw [getD_replicate_false] at hl; cases hl), fun t _ ht => getD_in (by simpa using ht) (getD_replicate_false _ _)⟩
  have H := wpAnyM_lex (md := .any) (g := l.toArray.size - n) hsel hs hc hn (l.take n) 0 _ a (fun j hj => by
    have hj' : j < n := by rw [htl] at hj; exact hj
    simp [hj']) (by simpa using htl) inv0 (fun j hj => absurd hj (by omega)) (by rw [htl]; exact hlex) h
  refine wpIn_region_any hm ?_
  have := wpAnyIn_of_headM (m := m) (Q' := Q) (g := l.toArray.size - n) (fun listed a' hL w' hw' => by
    have := wpAnyIn_of_mix (m := m) (md := .any) hl (l.drop n) n listed a' w' (Nat.le_refl _) (fun j => by simp [List.getElem?_drop]) (by rw [hdl]; exact hL.2.1) (hL.2.2 w' hw')
    rwa [hdl] at this) _ _ _ _ hC H
  rw [htl, show n + (l.toArray.size - n) = l.toArray.size by omega] at this
  exact this

/-- The first n operations quiet in the worlds that grew out of w. -/
theorem wpIn_region_extmix {id : Nat} {Q : Exit → Act → World → Prop} {a : Act} {w : World} {l : List Oper} (n : Nat) (hm : P.follows .mixedOrders = true) (hB : mixB .any l.toArray n = true) (hl : loudB l.toArray n = true)
    (h : wpQuiet P l.toArray (fun w' => ∃ x : Ext w, w' = x.w) (fun a' => ∀ w', (∃ x : Ext w, w' = x.w) → wpListIn Fence.wide m P l.toArray Q (l.drop n) a' w') (l.take n) a) : (Code.region id l.toArray true).wpIn Fence.wide m P Q a w :=
  wpIn_region_mix n hm hB hl (Ext.here w) h

end
end Go.Proofs.Ytkikjmkpndmdcaa
