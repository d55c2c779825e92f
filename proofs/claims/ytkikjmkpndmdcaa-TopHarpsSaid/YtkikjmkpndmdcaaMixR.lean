/-
  What is proved: within a round: a region that draws its order, whose first operations are quiet and whose others come one after the other.
-/
import Derived.Test.YtkikjmkpndmdcaaMixIn
import Derived.RangeFuncCalls
namespace Go.Proofs.Ytkikjmkpndmdcaa
open Go Go.RowKit

section
variable {P : Program} {ops : Array Oper} {md : Region.Mode} {m l0 : Nat}

def calmOp (o : Oper) : Bool := match o.op with | .defer _ => false | _ => true
def noDefer (ops : Array Oper) : Bool := ops.all calmOp

theorem wpIn_round_op {o : Oper} {a : Act} {w : World} {next : Act → World → Prop} {Q : Exit → Act → World → Prop} (ho : calmOp o = true) (h : o.wpIn Fence.wide m P a w next Q) : o.wpIn (Fence.wide.inRound l0) m P a w next Q := by
  unfold Oper.wpIn at h ⊢
  refine ⟨h.1, ?_⟩
  have h2 := h.2
  have hp : ∀ c, o.op ≠ .defer c := fun c e => by simp [calmOp, e] at ho
  rw [Oper.semAt_eq _ _ _ hp] at h2 ⊢
  generalize (execOp a.eval o).run P w = r at *
  cases r with
  | ok x w' => cases x <;> exact h2
  | halt x w' => cases x <;> exact h2

theorem wpOpIn_round {i : Nat} {a : Act} {w : World} {K : Act → World → Prop} {Q : Exit → Act → World → Prop} (hd : noDefer ops = true) (h : wpOpIn Fence.wide m P ops Q i K a w) : wpOpIn (Fence.wide.inRound l0) m P ops Q i K a w := by
  unfold wpOpIn at h ⊢
  split
  · rename_i ho
    simp only [ho] at h
    exact h
  · rename_i o ho
    simp only [ho] at h
    have hc : calmOp o = true := by
      obtain ⟨hlt, he⟩ := Array.getElem?_eq_some_iff.1 ho
      rw [← he]
      exact Array.all_eq_true.1 hd i hlt
    split
    · rename_i hw
      simp only [hw, if_true] at h
      exact wpIn_round_op hc h
    · rename_i hw
      simp only [hw] at h
      exact h

theorem wpAnyIn_round {Q : Exit → Act → World → Prop} (hd : noDefer ops = true) : ∀ (fuel : Nat) (listed : Array Bool) (a : Act) (w : World), wpAnyIn Fence.wide m P md ops Q fuel listed a w → wpAnyIn (Fence.wide.inRound l0) m P md ops Q fuel listed a w
  | 0, _, _, _, h => h
  | fuel + 1, _, _, _, h => ⟨h.1, fun i hi => wpOpIn_round hd (wpOpIn_mono (fun a' w' h' => wpAnyIn_round hd fuel _ a' w' h') (h.2 i hi))⟩

theorem wpAny_mix {C : World → Prop} {Q : Exit → Act → World → Prop} {a : Act} {w : World} {l : List Oper} (n : Nat) (hB : mixB .any l.toArray n = true) (hl : loudB l.toArray n = true)
    (hC : C { w with drawn := w.drawn + 1 })
    (h : wpQuiet P l.toArray C (fun a' => ∀ w', C w' → wpListIn Fence.wide m P l.toArray Q (l.drop n) a' w') (l.take n) a) : wpAnyIn Fence.wide m P .any l.toArray Q l.toArray.size (Array.replicate l.toArray.size false) a { w with drawn := w.drawn + 1 } := by
  simp only [mixB, Bool.and_eq_true, decide_eq_true_eq] at hB
  obtain ⟨⟨⟨⟨hsel, hn⟩, hs⟩, hc⟩, hlex⟩ := hB
  have hn' : n < l.length := by simpa using hn
  have htl : (l.take n).length = n := by simp; omega
  have hdl : (l.drop n).length = l.toArray.size - n := by simp
  have inv0 : HeadInv .any l.toArray n (Array.replicate l.toArray.size false) :=
    ⟨by simp, fun j oj _ hl => (by rw [getD_replicate_false] at hl; cases hl), fun t _ ht => getD_in (by simpa using ht) (getD_replicate_false _ _)⟩
  have H := wpAnyM_lex (md := .any) (g := l.toArray.size - n) hsel hs hc hn (l.take n) 0 _ a (fun j hj => by
    have hj' : j < n := by rw [htl] at hj; exact hj
    simp [hj']) (by simpa using htl) inv0 (fun j hj => absurd hj (by omega)) (by rw [htl]; exact hlex) h
  have := wpAnyIn_of_headM (m := m) (Q' := Q) (g := l.toArray.size - n) (fun listed a' hL w' hw' => by
    have := wpAnyIn_of_mix (m := m) (md := .any) hl (l.drop n) n listed a' w' (Nat.le_refl _) (fun j => by simp [List.getElem?_drop]) (by rw [hdl]; exact hL.2.1) (hL.2.2 w' hw')
    rwa [hdl] at this) _ _ _ _ hC H
  rw [htl, show n + (l.toArray.size - n) = l.toArray.size by omega] at this
  exact this

/-- The first n operations quiet in the worlds that grew out of w. -/
theorem wpR_region_extmix {id : Nat} {Q : Exit → Act → World → Prop} {a : Act} {w : World} {l : List Oper} (n : Nat) (hm : P.follows .mixedOrders = true) (hB : mixB .any l.toArray n = true) (hl : loudB l.toArray n = true) (hd : noDefer l.toArray = true)
    (h : wpQuiet P l.toArray (fun w' => ∃ x : Ext w, w' = x.w) (fun a' => ∀ w', (∃ x : Ext w, w' = x.w) → wpListIn Fence.wide m P l.toArray Q (l.drop n) a' w') (l.take n) a) : (Code.region id l.toArray true).wpIn (Fence.wide.inRound l0) m P Q a w :=
  wpIn_region_any hm (wpAnyIn_round hd _ _ _ _ (wpAny_mix n hB hl (Ext.here w) h))

end
end Go.Proofs.Ytkikjmkpndmdcaa
