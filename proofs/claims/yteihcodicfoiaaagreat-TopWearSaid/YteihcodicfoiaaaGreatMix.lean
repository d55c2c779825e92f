/-
  What is proved: a region that draws its order, whose first n operations read or make memory of their own but yield one value each in every world that grew out of the first one, and whose other operations come one after the other: one walk of the order of the text serves every order. For any program.
-/
import Derived.Deep.Quiet
import Derived.StillTail
import Derived.Below
import Derived.Tactics2
namespace Go.Proofs.YteihcodicfoiaaaGreat
open Go Go.RowKit

section
variable {P : Program} {ops : Array Oper} {md : Region.Mode} {C : World → Prop}

/-- Each operation behind number n waits for one from n on that stands before it. -/
def treeB (md : Region.Mode) (ops : Array Oper) (n : Nat) : Bool :=
  (List.range ops.size).all fun t => decide (t ≤ n) || (List.range t).any fun s => decide (n ≤ s) && Region.waitsFor md ops t s

/-- Nothing from n on is ready as long as one before n is not listed. -/
theorem tail_waits' {n : Nat} {listed : Array Bool} (hs : Region.sinkB md ops n = true) (hc : treeB md ops n = true) (hn : n < ops.size) (inv : HeadInv md ops n listed) :
    ∀ (d i : Nat), n - i = d → i < n → listed.getD i true = false → ∀ t, n ≤ t → t ∉ Region.ready md ops listed := by
  intro d
  induction d using Nat.strongRecOn with
  | _ d ih =>
    intro i hd hi hun t ht hr
    obtain ⟨_, ot, hot, hall⟩ := mem_ready.1 hr
    have htlt : t < ops.size := (Array.getElem?_eq_some_iff.1 hot).1
    by_cases htn : t = n
    · subst htn
      have h1 := List.all_eq_true.1 hs i (List.mem_range.2 hi)
      obtain ⟨j, hj, hj2⟩ := List.any_eq_true.1 h1
      simp only [Bool.and_eq_true, decide_eq_true_eq] at hj2
      obtain ⟨oj, hoj, e, he, hb, hon⟩ := Region.waitsFor_spec hj2.2
      have hjle : j ≤ t := by have := List.mem_range.1 hj; omega
      by_cases hjt : j = t
      · subst hjt
        have : oj = ot := Option.some.inj (hoj.symm.trans hot)
        subst this
        have h2 := hall e he hb
        rw [hon, getD_both hun] at h2
        cases h2
      · cases hl : listed.getD j false with
        | true =>
          have h2 := inv.closed j oj hoj hl e he hb
          rw [hon, getD_both hun] at h2
          cases h2
        | false =>
          have hjs : j < listed.size := by rw [inv.size]; omega
          exact ih (t - j) (by omega) j rfl (by omega) (getD_in hjs hl) t (Nat.le_refl _) hr
    · have h1 := List.all_eq_true.1 hc t (List.mem_range.2 htlt)
      simp only [Bool.or_eq_true, decide_eq_true_eq] at h1
      rcases h1 with h1 | h1
      · omega
      · obtain ⟨s, hs1, hs2⟩ := List.any_eq_true.1 h1
        simp only [Bool.and_eq_true, decide_eq_true_eq] at hs2
        have hslt := List.mem_range.1 hs1
        obtain ⟨o', ho', e, he, hb, hon⟩ := Region.waitsFor_spec hs2.2
        have : o' = ot := Option.some.inj (ho'.symm.trans hot)
        subst this
        have h2 := hall e he hb
        rw [hon, getD_both (inv.tail s hs2.1 (by omega))] at h2
        cases h2

def wpAnyM (P : Program) (md : Region.Mode) (ops : Array Oper) (C : World → Prop) (n : Nat) (L : Array Bool → Act → Prop) : Nat → Array Bool → Act → Prop
  | 0, listed, a => L listed a
  | f + 1, listed, a =>
    Region.ready md ops listed ≠ [] ∧ ∀ i ∈ Region.ready md ops listed, i < n ∧ qOp P ops C i (wpAnyM P md ops C n L f (listed.setIfInBounds i true)) a

theorem wpAny_of_headM {n g : Nat} {L : Array Bool → Act → Prop} {Q' : Exit → Act → World → Prop} (hL : ∀ listed a, L listed a → ∀ w, C w → wpAny P md ops Q' g listed a w) :
    ∀ (f : Nat) (listed : Array Bool) (a : Act) (w : World), C w → wpAnyM P md ops C n L f listed a → wpAny P md ops Q' (f + g) listed a w
  | 0, listed, a, w, hC, h => by rw [Nat.zero_add]; exact hL _ _ h w hC
  | f + 1, listed, a, w, hC, h => by
    rw [show f + 1 + g = (f + g) + 1 by omega]
    exact ⟨fun h0 => absurd h0 h.1, fun i hi => wpOp_of_qOp hC (fun a' w' hC' h' => wpAny_of_headM hL f _ a' w' hC' h') (h.2 i hi).2⟩

theorem wpAnyM_first {n i : Nat} {oi : Oper} {v : Value} {L : Array Bool → Act → Prop} (hi : ops[i]? = some oi) (hsel : ∀ (j : Nat) (o : Oper) cs b, ops[j]? = some o → o.op ≠ .select cs b)
    (hs : Region.sinkB md ops n = true) (hc : treeB md ops n = true) (hn : n < ops.size) (hin : i < n)
    (hdone : ∀ listed a, L listed a → ∀ j ∈ Region.ready md ops listed, n ≤ j) :
    ∀ (f : Nat) (listed : Array Bool) (a : Act), HeadInv md ops n listed →
      (∀ j oj, ops[j]? = some oj → j ≠ i → listed.getD j true = false → (∀ e ∈ oj.after, Region.binds md e = true → e.on ≠ i) → oi.apart ops oj = true) →
      i ∈ Region.ready md ops listed → YieldsIn P ops C oi v a →
      wpAnyM P md ops C n L f (listed.setIfInBounds i true) (a.put oi.dst v) → wpAnyM P md ops C n L (f + 1) listed a := by
  intro f
  induction f with
  | zero =>
    intro listed a inv _ hr hy H
    have hun := (mem_ready.1 hr).1
    refine ⟨fun h => (by rw [h] at hr; cases hr), fun j hj => ?_⟩
    have hjn : j < n := by
      rcases Nat.lt_or_ge j n with h | h
      · exact h
      · exact absurd hj (tail_waits' hs hc hn inv _ i rfl hin hun j h)
    refine ⟨hjn, ?_⟩
    by_cases hji : j = i
    · subst hji; exact hy.qOp hi H
    · have := hdone _ _ H j (ready_mono hj hji)
      omega
  | succ f ih =>
    intro listed a inv hfree hr hy H
    have hun := (mem_ready.1 hr).1
    refine ⟨fun h => (by rw [h] at hr; cases hr), fun j hj => ?_⟩
    have hjn : j < n := by
      rcases Nat.lt_or_ge j n with h | h
      · exact h
      · exact absurd hj (tail_waits' hs hc hn inv _ i rfl hin hun j h)
    refine ⟨hjn, ?_⟩
    by_cases hji : j = i
    · subst hji; exact hy.qOp hi H
    · have h1 := (H.2 j (ready_mono hj hji)).2
      obtain ⟨hjun, oj, hoj, hall⟩ := mem_ready.1 hj
      have hnot : ∀ e ∈ oj.after, Region.binds md e = true → e.on ≠ i := fun e he hb heq => by
        have h1 := hall e he hb
        rw [heq, getD_both hun] at h1
        cases h1
      have h2 := qOp_put hoj (hfree j oj hoj hji hjun hnot) (fun cs b => hsel i oi cs b hi) (fun cs b => hsel j oj cs b hoj) hy h1
      have hfree' : ∀ k ok, ops[k]? = some ok → k ≠ i → (listed.setIfInBounds j true).getD k true = false →
          (∀ e ∈ ok.after, Region.binds md e = true → e.on ≠ i) → oi.apart ops ok = true := fun k ok hk hki hun hno => by
        refine hfree k ok hk hki ?_ hno
        by_cases hjk : j = k
        · subst hjk; exact hjun
        · rw [getD_set_ne true hjk] at hun; exact hun
      refine qOp_mono (fun a' h3 => ih (listed.setIfInBounds j true) a' (inv.set hj hjn) hfree' (ready_mono hr (Ne.symm hji)) h3.1 ?_) h2
      rw [Array.setIfInBounds_comm _ _ hji]
      exact h3.2

/-- An operation that looks at no world. -/
def plainOp (o : Oper) : Bool := match o.op with | .move _ | .assign _ | .extract _ _ => true | _ => false

theorem run_extract_any (t : Value) (ix : Nat) : (∃ v, ∀ w, (Instr.extract t ix).run P w = .ok v w) ∨ (∃ s, ∀ w, (Instr.extract t ix).run P w = .halt (.stuck s) w) := by
  unfold Instr.extract
  split
  · split
    · exact .inl ⟨_, fun w => rfl⟩
    · exact .inr ⟨_, fun w => rfl⟩
  · exact .inr ⟨_, fun w => rfl⟩

theorem runT_extract (w : World) (tv : Value) (ix : Nat) : (((do let r ← Instr.extract tv ix; pure (Next.value r)) : Sem Next).runT P w #[]).2 = #[] := by
  unfold Instr.extract
  split
  · split <;> rfl
  · rfl

theorem plain_yields {o : Oper} {a : Act} {w : World} {K : Act → World → Prop} {Q : Exit → Act → World → Prop} (hp : plainOp o = true) (h : o.wp P a w K Q ∨ (o.asks P a w ∧ LetsOut Q)) :
    ∃ v, (∀ w, (execOp a.eval o).run P w = .ok (.value v) w) ∧ K (a.put o.dst v) w := by
  have key : (∃ v, ∀ w, (execOp a.eval o).run P w = .ok (.value v) w) ∨ (∃ s, ∀ w, (execOp a.eval o).run P w = .halt (.stuck s) w) := by
    unfold plainOp at hp
    split at hp
    · rename_i x hx
      exact .inl ⟨_, fun w => by unfold execOp; rw [hx]; rfl⟩
    · rename_i x hx
      exact .inl ⟨_, fun w => by unfold execOp; rw [hx]; rfl⟩
    · rename_i t ix hx
      rcases run_extract_any (P := P) (a.eval t) ix with ⟨v, hv⟩ | ⟨s, hs⟩
      · exact .inl ⟨v, fun w => by unfold execOp; rw [hx]; simp [hv]⟩
      · exact .inr ⟨s, fun w => by unfold execOp; rw [hx]; simp [hs]⟩
    · cases hp
  have hask : ¬ o.asks P a w := by
    rintro ⟨h1, _⟩
    revert h1
    unfold plainOp at hp
    split at hp
    · rename_i x hx
      unfold execOp; rw [hx]
      intro h1
      cases h1
      rename_i h1
      cases h1
    · rename_i x hx
      unfold execOp; rw [hx]
      intro h1
      cases h1
      rename_i h1
      cases h1
    · rename_i t ix hx
      have e : ((execOp a.eval o).runT P w #[]).2 = #[] := by
        have e1 : execOp a.eval o = (do let r ← Instr.extract (a.eval t) ix; pure (Next.value r)) := by unfold execOp; rw [hx]
        rw [e1]
        exact runT_extract w _ _
      rw [e]
      simp
    · cases hp
  rcases h with h | h
  · rcases key with ⟨v, hv⟩ | ⟨s, hs⟩
    · refine ⟨v, hv, ?_⟩
      unfold Oper.wp at h
      rw [hv] at h
      exact h
    · unfold Oper.wp at h
      rw [hs] at h
      exact h.elim
  · exact absurd h.1 hask

/-- From number k on: one operation after the other, or one that looks at no world. -/
def seqM (md : Region.Mode) (ops : Array Oper) : Nat → Nat → Array Bool → Bool
  | 0, _, listed => (Region.ready md ops listed).isEmpty
  | g + 1, k, listed =>
    (decide (Region.ready md ops listed = [k]) || (((ops[k]?).map plainOp).getD false && (Region.ready md ops listed).contains k && Region.free md ops listed k)) && seqM md ops g (k + 1) (listed.setIfInBounds k true)

theorem wpAny_of_mix {Q : Exit → Act → World → Prop} (hsel : Region.noSelect ops = true) (hQ : ∀ c a (d : Option Tmp) (v : Value) w, Q (.panic c) (a.put d v) w → Q (.panic c) a w) :
    ∀ (l : List Oper) (k : Nat) (listed : Array Bool) (a : Act) (w : World), (∀ j, l[j]? = ops[k + j]?) →
    seqM md ops l.length k listed = true → wpList P ops Q l a w → wpAny P md ops Q l.length listed a w
  | [], _, _, _, _, _, hB, h => ⟨by simpa [seqM] using hB, h⟩
  | o :: l, k, listed, a, w, hl, hB, h => by
    have h0 : ops[k]? = some o := by simpa using (hl 0).symm
    have hl' : ∀ j, l[j]? = ops[k + 1 + j]? := fun j => by have := hl (j + 1); simpa [Nat.add_assoc, Nat.add_comm 1 j] using this
    simp only [List.length_cons, seqM, Bool.and_eq_true, Bool.or_eq_true, decide_eq_true_eq] at hB
    obtain ⟨hB1 | ⟨⟨hp, hr⟩, hf⟩, hB2⟩ := hB
    · refine ⟨fun h1 => (by rw [hB1] at h1; cases h1), fun i hi => ?_⟩
      rw [hB1] at hi
      have hik : i = k := by simpa using hi
      subst hik
      have hw : wpOp P ops Q i (wpList P ops Q l) a w := by unfold wpOp; simp only [h0]; exact h
      exact wpOp_mono (fun a' w' h' => wpAny_of_mix hsel hQ l (i + 1) _ a' w' hl' hB2 h') hw
    · have hp' : plainOp o = true := by simpa [h0] using hp
      unfold wpList at h
      by_cases hw : Region.wanted o (yielded ops a.tmps) = true
      · rw [if_pos hw] at h
        obtain ⟨v, hv, hK⟩ := plain_yields hp' h
        exact wpAny_take h0 hsel hf hr (fun c a w => hQ c a o.dst v w) (.inl ⟨hw, hv⟩) (wpAny_of_mix hsel hQ l (k + 1) _ _ w hl' hB2 hK)
      · rw [if_neg hw] at h
        exact wpAny_take h0 hsel hf hr (fun c a w => hQ c a o.dst undef w) (.inr ⟨by simpa using hw, rfl⟩) (wpAny_of_mix hsel hQ l (k + 1) _ _ w hl' hB2 h)

def headM (md : Region.Mode) (ops : Array Oper) (g : Nat) : Nat → Nat → Array Bool → Bool
  | 0, k, listed => seqM md ops g k listed
  | f + 1, k, listed => (Region.ready md ops listed).contains k && Region.free md ops listed k && headM md ops g f (k + 1) (listed.setIfInBounds k true)

def mixB (md : Region.Mode) (ops : Array Oper) (n : Nat) : Bool :=
  Region.noSelect ops && decide (n < ops.size) && Region.sinkB md ops n && treeB md ops n && headM md ops (ops.size - n) n 0 (Array.replicate ops.size false)

theorem wpAnyM_lex {n g : Nat} {Lq : Act → Prop} (hsel : Region.noSelect ops = true) (hs : Region.sinkB md ops n = true) (hc : treeB md ops n = true) (hn : n < ops.size) :
    ∀ (l : List Oper) (k : Nat) (listed : Array Bool) (a : Act), (∀ j, j < l.length → l[j]? = ops[k + j]?) → k + l.length = n → HeadInv md ops n listed → (∀ j, j < k → listed.getD j true = true) →
    headM md ops g l.length k listed = true → wpQuiet P ops C Lq l a →
    wpAnyM P md ops C n (fun listed' a' => (∀ j, j < n → listed'.getD j true = true) ∧ seqM md ops g n listed' = true ∧ Lq a') l.length listed a
  | [], k, listed, a, _, hk, _, hlk, hB, h => by
    have : k = n := by simpa using hk
    subst this
    exact ⟨hlk, by simpa [headM] using hB, h⟩
  | o :: l, k, listed, a, hl, hk, inv, hlk, hB, h => by
    have h0 : ops[k]? = some o := by simpa using (hl 0 (by simp)).symm
    simp only [List.length_cons, headM, Bool.and_eq_true] at hB
    obtain ⟨⟨hr, hf⟩, hB'⟩ := hB
    have hkn : k < n := by simp only [List.length_cons] at hk; omega
    have hr' : k ∈ Region.ready md ops listed := by simpa using hr
    have hst : qOp P ops C k (wpQuiet P ops C Lq l) a := by unfold qOp; simp only [h0]; exact h
    obtain ⟨v, hy, hK⟩ := yieldsIn_of_qOp h0 hst
    have hlk' : ∀ j, j < k + 1 → (listed.setIfInBounds k true).getD j true = true := fun j hj => by
      by_cases hjk : k = j
      · subst hjk
        rcases Nat.lt_or_ge k listed.size with h1 | h1
        · simp [h1]
        · simp
      · rw [getD_set_ne true hjk]; exact hlk j (by omega)
    refine wpAnyM_first h0 (Region.noSelect_spec hsel) hs hc hn hkn (fun listed' a' hL j hj => ?_) l.length listed a inv (Region.free_spec h0 hf) hr' hy
      (wpAnyM_lex hsel hs hc hn l (k + 1) _ _ (fun j hj => by have := hl (j + 1) (by simp; omega); simpa [Nat.add_assoc, Nat.add_comm 1 j] using this) (by simp only [List.length_cons] at hk; omega) (inv.set hr' hkn) hlk' hB' hK)
    have h1 := (mem_ready.1 hj).1
    rcases Nat.lt_or_ge j n with h2 | h2
    · rw [hL.1 j h2] at h1
      cases h1
    · exact h2

/-- The first n operations quiet in C, the others one after the other. -/
theorem wp_region_mix {id : Nat} {Q : Exit → Act → World → Prop} {a : Act} {w : World} {l : List Oper} (n : Nat) (hm : P.follows .mixedOrders = true) (hB : mixB .any l.toArray n = true)
    (hQ : ∀ c a (d : Option Tmp) (v : Value) w, Q (.panic c) (a.put d v) w → Q (.panic c) a w) (hC : C { w with drawn := w.drawn + 1 })
    (h : wpQuiet P l.toArray C (fun a' => ∀ w', C w' → wpList P l.toArray Q (l.drop n) a' w') (l.take n) a) : (Code.region id l.toArray true).wp P Q a w := by
  simp only [mixB, Bool.and_eq_true, decide_eq_true_eq] at hB
  obtain ⟨⟨⟨⟨hsel, hn⟩, hs⟩, hc⟩, hlex⟩ := hB
  have hn' : n < l.length := by simpa using hn
  have htl : (l.take n).length = n := by simp; omega
  have hdl : (l.drop n).length = l.toArray.size - n := by simp
  have inv0 : HeadInv .any l.toArray n (Array.replicate l.toArray.size false) :=
    ⟨by simp, fun j oj _ hl => (by rw [getD_replicate_false] at hl; cases hl), fun t _ ht => getD_in (by simpa using ht) (getD_replicate_false _ _)⟩
  have H := wpAnyM_lex (md := .any) (g := l.toArray.size - n) hsel hs hc hn (l.take n) 0 _ a (fun j hj => by
    have hj' : j < n := by rw [htl] at hj; exact hj
    simp [hj']) (by simpa using htl) inv0 (fun j hj => absurd hj (by omega)) (by rw [htl]; exact hlex) h
  refine wp_region_any hm ?_
  have := wpAny_of_headM (Q' := Q) (g := l.toArray.size - n) (fun listed a' hL w' hw' => by
    have := wpAny_of_mix (md := .any) hsel hQ (l.drop n) n listed a' w' (fun j => by simp [List.getElem?_drop]) (by rw [hdl]; exact hL.2.1) (hL.2.2 w' hw')
    rwa [hdl] at this) _ _ _ _ hC H
  rw [htl, show n + (l.toArray.size - n) = l.toArray.size by omega] at this
  exact this

/-- The worlds that grew out of w. -/
def Ext (w : World) : Type := { x : World // Below w.heap.size w x }
instance extInhabited (w : World) : Nonempty (Ext w) := ⟨⟨w, Below.refl _ _⟩⟩
def Ext.w {w : World} (x : Ext w) : World := x.1
theorem Ext.bel {w : World} (x : Ext w) : Below w.heap.size w x.w := x.2
theorem Ext.cell {w : World} (x : Ext w) (b o : Nat) (h : b < w.heap.size) : x.w.cell? ⟨b, o, none⟩ = w.cell? ⟨b, o, none⟩ := x.bel.cell (p := ⟨b, o, none⟩) h
theorem Ext.frozen {w : World} (x : Ext w) (b o : Nat) (h : b < w.heap.size) : x.w.frozen? ⟨b, o, none⟩ = w.frozen? ⟨b, o, none⟩ := x.bel.frozen (p := ⟨b, o, none⟩) h
theorem Ext.here (w : World) : ∃ x : Ext w, { w with drawn := w.drawn + 1 } = x.w := ⟨⟨{ w with drawn := w.drawn + 1 }, ⟨rfl, rfl, rfl, Nat.le_refl _, fun _ _ => rfl⟩⟩, rfl⟩

/-- A callee's contract in such a world. -/
theorem ext_of {f : FuncId} {args : Array Value} {w : World} {x : Ext w} {v : Value} (h : Calls P f args x.w fun e w' => e = .returned v ∧ Below x.w.heap.size x.w w') :
    Calls P f args x.w fun e w'' => e = .returned v ∧ ∃ y : Ext w, w'' = y.w :=
  h.mono fun _ _ ⟨he, hb⟩ => ⟨he, ⟨_, x.bel.trans (hb.mono x.bel.size)⟩, rfl⟩
theorem ext_same {f : FuncId} {args : Array Value} {w : World} {x : Ext w} {v : Value} (h : Calls P f args x.w fun e w' => e = .returned v ∧ x.w = w') :
    Calls P f args x.w fun e w'' => e = .returned v ∧ ∃ y : Ext w, w'' = y.w :=
  h.mono fun _ _ ⟨he, hb⟩ => ⟨he, x, hb.symm⟩
theorem ext_drew {f : FuncId} {args : Array Value} {w : World} {x : Ext w} {v : Value} (h : Calls P f args x.w fun e w' => e = .returned v ∧ ∃ n, w' = x.w.drewN n) :
    Calls P f args x.w fun e w'' => e = .returned v ∧ ∃ y : Ext w, w'' = y.w :=
  h.mono fun _ _ ⟨he, n, hb⟩ => ⟨he, ⟨_, by rw [hb]; exact ⟨x.bel.os, x.bel.tape, x.bel.output, x.bel.size, x.bel.block⟩⟩, rfl⟩

/-- All operations quiet in the worlds that grew out of w. -/
theorem wp_region_ext {id : Nat} {Q : Exit → Act → World → Prop} {a : Act} {w : World} {l : List Oper} (hm : P.follows .mixedOrders = true) (hB : Region.lexB .any l.toArray = true)
    (h : wpQuiet P l.toArray (fun w' => ∃ x : Ext w, w' = x.w) (fun a' => ∀ w', (∃ x : Ext w, w' = x.w) → Q .normal a' w') l a) : (Code.region id l.toArray true).wp P Q a w :=
  wp_region_quiet (C := fun w' => ∃ x : Ext w, w' = x.w) hm hB (Ext.here w) (by simpa using h)

theorem wp_region_extmix {id : Nat} {Q : Exit → Act → World → Prop} {a : Act} {w : World} {l : List Oper} (n : Nat) (hm : P.follows .mixedOrders = true) (hB : mixB .any l.toArray n = true)
    (hQ : ∀ c a (d : Option Tmp) (v : Value) w, Q (.panic c) (a.put d v) w → Q (.panic c) a w)
    (h : wpQuiet P l.toArray (fun w' => ∃ x : Ext w, w' = x.w) (fun a' => ∀ w', (∃ x : Ext w, w' = x.w) → wpList P l.toArray Q (l.drop n) a' w') (l.take n) a) : (Code.region id l.toArray true).wp P Q a w :=
  wp_region_mix n hm hB hQ (Ext.here w) h

end
end Go.Proofs.YteihcodicfoiaaaGreat
