/-
  What is proved: as in Mix, but the region's first s operations look at no world and are taken ahead of all others.
-/
import Derived.Test.YthmngnfdfelkeaaMix
namespace Go.Proofs.Ythmngnfdfelkeaa
open Go Go.RowKit

section
variable {P : Program} {ops : Array Oper} {md : Region.Mode} {C : World → Prop}

def sinkS (md : Region.Mode) (ops : Array Oper) (s n : Nat) : Bool :=
  (List.range n).all fun i => decide (i < s) || (List.range (n + 1)).any fun j => decide (i < j) && Region.waitsFor md ops j i

theorem tail_waits2 {s n : Nat} {listed : Array Bool} (hs : sinkS md ops s n = true) (hc : treeB md ops n = true) (hn : n < ops.size) (inv : HeadInv md ops n listed) (hS : ∀ j, j < s → listed.getD j true = true) :
    ∀ (d i : Nat), n - i = d → i < n → listed.getD i true = false → ∀ t, n ≤ t → t ∉ Region.ready md ops listed := by
  intro d
  induction d using Nat.strongRecOn with
  | _ d ih =>
    intro i hd hi hun t ht hr
    obtain ⟨_, ot, hot, hall⟩ := mem_ready.1 hr
    have htlt : t < ops.size := (Array.getElem?_eq_some_iff.1 hot).1
    by_cases htn : t = n
    · subst htn
      have h1 := List.all_eq_true.1 hs i (List.mem_range.2 hi)
      simp only [Bool.or_eq_true, decide_eq_true_eq] at h1
      rcases h1 with h1 | h1
      · rw [hS i h1] at hun
        cases hun
      obtain ⟨j, hj, hj2⟩ := List.any_eq_true.1 h1
      simp only [Bool.and_eq_true, decide_eq_true_eq] at hj2
      obtain ⟨oj, hoj, e, he, hb, hon⟩ := Region.waitsFor_spec hj2.2
      have hjle : j ≤ t := by have := List.mem_range.1 hj; omega
      by_cases hjt : j = t
      · subst hjt
        have : oj = ot := Option.some.inj (hoj.symm.trans hot)
        subst this
        have h2 := hall e he hb
        rw [hon, getD_both hun] at h2
        cases h2
      · cases hl : listed.getD j false with
        | true =>
          have h2 := inv.closed j oj hoj hl e he hb
          rw [hon, getD_both hun] at h2
          cases h2
        | false =>
          have hjs : j < listed.size := by rw [inv.size]; omega
          exact ih (t - j) (by omega) j rfl (by omega) (getD_in hjs hl) t (Nat.le_refl _) hr
    · have h1 := List.all_eq_true.1 hc t (List.mem_range.2 htlt)
      simp only [Bool.or_eq_true, decide_eq_true_eq] at h1
      rcases h1 with h1 | h1
      · omega
      · obtain ⟨s, hs1, hs2⟩ := List.any_eq_true.1 h1
        simp only [Bool.and_eq_true, decide_eq_true_eq] at hs2
        have hslt := List.mem_range.1 hs1
        obtain ⟨o', ho', e, he, hb, hon⟩ := Region.waitsFor_spec hs2.2
        have : o' = ot := Option.some.inj (ho'.symm.trans hot)
        subst this
        have h2 := hall e he hb
        rw [hon, getD_both (inv.tail s hs2.1 (by omega))] at h2
        cases h2

theorem listed_set {s j : Nat} {listed : Array Bool} (hS : ∀ k, k < s → listed.getD k true = true) : ∀ k, k < s → (listed.setIfInBounds j true).getD k true = true := fun k hk => by
  by_cases hjk : j = k
  · subst hjk
    rcases Nat.lt_or_ge j listed.size with h1 | h1
    · simp [h1]
    · simp
  · rw [getD_set_ne true hjk]; exact hS k hk

theorem wpAnyM_first2 {s n i : Nat} {oi : Oper} {v : Value} {L : Array Bool → Act → Prop} (hi : ops[i]? = some oi) (hsel : ∀ (j : Nat) (o : Oper) cs b, ops[j]? = some o → o.op ≠ .select cs b)
    (hs : sinkS md ops s n = true) (hc : treeB md ops n = true) (hn : n < ops.size) (hin : i < n)
    (hdone : ∀ listed a, L listed a → ∀ j ∈ Region.ready md ops listed, n ≤ j) :
    ∀ (f : Nat) (listed : Array Bool) (a : Act), HeadInv md ops n listed → (∀ k, k < s → listed.getD k true = true) →
      (∀ j oj, ops[j]? = some oj → j ≠ i → listed.getD j true = false → (∀ e ∈ oj.after, Region.binds md e = true → e.on ≠ i) → oi.apart ops oj = true) →
      i ∈ Region.ready md ops listed → YieldsIn P ops C oi v a →
      wpAnyM P md ops C n L f (listed.setIfInBounds i true) (a.put oi.dst v) → wpAnyM P md ops C n L (f + 1) listed a := by
  intro f
  induction f with
  | zero =>
    intro listed a inv hS _ hr hy H
    have hun := (mem_ready.1 hr).1
    refine ⟨fun h => (by rw [h] at hr; cases hr), fun j hj => ?_⟩
    have hjn : j < n := by
      rcases Nat.lt_or_ge j n with h | h
      · exact h
      · exact absurd hj (tail_waits2 hs hc hn inv hS _ i rfl hin hun j h)
    refine ⟨hjn, ?_⟩
    by_cases hji : j = i
    · subst hji; exact hy.qOp hi H
    · have := hdone _ _ H j (ready_mono hj hji)
      omega
  | succ f ih =>
    intro listed a inv hS hfree hr hy H
    have hun := (mem_ready.1 hr).1
    refine ⟨fun h => (by rw [h] at hr; cases hr), fun j hj => ?_⟩
    have hjn : j < n := by
      rcases Nat.lt_or_ge j n with h | h
      · exact h
      · exact absurd hj (tail_waits2 hs hc hn inv hS _ i rfl hin hun j h)
    refine ⟨hjn, ?_⟩
    by_cases hji : j = i
    · subst hji; exact hy.qOp hi H
    · have h1 := (H.2 j (ready_mono hj hji)).2
      obtain ⟨hjun, oj, hoj, hall⟩ := mem_ready.1 hj
      have hnot : ∀ e ∈ oj.after, Region.binds md e = true → e.on ≠ i := fun e he hb heq => by
        have h1 := hall e he hb
        rw [heq, getD_both hun] at h1
        cases h1
      have h2 := qOp_put hoj (hfree j oj hoj hji hjun hnot) (fun cs b => hsel i oi cs b hi) (fun cs b => hsel j oj cs b hoj) hy h1
      have hfree' : ∀ k ok, ops[k]? = some ok → k ≠ i → (listed.setIfInBounds j true).getD k true = false →
          (∀ e ∈ ok.after, Region.binds md e = true → e.on ≠ i) → oi.apart ops ok = true := fun k ok hk hki hun hno => by
        refine hfree k ok hk hki ?_ hno
        by_cases hjk : j = k
        · subst hjk; exact hjun
        · rw [getD_set_ne true hjk] at hun; exact hun
      refine qOp_mono (fun a' h3 => ih (listed.setIfInBounds j true) a' (inv.set hj hjn) (listed_set hS) hfree' (ready_mono hr (Ne.symm hji)) h3.1 ?_) h2
      rw [Array.setIfInBounds_comm _ _ hji]
      exact h3.2

theorem wpAnyM_lex2 {s n g : Nat} {Lq : Act → Prop} (hsel : Region.noSelect ops = true) (hs : sinkS md ops s n = true) (hc : treeB md ops n = true) (hn : n < ops.size) :
    ∀ (l : List Oper) (k : Nat) (listed : Array Bool) (a : Act), (∀ j, j < l.length → l[j]? = ops[k + j]?) → k + l.length = n → s ≤ k → HeadInv md ops n listed → (∀ j, j < k → listed.getD j true = true) →
    headM md ops g l.length k listed = true → wpQuiet P ops C Lq l a →
    wpAnyM P md ops C n (fun listed' a' => (∀ j, j < n → listed'.getD j true = true) ∧ seqM md ops g n listed' = true ∧ Lq a') l.length listed a
  | [], k, listed, a, _, hk, _, _, hlk, hB, h => by
    have : k = n := by simpa using hk
    subst this
    exact ⟨hlk, by simpa [headM] using hB, h⟩
  | o :: l, k, listed, a, hl, hk, hsk, inv, hlk, hB, h => by
    have h0 : ops[k]? = some o := by simpa using (hl 0 (by simp)).symm
    simp only [List.length_cons, headM, Bool.and_eq_true] at hB
    obtain ⟨⟨hr, hf⟩, hB'⟩ := hB
    have hkn : k < n := by simp only [List.length_cons] at hk; omega
    have hr' : k ∈ Region.ready md ops listed := by simpa using hr
    have hst : qOp P ops C k (wpQuiet P ops C Lq l) a := by unfold qOp; simp only [h0]; exact h
    obtain ⟨v, hy, hK⟩ := yieldsIn_of_qOp h0 hst
    have hlk' : ∀ j, j < k + 1 → (listed.setIfInBounds k true).getD j true = true := fun j hj => by
      by_cases hjk : k = j
      · subst hjk
        rcases Nat.lt_or_ge k listed.size with h1 | h1
        · simp [h1]
        · simp
      · rw [getD_set_ne true hjk]; exact hlk j (by omega)
    refine wpAnyM_first2 h0 (Region.noSelect_spec hsel) hs hc hn hkn (fun listed' a' hL j hj => ?_) l.length listed a inv (fun j hj => hlk j (by omega)) (Region.free_spec h0 hf) hr' hy
      (wpAnyM_lex2 hsel hs hc hn l (k + 1) _ _ (fun j hj => by have := hl (j + 1) (by simp; omega); simpa [Nat.add_assoc, Nat.add_comm 1 j] using this) (by simp only [List.length_cons] at hk; omega) (by omega) (inv.set hr' hkn) hlk' hB' hK)
    have h1 := (mem_ready.1 hj).1
    rcases Nat.lt_or_ge j n with h2 | h2
    · rw [hL.1 j h2] at h1
      cases h1
    · exact h2

/-- What a plain operation yields in one world it yields in all. -/
theorem plain_quiet {o : Oper} {a : Act} {w : World} {K : Act → Prop} (hp : plainOp o = true) (hC : C w) (h : o.quiet P a C K) :
    ∃ v, (∀ w, (execOp a.eval o).run P w = .ok (.value v) w) ∧ K (a.put o.dst v) := by
  obtain ⟨v, hv, hK⟩ := h
  have h1 := hv w hC
  unfold Oper.quietAt at h1
  unfold plainOp at hp
  split at hp
  · rename_i x hx
    have e : ∀ w, (execOp a.eval o).run P w = .ok (.value (a.eval x)) w := fun w => by unfold execOp; rw [hx]; rfl
    rw [e] at h1
    obtain ⟨_, rfl⟩ := h1
    exact ⟨_, e, hK⟩
  · rename_i x hx
    have e : ∀ w, (execOp a.eval o).run P w = .ok (.value (a.eval x)) w := fun w => by unfold execOp; rw [hx]; rfl
    rw [e] at h1
    obtain ⟨_, rfl⟩ := h1
    exact ⟨_, e, hK⟩
  · rename_i t ix hx
    rcases run_extract_any (P := P) (a.eval t) ix with ⟨u, hu⟩ | ⟨s, hs⟩
    · have e : ∀ w, (execOp a.eval o).run P w = .ok (.value u) w := fun w => by unfold execOp; rw [hx]; simp [hu]
      rw [e] at h1
      obtain ⟨_, rfl⟩ := h1
      exact ⟨_, e, hK⟩
    · have e : ∀ w, (execOp a.eval o).run P w = .halt (.stuck s) w := fun w => by unfold execOp; rw [hx]; simp [hs]
      rw [e] at h1
      exact h1.elim
  · cases hp

def preM (md : Region.Mode) (ops : Array Oper) (g m : Nat) : Nat → Nat → Array Bool → Bool
  | 0, k, listed => headM md ops g m k listed
  | f + 1, k, listed => ((ops[k]?).map plainOp).getD false && (Region.ready md ops listed).contains k && Region.free md ops listed k && preM md ops g m f (k + 1) (listed.setIfInBounds k true)

theorem wpAny_pre {s n : Nat} {Q : Exit → Act → World → Prop} (lt : List Oper) (hsel : Region.noSelect ops = true) (hs : sinkS md ops s n = true) (hc : treeB md ops n = true) (hn : n < ops.size)
    (hlt : ∀ j, lt[j]? = ops[n + j]?) (hQ : ∀ c a (d : Option Tmp) (v : Value) w, Q (.panic c) (a.put d v) w → Q (.panic c) a w) :
    ∀ (l1 l2 : List Oper) (k : Nat) (listed : Array Bool) (a : Act) (w : World), (∀ j, j < (l1 ++ l2).length → (l1 ++ l2)[j]? = ops[k + j]?) → k + (l1 ++ l2).length = n → k + l1.length = s → HeadInv md ops n listed →
    (∀ j, j < k → listed.getD j true = true) → preM md ops lt.length l2.length l1.length k listed = true → C w →
    wpQuiet P ops C (fun a' => ∀ w', C w' → wpList P ops Q lt a' w') (l1 ++ l2) a → wpAny P md ops Q ((l1 ++ l2).length + lt.length) listed a w
  | [], l2, k, listed, a, w, hl, hk, hks, inv, hlk, hB, hC, h => by
    simp only [List.nil_append] at *
    have hks' : k = s := by simpa using hks
    have H := wpAnyM_lex2 (md := md) (g := lt.length) hsel hs hc hn l2 k listed a hl hk (by omega) inv hlk (by simpa [preM] using hB) h
    exact wpAny_of_headM (Q' := Q) (g := lt.length) (fun listed a' hL w' hw' => wpAny_of_mix (md := md) hsel hQ lt n listed a' w' hlt hL.2.1 (hL.2.2 w' hw')) _ _ _ _ hC H
  | o :: l1, l2, k, listed, a, w, hl, hk, hks, inv, hlk, hB, hC, h => by
    have h0 : ops[k]? = some o := by simpa using (hl 0 (by simp)).symm
    simp only [List.length_cons, preM, Bool.and_eq_true] at hB
    obtain ⟨⟨⟨hp, hr⟩, hf⟩, hB'⟩ := hB
    have hp' : plainOp o = true := by simpa [h0] using hp
    have hkn : k < n := by simp only [List.cons_append, List.length_cons] at hk; omega
    have hr' : k ∈ Region.ready md ops listed := by simpa using hr
    have hlk' : ∀ j, j < k + 1 → (listed.setIfInBounds k true).getD j true = true := fun j hj => by
      by_cases hjk : k = j
      · subst hjk
        rcases Nat.lt_or_ge k listed.size with h1 | h1
        · simp [h1]
        · simp
      · rw [getD_set_ne true hjk]; exact hlk j (by omega)
    have hl' : ∀ j, j < (l1 ++ l2).length → (l1 ++ l2)[j]? = ops[k + 1 + j]? := fun j hj => by
      have := hl (j + 1) (by simpa using hj)
      simpa [Nat.add_assoc, Nat.add_comm 1 j] using this
    have hk' : k + 1 + (l1 ++ l2).length = n := by simp only [List.cons_append, List.length_cons] at hk; omega
    have hks' : k + 1 + l1.length = s := by simp only [List.length_cons] at hks; omega
    have step := fun a' w' (hC' : C w') hq => wpAny_pre lt hsel hs hc hn hlt hQ l1 l2 (k + 1) (listed.setIfInBounds k true) a' w' hl' hk' hks' (inv.set hr' hkn) hlk' hB' hC' hq
    rw [List.cons_append, List.length_cons, show (l1 ++ l2).length + 1 + lt.length = ((l1 ++ l2).length + lt.length) + 1 by omega]
    rw [List.cons_append] at h
    unfold wpQuiet at h
    by_cases hw : Region.wanted o (yielded ops a.tmps) = true
    · rw [if_pos hw] at h
      obtain ⟨v, hv, hK⟩ := plain_quiet hp' hC h
      exact wpAny_take h0 hsel hf hr (fun c a w => hQ c a o.dst v w) (.inl ⟨hw, hv⟩) (step _ _ hC hK)
    · rw [if_neg hw] at h
      exact wpAny_take h0 hsel hf hr (fun c a w => hQ c a o.dst undef w) (.inr ⟨by simpa using hw, rfl⟩) (step _ _ hC h)

def premixB (md : Region.Mode) (ops : Array Oper) (s n : Nat) : Bool :=
  Region.noSelect ops && decide (n < ops.size) && decide (s ≤ n) && sinkS md ops s n && treeB md ops n && preM md ops (ops.size - n) (n - s) s 0 (Array.replicate ops.size false)

/-- The first s operations plain, those up to n quiet in C, the others one after the other. -/
theorem wp_region_premix {id : Nat} {Q : Exit → Act → World → Prop} {a : Act} {w : World} {l : List Oper} (s n : Nat) (hm : P.follows .mixedOrders = true) (hB : premixB .any l.toArray s n = true)
    (hQ : ∀ c a (d : Option Tmp) (v : Value) w, Q (.panic c) (a.put d v) w → Q (.panic c) a w) (hC : C { w with drawn := w.drawn + 1 })
    (h : wpQuiet P l.toArray C (fun a' => ∀ w', C w' → wpList P l.toArray Q (l.drop n) a' w') (l.take n) a) : (Code.region id l.toArray true).wp P Q a w := by
  simp only [premixB, Bool.and_eq_true, decide_eq_true_eq] at hB
  obtain ⟨⟨⟨⟨⟨hsel, hn⟩, hsn⟩, hs⟩, hc⟩, hlex⟩ := hB
  have hn' : n < l.length := by simpa using hn
  have e1 : l.take n = l.take s ++ (l.take n).drop s := by
    have := (List.take_append_drop s (l.take n)).symm
    rwa [List.take_take, Nat.min_eq_left hsn] at this
  have htl : (l.take n).length = n := by simp; omega
  have hls : (l.take s).length = s := by simp; omega
  have hl2 : ((l.take n).drop s).length = n - s := by simp; omega
  have hdl : (l.drop n).length = l.toArray.size - n := by simp
  have inv0 : HeadInv .any l.toArray n (Array.replicate l.toArray.size false) :=
    ⟨by simp, fun j oj _ hl => (by rw [getD_replicate_false] at hl; cases hl), fun t _ ht => getD_in (by simpa using ht) (getD_replicate_false _ _)⟩
  rw [e1] at h
  have H := wpAny_pre (md := .any) (l.drop n) hsel hs hc hn (fun j => by simp [List.getElem?_drop]) hQ (l.take s) ((l.take n).drop s) 0 _ a { w with drawn := w.drawn + 1 } (fun j hj => by
    rw [← e1] at hj ⊢
    rw [htl] at hj
    simp [hj]) (by rw [← e1, htl]; omega) (by rw [hls]; omega) inv0 (fun j hj => absurd hj (by omega)) (by rw [hdl, hl2, hls]; exact hlex) hC h
  refine wp_region_any hm ?_
  rwa [← e1, htl, hdl, show n + (l.toArray.size - n) = l.toArray.size by omega] at H

theorem wp_region_extpre {id : Nat} {Q : Exit → Act → World → Prop} {a : Act} {w : World} {l : List Oper} (s n : Nat) (hm : P.follows .mixedOrders = true) (hB : premixB .any l.toArray s n = true)
    (hQ : ∀ c a (d : Option Tmp) (v : Value) w, Q (.panic c) (a.put d v) w → Q (.panic c) a w)
    (h : wpQuiet P l.toArray (fun w' => ∃ x : Ext w, w' = x.w) (fun a' => ∀ w', (∃ x : Ext w, w' = x.w) → wpList P l.toArray Q (l.drop n) a' w') (l.take n) a) : (Code.region id l.toArray true).wp P Q a w :=
  wp_region_premix s n hm hB hQ (Ext.here w) h

end
end Go.Proofs.Ythmngnfdfelkeaa
