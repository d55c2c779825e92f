/-
  What is proved: as in Mix, for a region whose first s operations (they read) need not come ahead of operation number n, which makes memory: one walk of the order of the text serves every order. For any program.
-/
import Derived.Test.YteihcodicfoiaaaGreatMw1
import Derived.Test.YteihcodicfoiaaaGreatMw2
namespace Go.Proofs.YteihcodicfoiaaaGreat
open Go Go.RowKit

section
variable {P : Program} {ops : Array Oper} {md : Region.Mode} {C : World → Prop} {Q : Exit → Act → World → Prop}

/-- An operation that hands back a value, and calls nothing. -/
def readOp (o : Oper) : Bool := match o.op with | .move _ | .assign _ | .load _ _ | .fieldAddr _ _ _ | .indexAddr _ _ _ | .nilCheck _ => true | _ => false

theorem bind_ok {α β : Type} {s : Sem α} {f : α → Sem β} {w w' : World} {r : β} (h : Sem.run P (s >>= f) w = .ok r w') : ∃ a w1, Sem.run P (f a) w1 = .ok r w' := by
  rw [Sem.run_bind] at h
  cases hs : Sem.run P s w with
  | ok v w1 => rw [hs] at h; exact ⟨v, w1, h⟩
  | halt x w1 => rw [hs] at h; simp [Result.andThen] at h
theorem val_only (s : Sem Value) (w w' : World) (n : Next) (h : Sem.run P (do pure (Next.value (← s))) w = .ok n w') : ∃ u, n = .value u := by
  rw [Sem.run_bind] at h
  cases hs : Sem.run P s w with
  | ok v w1 =>
    rw [hs] at h
    simp only [Result.andThen, Sem.run_pure] at h
    injection h with h1 _
    exact ⟨v, h1.symm⟩
  | halt x w1 => rw [hs] at h; simp [Result.andThen] at h

/-- In every world of the class it yields v, and leaves the world alone. -/
def YieldsS (P : Program) (ops : Array Oper) (C : World → Prop) (o : Oper) (v : Value) (a : Act) : Prop :=
  (Region.wanted o (yielded ops a.tmps) = true ∧ ∀ w, C w → (execOp a.eval o).run P w = .ok (.value v) w) ∨ (Region.wanted o (yielded ops a.tmps) = false ∧ v = undef)

theorem YieldsS.of_same {o : Oper} {v : Value} {a a' : Act} (hy : YieldsS P ops C o v a) (he : execOp a'.eval o = execOp a.eval o)
    (hw : Region.wanted o (yielded ops a'.tmps) = Region.wanted o (yielded ops a.tmps)) : YieldsS P ops C o v a' := by
  unfold YieldsS at *
  rw [he, hw]
  exact hy
theorem YieldsS.wpOp {i : Nat} {o : Oper} {v : Value} {a : Act} {w : World} (hi : ops[i]? = some o) (hy : YieldsS P ops C o v a) (hC : C w) {K : Act → World → Prop} (h : K (a.put o.dst v) w) : wpOp P ops Q i K a w := by
  unfold Go.wpOp
  simp only [hi]
  rcases hy with ⟨hw, hv⟩ | ⟨hw, rfl⟩
  · simp only [hw, if_true]
    refine .inl ?_
    unfold Oper.wp
    rw [hv w hC]
    exact h
  · simp only [hw, Bool.false_eq_true, if_false]; exact h

/-- One operation 'oj', apart from 'oi'. -/
theorem wpOp_putS {j : Nat} {oi oj : Oper} {v : Value} (hj : ops[j]? = some oj) (hap : oi.apart ops oj = true)
    (hsi : ∀ cs b, oi.op ≠ .select cs b) (hsj : ∀ cs b, oj.op ≠ .select cs b)
    (hQ : ∀ c a w, Q (.panic c) (a.put oi.dst v) w → Q (.panic c) a w) {K : Act → World → Prop} {a : Act} {w : World}
    (hy : YieldsS P ops C oi v a) (h : wpOp P ops Q j K (a.put oi.dst v) w) :
    wpOp P ops Q j (fun a' w' => YieldsS P ops C oi v a' ∧ K (a'.put oi.dst v) w') a w := by
  obtain ⟨h1, h2, h3⟩ := Oper.apart_spec hap
  have keep : ∀ (a : Act), YieldsS P ops C oi v a → ∀ u, YieldsS P ops C oi v (a.put oj.dst u) := fun a hy u =>
    hy.of_same (execOp_put oi hsi a oj.dst u h3) (wanted_put oi a oj.dst u h3)
  have keepD : ∀ d, YieldsS P ops C oi v { a with defers := d :: a.defers } := fun d => hy.of_same rfl rfl
  unfold wpOp at *
  simp only [hj] at *
  rw [wanted_put oj a oi.dst v h1] at h
  split
  · rename_i hw
    simp only [hw, if_true] at h
    rcases h with h | ⟨hasks, hlets⟩
    case inr => exact .inr ⟨by unfold Oper.asks at *; rw [execOp_put oj hsj a oi.dst v h1] at hasks; exact hasks, hlets⟩
    refine .inl ?_
    unfold Oper.wp at *
    rw [execOp_put oj hsj a oi.dst v h1] at h
    generalize (execOp a.eval oj).run P w = r at *
    cases r with
    | ok n w' =>
      cases n <;> simp only [Oper.upon] at h ⊢
      case value u => exact ⟨keep a hy u, by rw [← Act.put_comm a v u h2]; exact h⟩
      case skip => exact ⟨keep a hy _, by rw [← Act.put_comm a v undef h2]; exact h⟩
      case defer d =>
        refine ⟨keep _ (keepD d) _, ?_⟩
        rw [← Act.put_comm _ v undef h2, ← Act.put_defers]
        exact h
      case enter f args =>
        refine Calls.mono h fun e w'' he => ?_
        cases e with
        | returned u => exact ⟨keep a hy u, by rw [← Act.put_comm a v u h2]; exact he⟩
        | panicked c => exact hQ _ _ _ he
        | outgrown => exact he
      case row row args => exact Rows.mono h fun u w'' he => ⟨keep a hy u, by rw [← Act.put_comm a v u h2]; exact he⟩
    | halt x w' =>
      cases x <;> simp only [Oper.upon] at h ⊢
      case panic u => exact hQ _ _ _ h
  · rename_i hw
    simp only [hw] at h
    exact ⟨keep a hy _, by rw [← Act.put_comm a v undef h2]; exact h⟩

/-- As wpAny, and behind each operation up to number n the world is one of the class. -/
def wpAnyC (P : Program) (md : Region.Mode) (ops : Array Oper) (C : World → Prop) (Q : Exit → Act → World → Prop) (r n : Nat) : Nat → Array Bool → Act → World → Prop
  | 0, listed, a, w => Region.ready md ops listed = [] ∧ Q .normal a w
  | fuel + 1, listed, a, w =>
    (Region.ready md ops listed = [] → Q .normal a w) ∧
    ∀ i ∈ Region.ready md ops listed, wpOp P ops Q i (fun a' w' => (r ≤ i → i ≤ n → C w') ∧ wpAnyC P md ops C Q r n fuel (listed.setIfInBounds i true) a' w') a w

theorem wpAny_of_C {r n : Nat} : ∀ (f : Nat) (listed : Array Bool) (a : Act) (w : World), wpAnyC P md ops C Q r n f listed a w → wpAny P md ops Q f listed a w
  | 0, _, _, _, h => h
  | f + 1, _, _, _, h => ⟨h.1, fun i hi => wpOp_mono (fun a' w' h' => wpAny_of_C f _ a' w' h'.2) (h.2 i hi)⟩

theorem wpAnyC_of {r n : Nat} : ∀ (f : Nat) (listed : Array Bool) (a : Act) (w : World), (∀ j, j ≤ n → listed.getD j true = true) → wpAny P md ops Q f listed a w → wpAnyC P md ops C Q r n f listed a w
  | 0, _, _, _, _, h => h
  | f + 1, listed, _, _, hl, h => ⟨h.1, fun i hi => wpOp_mono (fun a' w' h' => ⟨fun _ hin => (by
      have h1 := (mem_ready.1 hi).1
      rw [hl i hin] at h1
      cases h1), wpAnyC_of f _ a' w' (fun j hj => by
      by_cases hij : i = j
      · subst hij
        rcases Nat.lt_or_ge i listed.size with h1 | h1
        · simp [h1]
        · simp
      · rw [getD_set_ne true hij]; exact hl j hj) h'⟩) (h.2 i hi)⟩

theorem wpAnyC_of_headM {r n g m : Nat} {L : Array Bool → Act → Prop} (hL : ∀ listed a, L listed a → ∀ w, C w → wpAnyC P md ops C Q r m g listed a w) :
    ∀ (f : Nat) (listed : Array Bool) (a : Act) (w : World), C w → wpAnyM P md ops C n L f listed a → wpAnyC P md ops C Q r m (f + g) listed a w
  | 0, listed, a, w, hC, h => by rw [Nat.zero_add]; exact hL _ _ h w hC
  | f + 1, listed, a, w, hC, h => by
    rw [show f + 1 + g = (f + g) + 1 by omega]
    exact ⟨fun h0 => absurd h0 h.1, fun i hi => wpOp_of_qOp hC (fun a' w' hC' h' => ⟨fun _ _ => hC', wpAnyC_of_headM hL f _ a' w' hC' h'⟩) (h.2 i hi).2⟩

theorem set_keep {listed : Array Bool} {k j : Nat} (h : listed.getD k true = true) : (listed.setIfInBounds j true).getD k true = true := by
  by_cases hjk : j = k
  · subst hjk
    rcases Nat.lt_or_ge j listed.size with h1 | h1
    · simp [h1]
    · simp
  · rw [getD_set_ne true hjk]; exact h
/-- An operation that looks at no world may be taken first. -/
theorem wpAnyC_plain {r n i : Nat} {oi : Oper} {v : Value} (hi : ops[i]? = some oi) (hsel : ∀ (j : Nat) (o : Oper) cs b, ops[j]? = some o → o.op ≠ .select cs b)
    (hQ : ∀ c a w, Q (.panic c) (a.put oi.dst v) w → Q (.panic c) a w) (hin : i < r) :
    ∀ (fuel : Nat) (listed : Array Bool) (a : Act) (w : World),
      (∀ j oj, ops[j]? = some oj → j ≠ i → listed.getD j true = false → (∀ e ∈ oj.after, Region.binds md e = true → e.on ≠ i) → oi.apart ops oj = true) →
      i ∈ Region.ready md ops listed → YieldsS P ops (fun _ => True) oi v a →
      wpAnyC P md ops C Q r n fuel (listed.setIfInBounds i true) (a.put oi.dst v) w → wpAnyC P md ops C Q r n (fuel + 1) listed a w := by
  intro fuel
  induction fuel with
  | zero =>
    intro listed a w _ hr hy H
    refine ⟨fun h => (by rw [h] at hr; cases hr), fun j hj => ?_⟩
    by_cases hji : j = i
    · subst hji; exact hy.wpOp hi trivial ⟨fun h _ => absurd hin (by omega), H⟩
    · have := ready_mono hj hji
      rw [H.1] at this
      cases this
  | succ fuel ih =>
    intro listed a w hfree hr hy H
    have hun := (mem_ready.1 hr).1
    refine ⟨fun h => (by rw [h] at hr; cases hr), fun j hj => ?_⟩
    by_cases hji : j = i
    · subst hji; exact hy.wpOp hi trivial ⟨fun h _ => absurd hin (by omega), H⟩
    · have h1 := H.2 j (ready_mono hj hji)
      obtain ⟨hjun, oj, hoj, hall⟩ := mem_ready.1 hj
      have hnot : ∀ e ∈ oj.after, Region.binds md e = true → e.on ≠ i := fun e he hb heq => by
        have h1 := hall e he hb
        rw [heq, getD_both hun] at h1
        cases h1
      have h2 := wpOp_putS hoj (hfree j oj hoj hji hjun hnot) (fun cs b => hsel i oi cs b hi) (fun cs b => hsel j oj cs b hoj) hQ hy h1
      have hfree' : ∀ k ok, ops[k]? = some ok → k ≠ i → (listed.setIfInBounds j true).getD k true = false →
          (∀ e ∈ ok.after, Region.binds md e = true → e.on ≠ i) → oi.apart ops ok = true := fun k ok hk hki hun hno => by
        refine hfree k ok hk hki ?_ hno
        by_cases hjk : j = k
        · subst hjk; exact hjun
        · rw [getD_set_ne true hjk] at hun; exact hun
      refine wpOp_mono (fun a' w' h3 => ?_) h2
      refine ⟨h3.2.1, ih (listed.setIfInBounds j true) a' w' hfree' (ready_mono hr (Ne.symm hji)) h3.1 ?_⟩
      rw [Array.setIfInBounds_comm _ _ hji]
      exact h3.2.2
/-- Operation i may be taken first. -/
theorem wpAnyC_first {r n i : Nat} {oi : Oper} {v : Value} (hi : ops[i]? = some oi) (hsel : ∀ (j : Nat) (o : Oper) cs b, ops[j]? = some o → o.op ≠ .select cs b)
    (hQ : ∀ c a w, Q (.panic c) (a.put oi.dst v) w → Q (.panic c) a w) (hs : sinkS md ops r (n + 1) = true) (hc : treeB md ops (n + 1) = true) (hn : n + 1 < ops.size) (hin : i ≤ n) :
    ∀ (fuel : Nat) (listed : Array Bool) (a : Act) (w : World), HeadInv md ops (n + 1) listed → (∀ j, j < r → listed.getD j true = true) →
      (∀ j oj, ops[j]? = some oj → j ≠ i → listed.getD j true = false → (∀ e ∈ oj.after, Region.binds md e = true → e.on ≠ i) → oi.apart ops oj = true) →
      i ∈ Region.ready md ops listed → YieldsS P ops C oi v a → C w →
      wpAnyC P md ops C Q r n fuel (listed.setIfInBounds i true) (a.put oi.dst v) w → wpAnyC P md ops C Q r n (fuel + 1) listed a w := by
  intro fuel
  induction fuel with
  | zero =>
    intro listed a w _ _ _ hr hy hC H
    refine ⟨fun h => (by rw [h] at hr; cases hr), fun j hj => ?_⟩
    by_cases hji : j = i
    · subst hji; exact hy.wpOp hi hC ⟨fun _ _ => hC, H⟩
    · have := ready_mono hj hji
      rw [H.1] at this
      cases this
  | succ fuel ih =>
    intro listed a w inv hS hfree hr hy hC H
    have hun := (mem_ready.1 hr).1
    refine ⟨fun h => (by rw [h] at hr; cases hr), fun j hj => ?_⟩
    by_cases hji : j = i
    · subst hji; exact hy.wpOp hi hC ⟨fun _ _ => hC, H⟩
    · have hjn : j < n + 1 := by
        rcases Nat.lt_or_ge j (n + 1) with h | h
        · exact h
        · exact absurd hj (tail_waits2 hs hc hn inv hS _ i rfl (by omega) hun j h)
      have h1 := H.2 j (ready_mono hj hji)
      obtain ⟨hjun, oj, hoj, hall⟩ := mem_ready.1 hj
      have hnot : ∀ e ∈ oj.after, Region.binds md e = true → e.on ≠ i := fun e he hb heq => by
        have h1 := hall e he hb
        rw [heq, getD_both hun] at h1
        cases h1
      have h2 := wpOp_putS hoj (hfree j oj hoj hji hjun hnot) (fun cs b => hsel i oi cs b hi) (fun cs b => hsel j oj cs b hoj) hQ hy h1
      have hfree' : ∀ k ok, ops[k]? = some ok → k ≠ i → (listed.setIfInBounds j true).getD k true = false →
          (∀ e ∈ ok.after, Region.binds md e = true → e.on ≠ i) → oi.apart ops ok = true := fun k ok hk hki hun hno => by
        refine hfree k ok hk hki ?_ hno
        by_cases hjk : j = k
        · subst hjk; exact hjun
        · rw [getD_set_ne true hjk] at hun; exact hun
      refine wpOp_mono (fun a' w' h3 => ?_) h2
      have hC' := h3.2.1 (Nat.le_of_not_lt fun h => by rw [hS j h] at hjun; cases hjun) (by omega)
      refine ⟨fun _ _ => hC', ih (listed.setIfInBounds j true) a' w' (inv.set hj hjn) (fun k hk => set_keep (hS k hk)) hfree' (ready_mono hr (Ne.symm hji)) h3.1 hC' ?_⟩
      rw [Array.setIfInBounds_comm _ _ hji]
      exact h3.2.2

/-- A reading operation that is quiet leaves the world alone. -/
theorem read_still {o : Oper} {a : Act} {K : Act → Prop} (hp : readOp o = true) (h : o.quiet P a C K) :
    ∃ v, (∀ w, C w → (execOp a.eval o).run P w = .ok (.value v) w) ∧ K (a.put o.dst v) := by
  obtain ⟨v, hv, hK⟩ := h
  refine ⟨v, fun w hC => ?_, hK⟩
  have h1 := hv w hC
  unfold Oper.quietAt at h1
  have key : ∀ n w', (execOp a.eval o).run P w = .ok n w' → ∃ u, n = .value u := by
    intro n w' hr
    unfold readOp at hp
    split at hp
    · rename_i x hx
      unfold execOp at hr; rw [hx] at hr
      injection hr with hr _
      exact ⟨_, hr.symm⟩
    · rename_i x hx
      unfold execOp at hr; rw [hx] at hr
      injection hr with hr _
      exact ⟨_, hr.symm⟩
    · rename_i hx
      unfold execOp at hr; rw [hx] at hr
      exact val_only _ _ _ _ hr
    · rename_i hx
      unfold execOp at hr; rw [hx] at hr
      exact val_only _ _ _ _ hr
    · rename_i hx
      unfold execOp at hr; rw [hx] at hr
      exact val_only _ _ _ _ hr
    · rename_i x hx
      unfold execOp at hr; rw [hx] at hr
      simp only at hr
      split at hr
      · simp [runtimePanic, Sem.run] at hr
      · simp [runtimePanic, Sem.run] at hr
      · simp [runtimePanic, Sem.run] at hr
      · split at hr
        · simp [runtimePanic, Sem.run] at hr
        · obtain ⟨p, w1, hr⟩ := bind_ok hr
          obtain ⟨q, w2, hr⟩ := bind_ok hr
          split at hr
          · obtain ⟨_, w3, hr⟩ := bind_ok hr
            rw [Sem.run_pure] at hr
            injection hr with hr _
            exact ⟨_, hr.symm⟩
          · rw [Sem.run_pure] at hr
            injection hr with hr _
            exact ⟨_, hr.symm⟩
        · injection hr with hr _
          exact ⟨_, hr.symm⟩
      · injection hr with hr _
        exact ⟨_, hr.symm⟩
    · cases hp
  cases hr : (execOp a.eval o).run P w with
  | ok n w' =>
    obtain ⟨u, rfl⟩ := key n w' hr
    rw [hr] at h1
    obtain ⟨rfl, rfl⟩ := h1
    rfl
  | halt x w' => rw [hr] at h1; exact h1.elim


/-- What is asked of the operation that makes memory, and of what follows it. -/
def makesC (P : Program) (ops : Array Oper) (C : World → Prop) (Q : Exit → Act → World → Prop) (o : Oper) (rest : List Oper) (a : Act) : Prop :=
  o.guard = none ∧ ∀ w, C w → ∃ v w', (execOp a.eval o).run P w = .ok (.value v) w' ∧ C w' ∧ wpList P ops Q rest (a.put o.dst v) w'

/-- The operations up to n are listed, from n on one comes after the other. -/
def tailM (md : Region.Mode) (ops : Array Oper) (g n : Nat) (listed : Array Bool) : Bool :=
  decide (Region.ready md ops listed = [n]) && seqM md ops g (n + 1) (listed.setIfInBounds n true)
def headT (md : Region.Mode) (ops : Array Oper) (g : Nat) : Nat → Nat → Array Bool → Bool
  | 0, k, listed => tailM md ops g k listed
  | f + 1, k, listed => (Region.ready md ops listed).contains k && Region.free md ops listed k && headT md ops g f (k + 1) (listed.setIfInBounds k true)
theorem headM_of_T {g : Nat} : ∀ (f k : Nat) (listed : Array Bool), headT md ops g f k listed = true → headM md ops (g + 1) f k listed = true
  | 0, k, listed, h => by
    simp only [headT, tailM, Bool.and_eq_true, decide_eq_true_eq] at h
    simp [headM, seqM, h.1, h.2]
  | f + 1, k, listed, h => by
    simp only [headT, Bool.and_eq_true] at h
    simp only [headM, Bool.and_eq_true]
    exact ⟨h.1, headM_of_T f _ _ h.2⟩
def leadT (md : Region.Mode) (ops : Array Oper) (g m : Nat) : Nat → Nat → Array Bool → Bool
  | 0, k, listed => headT md ops g m k listed
  | f + 1, k, listed => ((ops[k]?).map readOp).getD false && (Region.ready md ops listed).contains k && Region.free md ops listed k && leadT md ops g m f (k + 1) (listed.setIfInBounds k true)
def leadP (md : Region.Mode) (ops : Array Oper) (g m q : Nat) : Nat → Nat → Array Bool → Bool
  | 0, k, listed => leadT md ops g m q k listed
  | f + 1, k, listed => ((ops[k]?).map plainOp).getD false && (Region.ready md ops listed).contains k && Region.free md ops listed k && leadP md ops g m q f (k + 1) (listed.setIfInBounds k true)

theorem wpAnyC_lead {r s n : Nat} (om : Oper) (lt : List Oper) (hsel : Region.noSelect ops = true) (hs2 : sinkS md ops s n = true) (hc2 : treeB md ops n = true) (hs : sinkS md ops r (n + 1) = true) (hc : treeB md ops (n + 1) = true) (hn : n + 1 < ops.size) (hrn : r ≤ n)
    (hom : ops[n]? = some om) (hpl : plainOp om = false) (hlt : ∀ j, lt[j]? = ops[n + 1 + j]?) (hQ : ∀ c a (d : Option Tmp) (v : Value) w, Q (.panic c) (a.put d v) w → Q (.panic c) a w) :
    ∀ (l1 l2 : List Oper) (k : Nat) (listed : Array Bool) (a : Act) (w : World), (∀ j, j < (l1 ++ l2).length → (l1 ++ l2)[j]? = ops[k + j]?) → k + (l1 ++ l2).length = n → k + l1.length = s → r ≤ k → HeadInv md ops n listed →
    (∀ j, j < k → listed.getD j true = true) → leadT md ops lt.length l2.length l1.length k listed = true → C w →
    wpQuiet P ops C (fun a' => makesC P ops C Q om lt a') (l1 ++ l2) a → wpAnyC P md ops C Q r n ((l1 ++ l2).length + (lt.length + 1)) listed a w
  | [], l2, k, listed, a, w, hl, hk, hks, hrk, inv, hlk, hB, hC, h => by
    simp only [List.nil_append] at *
    have hks' : k = s := by simpa using hks
    have H := wpAnyM_lex2 (md := md) (g := lt.length + 1) hsel hs2 hc2 (by omega) l2 k listed a hl hk (by omega) inv hlk (headM_of_T _ _ _ (by simpa [leadT] using hB)) h
    refine wpAnyC_of_headM (g := lt.length + 1) (fun listed a' hL w' hw' => ?_) _ _ _ _ hC H
    obtain ⟨h1, h2, hg, h3⟩ := hL
    simp only [seqM, Bool.and_eq_true, Bool.or_eq_true, decide_eq_true_eq, hom, Option.map_some, Option.getD_some, hpl, Bool.false_eq_true, false_and, or_false] at h2
    refine ⟨fun h0 => (by rw [h2.1] at h0; cases h0), fun i hi => ?_⟩
    rw [h2.1] at hi
    obtain rfl : i = n := by simpa using hi
    obtain ⟨v, w2, hr, hC2, hw2⟩ := h3 w' hw'
    have hw : Region.wanted om (yielded ops a'.tmps) = true := by simp [Region.wanted, hg]
    unfold wpOp
    simp only [hom, hw, if_true]
    refine .inl ?_
    unfold Oper.wp
    rw [hr]
    exact ⟨fun _ _ => hC2, wpAnyC_of _ _ _ _ (fun j hj => set_done h1 j (by omega)) (wpAny_of_mix hsel hQ lt (i + 1) _ _ _ hlt h2.2 hw2)⟩
  | o :: l1, l2, k, listed, a, w, hl, hk, hks, hrk, inv, hlk, hB, hC, h => by
    have h0 : ops[k]? = some o := by simpa using (hl 0 (by simp)).symm
    simp only [List.length_cons, leadT, Bool.and_eq_true] at hB
    obtain ⟨⟨⟨hp, hr⟩, hf⟩, hB'⟩ := hB
    have hp' : readOp o = true := by simpa [h0] using hp
    have hkn : k < n := by simp only [List.cons_append, List.length_cons] at hk; omega
    have hr' : k ∈ Region.ready md ops listed := by simpa using hr
    have hl' : ∀ j, j < (l1 ++ l2).length → (l1 ++ l2)[j]? = ops[k + 1 + j]? := fun j hj => by
      have := hl (j + 1) (by simpa using hj)
      simpa [Nat.add_assoc, Nat.add_comm 1 j] using this
    have hk' : k + 1 + (l1 ++ l2).length = n := by simp only [List.cons_append, List.length_cons] at hk; omega
    have hks' : k + 1 + l1.length = s := by simp only [List.length_cons] at hks; omega
    have inv1 : HeadInv md ops (n + 1) listed := ⟨inv.size, inv.closed, fun t h1 h2 => inv.tail t (by omega) h2⟩
    have step := fun a' hq => wpAnyC_lead om lt hsel hs2 hc2 hs hc hn hrn hom hpl hlt hQ l1 l2 (k + 1) (listed.setIfInBounds k true) a' w hl' hk' hks' (by omega) (inv.set hr' hkn) (set_done hlk) hB' hC hq
    rw [List.cons_append, List.length_cons, show (l1 ++ l2).length + 1 + (lt.length + 1) = ((l1 ++ l2).length + (lt.length + 1)) + 1 by omega]
    rw [List.cons_append] at h
    unfold wpQuiet at h
    by_cases hw : Region.wanted o (yielded ops a.tmps) = true
    · rw [if_pos hw] at h
      obtain ⟨v, hv, hK⟩ := read_still hp' h
      exact wpAnyC_first h0 (Region.noSelect_spec hsel) (fun c a w => hQ c a o.dst v w) hs hc hn (by omega) _ listed a w inv1 (fun j hj => hlk j (by omega)) (Region.free_spec h0 hf) hr' (.inl ⟨hw, hv⟩) hC (step _ hK)
    · rw [if_neg hw] at h
      exact wpAnyC_first h0 (Region.noSelect_spec hsel) (fun c a w => hQ c a o.dst undef w) hs hc hn (by omega) _ listed a w inv1 (fun j hj => hlk j (by omega)) (Region.free_spec h0 hf) hr' (.inr ⟨by simpa using hw, rfl⟩) hC (step _ h)

theorem wpAnyC_leadP {r s n : Nat} (om : Oper) (lt : List Oper) (hsel : Region.noSelect ops = true) (hs2 : sinkS md ops s n = true) (hc2 : treeB md ops n = true) (hs : sinkS md ops r (n + 1) = true) (hc : treeB md ops (n + 1) = true) (hn : n + 1 < ops.size) (hrn : r ≤ n)
    (hom : ops[n]? = some om) (hpl : plainOp om = false) (hlt : ∀ j, lt[j]? = ops[n + 1 + j]?) (hQ : ∀ c a (d : Option Tmp) (v : Value) w, Q (.panic c) (a.put d v) w → Q (.panic c) a w) (l1 l2 : List Oper) :
    ∀ (l0 : List Oper) (k : Nat) (listed : Array Bool) (a : Act) (w : World), (∀ j, j < (l0 ++ (l1 ++ l2)).length → (l0 ++ (l1 ++ l2))[j]? = ops[k + j]?) → k + (l0 ++ (l1 ++ l2)).length = n → k + l0.length + l1.length = s → k + l0.length = r → HeadInv md ops n listed →
    (∀ j, j < k → listed.getD j true = true) → leadP md ops lt.length l2.length l1.length l0.length k listed = true → C w →
    wpQuiet P ops C (fun a' => makesC P ops C Q om lt a') (l0 ++ (l1 ++ l2)) a → wpAnyC P md ops C Q r n ((l0 ++ (l1 ++ l2)).length + (lt.length + 1)) listed a w
  | [], k, listed, a, w, hl, hk, hks, hrk, inv, hlk, hB, hC, h => by
    simp only [List.nil_append, List.length_nil, Nat.add_zero] at *
    exact wpAnyC_lead om lt hsel hs2 hc2 hs hc hn hrn hom hpl hlt hQ l1 l2 k listed a w hl hk hks (by omega) inv hlk (by simpa [leadP] using hB) hC h
  | o :: l0, k, listed, a, w, hl, hk, hks, hrk, inv, hlk, hB, hC, h => by
    have h0 : ops[k]? = some o := by simpa using (hl 0 (by simp)).symm
    simp only [List.length_cons, leadP, Bool.and_eq_true] at hB
    obtain ⟨⟨⟨hp, hr⟩, hf⟩, hB'⟩ := hB
    have hp' : plainOp o = true := by simpa [h0] using hp
    have hkn : k < n := by simp only [List.cons_append, List.length_cons] at hk; omega
    have hr' : k ∈ Region.ready md ops listed := by simpa using hr
    have hl' : ∀ j, j < (l0 ++ (l1 ++ l2)).length → (l0 ++ (l1 ++ l2))[j]? = ops[k + 1 + j]? := fun j hj => by
      have := hl (j + 1) (by simp at hj ⊢; omega)
      simpa [Nat.add_assoc, Nat.add_comm 1 j] using this
    have step := fun a' hq => wpAnyC_leadP om lt hsel hs2 hc2 hs hc hn hrn hom hpl hlt hQ l1 l2 l0 (k + 1) (listed.setIfInBounds k true) a' w hl' (by simp only [List.cons_append, List.length_cons] at hk; omega) (by simp only [List.length_cons] at hks; omega) (by simp only [List.length_cons] at hrk; omega) (inv.set hr' hkn) (set_done hlk) hB' hC hq
    rw [List.cons_append, List.length_cons, show (l0 ++ (l1 ++ l2)).length + 1 + (lt.length + 1) = ((l0 ++ (l1 ++ l2)).length + (lt.length + 1)) + 1 by omega]
    rw [List.cons_append] at h
    unfold wpQuiet at h
    by_cases hw : Region.wanted o (yielded ops a.tmps) = true
    · rw [if_pos hw] at h
      obtain ⟨v, hv, hK⟩ := plain_quiet hp' hC h
      exact wpAnyC_plain h0 (Region.noSelect_spec hsel) (fun c a w => hQ c a o.dst v w) (by simp only [List.length_cons] at hrk; omega) _ listed a w (Region.free_spec h0 hf) hr' (.inl ⟨hw, fun w _ => hv w⟩) (step _ hK)
    · rw [if_neg hw] at h
      exact wpAnyC_plain h0 (Region.noSelect_spec hsel) (fun c a w => hQ c a o.dst undef w) (by simp only [List.length_cons] at hrk; omega) _ listed a w (Region.free_spec h0 hf) hr' (.inr ⟨by simpa using hw, rfl⟩) (step _ h)

def leadB (md : Region.Mode) (ops : Array Oper) (r s n : Nat) : Bool :=
  Region.noSelect ops && decide (n + 1 < ops.size) && decide (s ≤ n) && decide (r ≤ s) && sinkS md ops s n && treeB md ops n && sinkS md ops r (n + 1) && treeB md ops (n + 1) && !((ops[n]?).map plainOp).getD true && leadP md ops (ops.size - (n + 1)) (n - s) (s - r) r 0 (Array.replicate ops.size false)

/-- The first r operations look at no world; those up to s read, and may come late; those up to n are quiet; number n makes memory; the others come one after the other. -/
theorem wp_region_lead {id : Nat} {a : Act} {w : World} {l : List Oper} (r s n : Nat) (om : Oper) (hm : P.follows .mixedOrders = true) (hB : leadB .any l.toArray r s n = true) (hom : l[n]? = some om)
    (hQ : ∀ c a (d : Option Tmp) (v : Value) w, Q (.panic c) (a.put d v) w → Q (.panic c) a w) (hC : C { w with drawn := w.drawn + 1 })
    (h : wpQuiet P l.toArray C (fun a' => makesC P l.toArray C Q om (l.drop (n + 1)) a') (l.take n) a) : (Code.region id l.toArray true).wp P Q a w := by
  simp only [leadB, Bool.and_eq_true, decide_eq_true_eq] at hB
  obtain ⟨⟨⟨⟨⟨⟨⟨⟨⟨hsel, hn⟩, hsn⟩, hrs⟩, hs2⟩, hc2⟩, hs⟩, hc⟩, hpl⟩, hlex⟩ := hB
  have hn' : n + 1 < l.length := by simpa using hn
  have hom' : l.toArray[n]? = some om := by simpa using hom
  have hpl' : plainOp om = false := by simpa [hom'] using hpl
  have e1 : l.take n = l.take r ++ ((l.take s).drop r ++ (l.take n).drop s) := by
    have h1 := (List.take_append_drop s (l.take n)).symm
    rw [List.take_take, Nat.min_eq_left hsn] at h1
    have h2 := (List.take_append_drop r (l.take s)).symm
    rw [List.take_take, Nat.min_eq_left hrs] at h2
    rw [← List.append_assoc, ← h2, ← h1]
  have htl : (l.take n).length = n := by simp; omega
  have hl0 : (l.take r).length = r := by simp; omega
  have hl1 : ((l.take s).drop r).length = s - r := by simp; omega
  have hl2 : ((l.take n).drop s).length = n - s := by simp; omega
  have hdl : (l.drop (n + 1)).length = l.toArray.size - (n + 1) := by simp
  have inv0 : HeadInv .any l.toArray n (Array.replicate l.toArray.size false) :=
    ⟨by simp, fun j oj _ hl => (by rw [getD_replicate_false] at hl; cases hl), fun t _ ht => getD_in (by simpa using ht) (getD_replicate_false _ _)⟩
  rw [e1] at h
  have H := wpAnyC_leadP (md := .any) om (l.drop (n + 1)) hsel hs2 hc2 hs hc hn (Nat.le_trans hrs hsn) hom' hpl' (fun j => by simp [List.getElem?_drop]) hQ ((l.take s).drop r) ((l.take n).drop s) (l.take r) 0 _ a { w with drawn := w.drawn + 1 } (fun j hj => by
    rw [← e1] at hj ⊢
    rw [htl] at hj
    simp [hj]) (by rw [← e1, htl]; omega) (by rw [hl0, hl1]; omega) (by rw [hl0]; omega) inv0 (fun j hj => absurd hj (by omega)) (by rw [hdl, hl2, hl1, hl0]; exact hlex) hC h
  refine wp_region_any hm (wpAny_of_C (C := C) (r := r) (n := n) _ _ _ _ ?_)
  rwa [← e1, htl, hdl, show n + (l.toArray.size - (n + 1) + 1) = l.toArray.size by simp; omega] at H
theorem wp_region_extlead {id : Nat} {a : Act} {w : World} {l : List Oper} (r s n : Nat) (om : Oper) (hm : P.follows .mixedOrders = true) (hB : leadB .any l.toArray r s n = true) (hom : l[n]? = some om)
    (hQ : ∀ c a (d : Option Tmp) (v : Value) w, Q (.panic c) (a.put d v) w → Q (.panic c) a w)
    (h : wpQuiet P l.toArray (fun w' => ∃ x : Ext w, w' = x.w) (fun a' => makesC P l.toArray (fun w' => ∃ x : Ext w, w' = x.w) Q om (l.drop (n + 1)) a') (l.take n) a) : (Code.region id l.toArray true).wp P Q a w :=
  wp_region_lead r s n om hm hB hom hQ (Ext.here w) h
end
end Go.Proofs.YteihcodicfoiaaaGreat
