/-
  What is proved: as in Mix, for a region of two halves: n1 quiet operations, then up to m one after the other (they may write), then quiet ones again up to n2, and the others one after the other. For any program.
  What is proved: the last step of each law's row: it answers true and only made memory.
  Facts that every row asks: the program's knob and layout.
  What is proved: laws of a map whose keys are names (two integers): look-up, store and deletion, of whatever elements.
-/
import Derived.Test.YteihcodicfoiaaaGreatMix
import Derived.Test.YteihcodicfoiaaaGreatRows
import Derived.ProofKit
import Derived.Carry
import Derived.Lib.SmallJoins
import Derived.Maps.RangeRun
namespace Go.Proofs.YteihcodicfoiaaaGreat
open Go Go.RowKit

section
variable {P : Program} {ops : Array Oper} {md : Region.Mode} {C : World → Prop}

theorem oper_mono {o : Oper} {a : Act} {w : World} {K K' : Act → World → Prop} {Q Q' : Exit → Act → World → Prop} (h : ∀ a w, K a w → K' a w)
    (hp : ∀ c a w, Q (.panic c) a w → Q' (.panic c) a w) (ho : LetsOut Q → LetsOut Q') (hh : o.wp P a w K Q) : o.wp P a w K' Q' := by
  unfold Oper.wp at *
  generalize (execOp a.eval o).run P w = r at *
  cases r with
  | ok n w' =>
    cases n <;> simp only [Oper.upon] at hh ⊢ <;>
      first
        | exact h _ _ hh
        | exact Calls.mono hh (fun e w'' he => by cases e <;> first | exact h _ _ he | exact hp _ _ _ he | exact ho he)
        | exact Rows.mono hh (fun _ _ he => h _ _ he)
  | halt x w' => cases x <;> simp only [Oper.upon] at hh ⊢ <;> first | exact hp _ _ _ hh | exact hh

def headE (md : Region.Mode) (ops : Array Oper) (E : Array Bool → Bool) : Nat → Nat → Array Bool → Bool
  | 0, _, listed => E listed
  | f + 1, k, listed => (Region.ready md ops listed).contains k && Region.free md ops listed k && headE md ops E f (k + 1) (listed.setIfInBounds k true)
def serE (md : Region.Mode) (ops : Array Oper) (E : Array Bool → Bool) : Nat → Nat → Array Bool → Bool
  | 0, _, listed => E listed
  | f + 1, k, listed => decide (Region.ready md ops listed = [k]) && serE md ops E f (k + 1) (listed.setIfInBounds k true)

theorem set_done {k : Nat} {listed : Array Bool} (h : ∀ j, j < k → listed.getD j true = true) : ∀ j, j < k + 1 → (listed.setIfInBounds k true).getD j true = true := fun j hj => by
  by_cases hjk : k = j
  · subst hjk
    rcases Nat.lt_or_ge k listed.size with h1 | h1
    · simp [h1]
    · simp
  · rw [getD_set_ne true hjk]; exact h j (by omega)

theorem wpAnyM_lexE {n : Nat} {E : Array Bool → Bool} {Lq : Act → Prop} (hsel : Region.noSelect ops = true) (hs : Region.sinkB md ops n = true) (hc : treeB md ops n = true) (hn : n < ops.size) :
    ∀ (l : List Oper) (k : Nat) (listed : Array Bool) (a : Act), (∀ j, j < l.length → l[j]? = ops[k + j]?) → k + l.length = n → HeadInv md ops n listed → (∀ j, j < k → listed.getD j true = true) →
    headE md ops E l.length k listed = true → wpQuiet P ops C Lq l a →
    wpAnyM P md ops C n (fun listed' a' => (∀ j, j < n → listed'.getD j true = true) ∧ HeadInv md ops n listed' ∧ E listed' = true ∧ Lq a') l.length listed a
  | [], k, listed, a, _, hk, inv, hlk, hB, h => by
    have : k = n := by simpa using hk
    subst this
    exact ⟨hlk, inv, by simpa [headE] using hB, h⟩
  | o :: l, k, listed, a, hl, hk, inv, hlk, hB, h => by
    have h0 : ops[k]? = some o := by simpa using (hl 0 (by simp)).symm
    simp only [List.length_cons, headE, Bool.and_eq_true] at hB
    obtain ⟨⟨hr, hf⟩, hB'⟩ := hB
    have hkn : k < n := by simp only [List.length_cons] at hk; omega
    have hr' : k ∈ Region.ready md ops listed := by simpa using hr
    have hst : qOp P ops C k (wpQuiet P ops C Lq l) a := by unfold qOp; simp only [h0]; exact h
    obtain ⟨v, hy, hK⟩ := yieldsIn_of_qOp h0 hst
    refine wpAnyM_first h0 (Region.noSelect_spec hsel) hs hc hn hkn (fun listed' a' hL j hj => ?_) l.length listed a inv (Region.free_spec h0 hf) hr' hy
      (wpAnyM_lexE hsel hs hc hn l (k + 1) _ _ (fun j hj => by have := hl (j + 1) (by simp; omega); simpa [Nat.add_assoc, Nat.add_comm 1 j] using this) (by simp only [List.length_cons] at hk; omega) (inv.set hr' hkn) (set_done hlk) hB' hK)
    have h1 := (mem_ready.1 hj).1
    rcases Nat.lt_or_ge j n with h2 | h2
    · rw [hL.1 j h2] at h1
      cases h1
    · exact h2

/-- What is asked where the first half ends. -/
def stageQ (Q : Exit → Act → World → Prop) (S : Act → World → Prop) : Exit → Act → World → Prop
  | .normal, a, w => S a w
  | e, a, w => Q e a w

theorem wpAny_serE {n g : Nat} {E : Array Bool → Bool} {Q : Exit → Act → World → Prop} {S : Act → World → Prop}
    (hend : ∀ listed a w, HeadInv md ops n listed → E listed = true → S a w → wpAny P md ops Q g listed a w) :
    ∀ (l : List Oper) (k : Nat) (listed : Array Bool) (a : Act) (w : World), (∀ j, j < l.length → l[j]? = ops[k + j]?) → k + l.length ≤ n → HeadInv md ops n listed →
    serE md ops E l.length k listed = true → wpList P ops (stageQ Q S) l a w → wpAny P md ops Q (l.length + g) listed a w
  | [], k, listed, a, w, _, _, inv, hB, h => by
    simp only [List.length_nil, Nat.zero_add]
    exact hend _ _ _ inv (by simpa [serE] using hB) h
  | o :: l, k, listed, a, w, hl, hk, inv, hB, h => by
    have h0 : ops[k]? = some o := by simpa using (hl 0 (by simp)).symm
    simp only [List.length_cons, serE, Bool.and_eq_true, decide_eq_true_eq] at hB hk
    obtain ⟨hB1, hB2⟩ := hB
    have hr : k ∈ Region.ready md ops listed := by rw [hB1]; simp
    rw [List.length_cons, show l.length + 1 + g = (l.length + g) + 1 by omega]
    refine ⟨fun h1 => (by rw [hB1] at h1; cases h1), fun i hi => ?_⟩
    rw [hB1] at hi
    have hik : i = k := by simpa using hi
    subst hik
    have key : ∀ a' w', wpList P ops (stageQ Q S) l a' w' → wpAny P md ops Q (l.length + g) (listed.setIfInBounds i true) a' w' := fun a' w' h' =>
      wpAny_serE hend l (i + 1) _ a' w' (fun j hj => by have := hl (j + 1) (by simp; omega); simpa [Nat.add_assoc, Nat.add_comm 1 j] using this) (by omega) (inv.set hr (by omega)) hB2 h'
    have hlo : LetsOut (stageQ Q S) → LetsOut Q := fun ⟨a, w, h⟩ => ⟨a, w, h⟩
    unfold wpOp
    simp only [h0]
    unfold wpList at h
    split
    · rename_i hw
      rw [if_pos hw] at h
      exact h.imp (oper_mono key (fun _ _ _ h => h) hlo) (fun h => ⟨h.1, hlo h.2⟩)
    · rename_i hw
      rw [if_neg hw] at h
      exact key _ _ h

def mix2B (md : Region.Mode) (ops : Array Oper) (n1 m n2 : Nat) : Bool :=
  Region.noSelect ops && decide (n1 ≤ m) && decide (m ≤ n2) && decide (n2 < ops.size) && Region.sinkB md ops n1 && treeB md ops n1 && Region.sinkB md ops n2 && treeB md ops n2 &&
    headE md ops (serE md ops (headE md ops (seqM md ops (ops.size - n2) n2) (n2 - m) m) (m - n1) n1) n1 0 (Array.replicate ops.size false)

theorem wp_region_mix2 {id : Nat} {Q : Exit → Act → World → Prop} {a : Act} {w : World} {l : List Oper} (n1 m n2 : Nat) (C2 : World → World → Prop) (hC2 : ∀ w, C2 w w) (hm : P.follows .mixedOrders = true) (hB : mix2B .any l.toArray n1 m n2 = true)
    (hQ : ∀ c a (d : Option Tmp) (v : Value) w, Q (.panic c) (a.put d v) w → Q (.panic c) a w) (hC : C { w with drawn := w.drawn + 1 })
    (h : wpQuiet P l.toArray C (fun a1 => ∀ w1, C w1 → wpList P l.toArray (stageQ Q fun a2 w2 => wpQuiet P l.toArray (C2 w2) (fun a3 => ∀ w3, C2 w2 w3 → wpList P l.toArray Q (l.drop n2) a3 w3) ((l.drop m).take (n2 - m)) a2) ((l.drop n1).take (m - n1)) a1 w1) (l.take n1) a) :
    (Code.region id l.toArray true).wp P Q a w := by
  simp only [mix2B, Bool.and_eq_true, decide_eq_true_eq] at hB
  obtain ⟨⟨⟨⟨⟨⟨⟨⟨hsel, h1m⟩, hm2⟩, hn⟩, hs1⟩, hc1⟩, hs2⟩, hc2⟩, hlex⟩ := hB
  have hn' : n2 < l.length := by simpa using hn
  have htl : (l.take n1).length = n1 := by simp; omega
  have hml : ((l.drop n1).take (m - n1)).length = m - n1 := by simp; omega
  have h2l : ((l.drop m).take (n2 - m)).length = n2 - m := by simp; omega
  have hdl : (l.drop n2).length = l.toArray.size - n2 := by simp
  have inv0 : HeadInv .any l.toArray n1 (Array.replicate l.toArray.size false) :=
    ⟨by simp, fun j oj _ hl => (by rw [getD_replicate_false] at hl; cases hl), fun t _ ht => getD_in (by simpa using ht) (getD_replicate_false _ _)⟩
  have H := wpAnyM_lexE (md := .any) (E := serE .any l.toArray (headE .any l.toArray (seqM .any l.toArray (l.toArray.size - n2) n2) (n2 - m) m) (m - n1) n1) hsel hs1 hc1 (by simp; omega) (l.take n1) 0 _ a (fun j hj => by
    have hj' : j < n1 := by rw [htl] at hj; exact hj
    simp [hj']) (by simpa using htl) inv0 (fun j hj => absurd hj (by omega)) (by rw [htl]; exact hlex) h
  refine wp_region_any hm ?_
  have := wpAny_of_headM (Q' := Q) (g := (m - n1) + ((n2 - m) + (l.toArray.size - n2))) (fun listed a' hL w' hw' => by
    obtain ⟨hd, inv, hE, hq⟩ := hL
    have inv2 : HeadInv .any l.toArray n2 listed := ⟨inv.size, inv.closed, fun t h1 h2 => inv.tail t (by omega) h2⟩
    have hE' : serE .any l.toArray (fun listed => (List.range m).all (fun j => listed.getD j true) && headE .any l.toArray (seqM .any l.toArray (l.toArray.size - n2) n2) (n2 - m) m listed) (m - n1) n1 listed = true := by
      have gen : ∀ (f k : Nat) (listed : Array Bool), k + f = m → (∀ j, j < k → listed.getD j true = true) → serE .any l.toArray (headE .any l.toArray (seqM .any l.toArray (l.toArray.size - n2) n2) (n2 - m) m) f k listed = true →
          serE .any l.toArray (fun listed => (List.range m).all (fun j => listed.getD j true) && headE .any l.toArray (seqM .any l.toArray (l.toArray.size - n2) n2) (n2 - m) m listed) f k listed = true := by
        intro f
        induction f with
        | zero =>
          intro k listed hk hd h
          have : k = m := by omega
          subst this
          simp only [serE, Bool.and_eq_true, List.all_eq_true, List.mem_range] at h ⊢
          exact ⟨hd, h⟩
        | succ f ih =>
          intro k listed hk hd h
          simp only [serE, Bool.and_eq_true] at h ⊢
          exact ⟨h.1, ih (k + 1) _ (by omega) (set_done hd) h.2⟩
      exact gen (m - n1) n1 listed (by omega) hd hE
    have := wpAny_serE (P := P) (md := .any) (ops := l.toArray) (n := n2) (g := (n2 - m) + (l.toArray.size - n2)) (Q := Q)
      (S := fun a2 w2 => wpQuiet P l.toArray (C2 w2) (fun a3 => ∀ w3, C2 w2 w3 → wpList P l.toArray Q (l.drop n2) a3 w3) ((l.drop m).take (n2 - m)) a2)
      (E := fun listed => (List.range m).all (fun j => listed.getD j true) && headE .any l.toArray (seqM .any l.toArray (l.toArray.size - n2) n2) (n2 - m) m listed)
      (fun listed2 a2 w2 inv hE2 hS => by
        simp only [Bool.and_eq_true, List.all_eq_true, List.mem_range] at hE2
        have H2 := wpAnyM_lexE (md := .any) (C := C2 w2) (E := seqM .any l.toArray (l.toArray.size - n2) n2) hsel hs2 hc2 hn ((l.drop m).take (n2 - m)) m listed2 a2 (fun j hj => by
          rw [h2l] at hj
          rw [List.getElem?_take, if_pos hj, List.getElem?_drop, List.getElem?_toArray]) (by rw [h2l]; omega) inv hE2.1 (by rw [h2l]; exact hE2.2) hS
        have := wpAny_of_headM (Q' := Q) (g := l.toArray.size - n2) (fun listed3 a3 hL3 w3 hw3 => by
          have := wpAny_of_mix (md := .any) hsel hQ (l.drop n2) n2 listed3 a3 w3 (fun j => by simp [List.getElem?_drop]) (by rw [hdl]; exact hL3.2.2.1) (hL3.2.2.2 w3 hw3)
          rwa [hdl] at this) _ _ _ w2 (hC2 w2) H2
        rwa [h2l] at this) ((l.drop n1).take (m - n1)) n1 listed a' w' (fun j hj => by
          rw [hml] at hj
          rw [List.getElem?_take, if_pos hj, List.getElem?_drop, List.getElem?_toArray]) (by rw [hml]; omega) inv2 (by rw [hml]; exact hE') (hq w' hw')
    rwa [hml] at this) _ _ _ _ hC H
  rw [htl, show n1 + ((m - n1) + ((n2 - m) + (l.toArray.size - n2))) = l.toArray.size by simp; omega] at this
  exact this

end
end Go.Proofs.YteihcodicfoiaaaGreat
namespace Go.Proofs.YteihcodicfoiaaaGreat
open Go.ChangeShapes Go.WideShapes Go.ChangeAt Go.RowKit Go.Joins

section
variable {H : Type} {enc : TypeId × Value → H} {P : Program}
theorem trodAll_keep (hl : laidOutB P = true) {W W' : World} (hb : Below W.heap.size W W') {sp : Nat → Bool} :
    ∀ (ts : List TypeId) (vs : List Value) (ds : List (DataW H)) (ps : List MemPlace), (∀ t ∈ ts, P.readableRec t = true ∧ t < P.types.size) → (∀ x ∈ ps, x.block < W.heap.size) → (∀ x ∈ ps, sp x.block = true) →
      DataW.TrodAll enc P W 0 (fun _ => true) true ts vs ds ps → DataW.TrodAll enc P W' 0 sp true ts vs ds ps
  | [], vs, ds, ps, _, _, _, h => by
    obtain ⟨rfl, rfl, rfl⟩ := trodAll_nil h
    exact rfl
  | t :: ts, vs, ds, ps, ht, hlt, hsp, h => by
    obtain ⟨v, vs', d, ds', p, q, rfl, rfl, rfl, h1, h2⟩ := trodAll_cons h
    refine trodAll_cons_mk (WideElems.Trod_stays hl (ht t (by simp)).1 (ht t (by simp)).2 h1 (fun x hx => hb.same (hlt x (by simp [hx]))) (fun x hx => hsp x (by simp [hx]))) ?_
    exact trodAll_keep hl hb ts vs' ds' q (fun t' h' => ht t' (by simp [h'])) (fun x hx => hlt x (by simp [hx])) (fun x hx => hsp x (by simp [hx])) h2

theorem law_post {f : Func} {s : ChangeSpec} {fresh handsOn again : Bool} {W W' : World} {args : Array Value} {ds gs : List (DataW H)} {before : List MemPlace} (hl : laidOutB P = true)
    (hts : ∀ t ∈ f.params.toList, P.readableRec t = true ∧ t < P.types.size) (hr : f.resultTypes = #[4]) (h4 : P.underlying 4 = some .bool) (hv : s.vars = [])
    (hf1 : (s.fn H (ds ++ gs)).results = [.lit (.bool true)]) (hf2 : (s.fn H (ds ++ gs)).args = ds) (hf3 : (s.fn H (ds ++ gs)).vars = [])
    (hW : DataW.Whole enc P f.params.toList s.vars false W args.toList ds gs before) (hb : Below W.heap.size W W') :
    s.post enc P f false fresh handsOn again W args (.bool true) W' := by
  have hlt : ∀ p ∈ before, p.block < W.heap.size := fun p hp => hW.lt p hp
  have hold : ∀ p ∈ before, (fun b => decide (b < W.heap.size)) p.block = true := fun p hp => by simpa using hlt p hp
  have hW' := hW
  obtain ⟨p, q, hA, hV, rfl, hz, hn⟩ := hW'
  rw [hv] at hV
  obtain ⟨rfl, rfl⟩ := trodVars_none hV
  simp only [List.append_nil] at hlt hold hW hf1 hf2 hf3 hz
  have hres : ∀ (b : Nat) (sp : Nat → Bool) (hd : Bool), DataW.TrodAll enc P W' b sp hd f.resultTypes.toList ((Value.bool true).resultList f.resultTypes.size) (s.fn H (ds ++ [])).results [] := fun b sp hd => by
    rw [List.append_nil, hf1, hr]
    exact trodAll_mk1 (shut_bool h4 true)
  have hargs : ∀ sp : Nat → Bool, (∀ x ∈ p, sp x.block = true) → DataW.TrodAll enc P W' 0 sp true f.params.toList args.toList (s.fn H (ds ++ [])).args p := fun sp hsp => by
    rw [List.append_nil, hf2]
    exact trodAll_keep hl hb _ _ _ _ hts hlt hsp hA
  have hvars : ∀ sp : Nat → Bool, DataW.TrodVars enc P W' sp s.vars (s.fn H (ds ++ [])).vars [] := fun sp => by
    rw [List.append_nil, hf3, hv]
    exact rfl
  refine ⟨ds, [], p, [], p, [], by simpa using hW, hres _ _ _, hargs _ hold, hvars _, World.keptBut_mono (fun x hx => ⟨hx, ?_⟩) (hb.frame (· ∈ p)), fun _ => ?_⟩
  · exact .inr (.inl hx)
  · refine ⟨ok_one hr rfl (okWide_bool_mk h4 true), _, _, ([] ++ p) ++ [], ⟨[] ++ p, [], trodAll_append (hargs _ (fun _ _ => rfl)) (hres _ _ _), hvars _, rfl, ?_, fun h => by cases h⟩, ?_⟩
    · intro b off hp
      have hin : MemPlace.cell b off ∈ p := by simpa using hp
      rw [hb.frozen (hlt _ hin)]
      exact hz b off hin
    · intro x hx _
      simpa using hx
end

end Go.Proofs.YteihcodicfoiaaaGreat
namespace Go.Proofs.YteihcodicfoiaaaGreat
open Go.RowKit

theorem Tryz.own : ownKnob Tryz.prog.godebug = none := by kernel_rfl
theorem Tryz.laidOut : laidOutB Tryz.prog = true := by kernel_rfl

end Go.Proofs.YteihcodicfoiaaaGreat
namespace Go.Proofs.YteihcodicfoiaaaGreat
open Go.ChangeMaps (setBlock)
variable {P : Program}

def nameV (a b : Int) : Value := .agg #[.int .i64 a, .int .i64 b]
/-- What a key type of two integers does. -/
structure NameKey (P : Program) (kt : TypeId) : Prop where
  und : ∃ fs, P.underlying kt = some (.struct fs)
  chk : ∀ e a b w, (Instr.checkKey e 10000 kt (nameV a b)).run P w = .ok () w
  eql : ∀ a b c d w, (Op.equal kt (nameV a b) (nameV c d)).run P w = .ok (a == c && b == d) w

/-- The entries of a map. -/
structure MapI (Q : Int → Int → Value → Prop) (es : Array MapEntry) (clock : Nat) : Prop where
  ent : ∀ e ∈ es.toList, ∃ a b, e.key = nameV a b ∧ Q a b e.val
  born : ∀ e ∈ es.toList, e.born < clock
  nodup : (es.toList.map (·.born)).Nodup

theorem run_findAsking {kt : TypeId} (hk : NameKey P kt) (a b : Int) (w : World) : ∀ (l : List MapEntry) (i : Nat), (∀ e ∈ l, ∃ c d, e.key = nameV c d) →
    ∃ r, (Instr.findAsking kt (nameV a b) l i).run P w = .ok r w ∧ (r = none ∨ ∃ j e, j < l.length ∧ l[j]? = some e ∧ e.key = nameV a b ∧ r = some (i + j, e.val))
  | [], i, _ => ⟨none, by simp [Instr.findAsking, Sem.run_pure], .inl rfl⟩
  | e :: l, i, h => by
    obtain ⟨c, d, hcd⟩ := h e (by simp)
    by_cases he : (a == c && b == d) = true
    · have h2 : a = c ∧ b = d := by simpa using he
      refine ⟨some (i, e.val), ?_, .inr ⟨0, e, by simp, by simp, by rw [hcd, h2.1, h2.2], by simp⟩⟩
      simp only [Instr.findAsking, Sem.run_bind, hcd, hk.eql, Result.andThen, he, if_true, Sem.run_pure]
    · obtain ⟨r, hr, hr2⟩ := run_findAsking hk a b w l (i + 1) (fun x hx => h x (by simp [hx]))
      refine ⟨r, ?_, ?_⟩
      · simp only [Instr.findAsking, Sem.run_bind, hcd, hk.eql, Result.andThen, he]
        simpa using hr
      · rcases hr2 with h2 | ⟨j, x, h2, h3, h4, h5⟩
        · exact .inl h2
        · exact .inr ⟨j + 1, x, by simp; omega, by simpa using h3, h4, by rw [h5]; congr 2; omega⟩

theorem run_findKey {kt : TypeId} (hk : NameKey P kt) (a b : Int) (w : World) (l : List MapEntry) (hl : ∀ e ∈ l, ∃ c d, e.key = nameV c d) :
    ∃ r, (Instr.findKey kt (nameV a b) l).run P w = .ok r w ∧ (r = none ∨ ∃ j e, j < l.length ∧ l[j]? = some e ∧ e.key = nameV a b ∧ r = some (j, e.val)) := by
  obtain ⟨fs, hfs⟩ := hk.und
  obtain ⟨r, hr, h⟩ := run_findAsking hk a b w l 0 hl
  cases l with
  | nil => exact ⟨none, by simp [Instr.findKey, Sem.run_bind, run_underlying hfs, Result.andThen, Instr.findNow, Sem.run_pure], .inl rfl⟩
  | cons e l =>
    refine ⟨r, ?_, ?_⟩
    · have e1 : Instr.findNow (.struct fs) (nameV a b) (e :: l) 0 = none := by simp [Instr.findNow, Instr.sameNow]
      simp only [Instr.findKey, Sem.run_bind, run_underlying hfs, Result.andThen, e1]
      exact hr
    · rcases h with h | ⟨j, x, h2, h3, h4, h5⟩
      · exact .inl h
      · exact .inr ⟨j, x, h2, h3, h4, by rw [h5]; congr 2; omega⟩

/-- The look-up with an answer whether the key is there. -/
theorem run_lookup_name {Q : Int → Int → Value → Prop} {mt kt et : TypeId} {z : Value} (hk : NameKey P kt) (hm : P.underlying mt = some (.map kt et)) (hz : ∀ w, (zeroValue et).run P w = .ok z w) (a b : Int) (g : Nat) (es : Array MapEntry) (clock : Nat) (w : World)
    (hg : w.heap[g]? = some (.map es clock)) (hi : MapI Q es clock) (ok : Bool) :
    ∃ v c, (Instr.lookup mt (.map (some g)) (nameV a b) ok).run P w = .ok (if ok then .tuple #[v, .bool c] else v) w ∧ ((c = true ∧ Q a b v) ∨ (c = false ∧ v = z)) := by
  obtain ⟨r, hr, h⟩ := run_findKey hk a b w es.toList (fun e he => by obtain ⟨c, d, h, _⟩ := hi.ent e he; exact ⟨c, d, h⟩)
  rcases h with rfl | ⟨j, x, h2, h3, h4, rfl⟩
  · refine ⟨z, false, ?_, .inr ⟨rfl, rfl⟩⟩
    simp only [Instr.lookup, Sem.run_bind, run_underlying hm, Result.andThen, getObj, Sem.run, hg, hk.chk]
    cases ok <;> (simp [Sem.run_pure, Result.andThen]; rw [hr]; simp [Sem.run_pure, Result.andThen, hz])
  · refine ⟨x.val, true, ?_, .inl ⟨rfl, ?_⟩⟩
    · simp only [Instr.lookup, Sem.run_bind, run_underlying hm, Result.andThen, getObj, Sem.run, hg, hk.chk]
      cases ok <;> (simp [Sem.run_pure, Result.andThen]; rw [hr]; simp [Sem.run_pure, Result.andThen])
    · obtain ⟨c, d, h, hq⟩ := hi.ent x (List.mem_of_getElem? h3)
      rw [h] at h4
      unfold nameV at h4
      injection h4 with h4
      simp at h4
      rw [← h4.1, ← h4.2]
      exact hq

theorem sameBits_name (a b : Int) : Instr.sameBits 10000 (nameV a b) (nameV a b) = true := by simp [nameV, Instr.sameBits]

/-- The store of an element. -/
theorem run_update_name {Q : Int → Int → Value → Prop} {mt kt et : TypeId} (hk : NameKey P kt) (hm : P.underlying mt = some (.map kt et)) (a b : Int) (x : Value) (g : Nat) (es : Array MapEntry) (clock : Nat) (w : World)
    (hg : w.heap[g]? = some (.map es clock)) (hi : MapI Q es clock) (hq : Q a b x) :
    ∃ es' c', (Instr.mapUpdate mt (.map (some g)) (nameV a b) x).run P w = .ok () (setBlock w g (.map es' c')) ∧ MapI Q es' c' ∧ es'.size ≤ es.size + 1 := by
  obtain ⟨r, hr, h⟩ := run_findKey hk a b w es.toList (fun e he => by obtain ⟨c, d, h, _⟩ := hi.ent e he; exact ⟨c, d, h⟩)
  rcases h with rfl | ⟨j, y, h2, h3, h4, rfl⟩
  · refine ⟨es.push { key := nameV a b, val := x, born := clock }, clock + 1, ?_, ⟨?_, ?_, ?_⟩, by simp⟩
    · simp only [Instr.mapUpdate, Sem.run_bind, run_underlying hm, Result.andThen, getObj, Sem.run, hg, hk.chk]
      rw [hr]
      simp [setObj, Sem.run, hg, setBlock]
    · intro e he
      simp at he
      rcases he with he | rfl
      · exact hi.ent e (by simpa using he)
      · exact ⟨a, b, rfl, hq⟩
    · intro e he
      simp at he
      rcases he with he | rfl
      · have := hi.born e (by simpa using he); omega
      · simp
    · simp only [Array.toList_push, List.map_append, List.map_cons, List.map_nil]
      rw [List.nodup_append]
      refine ⟨hi.nodup, by simp, fun u hu v hv => ?_⟩
      simp at hv
      subst hv
      obtain ⟨e, he, rfl⟩ := List.mem_map.1 hu
      have := hi.born e he
      omega
  · have hj : j < es.size := by simpa using h2
    have hey : es[j]? = some y := by simpa using h3
    refine ⟨es.modify j (fun e => { e with key := nameV a b, val := x }), clock, ?_, ⟨?_, ?_, ?_⟩, by simp⟩
    · simp only [Instr.mapUpdate, Sem.run_bind, run_underlying hm, Result.andThen, getObj, Sem.run, hg, hk.chk]
      rw [hr]
      simp [Instr.keyThatStays, hey, h4, sameBits_name, setObj, Sem.run, hg, setBlock, Sem.run_pure, Result.andThen]
    · intro e he
      obtain ⟨i, hil, rfl⟩ := List.getElem_of_mem he
      simp at hil
      simp only [Array.getElem_toList, Array.getElem_modify]
      split
      · exact ⟨a, b, rfl, hq⟩
      · exact hi.ent (es[i]'hil) (by simp)
    · intro e he
      obtain ⟨i, hil, rfl⟩ := List.getElem_of_mem he
      simp at hil
      simp only [Array.getElem_toList, Array.getElem_modify]
      split
      · exact hi.born (es[i]'hil) (by simp)
      · exact hi.born (es[i]'hil) (by simp)
    · have e : (es.modify j (fun e => { e with key := nameV a b, val := x })).toList.map (·.born) = es.toList.map (·.born) := by
        refine List.ext_getElem (by simp) fun i h1 h2 => ?_
        simp only [List.getElem_map, Array.getElem_toList, Array.getElem_modify]
        split <;> rfl
      rw [e]
      exact hi.nodup

/-- The deletion of an element. -/
theorem run_delete_name {Q : Int → Int → Value → Prop} {mt kt et : TypeId} (hk : NameKey P kt) (hm : P.underlying mt = some (.map kt et)) (a b : Int) (g : Nat) (es : Array MapEntry) (clock : Nat) (w : World) (ty kty : TypeId)
    (hg : w.heap[g]? = some (.map es clock)) (hi : MapI Q es clock) :
    ∃ es', (Builtin.delete_ #[mt, kty] ty #[.map (some g), nameV a b]).run P w = .ok (.tuple #[]) (setBlock w g (.map es' clock)) ∧ MapI Q es' clock ∧ es'.size ≤ es.size ∧ ∀ e ∈ es'.toList, e ∈ es.toList := by
  obtain ⟨r, hr, h⟩ := run_findKey hk a b w es.toList (fun e he => by obtain ⟨c, d, h, _⟩ := hi.ent e he; exact ⟨c, d, h⟩)
  rcases h with rfl | ⟨j, y, h2, h3, h4, rfl⟩
  · refine ⟨es, ?_, hi, Nat.le_refl _, fun e he => he⟩
    simp only [Builtin.delete_, Sem.run_bind, run_underlying hm, Result.andThen, getObj, Sem.run, hg, hk.chk]
    simp [hr, run_underlying hm, hg, hk.chk, setObj, Sem.run, setBlock, Sem.run_pure, Result.andThen]
  · have hsub : ∀ e ∈ (es.eraseIdxIfInBounds j).toList, e ∈ es.toList := fun e he => by
      rw [Array.eraseIdxIfInBounds] at he
      split at he
      · simp at he; exact List.mem_of_mem_eraseIdx he
      · exact he
    refine ⟨es.eraseIdxIfInBounds j, ?_, ⟨fun e he => hi.ent e (hsub e he), fun e he => hi.born e (hsub e he), ?_⟩, ?_, hsub⟩
    · simp only [Builtin.delete_, Sem.run_bind, run_underlying hm, Result.andThen, getObj, Sem.run, hg, hk.chk]
      simp [hr, run_underlying hm, hg, hk.chk, setObj, Sem.run, setBlock, Sem.run_pure, Result.andThen]
    · rw [Array.eraseIdxIfInBounds]
      split
      · simp only [Array.toList_eraseIdx]
        rw [Go.ChangeMaps.map_eraseIdx]
        exact hi.nodup.sublist (List.eraseIdx_sublist _ _)
      · exact hi.nodup
    · rw [Array.eraseIdxIfInBounds]
      split <;> simp
end Go.Proofs.YteihcodicfoiaaaGreat
