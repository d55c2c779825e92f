/-
  What is proved: inside the wide fence: a region that draws its order, whose first operations are quiet and whose others come one after the other.
  What is proved: the contracts of steps and of its iterator.
  What is proved: plain laws of the states of a floor: which come to no loop, what their moves count for, and that nothing of it turns when a floor of harps goes round by one harp.
  What is proved: plain laws of a floor that is alike in each harp: going round by one harp maps moves to moves.
  What is proved: the contract of stones.Valid.
  What is proved: the contracts of cmp.Compare, cmp.Or and of the comparison of two moves.
-/
import Derived.Test.YteihcodicfoiaaaGreatMix
import Derived.Sort.QuietThIn
import Derived.TacticsIn
import Derived.Test.YteihcodicfoiaaaGreatMw3
import Derived.RangeFuncNested
import Derived.RangeFuncBound
import Derived.RangeFuncCalls
import Derived.RangeFuncLeaves
import Derived.Shelf.RegionOpen
import Derived.OwnWalkIn
import Derived.TacticsInMore
import Derived.LoopNIn
import Derived.LoopIn
import Derived.Sort.QuietIn
import Derived.Test.YteihcodicfoiaaaGreatMw1
namespace Go.Proofs.YteihcodicfoiaaaGreat
open Go Go.RowKit

section
variable {P : Program} {ops : Array Oper} {md : Region.Mode} {C : World → Prop} {m : Nat}

theorem room1 {n : Nat} : (Fence.wide.depth.isSome = true → 1 ≤ n) := fun h => by simp [Fence.wide] at h

theorem qOpIn_of_qOp {i : Nat} {K : Act → Prop} {a : Act} (h : qOp P ops C i K a) : qOpIn Fence.wide m P ops C i K a := by
  unfold qOp at h
  unfold qOpIn
  cases ho : ops[i]? with
  | none => simp only [ho] at h ⊢; exact h
  | some o =>
    simp only [ho] at h ⊢
    refine ⟨fun _ _ _ _ => trivial, ?_⟩
    split
    · rename_i hw
      simp only [hw, if_true] at h
      obtain ⟨v, h1, h2⟩ := h
      refine ⟨v, fun w hC => ?_, h2⟩
      have h3 := h1 w hC
      unfold Oper.quietAt at h3
      unfold Oper.quietAtIn
      generalize (execOp a.eval o).run P w = r at *
      unfold Oper.quietUpon at h3
      unfold Oper.quietUponIn
      split at h3
      · exact h3
      · exact h3
      · exact ⟨h3.1, room1, callsIn_wide.2 h3.2⟩
      · exact h3.elim
    · rename_i hw
      simp only [hw] at h
      exact h

theorem wpAnyIn_of_headM {n g : Nat} {L : Array Bool → Act → Prop} {Q' : Exit → Act → World → Prop} (hL : ∀ listed a, L listed a → ∀ w, C w → wpAnyIn Fence.wide m P md ops Q' g listed a w) :
    ∀ (f : Nat) (listed : Array Bool) (a : Act) (w : World), C w → wpAnyM P md ops C n L f listed a → wpAnyIn Fence.wide m P md ops Q' (f + g) listed a w
  | 0, listed, a, w, hC, h => by rw [Nat.zero_add]; exact hL _ _ h w hC
  | f + 1, listed, a, w, hC, h => by
    rw [show f + 1 + g = (f + g) + 1 by omega]
    exact ⟨fun h0 => absurd h0 h.1, fun i hi => wpOpIn_of_qOpIn rfl hC (fun a' w' hC' h' => wpAnyIn_of_headM hL f _ a' w' hC' h') (qOpIn_of_qOp (h.2 i hi).2)⟩

/-- Nothing from number n on looks at no world. -/
def loudB (ops : Array Oper) (n : Nat) : Bool := (List.range ops.size).all fun t => decide (t < n) || !((ops[t]?).map plainOp).getD false

theorem wpAnyIn_of_mix {Q : Exit → Act → World → Prop} {n : Nat} (hl : loudB ops n = true) :
    ∀ (l : List Oper) (k : Nat) (listed : Array Bool) (a : Act) (w : World), n ≤ k → (∀ j, l[j]? = ops[k + j]?) →
    seqM md ops l.length k listed = true → wpListIn Fence.wide m P ops Q l a w → wpAnyIn Fence.wide m P md ops Q l.length listed a w
  | [], _, _, _, _, _, _, hB, h => ⟨by simpa [seqM] using hB, h⟩
  | o :: l, k, listed, a, w, hk, hlj, hB, h => by
    have h0 : ops[k]? = some o := by simpa using (hlj 0).symm
    have hks : k < ops.size := (Array.getElem?_eq_some_iff.1 h0).1
    have hl' : ∀ j, l[j]? = ops[k + 1 + j]? := fun j => by have := hlj (j + 1); simpa [Nat.add_assoc, Nat.add_comm 1 j] using this
    have hnp : plainOp o = false := by
      have h1 := List.all_eq_true.1 hl k (List.mem_range.2 hks)
      simp only [h0, Option.map_some, Option.getD_some, Bool.or_eq_true, decide_eq_true_eq, Bool.not_eq_true'] at h1
      rcases h1 with h1 | h1
      · omega
      · exact h1
    simp only [List.length_cons, seqM, Bool.and_eq_true, Bool.or_eq_true, decide_eq_true_eq] at hB
    obtain ⟨hB1 | ⟨⟨hp, hr⟩, hf⟩, hB2⟩ := hB
    · refine ⟨fun h1 => (by rw [hB1] at h1; cases h1), fun i hi => ?_⟩
      rw [hB1] at hi
      have hik : i = k := by simpa using hi
      subst hik
      have hw : wpOpIn Fence.wide m P ops Q i (wpListIn Fence.wide m P ops Q l) a w := by unfold wpOpIn; simp only [h0]; exact h
      exact wpOpIn_mono (fun a' w' h' => wpAnyIn_of_mix hl l (i + 1) _ a' w' (by omega) hl' hB2 h') hw
    · simp [h0, hnp] at hp

theorem wpIn_region_mix {id : Nat} {Q : Exit → Act → World → Prop} {a : Act} {w : World} {l : List Oper} (n : Nat) (hm : P.follows .mixedOrders = true) (hB : mixB .any l.toArray n = true) (hl : loudB l.toArray n = true)
    (hC : C { w with drawn := w.drawn + 1 })
    (h : wpQuiet P l.toArray C (fun a' => ∀ w', C w' → wpListIn Fence.wide m P l.toArray Q (l.drop n) a' w') (l.take n) a) : (Code.region id l.toArray true).wpIn Fence.wide m P Q a w := by
  simp only [mixB, Bool.and_eq_true, decide_eq_true_eq] at hB
  obtain ⟨⟨⟨⟨hsel, hn⟩, hs⟩, hc⟩, hlex⟩ := hB
  have hn' : n < l.length := by simpa using hn
  have htl : (l.take n).length = n := by simp; omega
  have hdl : (l.drop n).length = l.toArray.size - n := by simp
  have inv0 : HeadInv .any l.toArray n (Array.replicate l.toArray.size false) :=
    ⟨by simp, fun j oj _ hl => (by rw [getD_replicate_false] at hl; cases hl), fun t _ ht => getD_in (by simpa using ht) (getD_replicate_false _ _)⟩
  have H := wpAnyM_lex (md := .any) (g := l.toArray.size - n) hsel hs hc hn (l.take n) 0 _ a (fun j hj => by
    have hj' : j < n := by rw [htl] at hj; exact hj
    simp [hj']) (by simpa using htl) inv0 (fun j hj => absurd hj (by omega)) (by rw [htl]; exact hlex) h
  refine wpIn_region_any hm ?_
  have := wpAnyIn_of_headM (m := m) (Q' := Q) (g := l.toArray.size - n) (fun listed a' hL w' hw' => by
    have := wpAnyIn_of_mix (m := m) (md := .any) hl (l.drop n) n listed a' w' (Nat.le_refl _) (fun j => by simp [List.getElem?_drop]) (by rw [hdl]; exact hL.2.1) (hL.2.2 w' hw')
    rwa [hdl] at this) _ _ _ _ hC H
  rw [htl, show n + (l.toArray.size - n) = l.toArray.size by omega] at this
  exact this

/-- The first n operations quiet in the worlds that grew out of w. -/
theorem wpIn_region_extmix {id : Nat} {Q : Exit → Act → World → Prop} {a : Act} {w : World} {l : List Oper} (n : Nat) (hm : P.follows .mixedOrders = true) (hB : mixB .any l.toArray n = true) (hl : loudB l.toArray n = true)
    (h : wpQuiet P l.toArray (fun w' => ∃ x : Ext w, w' = x.w) (fun a' => ∀ w', (∃ x : Ext w, w' = x.w) → wpListIn Fence.wide m P l.toArray Q (l.drop n) a' w') (l.take n) a) : (Code.region id l.toArray true).wpIn Fence.wide m P Q a w :=
  wpIn_region_mix n hm hB hl (Ext.here w) h

end
end Go.Proofs.YteihcodicfoiaaaGreat
namespace Go.Proofs.YteihcodicfoiaaaGreat
open Go.RowKit
attribute [local go_sem ↓] max_int min_int
attribute [local go_sem] Oper.semAt_some

/-- The moves of a state with where they lead. -/
def stepsL (f : Flr) (i : Nat) : List (Mv × Option Nat) :=
  (mvsOf f (ringN f.R f.S i) (secN f.S i) (turnN f.R f.S i)).map fun m => (m, nextN f (ringN f.R f.S i) (secN f.S i) (turnN f.R f.S i) m)
abbrev StepOf (f : Flr) (i : Nat) := { x : Mv × Option Nat // x ∈ stepsL f i }
def stepEnc (f : Flr) (i : Nat) (x : StepOf f i) : Array Value := #[.agg #[.int .i64 x.1.1.out, .int .i64 x.1.1.side, .bool x.1.1.cut], .int .i64 (nextV x.1.2)]

theorem state_lt {f : Flr} (hok : f.Ok) {i : Nat} (hi : i < f.R * f.S * f.S) : ringN f.R f.S i < f.R ∧ secN f.S i < f.S ∧ turnN f.R f.S i < f.S ∧ i < 1000 := by
  obtain ⟨r0, r1, s0, s1, _, _, _, _, _, _⟩ := hok
  have h1 : f.R * f.S * f.S ≤ 4 * 8 * 8 := Nat.mul_le_mul (Nat.mul_le_mul r1 s1) s1
  refine ⟨Nat.mod_lt _ (by omega), Nat.mod_lt _ (by omega), ?_, by omega⟩
  unfold turnN
  refine Nat.div_lt_of_lt_mul ?_
  rw [Nat.mul_comm f.S f.R]
  exact hi

/-- What a body keeps: all that lay below n₀, and each box of a state or of a floor's pointer. -/
def KpS (n₀ : Nat) (W W' : World) : Prop := Below n₀ W W' ∧ ∀ (k : Nat) (cs : Array Value) (t : TypeId) (r : Nat × Nat), t = 178 ∨ t = 173 → W.heap[k]? = some (.cells cs t r) → W'.heap[k]? = some (.cells cs t r)
theorem KpS.trans {n₀ : Nat} {A B C : World} (h : KpS n₀ A B) (k : KpS n₀ B C) : KpS n₀ A C := ⟨h.1.trans k.1, fun j cs t r ht hj => k.2 j cs t r ht (h.2 j cs t r ht hj)⟩
theorem KpS.bk {n₀ : Nat} {W W' : World} {q : Nat} {t : TypeId} {cs : Array Value} (h : KpS n₀ W W') (ht : t = 178 ∨ t = 173) (hb : Bk W q t cs) : Bk W' q t cs := h.2 q cs t (0, 0) ht hb

set_option maxRecDepth 100000 in
set_option maxHeartbeats 1000000 in
theorem steps_any (b : Nat) (i : Int) (w : World) :
    Calls Tryz.prog 196 #[.pointer (some ⟨b, 0, none⟩), .int .i64 i] w fun e w' => e = .returned (.func (.func 224) #[] #[.pointer (some ⟨w.heap.size, 0, none⟩), .pointer (some ⟨w.heap.size + 1, 0, none⟩)]) ∧
      Bk w' w.heap.size 173 #[.pointer (some ⟨b, 0, none⟩)] ∧ Bk w' (w.heap.size + 1) 3 #[.int .i64 i] ∧ Below w.heap.size w w' := by
  have A0 : Bk ((w.alloc (.cells #[.pointer (some ⟨b, 0, none⟩)] 173)).alloc (.cells #[.int .i64 i] 3)) w.heap.size 173 #[.pointer (some ⟨b, 0, none⟩)] := (bk_last rfl).alloc _
  have A1 : Bk ((w.alloc (.cells #[.pointer (some ⟨b, 0, none⟩)] 173)).alloc (.cells #[.int .i64 i] 3)) (w.heap.size + 1) 3 #[.int .i64 i] := bk_last (by simp)
  have hB : Below w.heap.size w ((w.alloc (.cells #[.pointer (some ⟨b, 0, none⟩)] 173)).alloc (.cells #[.int .i64 i] 3)) := ((Below.refl _ _).alloc (Nat.le_refl _) _).alloc (by simp) _
  go_enter Tryz.func196, Tryz.ntmps196
  go_wp2_with fail
  go_ret
  exact ⟨rfl, A0, A1, hB⟩

theorem grow_below' {w1 w2 : World} {r : Option Nat} (h : Below w1.heap.size w1 w2) : w1.grownBy w2 r := ⟨h.os, h.tape, h.output, h.size, fun k hk _ => h.block k hk⟩

set_option maxRecDepth 100000 in
set_option maxHeartbeats 8000000 in
theorem steps1_stops (n n₀ b B2 B3 : Nat) (f : Flr) (z : FLoc) (i : Nat) (w0 w : World) (hf : FlAt w0 b f z) (hok : f.Ok) (hi : i < f.R * f.S * f.S) (hn0 : w0.heap.size = n₀) (hw0 : Below n₀ w0 w) (h2 : Bk w B2 173 #[.pointer (some ⟨b, 0, none⟩)]) (h3 : Bk w B3 3 #[.int .i64 i]) :
    SeqStopsK Fence.wide n Tryz.prog 224 #[.pointer (some ⟨B2, 0, none⟩), .pointer (some ⟨B3, 0, none⟩)] (stepEnc f i) (KpS n₀) (fun xs => xs = (stepsL f i).attach) (fun pre => pre <+: (stepsL f i).attach) (stepsL f i).length w := by
  intro l J Jx W hW hJ hJx hY h0
  obtain ⟨e1, e2, e3, e4⟩ := state_lt hok hi
  subst hn0
  have hw1 : Below w0.heap.size w0 W := hw0.trans (hW.mono hw0.size)
  have K2 := h2.keep hW
  have K3 := h3.keep hW
  have HS := Lib.hid (fun (X : World) (h : Below w0.heap.size w0 X) => state_any b f z i X (hf.below h) hok e4)
  have HM := Lib.hid (fun (X : World) (h : Below w0.heap.size w0 X) => moves_any b f z _ _ _ X (hf.below h) hok e1 e2 e3)
  have HL : Hid (stepsL f i = (mvsOf f (ringN f.R f.S i) (secN f.S i) (turnN f.R f.S i)).map fun m => (m, nextN f (ringN f.R f.S i) (secN f.S i) (turnN f.R f.S i) m)) := rfl
  have HF := Lib.hid hf
  have hk2 := K2.lt
  have hk3 := K3.lt
  have b2 := K2.cell 0
  have b3 := K3.cell 0
  simp at b2 b3
  refine callsIn_of_wp Tryz.func224 rfl trivial ?_ rfl
  simp only [Tryz.ntmps224, List.size_toArray, List.length_cons, List.length_nil, Nat.reduceAdd, Nat.reduceSub, Array.replicate_succ, Array.replicate_zero, List.push_toArray, List.append_toArray, List.nil_append, List.cons_append]
  refine wpIn_wide.2 ?_
  have hlm : (mvsOf f (ringN f.R f.S i) (secN f.S i) (turnN f.R f.S i)).length = (f.drive.getD (mvIx f (ringN f.R f.S i) (secN f.S i) (turnN f.R f.S i)) []).length := rfl
  have k3 := (kinds_in hok (turn := turnN f.R f.S i) e1 e2).2.2
  have hdk := hok.dk _ (getD_mem [] (show mvIx f (ringN f.R f.S i) (secN f.S i) (turnN f.R f.S i) < f.drive.length by rw [hok.dl]; exact k3))
  have HD := Lib.hid (fun (X : World) (h : Below w0.heap.size w0 X) => (hf.below h).drv _ k3)
  have HNX := Lib.hid (fun (X : World) (h : Below w0.heap.size w0 X) (m : Mv) (hm : -1 ≤ m.out ∧ m.out ≤ 1 ∧ -1 ≤ m.side ∧ m.side ≤ 1) => next_any b f z _ _ _ m X (hf.below h) hok e1 e2 e3 hm)
  unfold stV at HS HM HNX
  unfold drCell at HM
  change Hid (∀ X, Below w0.heap.size w0 X → RowAt X (z.dr.getD (mvIx f (ringN f.R f.S i) (secN f.S i) (turnN f.R f.S i)) (none, 0)).1 (mvCells (mvsOf f (ringN f.R f.S i) (secN f.S i) (turnN f.R f.S i)))) at HD
  change 1 ≤ (mvsOf f (ringN f.R f.S i) (secN f.S i) (turnN f.R f.S i)).length ∧ (mvsOf f (ringN f.R f.S i) (secN f.S i) (turnN f.R f.S i)).length ≤ 3 ∧ ∀ m ∈ mvsOf f (ringN f.R f.S i) (secN f.S i) (turnN f.R f.S i), -1 ≤ m.out ∧ m.out ≤ 1 ∧ -1 ≤ m.side ∧ m.side ≤ 1 at hdk
  rw [← hlm] at HM
  clear hlm
  generalize (z.dr.getD (mvIx f (ringN f.R f.S i) (secN f.S i) (turnN f.R f.S i)) (none, 0)).1 = A at *
  generalize (z.dr.getD (mvIx f (ringN f.R f.S i) (secN f.S i) (turnN f.R f.S i)) (none, 0)).2 = c at *
  generalize ringN f.R f.S i = ring at *
  generalize secN f.S i = sec at *
  generalize turnN f.R f.S i = turn at *
  go_upto_region 1 with (go_at_call 123; refine (HS.out _ hw1).mono ?_; rintro e w1 ⟨rfl, hb1⟩)
  have S4 : Bk (w1.alloc (.cells #[.int .i64 ring, .int .i64 sec, .int .i64 turn] 178)) w1.heap.size 178 #[.int .i64 ring, .int .i64 sec, .int .i64 turn] := bk_last rfl
  have hb2 : Below w1.heap.size w1 (w1.alloc (.cells #[.int .i64 ring, .int .i64 sec, .int .i64 turn] 178)) := (Below.refl _ _).alloc (Nat.le_refl _) _
  generalize w1.alloc (.cells #[.int .i64 ring, .int .i64 sec, .int .i64 turn] 178) = w2 at *
  have hb12 := hb1.trans (hb2.mono hb1.size)
  replace K2 := K2.keep hb12
  have hw2 := hw1.trans (hb12.mono hw1.size)
  generalize w1.heap.size = q4 at *
  replace b2 := K2.cell 0
  have s0 := S4.cell 0
  have s1 := S4.cell 1
  have s2 := S4.cell 2
  simp at b2 s0 s1 s2
  have HW2 := Lib.hid (And.intro hb12 hw2)
  clear b3 K3 hb1 hb2 hw1 HS
  go_upto_region 2 with (go_at_call 125; refine (HM.out _ hw2).mono ?_; rintro e w3 ⟨rfl, hb3⟩)
  clear b2 s0 s1 s2
  replace K2 := K2.keep hb3
  replace S4 := S4.keep hb3
  have hb13 := HW2.out.1.trans (hb3.mono HW2.out.1.size)
  have hw3 := HW2.out.2.trans (hb3.mono HW2.out.2.size)
  have hJ0 : J [] w3 := hJ _ W w3 none h0 (grow_below' hb13) (fun r e => by cases e)
  clear HW2 HM hb3 h0 hb12 hw2
  generalize hms : mvsOf f ring sec turn = ms at *
  have hlen : (stepsL f i).length = ms.length := by rw [HL.out]; simp
  refine (wpIn_wide (n := n)).1 ?_
  gi_loopw [6, 14] (fun _ ix wr => ∃ k : Nat, k ≤ ms.length ∧ ix = .int .i64 k ∧ J ((stepsL f i).attach.take k) wr ∧ Bk wr B2 173 #[.pointer (some ⟨b, 0, none⟩)] ∧ Bk wr q4 178 #[.int .i64 ring, .int .i64 sec, .int .i64 turn] ∧ Below w0.heap.size w0 wr ∧ W.heap.size ≤ wr.heap.size) (fun _ ix _ => ms.length - (intOf ix).toNat)
  case atStart => exact ⟨0, Nat.zero_le _, rfl, by simpa using hJ0, K2, S4, hw3, hb13.size⟩
  case round =>
    clear hJ0 K2 S4
    obtain ⟨k, hk, rfl, hJk, K2, S4, hwr, hszr⟩ := hrel
    by_cases hlt : k < ms.length
    · have hkI : (k : Int) < ms.length := by omega
      obtain ⟨b5, o5, hA, hb5, hc5⟩ := mv_row (HD.out wr hwr) (by omega)
      obtain ⟨c0, c1, c2⟩ := hc5 k hlt
      have hmm := hdk.2.2 _ (List.getElem_mem hlt)
      have hkl : k < (stepsL f i).length := by omega
      have hxk : (stepsL f i)[k] = (ms[k], nextN f ring sec turn ms[k]) := by
        simp only [HL.out, List.getElem_map]
      have hNX := HNX.out
      have HX : Hid (stepEnc f i ((stepsL f i).attach[k]'(by simpa using hkl)) = #[.agg #[.int .i64 ms[k].out, .int .i64 ms[k].side, .bool ms[k].cut], .int .i64 (nextV (nextN f ring sec turn ms[k]))]) := by
        simp only [Hid, stepEnc, List.getElem_attach, hxk]
      have HTK : Hid ((stepsL f i).attach.take (k + 1) = (stepsL f i).attach.take k ++ [(stepsL f i).attach[k]'(by simpa using hkl)]) := by
        refine Lib.hid ?_
        rw [List.take_add_one, List.getElem?_eq_getElem (by simpa using hkl)]; rfl
      have HN := Lib.hid (fun (X : World) (h : Below w0.heap.size w0 X) => hNX X h ms[k] hmm)
      have hplen : ((stepsL f i).attach.take k).length < (stepsL f i).length := by rw [List.length_take, List.length_attach]; omega
      rw [hA]
      clear hc5 hxk hmm hNX HNX hA
      generalize (stepsL f i).attach[k]'(by simpa using hkl) = xk at *
      generalize nextV (nextN f ring sec turn ms[k]) = nv at *
      generalize ms[k] = mk at *
      obtain ⟨mo, msd, mc⟩ := mk
      simp only at c0 c1 c2 HX HN
      obtain ⟨w5, hw5⟩ : ∃ w5, wr.alloc (.cells #[.int .i64 mo, .int .i64 msd, .bool mc] 247) = w5 := ⟨_, rfl⟩
      have Y5 : Bk w5 wr.heap.size 247 #[.int .i64 mo, .int .i64 msd, .bool mc] := by rw [← hw5]; exact bk_last rfl
      have hb5' : Below wr.heap.size wr w5 := by rw [← hw5]; exact (Below.refl _ _).alloc (Nat.le_refl _) _
      have HW5 := Lib.hid hw5
      have y0 := Y5.cell 0
      have y1 := Y5.cell 1
      have y2 := Y5.cell 2
      have b2 := (K2.keep hb5').cell 0
      have s0 := (S4.keep hb5').cell 0
      have s1 := (S4.keep hb5').cell 1
      have s2 := (S4.keep hb5').cell 2
      simp at y0 y1 y2 b2 s0 s1 s2
      have hw05 := hwr.trans (hb5'.mono hwr.size)
      have HK := Lib.hid (And.intro K2 (And.intro S4 (And.intro hJk (And.intro hb5' hw05))))
      clear hw5 Y5 K2 S4 hJk hb5' hw05
      refine (wpIn_wide (n := n)).2 ?_
      go_upto_region 4 with fail
      rw [HW5.out]
      clear HW5 c0 c1 c2
      refine (wpIn_wide (n := n)).1 ?_
      have K86 : Hid (∀ x : Ext w5, Calls Tryz.prog 225 #[.pointer (some ⟨b, 0, none⟩), .agg #[.int .i64 ring, .int .i64 sec, .int .i64 turn], .agg #[.int .i64 mo, .int .i64 msd, .bool mc]] x.w fun e w' => e = .returned (.int .i64 nv) ∧ Below x.w.heap.size x.w w') := fun x => HN.out x.w (HK.out.2.2.2.2.trans (x.bel.mono HK.out.2.2.2.2.size))
      replace y0 := fun x : Ext w5 => keepc x.bel y0
      replace y1 := fun x : Ext w5 => keepc x.bel y1
      replace y2 := fun x : Ext w5 => keepc x.bel y2
      replace b2 := fun x : Ext w5 => keepc x.bel b2
      replace s0 := fun x : Ext w5 => keepc x.bel s0
      replace s1 := fun x : Ext w5 => keepc x.bel s1
      replace s2 := fun x : Ext w5 => keepc x.bel s2
      refine wpIn_region_extmix 6 (by kernel_rfl) (by kernel_rfl) (by kernel_rfl) ?_
      simp only [List.take_succ_cons, List.take_zero, List.drop_succ_cons, List.drop_zero]
      repeat (go_big_quiet_step (fail))
      go_big_quiet_step ((go_at_call 225; exact ext_of (K86.out _)))
      repeat (go_big_quiet_step (fail))
      refine wpQuiet_nil ?_
      rintro _ ⟨y, rfl⟩
      clear y0 y1 y2 b2 s0 s1 s2 K86
      have hb6 := y.bel
      generalize y.w = w6 at hb6 ⊢
      obtain ⟨K2, S4, hJk, hb5', hw05⟩ := HK.out
      have hb56 := hb5'.trans (hb6.mono hb5'.size)
      have hJ6 : J ((stepsL f i).attach.take k) w6 := hJ _ wr w6 none hJk (grow_below' hb56) (fun r e => by cases e)
      have hw6 := hwr.trans (hb56.mono hwr.size)
      obtain ⟨fn, tmps, assign, body, hy, hR⟩ := hY _ xk w6 hJ6 hplen
      rw [HX.out] at hy
      have HK6 := Lib.hid (And.intro (K2.keep hb56) (And.intro (S4.keep hb56) hw6))
      have hs56 := hb56.size
      clear K2 S4 hJk hb5' hw05 HK hb6 hJ6 hY hwr hb56
      gi_wp2
      refine ⟨fun h => (by simp [Fence.wide] at h), hR.mono ?_⟩
      rintro e W7 (⟨rfl, hJ7, hk7⟩ | ⟨rfl, hJx7⟩)
      · obtain ⟨K6, S6, hw6⟩ := HK6.out
        have hz7 : W.heap.size ≤ W7.heap.size := Nat.le_trans (Nat.le_trans hszr hs56) hk7.1.size
        have HE := Lib.hid (And.intro (hk7.bk (Or.inr rfl) K6) (And.intro (hk7.bk (Or.inl rfl) S6) (And.intro (hw6.trans hk7.1) hz7)))
        rw [← HTK.out] at hJ7
        clear hk7 K6 S6 hw6 HK6
        gi_wp2
        go_wp2_with fail
        go_roundw
        case rel => exact ⟨k + 1, by omega, by go_num, hJ7, HE.out.1, HE.out.2.1, HE.out.2.2.1, HE.out.2.2.2⟩
        case measure => simp [intOf]; omega
      · rw [← HTK.out] at hJx7
        clear HK6
        gi_wp2
        go_wp2_with fail
        refine bodyPost_ret (results_none rfl _ _ _) rfl ?_
        exact ⟨⟨_, rfl⟩, .inr ⟨_, List.take_prefix _ _, hJx7⟩⟩
    · obtain rfl : k = ms.length := by omega
      have htk : (stepsL f i).attach.take ms.length = (stepsL f i).attach := List.take_of_length_le (by rw [List.length_attach, hlen]; exact Nat.le_refl _)
      rw [htk] at hJk
      gi_wp2
      go_end0
      exact ⟨⟨_, rfl⟩, .inl ⟨_, rfl, hJk⟩⟩

end Go.Proofs.YteihcodicfoiaaaGreat
namespace Go.Proofs.YteihcodicfoiaaaGreat
open Go.RowKit Classical

def stepR (f : Flr) (i k : Nat) : Prop := ∃ m, (m, some k) ∈ stepsL f i
/-- No loop can be come to. -/
inductive AccS (f : Flr) : Nat → Prop
  | mk {i : Nat} : (∀ k, stepR f i k → AccS f k) → AccS f i
def restOf (D : Nat → Int × Int) : Option Nat → Int × Int
  | none => (0, 0)
  | some k => D k
def spanF (cnt : Mv → Int) (D : Nat → Int × Int) (out : Int × Int) (x : Mv × Option Nat) : Int × Int :=
  (min out.1 (IntKind.i64.wrap ((restOf D x.2).1 + cnt x.1)), max out.2 (IntKind.i64.wrap ((restOf D x.2).2 + cnt x.1)))
def spanL (cnt : Mv → Int) (D : Nat → Int × Int) (l : List (Mv × Option Nat)) : Int × Int := l.foldl (spanF cnt D) (70000, 0)
/-- What the moves from a state count for. -/
inductive ValS (f : Flr) (cnt : Mv → Int) : Nat → Int × Int → Prop
  | mk {i : Nat} (D : Nat → Int × Int) : (∀ k, stepR f i k → ValS f cnt k (D k)) → ValS f cnt i (spanL cnt D (stepsL f i))

theorem fold_congr {cnt : Mv → Int} {D D' : Nat → Int × Int} : ∀ (l : List (Mv × Option Nat)) (o : Int × Int), (∀ x ∈ l, restOf D x.2 = restOf D' x.2) → l.foldl (spanF cnt D) o = l.foldl (spanF cnt D') o
  | [], _, _ => rfl
  | x :: l, o, h => by
    simp only [List.foldl_cons]
    have e : spanF cnt D o x = spanF cnt D' o x := by unfold spanF; rw [h x (by simp)]
    rw [e]
    exact fold_congr l _ (fun y hy => h y (by simp [hy]))
theorem span_congr {cnt : Mv → Int} {D D' : Nat → Int × Int} {l : List (Mv × Option Nat)} (h : ∀ m k, (m, some k) ∈ l → D k = D' k) : spanL cnt D l = spanL cnt D' l :=
  fold_congr l _ (fun x hx => by
    obtain ⟨m, o⟩ := x
    cases o with
    | none => rfl
    | some k => exact h m k hx)
theorem ValS.uniq {f : Flr} {cnt : Mv → Int} {i : Nat} {v : Int × Int} (h : ValS f cnt i v) : ∀ {v'}, ValS f cnt i v' → v = v' := by
  induction h with
  | mk D hD ih =>
    intro v' h'
    cases h' with
    | mk D' hD' => exact span_congr (fun m k hk => ih k ⟨m, hk⟩ (hD' k ⟨m, hk⟩))
theorem AccS.val {f : Flr} {cnt : Mv → Int} {i : Nat} (h : AccS f i) : ∃ v, ValS f cnt i v := by
  induction h with
  | @mk i _ ih =>
    have : ∃ D : Nat → Int × Int, ∀ k, stepR f i k → ValS f cnt k (D k) := by
      refine ⟨fun k => if h : ∃ v, ValS f cnt k v then h.choose else (0, 0), fun k hk => ?_⟩
      have hv := ih k hk
      simp only [dif_pos hv]
      exact hv.choose_spec
    obtain ⟨D, hD⟩ := this
    exact ⟨_, .mk D hD⟩

/-- A map of states under which moves go over into moves. -/
def Turns (f : Flr) (r : Nat → Nat) (P : Nat → Prop) : Prop := ∀ i, P i → stepsL f (r i) = (stepsL f i).map (fun x => (x.1, x.2.map r)) ∧ ∀ k, stepR f i k → P k
theorem Turns.acc {f : Flr} {r : Nat → Nat} {P : Nat → Prop} (h : Turns f r P) {i : Nat} (ha : AccS f i) : P i → AccS f (r i) := by
  induction ha with
  | @mk i _ ih =>
    intro hp
    refine .mk (fun k hk => ?_)
    obtain ⟨m, hm⟩ := hk
    rw [(h i hp).1] at hm
    obtain ⟨⟨m', o⟩, hx, he⟩ := List.mem_map.1 hm
    cases o with
    | none => simp at he
    | some k' =>
      simp only [Option.map_some, Prod.mk.injEq, Option.some.injEq] at he
      obtain ⟨rfl, rfl⟩ := he
      exact ih k' ⟨_, hx⟩ ((h i hp).2 k' ⟨_, hx⟩)
theorem Turns.acc_back {f : Flr} {r : Nat → Nat} {P : Nat → Prop} (h : Turns f r P) {j : Nat} (ha : AccS f j) : ∀ i, P i → j = r i → AccS f i := by
  induction ha with
  | @mk j _ ih =>
    rintro i hp rfl
    refine .mk (fun k hk => ?_)
    obtain ⟨m, hm⟩ := hk
    refine ih (r k) ⟨m, ?_⟩ k ((h i hp).2 k ⟨m, hm⟩) rfl
    rw [(h i hp).1]
    exact List.mem_map.2 ⟨_, hm, rfl⟩
theorem fold_map {cnt : Mv → Int} {D D' : Nat → Int × Int} {r : Nat → Nat} : ∀ (l : List (Mv × Option Nat)) (o : Int × Int), (∀ m k, (m, some k) ∈ l → D' (r k) = D k) → (l.map (fun x => (x.1, x.2.map r))).foldl (spanF cnt D') o = l.foldl (spanF cnt D) o
  | [], _, _ => rfl
  | x :: l, o, h => by
    simp only [List.map_cons, List.foldl_cons]
    have e : spanF cnt D' o (x.1, x.2.map r) = spanF cnt D o x := by
      obtain ⟨m, o'⟩ := x
      cases o' with
      | none => rfl
      | some k =>
        have := h m k (by simp)
        simp only [spanF, restOf, Option.map_some, this]
    rw [e]
    exact fold_map l _ (fun m k hk => h m k (by simp [hk]))
theorem Turns.val {f : Flr} {r : Nat → Nat} {P : Nat → Prop} {cnt : Mv → Int} (h : Turns f r P) {i : Nat} {v : Int × Int} (hv : ValS f cnt i v) : P i → ValS f cnt (r i) v := by
  induction hv with
  | @mk i D hD ih =>
    intro hp
    have hr : ∀ k, stepR f i k → ValS f cnt (r k) (D k) := fun k hk => ih k hk ((h i hp).2 k hk)
    let D' : Nat → Int × Int := fun j => if h : ∃ v, ValS f cnt j v then h.choose else (0, 0)
    have hD' : ∀ k, stepR f i k → D' (r k) = D k := fun k hk => by
      have hex : ∃ v, ValS f cnt (r k) v := ⟨_, hr k hk⟩
      show (if h : ∃ v, ValS f cnt (r k) v then h.choose else (0, 0)) = D k
      rw [dif_pos hex]
      exact hex.choose_spec.uniq (hr k hk)
    have e : spanL cnt D' (stepsL f (r i)) = spanL cnt D (stepsL f i) := by
      rw [(h i hp).1]
      exact fold_map _ _ (fun m k hk => hD' k ⟨m, hk⟩)
    rw [← e]
    refine .mk D' (fun j hj => ?_)
    obtain ⟨m, hm⟩ := hj
    rw [(h i hp).1] at hm
    obtain ⟨⟨m', o⟩, hx, he⟩ := List.mem_map.1 hm
    cases o with
    | none => simp at he
    | some k' =>
      simp only [Option.map_some, Prod.mk.injEq, Option.some.injEq] at he
      obtain ⟨rfl, rfl⟩ := he
      rw [hD' k' ⟨_, hx⟩]
      exact hr k' ⟨_, hx⟩

end Go.Proofs.YteihcodicfoiaaaGreat
namespace Go.Proofs.YteihcodicfoiaaaGreat
open Go.RowKit

/-- The kinds are alike in each harp. -/
structure PerF (f : Flr) (V : Nat) : Prop where
  bed : ∀ ring sec, ring < f.R → sec < f.S → f.bed.getD (ring * f.S + (sec + V) % f.S) 0 = f.bed.getD (ring * f.S + sec) 0
  run : ∀ ring sec, ring < f.R → sec < f.S → f.run.getD (ring * f.S + (sec + V) % f.S) 0 = f.run.getD (ring * f.S + sec) 0
def rotN (f : Flr) (V i : Nat) : Nat := numN f.R f.S (ringN f.R f.S i) ((secN f.S i + V) % f.S) (turnN f.R f.S i)

theorem num_parts {R S ring sec turn : Nat} (h1 : ring < R) (h2 : sec < S) : ringN R S (numN R S ring sec turn) = ring ∧ secN S (numN R S ring sec turn) = sec ∧ turnN R S (numN R S ring sec turn) = turn := by
  have e1 : numN R S ring sec turn / S = turn * R + ring := by
    unfold numN
    rw [Nat.mul_comm, Nat.mul_add_div (by omega), Nat.div_eq_of_lt h2, Nat.add_zero]
  refine ⟨?_, ?_, ?_⟩
  · unfold ringN
    rw [e1, Nat.mul_comm, Nat.mul_add_mod]
    exact Nat.mod_eq_of_lt h1
  · unfold secN numN
    rw [Nat.mul_comm, Nat.mul_add_mod]
    exact Nat.mod_eq_of_lt h2
  · unfold turnN
    rw [← Nat.div_div_eq_div_mul, e1, Nat.mul_comm, Nat.mul_add_div (by omega), Nat.div_eq_of_lt h1, Nat.add_zero]
theorem num_lt {R S ring sec turn : Nat} (h1 : ring < R) (h2 : sec < S) (h3 : turn < S) : numN R S ring sec turn < R * S * S := by
  unfold numN
  have a1 : turn * R + ring < S * R := by
    have : (turn + 1) * R ≤ S * R := Nat.mul_le_mul_right R h3
    rw [Nat.add_mul] at this
    omega
  have a2 : (turn * R + ring + 1) * S ≤ S * R * S := Nat.mul_le_mul_right S a1
  rw [Nat.add_mul] at a2
  rw [Nat.mul_comm R S]
  omega
theorem runS_rot {S sec turn V : Nat} (h2 : sec < S) (h3 : turn < S) : runS S ((sec + V) % S) turn = (runS S sec turn + V) % S := by
  unfold runS
  have a : (sec + V) % S < S := Nat.mod_lt _ (by omega)
  have e : ((sec + V) % S + S - turn) % S = ((sec + V) % S + (S - turn)) % S := by congr 1; omega
  have e2 : (sec + S - turn) % S = (sec + (S - turn)) % S := by congr 1; omega
  rw [e, e2, Nat.add_mod, Nat.mod_mod, ← Nat.add_mod, Nat.add_mod (_ % S), Nat.mod_mod, ← Nat.add_mod]
  congr 1
  omega
theorem bedK_rot {f : Flr} {V : Nat} (h : PerF f V) {ring sec : Nat} (h1 : ring < f.R) (h2 : sec < f.S) : bedK f ring ((sec + V) % f.S) = bedK f ring sec := h.bed ring sec h1 h2
theorem runK_rot {f : Flr} {V : Nat} (h : PerF f V) {ring sec turn : Nat} (h1 : ring < f.R) (h2 : sec < f.S) (h3 : turn < f.S) : runK f ring ((sec + V) % f.S) turn = runK f ring sec turn := by
  unfold runK
  rw [runS_rot h2 h3]
  exact h.run ring _ h1 (runS_lt (by omega))
theorem mvs_rot {f : Flr} {V : Nat} (h : PerF f V) {ring sec turn : Nat} (h1 : ring < f.R) (h2 : sec < f.S) (h3 : turn < f.S) : mvsOf f ring ((sec + V) % f.S) turn = mvsOf f ring sec turn := by
  unfold mvsOf mvIx
  rw [bedK_rot h h1 h2, runK_rot h h1 h2 h3]

theorem sec_rot {S sec V : Nat} {d : Int} (hS : 0 < S) : ((((sec + V) % S : Nat) : Int) + d) % S = (((((sec : Int) + d) % S).toNat + V) % S : Nat) := by
  have h0 : 0 ≤ ((sec : Int) + d) % S := Int.emod_nonneg _ (by omega)
  rw [Int.natCast_emod, Int.natCast_emod, Int.natCast_add, Int.natCast_add, Int.toNat_of_nonneg h0, Int.emod_add_emod, Int.emod_add_emod]
  congr 1
  omega
theorem next_rot {f : Flr} (hok : f.Ok) {V ring sec turn : Nat} {m : Mv} (h1 : ring < f.R) (h2 : sec < f.S) (h3 : turn < f.S) (hm : -1 ≤ m.out ∧ m.out ≤ 1) :
    nextN f ring ((sec + V) % f.S) turn m = (nextN f ring sec turn m).map (rotN f V) := by
  have hS := hok.s0
  unfold nextN
  by_cases hq : (ring : Int) + m.out = f.R
  · rw [if_pos hq, if_pos hq]; rfl
  · rw [if_neg hq, if_neg hq]
    have a1 : ((ring : Int) + m.out).toNat < f.R := by omega
    have a2 : (((sec : Int) + m.side) % f.S).toNat < f.S := by
      have := Int.emod_lt_of_pos ((sec : Int) + m.side) (b := f.S) (by omega)
      have := Int.emod_nonneg ((sec : Int) + m.side) (b := f.S) (by omega)
      omega
    obtain ⟨p1, p2, p3⟩ := num_parts (turn := (turn + 1) % f.S) a1 a2
    simp only [Option.map_some, rotN, p1, p2, p3, Option.some.injEq]
    rw [sec_rot (by omega), Int.toNat_natCast]

theorem rot_turns {f : Flr} (hok : f.Ok) {V : Nat} (h : PerF f V) : Turns f (rotN f V) (fun i => i < f.R * f.S * f.S) := by
  intro i hi
  obtain ⟨e1, e2, e3, _⟩ := state_lt hok hi
  have e2' : (secN f.S i + V) % f.S < f.S := Nat.mod_lt _ (by omega)
  have hd := fun m (hm : m ∈ mvsOf f (ringN f.R f.S i) (secN f.S i) (turnN f.R f.S i)) => (hok.dk _ (getD_mem [] (show mvIx f (ringN f.R f.S i) (secN f.S i) (turnN f.R f.S i) < f.drive.length by rw [hok.dl]; exact (kinds_in hok e1 e2).2.2))).2.2 m hm
  obtain ⟨p1, p2, p3⟩ := num_parts (turn := turnN f.R f.S i) e1 e2'
  constructor
  · unfold stepsL
    simp only [rotN, p1, p2, p3]
    rw [mvs_rot h e1 e2 e3, List.map_map]
    refine List.map_congr_left (fun m hm => ?_)
    have := hd m hm
    simp only [Function.comp, Prod.mk.injEq, true_and]
    exact next_rot hok e1 e2 e3 ⟨this.1, this.2.1⟩
  · rintro k ⟨m, hm⟩
    unfold stepsL at hm
    obtain ⟨m', hm', he⟩ := List.mem_map.1 hm
    simp only [Prod.mk.injEq] at he
    have hb := hd m' hm'
    have he2 := he.2
    unfold nextN at he2
    split at he2
    · cases he2
    · rename_i hq
      simp only [Option.some.injEq] at he2
      rw [← he2]
      refine num_lt (by omega) ?_ (Nat.mod_lt _ (by omega))
      have := Int.emod_lt_of_pos ((secN f.S i : Int) + m'.side) (b := f.S) (by omega)
      have := Int.emod_nonneg ((secN f.S i : Int) + m'.side) (b := f.S) (by omega)
      omega

end Go.Proofs.YteihcodicfoiaaaGreat
namespace Go.Proofs.YteihcodicfoiaaaGreat
open Go.RowKit

/-- The first number that is bad, or -1. -/
def firstBad (bad : Int → Bool) (xs : List Int) : Int := match xs.findIdx? bad with | some i => i | none => -1
theorem firstBad_hit (bad : Int → Bool) (xs : List Int) (k : Nat) (hk : k < xs.length) (h : ∀ j (h : j < xs.length), j < k → bad xs[j] = false) (hb : bad xs[k] = true) : firstBad bad xs = k := by
  have e : xs.findIdx? bad = some k := by
    rw [List.findIdx?_eq_some_iff_getElem]
    exact ⟨hk, hb, fun j hj => by simp [h j (by omega) hj]⟩
  simp [firstBad, e]
theorem firstBad_none (bad : Int → Bool) (xs : List Int) (h : ∀ j (h : j < xs.length), j < xs.length → bad xs[j] = false) : firstBad bad xs = -1 := by
  have e : xs.findIdx? bad = none := by
    rw [List.findIdx?_eq_none_iff]
    intro m hm
    obtain ⟨j, hj, rfl⟩ := List.getElem_of_mem hm
    simp [h j hj hj]
  simp [firstBad, e]
theorem firstBad_any (bad : Int → Bool) (xs : List Int) : decide (firstBad bad xs ≥ 0) = xs.any bad := by
  unfold firstBad
  cases e : xs.findIdx? bad with
  | none =>
    rw [List.findIdx?_eq_none_iff] at e
    have h : xs.any bad = false := by rw [List.any_eq_false]; intro m hm; simpa using e m hm
    simp [h]
  | some i =>
    rw [List.findIdx?_eq_some_iff_getElem] at e
    obtain ⟨hi, h1, _⟩ := e
    have h : xs.any bad = true := by
      rw [List.any_eq_true]
      exact ⟨xs[i], List.getElem_mem hi, h1⟩
    simp [h]

theorem not_any (bad : Int → Bool) (xs : List Int) : (!xs.any bad) = xs.all fun x => !bad x := by
  induction xs with
  | nil => rfl
  | cons x xs ih => simp [← ih]

theorem swithin_any (n lo hi : Int) (w : World) :
    Calls Tryz.prog 165 #[.int .i64 n, .int .i64 lo, .int .i64 hi] w fun e w' => e = .returned (.bool (inB n lo hi)) ∧ w = w' := by
  go_enter Tryz.func165, Tryz.ntmps165
  go_wp2
  all_goals
    go_ret
    exact ⟨ret_bool (by simp [inB]; try omega), rfl⟩

theorem kind_any (n : Int) (w : World) :
    Calls Tryz.prog 167 #[.int .i64 n] w fun e w' => e = .returned (.bool (inB n 0 2)) ∧ w = w' := by
  by_cases h0 : n = 0
  · subst h0
    go_enter Tryz.func167, Tryz.ntmps167
    go_wp2
    go_ret
    exact ⟨ret_bool (by decide), rfl⟩
  · by_cases h1 : n = 1
    · subst h1
      go_enter Tryz.func167, Tryz.ntmps167
      go_wp2
      go_ret
      exact ⟨ret_bool (by decide), rfl⟩
    · by_cases h2 : n = 2
      · subst h2
        go_enter Tryz.func167, Tryz.ntmps167
        go_wp2
        go_ret
        exact ⟨ret_bool (by decide), rfl⟩
      · have e0 : (n == 0) = false := by simpa using h0
        have e1 : (n == 1) = false := by simpa using h1
        have e2 : (n == 2) = false := by simpa using h2
        go_enter Tryz.func167, Tryz.ntmps167
        go_wp2
        go_ret
        exact ⟨ret_bool (by simp [inB]; omega), rfl⟩

theorem valid1_any (n : Int) (w : World) :
    Calls Tryz.prog 166 #[.int .i64 n] w fun e w' => e = .returned (.bool (!inB n 0 2)) ∧ w = w' := by
  go_enter Tryz.func166, Tryz.ntmps166
  go_wp2_with (go_at_call 167; refine (kind_any _ _).mono ?_; rintro e w1 ⟨rfl, rfl⟩)
  go_ret
  exact ⟨rfl, rfl⟩

set_option maxHeartbeats 1000000 in
theorem index133_any (A : Option Addr) (c : Nat) (xs : List Int) (w : World) (hL : RowAt w A (intCells xs)) (hn : xs.length ≤ 9223372036854775807) :
    Calls Tryz.prog 156 #[.slice A xs.length c, .func (.func 166) #[] #[]] w fun e w' => e = .returned (.int .i64 (firstBad (fun n => !inB n 0 2) xs)) ∧ w = w' := by
  go_enter Tryz.func156, Tryz.ntmps156
  go_wp2
  go_loop [8] (fun i => ∃ k : Nat, k ≤ xs.length ∧ i = .int .i64 k ∧ Hid (∀ j (h : j < xs.length), j < k → (!inB xs[j] 0 2) = false)) (fun i => xs.length - (intOf i).toNat)
  case atStart => exact ⟨0, Nat.zero_le _, rfl, fun j _ h => absurd h (by omega)⟩
  case round =>
    obtain ⟨k, hk, rfl, hall⟩ := hrel
    by_cases hlt : k < xs.length
    · obtain ⟨b', off, hA, hb', hc⟩ := hL.int (by omega)
      have c0 := hc k hlt
      clear hc
      rw [hA]
      clear hA
      have hv := valid1_any xs[k] w
      have HV := Lib.hid (fun j (hj : j < xs.length) (hjk : j < k + 1) (hg : (!inB xs[k] 0 2) = false) => show (!inB xs[j] 0 2) = false by
        rcases Nat.lt_or_ge j k with h | h
        · exact hall.out j hj h
        · obtain rfl : j = k := by omega
          exact hg)
      cases hb : (!inB xs[k] 0 2)
      · rw [hb] at hv
        have HB := Lib.hid hb
        clear hb
        go_wp2_with (go_at_call 166; refine hv.mono ?_; rintro e w1 ⟨rfl, rfl⟩)
        go_round
        case rel => exact ⟨k + 1, by omega, by go_num, fun j hj hjk => HV.out j hj hjk HB.out⟩
        case measure => simp [intOf]; omega
      · rw [hb] at hv
        have HB := Lib.hid hb
        clear hb
        go_wp2_with (go_at_call 166; refine hv.mono ?_; rintro e w1 ⟨rfl, rfl⟩)
        go_ret
        exact ⟨ret_int (firstBad_hit _ xs k hlt hall.out HB.out).symm, rfl⟩
    · have : k = xs.length := by omega
      subst this
      go_wp2
      go_ret
      exact ⟨ret_int (firstBad_none _ xs hall.out).symm, rfl⟩

theorem contains133_any (A : Option Addr) (c : Nat) (xs : List Int) (w : World) (hL : RowAt w A (intCells xs)) (hn : xs.length ≤ 9223372036854775807) :
    Calls Tryz.prog 108 #[.slice A xs.length c, .func (.func 166) #[] #[]] w fun e w' => e = .returned (.bool (xs.any (fun n => !inB n 0 2))) ∧ w = w' := by
  go_enter Tryz.func108, Tryz.ntmps108
  go_wp2_with (go_at_call 156; refine (index133_any _ _ _ _ hL hn).mono ?_; rintro e w1 ⟨rfl, rfl⟩)
  go_ret
  exact ⟨ret_bool (firstBad_any _ xs), rfl⟩

/-- A face. -/
structure Fac where
  eye : Int
  rings : Int
  sec : Int
  kinds : List Int
/-- Where its kinds lie. -/
def Fac.val (f : Fac) (A : Option Addr) (c : Nat) : Value := .agg #[.int .i64 f.eye, .int .i64 f.rings, .int .i64 f.sec, .slice A f.kinds.length c]
def Fac.ok (f : Fac) : Bool := inB f.eye 1 16 && inB f.rings 1 24 && inB f.sec 2 96 && (f.kinds.length : Int) == f.rings * f.sec && f.kinds.all fun k => inB k 0 2

theorem fac_ok {f : Fac} (h : f.ok = true) : 1 ≤ f.eye ∧ f.eye ≤ 16 ∧ 1 ≤ f.rings ∧ f.rings ≤ 24 ∧ 2 ≤ f.sec ∧ f.sec ≤ 96 ∧ (f.kinds.length : Int) = f.rings * f.sec ∧ f.kinds.length ≤ 2304 := by
  simp only [Fac.ok, Bool.and_eq_true, inB, decide_eq_true_eq, beq_iff_eq] at h
  obtain ⟨⟨⟨⟨h1, h2⟩, h3⟩, h4⟩, _⟩ := h
  refine ⟨h1.1, h1.2, h2.1, h2.2, h3.1, h3.2, h4, ?_⟩
  have : f.rings * f.sec ≤ 24 * 96 := Int.mul_le_mul h2.2 h3.2 (by omega) (by omega)
  omega

attribute [local go_sem] Fac.val
attribute [local go_sem ↓] max_int min_int

set_option maxRecDepth 100000 in
set_option maxHeartbeats 2000000 in
theorem valid_any (f : Fac) (A : Option Addr) (c : Nat) (w : World) (hL : RowAt w A (intCells f.kinds)) (hn : f.kinds.length ≤ 9223372036854775807) :
    Calls Tryz.prog 120 #[f.val A c] w fun e w' => e = .returned (.bool f.ok) ∧ Below w.heap.size w w' := by
  obtain ⟨eye, rings, sec, kinds⟩ := f
  simp only [Fac.val, Fac.ok] at *
  have hB : Below w.heap.size w (w.alloc (.cells #[.int .i64 eye, .int .i64 rings, .int .i64 sec, .slice A kinds.length c] 24)) := (Below.refl _ _).alloc (Nat.le_refl _) _
  by_cases h1 : inB eye 1 16 = true
  · by_cases h2 : inB rings 1 24 = true
    · by_cases h3 : inB sec 2 96 = true
      · have h2' := h2
        have h3' := h3
        simp only [inB, decide_eq_true_eq] at h2' h3'
        have hm : 0 ≤ rings * sec ∧ rings * sec ≤ 24 * 96 := ⟨Int.mul_nonneg (by omega) (by omega), Int.mul_le_mul (by omega) (by omega) (by omega) (by omega)⟩
        by_cases h4 : (kinds.length : Int) = rings * sec
        · have h4b : ((kinds.length : Int) == rings * sec) = true := by simpa using h4
          have HV := Lib.hid (not_any (fun n => !inB n 0 2) kinds)
          rw [h1, h2, h3, h4b]
          clear h4b
          have hne : ((kinds.length : Int) != rings * sec) = false := by simp [h4]
          clear h4
          go_enter Tryz.func120, Tryz.ntmps120
          go_wp2_with (first | (go_at_call 165; refine (swithin_any _ _ _ _).mono ?_; rintro e w' ⟨rfl, rfl⟩) | (go_at_call 108; refine (contains133_any _ _ _ _ (hL.alloc _) hn).mono ?_; rintro e w' ⟨rfl, rfl⟩))
          go_ret
          exact ⟨ret_bool (by rw [HV.out]; simp), hB⟩
        · have h4b : ((kinds.length : Int) == rings * sec) = false := by simpa using h4
          rw [h4b]
          have hne : ((kinds.length : Int) != rings * sec) = true := by simp [h4]
          clear h4 h4b
          go_enter Tryz.func120, Tryz.ntmps120
          go_wp2_with (go_at_call 165; refine (swithin_any _ _ _ _).mono ?_; rintro e w' ⟨rfl, rfl⟩)
          go_ret
          exact ⟨ret_bool (by simp), hB⟩
      · have h3' : inB sec 2 96 = false := by simpa using h3
        rw [h3']
        go_enter Tryz.func120, Tryz.ntmps120
        go_wp2_with (go_at_call 165; refine (swithin_any _ _ _ _).mono ?_; rintro e w' ⟨rfl, rfl⟩)
        go_ret
        exact ⟨ret_bool (by simp), hB⟩
    · have h2' : inB rings 1 24 = false := by simpa using h2
      rw [h2']
      go_enter Tryz.func120, Tryz.ntmps120
      go_wp2_with (go_at_call 165; refine (swithin_any _ _ _ _).mono ?_; rintro e w' ⟨rfl, rfl⟩)
      go_ret
      exact ⟨ret_bool (by simp), hB⟩
  · have h1' : inB eye 1 16 = false := by simpa using h1
    rw [h1']
    go_enter Tryz.func120, Tryz.ntmps120
    go_wp2_with (go_at_call 165; refine (swithin_any _ _ _ _).mono ?_; rintro e w' ⟨rfl, rfl⟩)
    go_ret
    exact ⟨ret_bool (by simp), hB⟩


end Go.Proofs.YteihcodicfoiaaaGreat
namespace Go.Proofs.YteihcodicfoiaaaGreat
open Go.RowKit

def cmpI (a b : Int) : Int := if a < b then -1 else if b < a then 1 else 0

theorem isNaN_any (a : Int) (w : World) : Calls Tryz.prog 171 #[.int .i64 a] w fun e w' => e = .returned (.bool false) ∧ w = w' := by
  go_enter Tryz.func171, Tryz.ntmps171
  go_wp2_with fail
  go_ret
  exact ⟨ret_bool (by simp), rfl⟩

theorem cmpI_any (a b : Int) (w : World) : Calls Tryz.prog 129 #[.int .i64 a, .int .i64 b] w fun e w' => e = .returned (.int .i64 (cmpI a b)) ∧ w = w' := by
  by_cases h1 : a < b
  · have HV : Hid (cmpI a b = -1) := by simp [Hid, cmpI, h1]
    go_enter Tryz.func129, Tryz.ntmps129
    go_wp2_with (go_at_call 171; refine (isNaN_any _ _).mono ?_; rintro e w' ⟨rfl, rfl⟩)
    go_ret
    exact ⟨by rw [HV.out]; rfl, rfl⟩
  · by_cases h2 : b < a
    · have HV : Hid (cmpI a b = 1) := by simp [Hid, cmpI, h1, h2]
      go_enter Tryz.func129, Tryz.ntmps129
      go_wp2_with (go_at_call 171; refine (isNaN_any _ _).mono ?_; rintro e w' ⟨rfl, rfl⟩)
      go_ret
      exact ⟨by rw [HV.out]; rfl, rfl⟩
    · have HV : Hid (cmpI a b = 0) := by simp [Hid, cmpI, h1, h2]
      go_enter Tryz.func129, Tryz.ntmps129
      go_wp2_with (go_at_call 171; refine (isNaN_any _ _).mono ?_; rintro e w' ⟨rfl, rfl⟩)
      go_ret
      exact ⟨by rw [HV.out]; rfl, rfl⟩

def orV : List Int → Int
  | [] => 0
  | x :: xs => if x = 0 then orV xs else x
theorem orV_hit : ∀ (xs : List Int) (k : Nat) (hk : k < xs.length), (∀ j (h : j < xs.length), j < k → xs[j] = 0) → xs[k] ≠ 0 → orV xs = xs[k]
  | x :: xs, 0, _, _, h => by simp at h; simp [orV, h]
  | x :: xs, k + 1, hk, h0, h => by
    have := h0 0 (by simp) (by omega)
    simp at this
    simp [orV, this]
    exact orV_hit xs k (by simpa using hk) (fun j hj hjk => by have := h0 (j + 1) (by simpa using hj) (by omega); simpa using this) (by simpa using h)
theorem orV_none : ∀ (xs : List Int), (∀ j (h : j < xs.length), xs[j] = 0) → orV xs = 0
  | [], _ => rfl
  | x :: xs, h0 => by
    have := h0 0 (by simp)
    simp at this
    simp [orV, this]
    exact orV_none xs (fun j hj => by have := h0 (j + 1) (by simpa using hj); simpa using this)

theorem or_any (A : Option Addr) (c : Nat) (xs : List Int) (w : World) (hL : RowAt w A (intCells xs)) (hn : xs.length ≤ 1000) :
    Calls Tryz.prog 128 #[.slice A xs.length c] w fun e w' => e = .returned (.int .i64 (orV xs)) ∧ w = w' := by
  go_enter Tryz.func128, Tryz.ntmps128
  go_wp2
  go_loop [8] (fun i => ∃ k : Nat, k ≤ xs.length ∧ i = .int .i64 k ∧ Hid (∀ j (h : j < xs.length), j < k → xs[j] = 0)) (fun i => xs.length - (intOf i).toNat)
  case atStart => exact ⟨0, Nat.zero_le _, rfl, fun j _ h => absurd h (by omega)⟩
  case round =>
    obtain ⟨k, hk, rfl, hall⟩ := hrel
    by_cases hlt : k < xs.length
    · obtain ⟨b', off, hA, hb', hc⟩ := hL.int (by omega)
      have c0 := hc k hlt
      clear hc
      rw [hA]
      clear hA
      have HV := Lib.hid (fun j (hj : j < xs.length) (hjk : j < k + 1) (hg : xs[k] = 0) => show xs[j] = 0 by
        rcases Nat.lt_or_ge j k with h | h
        · exact hall.out j hj h
        · obtain rfl : j = k := by omega
          exact hg)
      by_cases hb : xs[k] = 0
      · have HB := Lib.hid hb
        have hne : (xs[k] != 0) = false := by simp [hb]
        rw [hb] at c0
        clear hb hne
        go_wp2_with fail
        go_round
        case rel => exact ⟨k + 1, by omega, by go_num, fun j hj hjk => HV.out j hj hjk HB.out⟩
        case measure => simp [intOf]; omega
      · have HB := Lib.hid hb
        have hne : (xs[k] != 0) = true := by simp [hb]
        clear hb
        go_wp2_with fail
        go_ret
        exact ⟨ret_int (orV_hit xs k hlt hall.out HB.out).symm, rfl⟩
    · have : k = xs.length := by omega
      subst this
      go_wp2
      go_ret
      exact ⟨ret_int (orV_none xs (fun j hj => hall.out j hj hj)).symm, rfl⟩

def cutV (m : Mv) : Int := if m.cut then 1 else 0
def cmpMv (a b : Mv) : Int := orV [cmpI a.out b.out, cmpI a.side b.side, cmpI (cutV a) (cutV b)]
def mvV (m : Mv) : Value := .agg #[.int .i64 m.out, .int .i64 m.side, .bool m.cut]

set_option maxHeartbeats 1000000 in
theorem cut1_any (mo ms : Int) (mc : Bool) (w : World) : Calls Tryz.prog 199 #[.agg #[.int .i64 mo, .int .i64 ms, .bool mc]] w fun e w' => e = .returned (.int .i64 (cutV ⟨mo, ms, mc⟩)) ∧ Below w.heap.size w w' := by
  have hB : Below w.heap.size w (w.alloc (.cells #[.int .i64 mo, .int .i64 ms, .bool mc] 247)) := (Below.refl _ _).alloc (Nat.le_refl _) _
  cases mc
  · go_enter Tryz.func199, Tryz.ntmps199
    go_wp2_with fail
    go_ret
    exact ⟨rfl, hB⟩
  · go_enter Tryz.func199, Tryz.ntmps199
    go_wp2_with fail
    go_ret
    exact ⟨rfl, hB⟩

set_option maxRecDepth 100000 in
set_option maxHeartbeats 4000000 in
theorem compare_any (a b : Mv) (w : World) : Calls Tryz.prog 168 #[mvV a, mvV b] w fun e w' => e = .returned (.int .i64 (cmpMv a b)) ∧ Below w.heap.size w w' := by
  obtain ⟨ao, az, ac⟩ := a
  obtain ⟨bo, bs, bc⟩ := b
  have HV : Hid (cmpMv ⟨ao, az, ac⟩ ⟨bo, bs, bc⟩ = orV [cmpI ao bo, cmpI az bs, cmpI (cutV ⟨ao, az, ac⟩) (cutV ⟨bo, bs, bc⟩)]) := rfl
  unfold mvV
  obtain ⟨W, hW⟩ : ∃ W, (w.alloc (.cells #[.int .i64 ao, .int .i64 az, .bool ac] 247)).alloc (.cells #[.int .i64 bo, .int .i64 bs, .bool bc] 247) = W := ⟨_, rfl⟩
  have hbW : Below w.heap.size w W := by rw [← hW]; exact ((Below.refl _ _).alloc (Nat.le_refl _) _).alloc (by simp) _
  have Y : Bk W w.heap.size 247 #[.int .i64 ao, .int .i64 az, .bool ac] := by rw [← hW]; exact (bk_last rfl).alloc _
  have Z : Bk W (w.heap.size + 1) 247 #[.int .i64 bo, .int .i64 bs, .bool bc] := by rw [← hW]; exact bk_last (by simp)
  have y0 := Y.cell 0
  have y1 := Y.cell 1
  have y2 := Y.cell 2
  have z0 := Z.cell 0
  have z1 := Z.cell 1
  have z2 := Z.cell 2
  simp at y0 y1 y2 z0 z1 z2
  have HW := Lib.hid hW
  clear hW Y Z
  go_enter Tryz.func168, Tryz.ntmps168
  go_upto_region 2 with fail
  rw [HW.out]
  clear HW
  refine wp_region_extmix 17 (by kernel_rfl) (by kernel_rfl) (fun _ _ d _ _ h => by cases d <;> exact h) ?_
  simp only [List.take_succ_cons, List.take_zero, List.drop_succ_cons, List.drop_zero]
  replace y0 := fun x : Ext W => keepc x.bel y0
  replace y1 := fun x : Ext W => keepc x.bel y1
  replace y2 := fun x : Ext W => keepc x.bel y2
  replace z0 := fun x : Ext W => keepc x.bel z0
  replace z1 := fun x : Ext W => keepc x.bel z1
  replace z2 := fun x : Ext W => keepc x.bel z2
  repeat (go_big_quiet_step (first | (go_at_call 129; exact ext_same (cmpI_any _ _ _)) | (go_at_call 199; exact ext_of (cut1_any _ _ _ _))))
  refine wpQuiet_nil ?_
  rintro _ ⟨y, rfl⟩
  clear y0 y1 y2 z0 z1 z2
  have hb2 := y.bel
  generalize y.w = w2 at hb2 ⊢
  have hB := hbW.trans (hb2.mono hbW.size)
  generalize cmpI ao bo = q0 at *
  generalize cmpI az bs = q1 at *
  generalize cmpI (cutV ⟨ao, az, ac⟩) (cutV ⟨bo, bs, bc⟩) = q2 at *
  have hR : RowAt (w2.alloc (.cells #[.int .i64 q0, .int .i64 q1, .int .i64 q2] 3)) (some ⟨w2.heap.size, 0, none⟩) (intCells [q0, q1, q2]) := fun _ => ⟨w2.heap.size, 0, rfl, by simp, fun j u hu => by
    have := three_at w2 (.int .i64 q0) (.int .i64 q1) (.int .i64 q2) 3 w2.heap.size rfl j u hu
    rwa [add_at] at this⟩
  have HO := Lib.hid (or_any _ 3 [q0, q1, q2] _ hR (by simp))
  clear hR
  go_wp2_with (go_at_call 128; refine (HO.out).mono ?_; rintro e w' ⟨rfl, rfl⟩)
  go_ret
  exact ⟨by rw [HV.out]; rfl, hB.alloc hB.size _⟩

end Go.Proofs.YteihcodicfoiaaaGreat
