/-
  What is proved: as in Mix, for a region of two halves: n1 quiet operations, then up to m one after the other (they may write), then quiet ones again up to n2, and the others one after the other. For any program.
  What is proved: plain laws for (*judge).right.
-/
import Derived.Test.YthmngnfdfelkeaaMix
import Derived.Test.YthmngnfdfelkeaaMg35
import Derived.Test.YthmngnfdfelkeaaReach3Mg
namespace Go.Proofs.Ythmngnfdfelkeaa
open Go Go.RowKit

section
variable {P : Program} {ops : Array Oper} {md : Region.Mode} {C : World → Prop}

theorem oper_mono {o : Oper} {a : Act} {w : World} {K K' : Act → World → Prop} {Q Q' : Exit → Act → World → Prop} (h : ∀ a w, K a w → K' a w)
    (hp : ∀ c a w, Q (.panic c) a w → Q' (.panic c) a w) (ho : LetsOut Q → LetsOut Q') (hh : o.wp P a w K Q) : o.wp P a w K' Q' := by
  unfold Oper.wp at *
  generalize (execOp a.eval o).run P w = r at *
  cases r with
  | ok n w' =>
    cases n <;> simp only [Oper.upon] at hh ⊢ <;>
      first
        | exact h _ _ hh
        | exact Calls.mono hh (fun e w'' he => by cases e <;> first | exact h _ _ he | exact hp _ _ _ he | exact ho he)
        | exact Rows.mono hh (fun _ _ he => h _ _ he)
  | halt x w' => cases x <;> simp only [Oper.upon] at hh ⊢ <;> first | exact hp _ _ _ hh | exact hh

def headE (md : Region.Mode) (ops : Array Oper) (E : Array Bool → Bool) : Nat → Nat → Array Bool → Bool
  | 0, _, listed => E listed
  | f + 1, k, listed => (Region.ready md ops listed).contains k && Region.free md ops listed k && headE md ops E f (k + 1) (listed.setIfInBounds k true)
def serE (md : Region.Mode) (ops : Array Oper) (E : Array Bool → Bool) : Nat → Nat → Array Bool → Bool
  | 0, _, listed => E listed
  | f + 1, k, listed => decide (Region.ready md ops listed = [k]) && serE md ops E f (k + 1) (listed.setIfInBounds k true)

theorem set_done {k : Nat} {listed : Array Bool} (h : ∀ j, j < k → listed.getD j true = true) : ∀ j, j < k + 1 → (listed.setIfInBounds k true).getD j true = true := fun j hj => by
  by_cases hjk : k = j
  · subst hjk
    rcases Nat.lt_or_ge k listed.size with h1 | h1
    · simp [h1]
    · simp
  · rw [getD_set_ne true hjk]; exact h j (by omega)

theorem wpAnyM_lexE {n : Nat} {E : Array Bool → Bool} {Lq : Act → Prop} (hsel : Region.noSelect ops = true) (hs : Region.sinkB md ops n = true) (hc : treeB md ops n = true) (hn : n < ops.size) :
    ∀ (l : List Oper) (k : Nat) (listed : Array Bool) (a : Act), (∀ j, j < l.length → l[j]? = ops[k + j]?) → k + l.length = n → HeadInv md ops n listed → (∀ j, j < k → listed.getD j true = true) →
    headE md ops E l.length k listed = true → wpQuiet P ops C Lq l a →
    wpAnyM P md ops C n (fun listed' a' => (∀ j, j < n → listed'.getD j true = true) ∧ HeadInv md ops n listed' ∧ E listed' = true ∧ Lq a') l.length listed a
  | [], k, listed, a, _, hk, inv, hlk, hB, h => by
    have : k = n := by simpa using hk
    subst this
    exact ⟨hlk, inv, by simpa [headE] using hB, h⟩
  | o :: l, k, listed, a, hl, hk, inv, hlk, hB, h => by
    have h0 : ops[k]? = some o := by simpa using (hl 0 (by simp)).symm
    simp only [List.length_cons, headE, Bool.and_eq_true] at hB
    obtain ⟨⟨hr, hf⟩, hB'⟩ := hB
    have hkn : k < n := by simp only [List.length_cons] at hk; omega
    have hr' : k ∈ Region.ready md ops listed := by simpa using hr
    have hst : qOp P ops C k (wpQuiet P ops C Lq l) a := by unfold qOp; simp only [h0]; exact h
    obtain ⟨v, hy, hK⟩ := yieldsIn_of_qOp h0 hst
    refine wpAnyM_first h0 (Region.noSelect_spec hsel) hs hc hn hkn (fun listed' a' hL j hj => ?_) l.length listed a inv (Region.free_spec h0 hf) hr' hy
      (wpAnyM_lexE hsel hs hc hn l (k + 1) _ _ (fun j hj => by have := hl (j + 1) (by simp; omega); simpa [Nat.add_assoc, Nat.add_comm 1 j] using this) (by simp only [List.length_cons] at hk; omega) (inv.set hr' hkn) (set_done hlk) hB' hK)
    have h1 := (mem_ready.1 hj).1
    rcases Nat.lt_or_ge j n with h2 | h2
    · rw [hL.1 j h2] at h1
      cases h1
    · exact h2

/-- What is asked where the first half ends. -/
def stageQ (Q : Exit → Act → World → Prop) (S : Act → World → Prop) : Exit → Act → World → Prop
  | .normal, a, w => S a w
  | e, a, w => Q e a w

theorem wpAny_serE {n g : Nat} {E : Array Bool → Bool} {Q : Exit → Act → World → Prop} {S : Act → World → Prop}
    (hend : ∀ listed a w, HeadInv md ops n listed → E listed = true → S a w → wpAny P md ops Q g listed a w) :
    ∀ (l : List Oper) (k : Nat) (listed : Array Bool) (a : Act) (w : World), (∀ j, j < l.length → l[j]? = ops[k + j]?) → k + l.length ≤ n → HeadInv md ops n listed →
    serE md ops E l.length k listed = true → wpList P ops (stageQ Q S) l a w → wpAny P md ops Q (l.length + g) listed a w
  | [], k, listed, a, w, _, _, inv, hB, h => by
    simp only [List.length_nil, Nat.zero_add]
    exact hend _ _ _ inv (by simpa [serE] using hB) h
  | o :: l, k, listed, a, w, hl, hk, inv, hB, h => by
    have h0 : ops[k]? = some o := by simpa using (hl 0 (by simp)).symm
    simp only [List.length_cons, serE, Bool.and_eq_true, decide_eq_true_eq] at hB hk
    obtain ⟨hB1, hB2⟩ := hB
    have hr : k ∈ Region.ready md ops listed := by rw [hB1]; simp
    rw [List.length_cons, show l.length + 1 + g = (l.length + g) + 1 by omega]
    refine ⟨fun h1 => (by rw [hB1] at h1; cases h1), fun i hi => ?_⟩
    rw [hB1] at hi
    have hik : i = k := by simpa using hi
    subst hik
    have key : ∀ a' w', wpList P ops (stageQ Q S) l a' w' → wpAny P md ops Q (l.length + g) (listed.setIfInBounds i true) a' w' := fun a' w' h' =>
      wpAny_serE hend l (i + 1) _ a' w' (fun j hj => by have := hl (j + 1) (by simp; omega); simpa [Nat.add_assoc, Nat.add_comm 1 j] using this) (by omega) (inv.set hr (by omega)) hB2 h'
    have hlo : LetsOut (stageQ Q S) → LetsOut Q := fun ⟨a, w, h⟩ => ⟨a, w, h⟩
    unfold wpOp
    simp only [h0]
    unfold wpList at h
    split
    · rename_i hw
      rw [if_pos hw] at h
      exact h.imp (oper_mono key (fun _ _ _ h => h) hlo) (fun h => ⟨h.1, hlo h.2⟩)
    · rename_i hw
      rw [if_neg hw] at h
      exact key _ _ h

def mix2B (md : Region.Mode) (ops : Array Oper) (n1 m n2 : Nat) : Bool :=
  Region.noSelect ops && decide (n1 ≤ m) && decide (m ≤ n2) && decide (n2 < ops.size) && Region.sinkB md ops n1 && treeB md ops n1 && Region.sinkB md ops n2 && treeB md ops n2 &&
    headE md ops (serE md ops (headE md ops (seqM md ops (ops.size - n2) n2) (n2 - m) m) (m - n1) n1) n1 0 (Array.replicate ops.size false)

theorem wp_region_mix2 {id : Nat} {Q : Exit → Act → World → Prop} {a : Act} {w : World} {l : List Oper} (n1 m n2 : Nat) (C2 : World → World → Prop) (hC2 : ∀ w, C2 w w) (hm : P.follows .mixedOrders = true) (hB : mix2B .any l.toArray n1 m n2 = true)
    (hQ : ∀ c a (d : Option Tmp) (v : Value) w, Q (.panic c) (a.put d v) w → Q (.panic c) a w) (hC : C { w with drawn := w.drawn + 1 })
    (h : wpQuiet P l.toArray C (fun a1 => ∀ w1, C w1 → wpList P l.toArray (stageQ Q fun a2 w2 => wpQuiet P l.toArray (C2 w2) (fun a3 => ∀ w3, C2 w2 w3 → wpList P l.toArray Q (l.drop n2) a3 w3) ((l.drop m).take (n2 - m)) a2) ((l.drop n1).take (m - n1)) a1 w1) (l.take n1) a) :
    (Code.region id l.toArray true).wp P Q a w := by
  simp only [mix2B, Bool.and_eq_true, decide_eq_true_eq] at hB
  obtain ⟨⟨⟨⟨⟨⟨⟨⟨hsel, h1m⟩, hm2⟩, hn⟩, hs1⟩, hc1⟩, hs2⟩, hc2⟩, hlex⟩ := hB
  have hn' : n2 < l.length := by simpa using hn
  have htl : (l.take n1).length = n1 := by simp; omega
  have hml : ((l.drop n1).take (m - n1)).length = m - n1 := by simp; omega
  have h2l : ((l.drop m).take (n2 - m)).length = n2 - m := by simp; omega
  have hdl : (l.drop n2).length = l.toArray.size - n2 := by simp
  have inv0 : HeadInv .any l.toArray n1 (Array.replicate l.toArray.size false) :=
    ⟨by simp, fun j oj _ hl => (by rw [getD_replicate_false] at hl; cases hl), fun t _ ht => getD_in (by simpa using ht) (getD_replicate_false _ _)⟩
  have H := wpAnyM_lexE (md := .any) (E := serE .any l.toArray (headE .any l.toArray (seqM .any l.toArray (l.toArray.size - n2) n2) (n2 - m) m) (m - n1) n1) hsel hs1 hc1 (by simp; omega) (l.take n1) 0 _ a (fun j hj => by
    have hj' : j < n1 := by rw [htl] at hj; exact hj
    simp [hj']) (by simpa using htl) inv0 (fun j hj => absurd hj (by omega)) (by rw [htl]; exact hlex) h
  refine wp_region_any hm ?_
  have := wpAny_of_headM (Q' := Q) (g := (m - n1) + ((n2 - m) + (l.toArray.size - n2))) (fun listed a' hL w' hw' => by
    obtain ⟨hd, inv, hE, hq⟩ := hL
    have inv2 : HeadInv .any l.toArray n2 listed := ⟨inv.size, inv.closed, fun t h1 h2 => inv.tail t (by omega) h2⟩
    have hE' : serE .any l.toArray (fun listed => (List.range m).all (fun j => listed.getD j true) && headE .any l.toArray (seqM .any l.toArray (l.toArray.size - n2) n2) (n2 - m) m listed) (m - n1) n1 listed = true := by
      have gen : ∀ (f k : Nat) (listed : Array Bool), k + f = m → (∀ j, j < k → listed.getD j true = true) → serE .any l.toArray (headE .any l.toArray (seqM .any l.toArray (l.toArray.size - n2) n2) (n2 - m) m) f k listed = true →
          serE .any l.toArray (fun listed => (List.range m).all (fun j => listed.getD j true) && headE .any l.toArray (seqM .any l.toArray (l.toArray.size - n2) n2) (n2 - m) m listed) f k listed = true := by
        intro f
        induction f with
        | zero =>
          intro k listed hk hd h
          have : k = m := by omega
          subst this
          simp only [serE, Bool.and_eq_true, List.all_eq_true, List.mem_range] at h ⊢
          exact ⟨hd, h⟩
        | succ f ih =>
          intro k listed hk hd h
          simp only [serE, Bool.and_eq_true] at h ⊢
          exact ⟨h.1, ih (k + 1) _ (by omega) (set_done hd) h.2⟩
      exact gen (m - n1) n1 listed (by omega) hd hE
    have := wpAny_serE (P := P) (md := .any) (ops := l.toArray) (n := n2) (g := (n2 - m) + (l.toArray.size - n2)) (Q := Q)
      (S := fun a2 w2 => wpQuiet P l.toArray (C2 w2) (fun a3 => ∀ w3, C2 w2 w3 → wpList P l.toArray Q (l.drop n2) a3 w3) ((l.drop m).take (n2 - m)) a2)
      (E := fun listed => (List.range m).all (fun j => listed.getD j true) && headE .any l.toArray (seqM .any l.toArray (l.toArray.size - n2) n2) (n2 - m) m listed)
      (fun listed2 a2 w2 inv hE2 hS => by
        simp only [Bool.and_eq_true, List.all_eq_true, List.mem_range] at hE2
        have H2 := wpAnyM_lexE (md := .any) (C := C2 w2) (E := seqM .any l.toArray (l.toArray.size - n2) n2) hsel hs2 hc2 hn ((l.drop m).take (n2 - m)) m listed2 a2 (fun j hj => by
          rw [h2l] at hj
          rw [List.getElem?_take, if_pos hj, List.getElem?_drop, List.getElem?_toArray]) (by rw [h2l]; omega) inv hE2.1 (by rw [h2l]; exact hE2.2) hS
        have := wpAny_of_headM (Q' := Q) (g := l.toArray.size - n2) (fun listed3 a3 hL3 w3 hw3 => by
          have := wpAny_of_mix (md := .any) hsel hQ (l.drop n2) n2 listed3 a3 w3 (fun j => by simp [List.getElem?_drop]) (by rw [hdl]; exact hL3.2.2.1) (hL3.2.2.2 w3 hw3)
          rwa [hdl] at this) _ _ _ w2 (hC2 w2) H2
        rwa [h2l] at this) ((l.drop n1).take (m - n1)) n1 listed a' w' (fun j hj => by
          rw [hml] at hj
          rw [List.getElem?_take, if_pos hj, List.getElem?_drop, List.getElem?_toArray]) (by rw [hml]; omega) inv2 (by rw [hml]; exact hE') (hq w' hw')
    rwa [hml] at this) _ _ _ _ hC H
  rw [htl, show n1 + ((m - n1) + ((n2 - m) + (l.toArray.size - n2))) = l.toArray.size by simp; omega] at this
  exact this

end
end Go.Proofs.Ythmngnfdfelkeaa
namespace Go.Proofs.Ythmngnfdfelkeaa
open Go.RowKit
attribute [local go_sem ↓] max_int min_int

theorem sumB_bare (sum p a : Int) (way : Int × Int) (nk : Nat) (lo : List Int) : sumB sum p a way nk lo = (decide (sum ≤ sumF lo 8) && bareB p a way nk 0 0 (0, 0) 0) := by
  simp only [sumB, bareB]
  cases p == 0 <;> cases a == 0 <;> cases (way.1 == 0 && way.2 == 0) <;> cases (nk : Int) == 0 <;> cases decide (sum ≤ sumF lo 8) <;> simp_all
theorem farT_bare (s : Stn) (p a : Int) (way : Int × Int) (nk : Nat) (lo hi : List Int) : farT s p a way nk lo hi = (wayB way && (apartB s way lo hi && bareB p a way nk 0 0 way 0)) := by
  simp only [farT, bareB]
  cases p == 0 <;> cases a == 0 <;> cases (nk : Int) == 0 <;> cases wayB way <;> cases apartB s way lo hi <;> simp_all
theorem braB_bare (s : Stn) (p a : Int) (way : Int × Int) (nk : Nat) (lo hi : List Int) : braB s p a way nk lo hi = (bareB p a way nk p a (0, 0) 2 && (inB p 0 ((s.pockets.length : Int) - 1) && (decide (lo.getD p.toNat 0 ≤ a) && decide (a < hi.getD p.toNat 0)))) := by
  simp only [braB, bareB]
  cases (way.1 == 0 && way.2 == 0) <;> cases (nk : Int) == 2 <;> cases inB p 0 ((s.pockets.length : Int) - 1) <;> simp_all

theorem makeTwo (W : World) : (Instr.makeSlice 47 (.int .i64 2) (.int .i64 2)).run Try.prog W = .ok (.slice (some ⟨W.heap.size, 0, none⟩) 2 2) (W.alloc (.cells #[.int .i64 0, .int .i64 0, .int .i64 0, .int .i64 0, .int .i64 0, .slice none 0 0, .int .i64 0, .int .i64 0, .int .i64 0, .int .i64 0, .int .i64 0, .slice none 0 0] 49)) := by
  kernel_rfl

theorem check3_none {s : Stn} {sum p a : Int} {n c : Nat} {way : Int × Int} {A : Option Addr} {kids : List Tr} {lo hi : List Int} (h : braB s p a way kids.length lo hi = false) : checkF s sum (n + 1) (.mk 3 p a way A c kids) lo hi = none := by
  simp [checkF, h]
theorem check3_two {s : Stn} {sum p a : Int} {n c : Nat} {way : Int × Int} {A : Option Addr} {x y : Tr} {lo hi : List Int} (h : braB s p a way 2 lo hi = true) : checkF s sum (n + 1) (.mk 3 p a way A c [x, y]) lo hi =
    match checkF s sum n x lo (hi.set p.toNat a) with
    | none => none
    | some m => match checkF s sum n y (lo.set p.toNat (a + 1)) hi with
      | none => none
      | some m' => some (m + m') := by
  have h2 : braB s p a way ([x, y] : List Tr).length lo hi = true := h
  simp only [checkF, h2]
  rfl
theorem list_two {α : Type} {l : List α} (h : l.length = 2) : ∃ x y, l = [x, y] := by
  match l, h with
  | [x, y], _ => exact ⟨x, y, rfl⟩

def judgeA (g : Nat) (sum L : Int) : Array Value := #[.pointer (some ⟨g, 0, none⟩), .int .i64 sum, .int .i64 L]
/-- What right leaves. -/
def RightPost (g J : Nat) (sum L : Int) (r : Option Nat) (size : Nat) (w : World) (e : Ending) (w' : World) : Prop :=
  e = .returned (.bool r.isSome) ∧ w.grownBy w' (some J) ∧ ∃ L' : Int, Bk w' J 142 (judgeA g sum L') ∧ (∀ m, r = some m → L' = L + m) ∧ L ≤ L' ∧ L' ≤ L + size

theorem right_none {g J : Nat} {sum L : Int} {size : Nat} {w w' : World} {b : Bool} (hb : b = false) (hB : Below w.heap.size w w') (hJ : Bk w' J 142 (judgeA g sum L)) : RightPost g J sum L none size w (.returned (.bool b)) w' :=
  ⟨by rw [hb]; rfl, ⟨hB.os, hB.tape, hB.output, hB.size, fun k hk _ => hB.block k hk⟩, L, hJ, by simp, by omega, by omega⟩
theorem right_leaf {g J : Nat} {sum L : Int} {size : Nat} {w w' : World} {b : Bool} (hb : b = true) (hs : 1 ≤ size) (hB : Below w.heap.size w w') (hJ : Bk w' J 142 (judgeA g sum L)) :
    RightPost g J sum L (some 1) size w (.returned (.bool b)) (w'.setCell ⟨J, 2, none⟩ (.int .i64 (L + 1))) := by
  refine ⟨by rw [hb]; rfl, ⟨hB.os, hB.tape, hB.output, by have := hB.size; simpa using this, fun k hk hne => ?_⟩, L + 1, hJ.put 2 _, by simp, by omega, by omega⟩
  exact (Below.heap_setCell w' _ _ k (fun e => hne (by rw [e]))).trans (hB.block k hk)

end Go.Proofs.Ythmngnfdfelkeaa
