/-
  Words for memory and small laws that name no program.
  What is proved: as in Mix, but the region's first s operations look at no world and are taken ahead of all others.
-/
import Derived.Test.YteihcodicfoiaaaGreatRows
import Derived.WalkKit
import Derived.BigQuiet
import Derived.Deep.QuietTactic
import Derived.WalkLawsBesides
import Derived.WalkSpells
import Derived.Outline
import Derived.Lib.Hide
import Derived.Handy
import Derived.Test.YteihcodicfoiaaaGreatMix
namespace Go.Proofs.YteihcodicfoiaaaGreat
open Go.RowKit

theorem ret_bool {a b : Bool} (h : a = b) : Ending.returned (.bool a) = .returned (.bool b) := by rw [h]

theorem ret_int {k : IntKind} {a b : Int} (h : a = b) : Ending.returned (.int k a) = .returned (.int k b) := by rw [h]

/-- lo ≤ n and n ≤ hi, as a Bool of its own. -/

def inB (n lo hi : Int) : Bool := decide (lo ≤ n ∧ n ≤ hi)

theorem bcell {W w1 : World} (hb : Below W.heap.size W w1) : (∀ b o, b < W.heap.size → w1.cell? ⟨b, o, none⟩ = W.cell? ⟨b, o, none⟩) ∧ (∀ b o, b < W.heap.size → w1.frozen? ⟨b, o, none⟩ = W.frozen? ⟨b, o, none⟩) :=
  ⟨fun b o h => hb.cell (p := ⟨b, o, none⟩) h, fun b o h => hb.frozen (p := ⟨b, o, none⟩) h⟩

/-- The slice value that starts at A reads as the cells xs. -/

def RowAt (w : World) (A : Option Addr) (xs : List Value) : Prop :=
  0 < xs.length → ∃ b off, A = some ⟨b, off, none⟩ ∧ b < w.heap.size ∧ ∀ j u, xs[j]? = some u → w.cell? ⟨b, off + j, none⟩ = some u

theorem RowAt.keep {w w' : World} {A : Option Addr} {xs : List Value} (h : RowAt w A xs) (hz : w.heap.size ≤ w'.heap.size) (hk : ∀ b o, b < w.heap.size → w'.cell? ⟨b, o, none⟩ = w.cell? ⟨b, o, none⟩) : RowAt w' A xs := fun hn => by
  obtain ⟨b, off, e, hb, hc⟩ := h hn
  exact ⟨b, off, e, by omega, fun j u hu => (hk _ _ hb).trans (hc j u hu)⟩

theorem RowAt.below {w w' : World} {A : Option Addr} {xs : List Value} (h : RowAt w A xs) (hb : Below w.heap.size w w') : RowAt w' A xs :=
  h.keep hb.size (bcell hb).1

theorem RowAt.alloc {w : World} {A : Option Addr} {xs : List Value} (h : RowAt w A xs) (o : Obj) : RowAt (w.alloc o) A xs :=
  h.keep (by simp) fun b o' hb => World.cell?_alloc_lt w o _ hb

theorem RowAt.drewN {w : World} {A : Option Addr} {xs : List Value} (h : RowAt w A xs) (n : Nat) : RowAt (w.drewN n) A xs := h

/-- .. as these meshes. -/

theorem flat_get {α : Type} (f : α → List Value) (k : Nat) (hf : ∀ x, (f x).length = k) (_hk : 0 < k) (L : List α) (i j : Nat) (hi : i < L.length) (hj : j < k) : (L.flatMap f)[i * k + j]? = (f L[i])[j]? := by
  induction L generalizing i with
  | nil => simp at hi
  | cons a L ih =>
    cases i with
    | zero => simp [List.getElem?_append, hf, hj]
    | succ i =>
      have h1 : (i + 1) * k + j = k + (i * k + j) := by rw [Nat.add_mul]; omega
      simp only [List.flatMap_cons, List.getElem?_append, hf]
      rw [if_neg (by omega), h1, Nat.add_sub_cancel_left]
      exact ih i (by simpa using hi)

theorem flat_len {α : Type} (f : α → List Value) (k : Nat) (hf : ∀ x, (f x).length = k) (L : List α) : (L.flatMap f).length = L.length * k := by
  induction L with
  | nil => simp
  | cons a L ih => simp [hf, ih, Nat.add_mul]; omega

def Bk (w : World) (g : Nat) (t : TypeId) (cs : Array Value) : Prop := w.heap[g]? = some (.cells cs t (0, 0))

section
variable {w w' : World} {g : Nat} {t : TypeId} {cs : Array Value}
theorem Bk.lt (h : Bk w g t cs) : g < w.heap.size := (Array.getElem?_eq_some_iff.1 h).1
theorem Bk.cell (h : Bk w g t cs) (i : Nat) : w.cell? ⟨g, i, none⟩ = cs[i]? := cell_of_row w g i cs t (0, 0) h
theorem Bk.fz (h : Bk w g t cs) (i : Nat) : w.frozen? ⟨g, i, none⟩ = false := by
  have h' : w.heap[g]? = some (.cells cs t (0, 0)) := h
  simp [World.frozen?, h']
theorem Bk.new (w : World) (t : TypeId) (cs : Array Value) : Bk (w.alloc (.cells cs t)) w.heap.size t cs := heap_alloc_new w _
theorem Bk.alloc (h : Bk w g t cs) (o : Obj) : Bk (w.alloc o) g t cs := (Below.heap_alloc w o g h.lt).trans h
theorem Bk.drewN (h : Bk w g t cs) (n : Nat) : Bk (w.drewN n) g t cs := h
theorem Bk.drew (h : Bk w g t cs) : Bk w.drew g t cs := h
theorem Bk.far (h : Bk w g t cs) {p : Addr} (hp : g ≠ p.block) (u : Value) : Bk (w.setCell p u) g t cs := (Below.heap_setCell w p u g hp).trans h
theorem Bk.put (h : Bk w g t cs) (i : Nat) (u : Value) : Bk (w.setCell ⟨g, i, none⟩ u) g t (cs.setIfInBounds i u) := by
  have h' : w.heap[g]? = some (.cells cs t (0, 0)) := h
  show (w.setCell ⟨g, i, none⟩ u).heap[g]? = _
  simp [World.setCell, Array.getElem?_modify, h']
theorem Bk.below {B : Nat} (h : Bk w g t cs) (hb : Below B w w') (hg : g < B) : Bk w' g t cs := (hb.block g hg).trans h
theorem Bk.ne {g' : Nat} {t' : TypeId} {cs' : Array Value} (h : Bk w g t cs) (h' : Bk w g' t' cs') (hne : t ≠ t') : g ≠ g' := by
  rintro rfl
  have h1 : w.heap[g]? = some (.cells cs t (0, 0)) := h
  have h2 : w.heap[g]? = some (.cells cs' t' (0, 0)) := h'
  rw [h1] at h2
  injection h2 with h2
  injection h2 with _ h2
  exact hne h2
end

theorem below_drewN {B : Nat} {a w : World} (h : Below B a w) (n : Nat) : Below B a (w.drewN n) := ⟨h.os, h.tape, h.output, h.size, h.block⟩

/-- What a call's own slice holds, from its block. -/

theorem own_some {w : World} {base : Nat} {e : TypeId} {size : Nat} {v : Value} {n : Nat} {xs : List Value} (h : w.ownsRow base e size v n xs) (hn : 0 < n) :
    ∃ (g cap : Nat) (cur : Array Value), v = .slice (some ⟨g, 0, none⟩) n cap ∧ base ≤ g ∧ Bk w g e cur ∧ n ≤ cap ∧ cur.size = cap * size ∧ ∀ (j : Nat) (u : Value), xs[j]? = some u → cur[j]? = some u := by
  rcases h.2 with ⟨_, h0⟩ | ⟨g, cap, cur, hv, hb, hg, hnc, _, hs, ht⟩
  · omega
  · refine ⟨g, cap, cur, hv, hb, hg, hnc, hs, fun j u hu => ?_⟩
    rw [← ht, List.getElem?_take] at hu
    split at hu
    · simpa using hu
    · cases hu

def oneCells (xs : List Value) : Prop := ∀ u ∈ xs, u.oneCell' = true

theorem add_at (b off j : Nat) : (⟨b, off, none⟩ : Addr).add j = ⟨b, off + j, none⟩ := by
  unfold Addr.add
  split
  · rename_i h; subst h; rfl
  · rfl

/-- The cells xs lie from ⟨b, off⟩ on. -/

def RowB (w : World) (b off : Nat) (xs : List Value) : Prop := b < w.heap.size ∧ ∀ (j : Nat) (u : Value), xs[j]? = some u → w.cell? ⟨b, off + j, none⟩ = some u

theorem RowB.keep {w w' : World} {b off : Nat} {xs : List Value} (h : RowB w b off xs) (hb : Below w.heap.size w w') : RowB w' b off xs :=
  ⟨Nat.lt_of_lt_of_le h.1 hb.size, fun j u hu => ((bcell hb).1 _ _ h.1).trans (h.2 j u hu)⟩

theorem RowB.alloc {w : World} {b off : Nat} {xs : List Value} (h : RowB w b off xs) (o : Obj) : RowB (w.alloc o) b off xs := h.keep ((Below.refl _ _).alloc (Nat.le_refl _) o)

theorem RowAt.some_ {w : World} {A : Option Addr} {xs : List Value} (h : RowAt w A xs) (h0 : 0 < xs.length) : ∃ b off, A = some ⟨b, off, none⟩ ∧ RowB w b off xs := by
  obtain ⟨b, off, e, hb, hc⟩ := h h0
  exact ⟨b, off, e, hb, hc⟩

theorem RowB.add {w : World} {b off : Nat} {xs : List Value} (h : RowB w b off xs) : ∀ (j : Nat) (u : Value), xs[j]? = some u → w.cell? ((⟨b, off, none⟩ : Addr).add j) = some u :=
  fun j u hu => by rw [add_at]; exact h.2 j u hu

theorem bk_last {w : World} {n : Nat} {t : TypeId} {cs : Array Value} (h : w.heap.size = n) : Bk (w.alloc (.cells cs t)) n t cs := by subst h; exact Bk.new w t cs

theorem keepc {W w1 : World} {b o : Nat} {v : Value} (hb : Below W.heap.size W w1) (h : W.cell? ⟨b, o, none⟩ = some v) : w1.cell? ⟨b, o, none⟩ = some v :=
  (hb.cell (p := ⟨b, o, none⟩) (World.block_lt_of_cell? W _ h)).trans h

theorem two_at (w : World) (u v : Value) (t : TypeId) (n : Nat) (h : w.heap.size = n) : ∀ (j : Nat) (x : Value), [u, v][j]? = some x → (w.alloc (.cells #[u, v] t)).cell? ((⟨n, 0, none⟩ : Addr).add j) = some x := by
  subst h
  intro j x hx
  rw [add_at]
  match j with
  | 0 => simp at hx; subst hx; simp
  | 1 => simp at hx; subst hx; simp
  | j + 2 => simp at hx

theorem own_row {w : World} {base : Nat} {e : TypeId} {size : Nat} {v : Value} {n : Nat} {xs : List Value} (h : w.ownsRow base e size v n xs) (hn : 0 < n) :
    ∃ g cap, v = .slice (some ⟨g, 0, none⟩) n cap ∧ base ≤ g ∧ RowB w g 0 xs := by
  obtain ⟨g, cap, cur, hv, hb, hg, _, _, hx⟩ := own_some h hn
  exact ⟨g, cap, hv, hb, hg.lt, fun j u hu => by rw [Nat.zero_add, hg.cell]; exact hx j u hu⟩

/-- The ratio of a train. -/

theorem RowAt.drew_ {w : World} {A : Option Addr} {xs : List Value} (h : RowAt w A xs) : RowAt w.drew A xs := h

theorem own_rowB {w : World} {base : Nat} {e : TypeId} {size n cap g : Nat} {xs : List Value} (h : w.ownsRow base e size (.slice (some ⟨g, 0, none⟩) n cap) n xs) : RowB w g 0 xs := by
  rcases h.2 with ⟨hv, _⟩ | ⟨g', cap', cur, hv, hb, hg, hnc, _, hs, ht⟩
  · cases hv
  · injection hv with hv
    injection hv with hv
    injection hv with hv
    subst hv
    have hk : Bk w g e cur := hg
    refine ⟨hk.lt, fun j u hu => ?_⟩
    rw [Nat.zero_add, hk.cell]
    rw [← ht, List.getElem?_take] at hu
    split at hu
    · simpa using hu
    · cases hu

theorem Bk.grown {w w' : World} {g : Nat} {t : TypeId} {cs : Array Value} {row : Option Nat} (h : Bk w g t cs) (hb : w.grownBy w' row) (hg : some g ≠ row) : Bk w' g t cs := (hb.block g h.lt hg).trans h

theorem own_ne {w : World} {base : Nat} {e : TypeId} {size : Nat} {v : Value} {n : Nat} {xs : List Value} (h : w.ownsRow base e size v n xs) {b : Nat} (hb : b < base) : some b ≠ v.ownBlock := by
  intro e
  have := (h.lt b e.symm).1
  omega

theorem own_base {w : World} {base base' : Nat} {e : TypeId} {size : Nat} {v : Value} {n : Nat} {xs : List Value} (h : w.ownsRow base e size v n xs) (hb : base' ≤ base) : w.ownsRow base' e size v n xs := by
  refine ⟨h.1, ?_⟩
  rcases h.2 with h2 | ⟨g, cap, cur, hv, hg, r⟩
  · exact .inl h2
  · exact .inr ⟨g, cap, cur, hv, by omega, r⟩

theorem own_keep {w w1 : World} {base : Nat} {e : TypeId} {size : Nat} {v : Value} {n : Nat} {xs : List Value} (h : w.ownsRow base e size v n xs) (hb : Below w.heap.size w w1) : w1.ownsRow base e size v n xs := by
  refine ⟨h.1, ?_⟩
  rcases h.2 with h2 | ⟨g, cap, cur, hv, hg, hh, r⟩
  · exact .inl h2
  · exact .inr ⟨g, cap, cur, hv, hg, (hb.block g (Array.getElem?_eq_some_iff.1 hh).1).trans hh, r⟩

def intCells (xs : List Int) : List Value := xs.map (.int .i64 ·)

theorem intCells_len (xs : List Int) : (intCells xs).length = xs.length := by simp [intCells]

theorem RowAt.int {w : World} {A : Option Addr} {xs : List Int} (h : RowAt w A (intCells xs)) (h0 : 0 < xs.length) :
    ∃ b off, A = some ⟨b, off, none⟩ ∧ b < w.heap.size ∧ ∀ k (hk : k < xs.length), w.cell? ⟨b, off + k, none⟩ = some (.int .i64 xs[k]) := by
  obtain ⟨b, off, e, hb, hc⟩ := h (by rw [intCells_len]; exact h0)
  exact ⟨b, off, e, hb, fun k hk => hc k _ (by simp [intCells, hk])⟩

theorem intCells_one (l : List Int) : ∀ u ∈ intCells l, u.oneCell' = true := by
  intro u hu
  obtain ⟨x, _, rfl⟩ := List.mem_map.1 hu
  rfl

theorem own_form {w : World} {base : Nat} {e : TypeId} {size : Nat} {v : Value} {n : Nat} {xs : List Value} (h : w.ownsRow base e size v n xs) :
    ∃ A c, v = .slice A n c ∧ n ≤ c ∧ RowAt w A xs ∧ ∀ g, v.ownBlock = some g → base ≤ g ∧ g < w.heap.size := by
  have hl := h.lt
  have hlen := h.1
  rcases h.2 with ⟨rfl, rfl⟩ | ⟨g, cap, cur, rfl, hb, hg, hnc, _, hs, ht⟩
  · refine ⟨none, 0, rfl, Nat.le_refl _, fun h0 => ?_, hl⟩
    simp at hlen
    simp [hlen] at h0
  · refine ⟨some ⟨g, 0, none⟩, cap, rfl, hnc, fun _ => ⟨g, 0, rfl, (Array.getElem?_eq_some_iff.1 hg).1, fun j u hu => ?_⟩, hl⟩
    rw [Nat.zero_add, cell_of_row w g j cur e (0, 0) hg]
    rw [← ht, List.getElem?_take] at hu
    split at hu
    · simpa using hu
    · cases hu

theorem World.grownBy_refl (w : World) (row : Option Nat) : w.grownBy w row := ⟨rfl, rfl, rfl, Nat.le_refl _, fun _ _ _ => rfl⟩

theorem three_at (w : World) (u v x : Value) (t : TypeId) (n : Nat) (h : w.heap.size = n) : ∀ (j : Nat) (y : Value), [u, v, x][j]? = some y → (w.alloc (.cells #[u, v, x] t)).cell? ((⟨n, 0, none⟩ : Addr).add j) = some y := by
  subst h
  intro j y hy
  rw [add_at]
  match j with
  | 0 => simp at hy; subst hy; simp
  | 1 => simp at hy; subst hy; simp
  | 2 => simp at hy; subst hy; simp
  | j + 3 => simp at hy

theorem own_far {w : World} {base : Nat} {e : TypeId} {size : Nat} {v : Value} {n : Nat} {xs : List Value} (h : w.ownsRow base e size v n xs) {a : Addr} (ha : v.ownBlock ≠ some a.block) (u : Value) : (w.setCell a u).ownsRow base e size v n xs :=
  h.kept (row := some a.block) ⟨rfl, rfl, rfl, by simp, fun k _ hk => heap_setCell_other w a k u (fun e => hk (by rw [e]))⟩ (.inr ha)

theorem own_draw {w : World} {base : Nat} {e : TypeId} {size : Nat} {v : Value} {n : Nat} {xs : List Value} (h : w.ownsRow base e size v n xs) (k : Nat) : (w.drewN k).ownsRow base e size v n xs := h

theorem own_cap {w : World} {base g cap : Nat} {e : TypeId} {size n : Nat} {xs : List Value} (h : w.ownsRow base e size (.slice (some ⟨g, 0, none⟩) n cap) n xs) : n ≤ cap ∧ cap ≤ maxLen ∧ base ≤ g := by
  rcases h.2 with ⟨h', _⟩ | ⟨g', cap', cur, h', hb, hg, hnc, hcm, _⟩
  · simp at h'
  · simp only [Value.slice.injEq, Option.some.injEq, Addr.mk.injEq, and_true, true_and] at h'
    obtain ⟨rfl, rfl⟩ := h'
    exact ⟨hnc, hcm, hb⟩

def boolCells (l : List Bool) : List Value := l.map (.bool ·)

theorem boolCells_len (l : List Bool) : (boolCells l).length = l.length := by simp [boolCells]

theorem boolCells_set (l : List Bool) (i : Nat) (x : Bool) : (boolCells l).set i (.bool x) = boolCells (l.set i x) := by simp [boolCells, List.map_set]

theorem bool_at {w : World} {base g n c : Nat} {l : List Bool} (h : w.ownsRow base 4 1 (.slice (some ⟨g, 0, none⟩) n c) n (boolCells l)) (hl : l.length = n) (k : Nat) (hk : k < n) : w.cell? ⟨g, k, none⟩ = some (.bool (l.getD k false)) := by
  rw [h.cellAt k (by omega)]
  simp [boolCells, List.getD_eq_getElem?_getD, show k < l.length by omega]

theorem getD_set_true {bl : List Bool} {k0 k : Nat} (h : k0 < bl.length) : (bl.set k0 true).getD k false = if k0 = k then true else bl.getD k false := by
  simp only [List.getD_eq_getElem?_getD, List.getElem?_set]
  by_cases e : k0 = k
  · subst e; simp [h]
  · simp [e]

theorem Bk.keep {w w' : World} {g : Nat} {t : TypeId} {cs : Array Value} (h : Bk w g t cs) (hb : Below w.heap.size w w') : Bk w' g t cs := h.below hb h.lt

theorem max_int (ats : Array TypeId) (ty : TypeId) (k : IntKind) (x y : Int) : Builtin.max_ ats ty #[.int k x, .int k y] = pure (.int k (max x y)) := by
  have h : (if y > x then y else x) = max x y := by split <;> omega
  simp [Builtin.max_, Builtin.max2, h]
theorem min_int (ats : Array TypeId) (ty : TypeId) (k : IntKind) (x y : Int) : Builtin.min_ ats ty #[.int k x, .int k y] = pure (.int k (min x y)) := by
  have h : (if y < x then y else x) = min x y := by split <;> omega
  simp [Builtin.min_, Builtin.min2, h]

end Go.Proofs.YteihcodicfoiaaaGreat
namespace Go.Proofs.YteihcodicfoiaaaGreat
open Go Go.RowKit

section
variable {P : Program} {ops : Array Oper} {md : Region.Mode} {C : World → Prop}

def sinkS (md : Region.Mode) (ops : Array Oper) (s n : Nat) : Bool :=
  (List.range n).all fun i => decide (i < s) || (List.range (n + 1)).any fun j => decide (i < j) && Region.waitsFor md ops j i

theorem tail_waits2 {s n : Nat} {listed : Array Bool} (hs : sinkS md ops s n = true) (hc : treeB md ops n = true) (hn : n < ops.size) (inv : HeadInv md ops n listed) (hS : ∀ j, j < s → listed.getD j true = true) :
    ∀ (d i : Nat), n - i = d → i < n → listed.getD i true = false → ∀ t, n ≤ t → t ∉ Region.ready md ops listed := by
  intro d
  induction d using Nat.strongRecOn with
  | _ d ih =>
    intro i hd hi hun t ht hr
    obtain ⟨_, ot, hot, hall⟩ := mem_ready.1 hr
    have htlt : t < ops.size := (Array.getElem?_eq_some_iff.1 hot).1
    by_cases htn : t = n
    · subst htn
      have h1 := List.all_eq_true.1 hs i (List.mem_range.2 hi)
      simp only [Bool.or_eq_true, decide_eq_true_eq] at h1
      rcases h1 with h1 | h1
      · rw [hS i h1] at hun
        cases hun
      obtain ⟨j, hj, hj2⟩ := List.any_eq_true.1 h1
      simp only [Bool.and_eq_true, decide_eq_true_eq] at hj2
      obtain ⟨oj, hoj, e, he, hb, hon⟩ := Region.waitsFor_spec hj2.2
      have hjle : j ≤ t := by have := List.mem_range.1 hj; omega
      by_cases hjt : j = t
      · subst hjt
        have : oj = ot := Option.some.inj (hoj.symm.trans hot)
        subst this
        have h2 := hall e he hb
        rw [hon, getD_both hun] at h2
        cases h2
      · cases hl : listed.getD j false with
        | true =>
          have h2 := inv.closed j oj hoj hl e he hb
          rw [hon, getD_both hun] at h2
          cases h2
        | false =>
          have hjs : j < listed.size := by rw [inv.size]; omega
          exact ih (t - j) (by omega) j rfl (by omega) (getD_in hjs hl) t (Nat.le_refl _) hr
    · have h1 := List.all_eq_true.1 hc t (List.mem_range.2 htlt)
      simp only [Bool.or_eq_true, decide_eq_true_eq] at h1
      rcases h1 with h1 | h1
      · omega
      · obtain ⟨s, hs1, hs2⟩ := List.any_eq_true.1 h1
        simp only [Bool.and_eq_true, decide_eq_true_eq] at hs2
        have hslt := List.mem_range.1 hs1
        obtain ⟨o', ho', e, he, hb, hon⟩ := Region.waitsFor_spec hs2.2
        have : o' = ot := Option.some.inj (ho'.symm.trans hot)
        subst this
        have h2 := hall e he hb
        rw [hon, getD_both (inv.tail s hs2.1 (by omega))] at h2
        cases h2

theorem listed_set {s j : Nat} {listed : Array Bool} (hS : ∀ k, k < s → listed.getD k true = true) : ∀ k, k < s → (listed.setIfInBounds j true).getD k true = true := fun k hk => by
  by_cases hjk : j = k
  · subst hjk
    rcases Nat.lt_or_ge j listed.size with h1 | h1
    · simp [h1]
    · simp
  · rw [getD_set_ne true hjk]; exact hS k hk

theorem wpAnyM_first2 {s n i : Nat} {oi : Oper} {v : Value} {L : Array Bool → Act → Prop} (hi : ops[i]? = some oi) (hsel : ∀ (j : Nat) (o : Oper) cs b, ops[j]? = some o → o.op ≠ .select cs b)
    (hs : sinkS md ops s n = true) (hc : treeB md ops n = true) (hn : n < ops.size) (hin : i < n)
    (hdone : ∀ listed a, L listed a → ∀ j ∈ Region.ready md ops listed, n ≤ j) :
    ∀ (f : Nat) (listed : Array Bool) (a : Act), HeadInv md ops n listed → (∀ k, k < s → listed.getD k true = true) →
      (∀ j oj, ops[j]? = some oj → j ≠ i → listed.getD j true = false → (∀ e ∈ oj.after, Region.binds md e = true → e.on ≠ i) → oi.apart ops oj = true) →
      i ∈ Region.ready md ops listed → YieldsIn P ops C oi v a →
      wpAnyM P md ops C n L f (listed.setIfInBounds i true) (a.put oi.dst v) → wpAnyM P md ops C n L (f + 1) listed a := by
  intro f
  induction f with
  | zero =>
    intro listed a inv hS _ hr hy H
    have hun := (mem_ready.1 hr).1
    refine ⟨fun h => (by rw [h] at hr; cases hr), fun j hj => ?_⟩
    have hjn : j < n := by
      rcases Nat.lt_or_ge j n with h | h
      · exact h
      · exact absurd hj (tail_waits2 hs hc hn inv hS _ i rfl hin hun j h)
    refine ⟨hjn, ?_⟩
    by_cases hji : j = i
    · subst hji; exact hy.qOp hi H
    · have := hdone _ _ H j (ready_mono hj hji)
      omega
  | succ f ih =>
    intro listed a inv hS hfree hr hy H
    have hun := (mem_ready.1 hr).1
    refine ⟨fun h => (by rw [h] at hr; cases hr), fun j hj => ?_⟩
    have hjn : j < n := by
      rcases Nat.lt_or_ge j n with h | h
      · exact h
      · exact absurd hj (tail_waits2 hs hc hn inv hS _ i rfl hin hun j h)
    refine ⟨hjn, ?_⟩
    by_cases hji : j = i
    · subst hji; exact hy.qOp hi H
    · have h1 := (H.2 j (ready_mono hj hji)).2
      obtain ⟨hjun, oj, hoj, hall⟩ := mem_ready.1 hj
      have hnot : ∀ e ∈ oj.after, Region.binds md e = true → e.on ≠ i := fun e he hb heq => by
        have h1 := hall e he hb
        rw [heq, getD_both hun] at h1
        cases h1
      have h2 := qOp_put hoj (hfree j oj hoj hji hjun hnot) (fun cs b => hsel i oi cs b hi) (fun cs b => hsel j oj cs b hoj) hy h1
      have hfree' : ∀ k ok, ops[k]? = some ok → k ≠ i → (listed.setIfInBounds j true).getD k true = false →
          (∀ e ∈ ok.after, Region.binds md e = true → e.on ≠ i) → oi.apart ops ok = true := fun k ok hk hki hun hno => by
        refine hfree k ok hk hki ?_ hno
        by_cases hjk : j = k
        · subst hjk; exact hjun
        · rw [getD_set_ne true hjk] at hun; exact hun
      refine qOp_mono (fun a' h3 => ih (listed.setIfInBounds j true) a' (inv.set hj hjn) (listed_set hS) hfree' (ready_mono hr (Ne.symm hji)) h3.1 ?_) h2
      rw [Array.setIfInBounds_comm _ _ hji]
      exact h3.2

theorem wpAnyM_lex2 {s n g : Nat} {Lq : Act → Prop} (hsel : Region.noSelect ops = true) (hs : sinkS md ops s n = true) (hc : treeB md ops n = true) (hn : n < ops.size) :
    ∀ (l : List Oper) (k : Nat) (listed : Array Bool) (a : Act), (∀ j, j < l.length → l[j]? = ops[k + j]?) → k + l.length = n → s ≤ k → HeadInv md ops n listed → (∀ j, j < k → listed.getD j true = true) →
    headM md ops g l.length k listed = true → wpQuiet P ops C Lq l a →
    wpAnyM P md ops C n (fun listed' a' => (∀ j, j < n → listed'.getD j true = true) ∧ seqM md ops g n listed' = true ∧ Lq a') l.length listed a
  | [], k, listed, a, _, hk, _, _, hlk, hB, h => by
    have : k = n := by simpa using hk
    subst this
    exact ⟨hlk, by simpa [headM] using hB, h⟩
  | o :: l, k, listed, a, hl, hk, hsk, inv, hlk, hB, h => by
    have h0 : ops[k]? = some o := by simpa using (hl 0 (by simp)).symm
    simp only [List.length_cons, headM, Bool.and_eq_true] at hB
    obtain ⟨⟨hr, hf⟩, hB'⟩ := hB
    have hkn : k < n := by simp only [List.length_cons] at hk; omega
    have hr' : k ∈ Region.ready md ops listed := by simpa using hr
    have hst : qOp P ops C k (wpQuiet P ops C Lq l) a := by unfold qOp; simp only [h0]; exact h
    obtain ⟨v, hy, hK⟩ := yieldsIn_of_qOp h0 hst
    have hlk' : ∀ j, j < k + 1 → (listed.setIfInBounds k true).getD j true = true := fun j hj => by
      by_cases hjk : k = j
      · subst hjk
        rcases Nat.lt_or_ge k listed.size with h1 | h1
        · simp [h1]
        · simp
      · rw [getD_set_ne true hjk]; exact hlk j (by omega)
    refine wpAnyM_first2 h0 (Region.noSelect_spec hsel) hs hc hn hkn (fun listed' a' hL j hj => ?_) l.length listed a inv (fun j hj => hlk j (by omega)) (Region.free_spec h0 hf) hr' hy
      (wpAnyM_lex2 hsel hs hc hn l (k + 1) _ _ (fun j hj => by have := hl (j + 1) (by simp; omega); simpa [Nat.add_assoc, Nat.add_comm 1 j] using this) (by simp only [List.length_cons] at hk; omega) (by omega) (inv.set hr' hkn) hlk' hB' hK)
    have h1 := (mem_ready.1 hj).1
    rcases Nat.lt_or_ge j n with h2 | h2
    · rw [hL.1 j h2] at h1
      cases h1
    · exact h2

/-- What a plain operation yields in one world it yields in all. -/
theorem plain_quiet {o : Oper} {a : Act} {w : World} {K : Act → Prop} (hp : plainOp o = true) (hC : C w) (h : o.quiet P a C K) :
    ∃ v, (∀ w, (execOp a.eval o).run P w = .ok (.value v) w) ∧ K (a.put o.dst v) := by
  obtain ⟨v, hv, hK⟩ := h
  have h1 := hv w hC
  unfold Oper.quietAt at h1
  unfold plainOp at hp
  split at hp
  · rename_i x hx
    have e : ∀ w, (execOp a.eval o).run P w = .ok (.value (a.eval x)) w := fun w => by unfold execOp; rw [hx]; rfl
    rw [e] at h1
    obtain ⟨_, rfl⟩ := h1
    exact ⟨_, e, hK⟩
  · rename_i x hx
    have e : ∀ w, (execOp a.eval o).run P w = .ok (.value (a.eval x)) w := fun w => by unfold execOp; rw [hx]; rfl
    rw [e] at h1
    obtain ⟨_, rfl⟩ := h1
    exact ⟨_, e, hK⟩
  · rename_i t ix hx
    rcases run_extract_any (P := P) (a.eval t) ix with ⟨u, hu⟩ | ⟨s, hs⟩
    · have e : ∀ w, (execOp a.eval o).run P w = .ok (.value u) w := fun w => by unfold execOp; rw [hx]; simp [hu]
      rw [e] at h1
      obtain ⟨_, rfl⟩ := h1
      exact ⟨_, e, hK⟩
    · have e : ∀ w, (execOp a.eval o).run P w = .halt (.stuck s) w := fun w => by unfold execOp; rw [hx]; simp [hs]
      rw [e] at h1
      exact h1.elim
  · cases hp

def preM (md : Region.Mode) (ops : Array Oper) (g m : Nat) : Nat → Nat → Array Bool → Bool
  | 0, k, listed => headM md ops g m k listed
  | f + 1, k, listed => ((ops[k]?).map plainOp).getD false && (Region.ready md ops listed).contains k && Region.free md ops listed k && preM md ops g m f (k + 1) (listed.setIfInBounds k true)

theorem wpAny_pre {s n : Nat} {Q : Exit → Act → World → Prop} (lt : List Oper) (hsel : Region.noSelect ops = true) (hs : sinkS md ops s n = true) (hc : treeB md ops n = true) (hn : n < ops.size)
    (hlt : ∀ j, lt[j]? = ops[n + j]?) (hQ : ∀ c a (d : Option Tmp) (v : Value) w, Q (.panic c) (a.put d v) w → Q (.panic c) a w) :
    ∀ (l1 l2 : List Oper) (k : Nat) (listed : Array Bool) (a : Act) (w : World), (∀ j, j < (l1 ++ l2).length → (l1 ++ l2)[j]? = ops[k + j]?) → k + (l1 ++ l2).length = n → k + l1.length = s → HeadInv md ops n listed →
    (∀ j, j < k → listed.getD j true = true) → preM md ops lt.length l2.length l1.length k listed = true → C w →
    wpQuiet P ops C (fun a' => ∀ w', C w' → wpList P ops Q lt a' w') (l1 ++ l2) a → wpAny P md ops Q ((l1 ++ l2).length + lt.length) listed a w
  | [], l2, k, listed, a, w, hl, hk, hks, inv, hlk, hB, hC, h => by
    simp only [List.nil_append] at *
    have hks' : k = s := by simpa using hks
    have H := wpAnyM_lex2 (md := md) (g := lt.length) hsel hs hc hn l2 k listed a hl hk (by omega) inv hlk (by simpa [preM] using hB) h
    exact wpAny_of_headM (Q' := Q) (g := lt.length) (fun listed a' hL w' hw' => wpAny_of_mix (md := md) hsel hQ lt n listed a' w' hlt hL.2.1 (hL.2.2 w' hw')) _ _ _ _ hC H
  | o :: l1, l2, k, listed, a, w, hl, hk, hks, inv, hlk, hB, hC, h => by
    have h0 : ops[k]? = some o := by simpa using (hl 0 (by simp)).symm
    simp only [List.length_cons, preM, Bool.and_eq_true] at hB
    obtain ⟨⟨⟨hp, hr⟩, hf⟩, hB'⟩ := hB
    have hp' : plainOp o = true := by simpa [h0] using hp
    have hkn : k < n := by simp only [List.cons_append, List.length_cons] at hk; omega
    have hr' : k ∈ Region.ready md ops listed := by simpa using hr
    have hlk' : ∀ j, j < k + 1 → (listed.setIfInBounds k true).getD j true = true := fun j hj => by
      by_cases hjk : k = j
      · subst hjk
        rcases Nat.lt_or_ge k listed.size with h1 | h1
        · simp [h1]
        · simp
      · rw [getD_set_ne true hjk]; exact hlk j (by omega)
    have hl' : ∀ j, j < (l1 ++ l2).length → (l1 ++ l2)[j]? = ops[k + 1 + j]? := fun j hj => by
      have := hl (j + 1) (by simpa using hj)
      simpa [Nat.add_assoc, Nat.add_comm 1 j] using this
    have hk' : k + 1 + (l1 ++ l2).length = n := by simp only [List.cons_append, List.length_cons] at hk; omega
    have hks' : k + 1 + l1.length = s := by simp only [List.length_cons] at hks; omega
    have step := fun a' w' (hC' : C w') hq => wpAny_pre lt hsel hs hc hn hlt hQ l1 l2 (k + 1) (listed.setIfInBounds k true) a' w' hl' hk' hks' (inv.set hr' hkn) hlk' hB' hC' hq
    rw [List.cons_append, List.length_cons, show (l1 ++ l2).length + 1 + lt.length = ((l1 ++ l2).length + lt.length) + 1 by omega]
    rw [List.cons_append] at h
    unfold wpQuiet at h
    by_cases hw : Region.wanted o (yielded ops a.tmps) = true
    · rw [if_pos hw] at h
      obtain ⟨v, hv, hK⟩ := plain_quiet hp' hC h
      exact wpAny_take h0 hsel hf hr (fun c a w => hQ c a o.dst v w) (.inl ⟨hw, hv⟩) (step _ _ hC hK)
    · rw [if_neg hw] at h
      exact wpAny_take h0 hsel hf hr (fun c a w => hQ c a o.dst undef w) (.inr ⟨by simpa using hw, rfl⟩) (step _ _ hC h)

def premixB (md : Region.Mode) (ops : Array Oper) (s n : Nat) : Bool :=
  Region.noSelect ops && decide (n < ops.size) && decide (s ≤ n) && sinkS md ops s n && treeB md ops n && preM md ops (ops.size - n) (n - s) s 0 (Array.replicate ops.size false)

/-- The first s operations plain, those up to n quiet in C, the others one after the other. -/
theorem wp_region_premix {id : Nat} {Q : Exit → Act → World → Prop} {a : Act} {w : World} {l : List Oper} (s n : Nat) (hm : P.follows .mixedOrders = true) (hB : premixB .any l.toArray s n = true)
    (hQ : ∀ c a (d : Option Tmp) (v : Value) w, Q (.panic c) (a.put d v) w → Q (.panic c) a w) (hC : C { w with drawn := w.drawn + 1 })
    (h : wpQuiet P l.toArray C (fun a' => ∀ w', C w' → wpList P l.toArray Q (l.drop n) a' w') (l.take n) a) : (Code.region id l.toArray true).wp P Q a w := by
  simp only [premixB, Bool.and_eq_true, decide_eq_true_eq] at hB
  obtain ⟨⟨⟨⟨⟨hsel, hn⟩, hsn⟩, hs⟩, hc⟩, hlex⟩ := hB
  have hn' : n < l.length := by simpa using hn
  have e1 : l.take n = l.take s ++ (l.take n).drop s := by
    have := (List.take_append_drop s (l.take n)).symm
    rwa [List.take_take, Nat.min_eq_left hsn] at this
  have htl : (l.take n).length = n := by simp; omega
  have hls : (l.take s).length = s := by simp; omega
  have hl2 : ((l.take n).drop s).length = n - s := by simp; omega
  have hdl : (l.drop n).length = l.toArray.size - n := by simp
  have inv0 : HeadInv .any l.toArray n (Array.replicate l.toArray.size false) :=
    ⟨by simp, fun j oj _ hl => (by rw [getD_replicate_false] at hl; cases hl), fun t _ ht => getD_in (by simpa using ht) (getD_replicate_false _ _)⟩
  rw [e1] at h
  have H := wpAny_pre (md := .any) (l.drop n) hsel hs hc hn (fun j => by simp [List.getElem?_drop]) hQ (l.take s) ((l.take n).drop s) 0 _ a { w with drawn := w.drawn + 1 } (fun j hj => by
    rw [← e1] at hj ⊢
    rw [htl] at hj
    simp [hj]) (by rw [← e1, htl]; omega) (by rw [hls]; omega) inv0 (fun j hj => absurd hj (by omega)) (by rw [hdl, hl2, hls]; exact hlex) hC h
  refine wp_region_any hm ?_
  rwa [← e1, htl, hdl, show n + (l.toArray.size - n) = l.toArray.size by omega] at H

theorem wp_region_extpre {id : Nat} {Q : Exit → Act → World → Prop} {a : Act} {w : World} {l : List Oper} (s n : Nat) (hm : P.follows .mixedOrders = true) (hB : premixB .any l.toArray s n = true)
    (hQ : ∀ c a (d : Option Tmp) (v : Value) w, Q (.panic c) (a.put d v) w → Q (.panic c) a w)
    (h : wpQuiet P l.toArray (fun w' => ∃ x : Ext w, w' = x.w) (fun a' => ∀ w', (∃ x : Ext w, w' = x.w) → wpList P l.toArray Q (l.drop n) a' w') (l.take n) a) : (Code.region id l.toArray true).wp P Q a w :=
  wp_region_premix s n hm hB hQ (Ext.here w) h

end
end Go.Proofs.YteihcodicfoiaaaGreat
