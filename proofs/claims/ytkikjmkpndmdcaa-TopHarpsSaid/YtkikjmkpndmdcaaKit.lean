/-
  Words for memory and small laws that name no program.
-/
import Derived.Test.YtkikjmkpndmdcaaRows
import Derived.WalkKit
import Derived.BigQuiet
import Derived.Deep.QuietTactic
import Derived.WalkLawsBesides
import Derived.WalkSpells
import Derived.Outline
import Derived.Lib.Hide
import Derived.Handy
namespace Go.Proofs.Ytkikjmkpndmdcaa
open Go.RowKit

theorem ret_bool {a b : Bool} (h : a = b) : Ending.returned (.bool a) = .returned (.bool b) := by rw [h]

theorem ret_int {k : IntKind} {a b : Int} (h : a = b) : Ending.returned (.int k a) = .returned (.int k b) := by rw [h]

/-- lo ≤ n and n ≤ hi, as a Bool of its own. -/

def inB (n lo hi : Int) : Bool := decide (lo ≤ n ∧ n ≤ hi)

theorem bcell {W w1 : World} (hb : Below W.heap.size W w1) : (∀ b o, b < W.heap.size → w1.cell? ⟨b, o, none⟩ = W.cell? ⟨b, o, none⟩) ∧ (∀ b o, b < W.heap.size → w1.frozen? ⟨b, o, none⟩ = W.frozen? ⟨b, o, none⟩) :=
  ⟨fun b o h => hb.cell (p := ⟨b, o, none⟩) h, fun b o h => hb.frozen (p := ⟨b, o, none⟩) h⟩

/-- The slice value that starts at A reads as the cells xs. -/

def RowAt (w : World) (A : Option Addr) (xs : List Value) : Prop :=
  0 < xs.length → ∃ b off, A = some ⟨b, off, none⟩ ∧ b < w.heap.size ∧ ∀ j u, xs[j]? = some u → w.cell? ⟨b, off + j, none⟩ = some u

theorem RowAt.keep {w w' : World} {A : Option Addr} {xs : List Value} (h : RowAt w A xs) (hz : w.heap.size ≤ w'.heap.size) (hk : ∀ b o, b < w.heap.size → w'.cell? ⟨b, o, none⟩ = w.cell? ⟨b, o, none⟩) : RowAt w' A xs := fun hn => by
  obtain ⟨b, off, e, hb, hc⟩ := h hn
  exact ⟨b, off, e, by omega, fun j u hu => (hk _ _ hb).trans (hc j u hu)⟩

theorem RowAt.below {w w' : World} {A : Option Addr} {xs : List Value} (h : RowAt w A xs) (hb : Below w.heap.size w w') : RowAt w' A xs :=
  h.keep hb.size (bcell hb).1

theorem RowAt.alloc {w : World} {A : Option Addr} {xs : List Value} (h : RowAt w A xs) (o : Obj) : RowAt (w.alloc o) A xs :=
  h.keep (by simp) fun b o' hb => World.cell?_alloc_lt w o _ hb

theorem RowAt.drewN {w : World} {A : Option Addr} {xs : List Value} (h : RowAt w A xs) (n : Nat) : RowAt (w.drewN n) A xs := h

/-- .. as these meshes. -/

theorem flat_get {α : Type} (f : α → List Value) (k : Nat) (hf : ∀ x, (f x).length = k) (_hk : 0 < k) (L : List α) (i j : Nat) (hi : i < L.length) (hj : j < k) : (L.flatMap f)[i * k + j]? = (f L[i])[j]? := by
  induction L generalizing i with
  | nil => simp at hi
  | cons a L ih =>
    cases i with
    | zero => simp [List.getElem?_append, hf, hj]
    | succ i =>
      have h1 : (i + 1) * k + j = k + (i * k + j) := by rw [Nat.add_mul]; omega
      simp only [List.flatMap_cons, List.getElem?_append, hf]
      rw [if_neg (by omega), h1, Nat.add_sub_cancel_left]
      exact ih i (by simpa using hi)

theorem flat_len {α : Type} (f : α → List Value) (k : Nat) (hf : ∀ x, (f x).length = k) (L : List α) : (L.flatMap f).length = L.length * k := by
  induction L with
  | nil => simp
  | cons a L ih => simp [hf, ih, Nat.add_mul]; omega

def Bk (w : World) (g : Nat) (t : TypeId) (cs : Array Value) : Prop := w.heap[g]? = some (.cells cs t (0, 0))

section
variable {w w' : World} {g : Nat} {t : TypeId} {cs : Array Value}
theorem Bk.lt (h : Bk w g t cs) : g < w.heap.size := (Array.getElem?_eq_some_iff.1 h).1
theorem Bk.cell (h : Bk w g t cs) (i : Nat) : w.cell? ⟨g, i, none⟩ = cs[i]? := cell_of_row w g i cs t (0, 0) h
theorem Bk.fz (h : Bk w g t cs) (i : Nat) : w.frozen? ⟨g, i, none⟩ = false := by
  have h' : w.heap[g]? = some (.cells cs t (0, 0)) := h
  simp [World.frozen?, h']
theorem Bk.new (w : World) (t : TypeId) (cs : Array Value) : Bk (w.alloc (.cells cs t)) w.heap.size t cs := heap_alloc_new w _
theorem Bk.alloc (h : Bk w g t cs) (o : Obj) : Bk (w.alloc o) g t cs := (Below.heap_alloc w o g h.lt).trans h
theorem Bk.drewN (h : Bk w g t cs) (n : Nat) : Bk (w.drewN n) g t cs := h
theorem Bk.drew (h : Bk w g t cs) : Bk w.drew g t cs := h
theorem Bk.far (h : Bk w g t cs) {p : Addr} (hp : g ≠ p.block) (u : Value) : Bk (w.setCell p u) g t cs := (Below.heap_setCell w p u g hp).trans h
theorem Bk.put (h : Bk w g t cs) (i : Nat) (u : Value) : Bk (w.setCell ⟨g, i, none⟩ u) g t (cs.setIfInBounds i u) := by
  have h' : w.heap[g]? = some (.cells cs t (0, 0)) := h
  show (w.setCell ⟨g, i, none⟩ u).heap[g]? = _
  simp [World.setCell, Array.getElem?_modify, h']
theorem Bk.below {B : Nat} (h : Bk w g t cs) (hb : Below B w w') (hg : g < B) : Bk w' g t cs := (hb.block g hg).trans h
theorem Bk.ne {g' : Nat} {t' : TypeId} {cs' : Array Value} (h : Bk w g t cs) (h' : Bk w g' t' cs') (hne : t ≠ t') : g ≠ g' := by
  rintro rfl
  have h1 : w.heap[g]? = some (.cells cs t (0, 0)) := h
  have h2 : w.heap[g]? = some (.cells cs' t' (0, 0)) := h'
  rw [h1] at h2
  injection h2 with h2
  injection h2 with _ h2
  exact hne h2
end

theorem below_drewN {B : Nat} {a w : World} (h : Below B a w) (n : Nat) : Below B a (w.drewN n) := ⟨h.os, h.tape, h.output, h.size, h.block⟩

/-- What a call's own slice holds, from its block. -/

theorem own_some {w : World} {base : Nat} {e : TypeId} {size : Nat} {v : Value} {n : Nat} {xs : List Value} (h : w.ownsRow base e size v n xs) (hn : 0 < n) :
    ∃ (g cap : Nat) (cur : Array Value), v = .slice (some ⟨g, 0, none⟩) n cap ∧ base ≤ g ∧ Bk w g e cur ∧ n ≤ cap ∧ cur.size = cap * size ∧ ∀ (j : Nat) (u : Value), xs[j]? = some u → cur[j]? = some u := by
  rcases h.2 with ⟨_, h0⟩ | ⟨g, cap, cur, hv, hb, hg, hnc, _, hs, ht⟩
  · omega
  · refine ⟨g, cap, cur, hv, hb, hg, hnc, hs, fun j u hu => ?_⟩
    rw [← ht, List.getElem?_take] at hu
    split at hu
    · simpa using hu
    · cases hu

def oneCells (xs : List Value) : Prop := ∀ u ∈ xs, u.oneCell' = true

theorem add_at (b off j : Nat) : (⟨b, off, none⟩ : Addr).add j = ⟨b, off + j, none⟩ := by
  unfold Addr.add
  split
  · rename_i h; subst h; rfl
  · rfl

/-- The cells xs lie from ⟨b, off⟩ on. -/

def RowB (w : World) (b off : Nat) (xs : List Value) : Prop := b < w.heap.size ∧ ∀ (j : Nat) (u : Value), xs[j]? = some u → w.cell? ⟨b, off + j, none⟩ = some u

theorem RowB.keep {w w' : World} {b off : Nat} {xs : List Value} (h : RowB w b off xs) (hb : Below w.heap.size w w') : RowB w' b off xs :=
  ⟨Nat.lt_of_lt_of_le h.1 hb.size, fun j u hu => ((bcell hb).1 _ _ h.1).trans (h.2 j u hu)⟩

theorem RowB.alloc {w : World} {b off : Nat} {xs : List Value} (h : RowB w b off xs) (o : Obj) : RowB (w.alloc o) b off xs := h.keep ((Below.refl _ _).alloc (Nat.le_refl _) o)

theorem RowAt.some_ {w : World} {A : Option Addr} {xs : List Value} (h : RowAt w A xs) (h0 : 0 < xs.length) : ∃ b off, A = some ⟨b, off, none⟩ ∧ RowB w b off xs := by
  obtain ⟨b, off, e, hb, hc⟩ := h h0
  exact ⟨b, off, e, hb, hc⟩

theorem RowB.add {w : World} {b off : Nat} {xs : List Value} (h : RowB w b off xs) : ∀ (j : Nat) (u : Value), xs[j]? = some u → w.cell? ((⟨b, off, none⟩ : Addr).add j) = some u :=
  fun j u hu => by rw [add_at]; exact h.2 j u hu

theorem bk_last {w : World} {n : Nat} {t : TypeId} {cs : Array Value} (h : w.heap.size = n) : Bk (w.alloc (.cells cs t)) n t cs := by subst h; exact Bk.new w t cs

theorem keepc {W w1 : World} {b o : Nat} {v : Value} (hb : Below W.heap.size W w1) (h : W.cell? ⟨b, o, none⟩ = some v) : w1.cell? ⟨b, o, none⟩ = some v :=
  (hb.cell (p := ⟨b, o, none⟩) (World.block_lt_of_cell? W _ h)).trans h

theorem two_at (w : World) (u v : Value) (t : TypeId) (n : Nat) (h : w.heap.size = n) : ∀ (j : Nat) (x : Value), [u, v][j]? = some x → (w.alloc (.cells #[u, v] t)).cell? ((⟨n, 0, none⟩ : Addr).add j) = some x := by
  subst h
  intro j x hx
  rw [add_at]
  match j with
  | 0 => simp at hx; subst hx; simp
  | 1 => simp at hx; subst hx; simp
  | j + 2 => simp at hx

theorem own_row {w : World} {base : Nat} {e : TypeId} {size : Nat} {v : Value} {n : Nat} {xs : List Value} (h : w.ownsRow base e size v n xs) (hn : 0 < n) :
    ∃ g cap, v = .slice (some ⟨g, 0, none⟩) n cap ∧ base ≤ g ∧ RowB w g 0 xs := by
  obtain ⟨g, cap, cur, hv, hb, hg, _, _, hx⟩ := own_some h hn
  exact ⟨g, cap, hv, hb, hg.lt, fun j u hu => by rw [Nat.zero_add, hg.cell]; exact hx j u hu⟩

/-- The ratio of a train. -/

theorem RowAt.drew_ {w : World} {A : Option Addr} {xs : List Value} (h : RowAt w A xs) : RowAt w.drew A xs := h

theorem own_rowB {w : World} {base : Nat} {e : TypeId} {size n cap g : Nat} {xs : List Value} (h : w.ownsRow base e size (.slice (some ⟨g, 0, none⟩) n cap) n xs) : RowB w g 0 xs := by
  rcases h.2 with ⟨hv, _⟩ | ⟨g', cap', cur, hv, hb, hg, hnc, _, hs, ht⟩
  · cases hv
  · injection hv with hv
    injection hv with hv
    injection hv with hv
    subst hv
    have hk : Bk w g e cur := hg
    refine ⟨hk.lt, fun j u hu => ?_⟩
    rw [Nat.zero_add, hk.cell]
    rw [← ht, List.getElem?_take] at hu
    split at hu
    · simpa using hu
    · cases hu

theorem Bk.grown {w w' : World} {g : Nat} {t : TypeId} {cs : Array Value} {row : Option Nat} (h : Bk w g t cs) (hb : w.grownBy w' row) (hg : some g ≠ row) : Bk w' g t cs := (hb.block g h.lt hg).trans h

theorem own_ne {w : World} {base : Nat} {e : TypeId} {size : Nat} {v : Value} {n : Nat} {xs : List Value} (h : w.ownsRow base e size v n xs) {b : Nat} (hb : b < base) : some b ≠ v.ownBlock := by
  intro e
  have := (h.lt b e.symm).1
  omega

theorem own_base {w : World} {base base' : Nat} {e : TypeId} {size : Nat} {v : Value} {n : Nat} {xs : List Value} (h : w.ownsRow base e size v n xs) (hb : base' ≤ base) : w.ownsRow base' e size v n xs := by
  refine ⟨h.1, ?_⟩
  rcases h.2 with h2 | ⟨g, cap, cur, hv, hg, r⟩
  · exact .inl h2
  · exact .inr ⟨g, cap, cur, hv, by omega, r⟩

theorem own_keep {w w1 : World} {base : Nat} {e : TypeId} {size : Nat} {v : Value} {n : Nat} {xs : List Value} (h : w.ownsRow base e size v n xs) (hb : Below w.heap.size w w1) : w1.ownsRow base e size v n xs := by
  refine ⟨h.1, ?_⟩
  rcases h.2 with h2 | ⟨g, cap, cur, hv, hg, hh, r⟩
  · exact .inl h2
  · exact .inr ⟨g, cap, cur, hv, hg, (hb.block g (Array.getElem?_eq_some_iff.1 hh).1).trans hh, r⟩

def intCells (xs : List Int) : List Value := xs.map (.int .i64 ·)

theorem intCells_len (xs : List Int) : (intCells xs).length = xs.length := by simp [intCells]

theorem RowAt.int {w : World} {A : Option Addr} {xs : List Int} (h : RowAt w A (intCells xs)) (h0 : 0 < xs.length) :
    ∃ b off, A = some ⟨b, off, none⟩ ∧ b < w.heap.size ∧ ∀ k (hk : k < xs.length), w.cell? ⟨b, off + k, none⟩ = some (.int .i64 xs[k]) := by
  obtain ⟨b, off, e, hb, hc⟩ := h (by rw [intCells_len]; exact h0)
  exact ⟨b, off, e, hb, fun k hk => hc k _ (by simp [intCells, hk])⟩

theorem intCells_one (l : List Int) : ∀ u ∈ intCells l, u.oneCell' = true := by
  intro u hu
  obtain ⟨x, _, rfl⟩ := List.mem_map.1 hu
  rfl

theorem own_form {w : World} {base : Nat} {e : TypeId} {size : Nat} {v : Value} {n : Nat} {xs : List Value} (h : w.ownsRow base e size v n xs) :
    ∃ A c, v = .slice A n c ∧ n ≤ c ∧ RowAt w A xs ∧ ∀ g, v.ownBlock = some g → base ≤ g ∧ g < w.heap.size := by
  have hl := h.lt
  have hlen := h.1
  rcases h.2 with ⟨rfl, rfl⟩ | ⟨g, cap, cur, rfl, hb, hg, hnc, _, hs, ht⟩
  · refine ⟨none, 0, rfl, Nat.le_refl _, fun h0 => ?_, hl⟩
    simp at hlen
    simp [hlen] at h0
  · refine ⟨some ⟨g, 0, none⟩, cap, rfl, hnc, fun _ => ⟨g, 0, rfl, (Array.getElem?_eq_some_iff.1 hg).1, fun j u hu => ?_⟩, hl⟩
    rw [Nat.zero_add, cell_of_row w g j cur e (0, 0) hg]
    rw [← ht, List.getElem?_take] at hu
    split at hu
    · simpa using hu
    · cases hu

theorem World.grownBy_refl (w : World) (row : Option Nat) : w.grownBy w row := ⟨rfl, rfl, rfl, Nat.le_refl _, fun _ _ _ => rfl⟩

theorem three_at (w : World) (u v x : Value) (t : TypeId) (n : Nat) (h : w.heap.size = n) : ∀ (j : Nat) (y : Value), [u, v, x][j]? = some y → (w.alloc (.cells #[u, v, x] t)).cell? ((⟨n, 0, none⟩ : Addr).add j) = some y := by
  subst h
  intro j y hy
  rw [add_at]
  match j with
  | 0 => simp at hy; subst hy; simp
  | 1 => simp at hy; subst hy; simp
  | 2 => simp at hy; subst hy; simp
  | j + 3 => simp at hy

theorem own_far {w : World} {base : Nat} {e : TypeId} {size : Nat} {v : Value} {n : Nat} {xs : List Value} (h : w.ownsRow base e size v n xs) {a : Addr} (ha : v.ownBlock ≠ some a.block) (u : Value) : (w.setCell a u).ownsRow base e size v n xs :=
  h.kept (row := some a.block) ⟨rfl, rfl, rfl, by simp, fun k _ hk => heap_setCell_other w a k u (fun e => hk (by rw [e]))⟩ (.inr ha)

theorem own_draw {w : World} {base : Nat} {e : TypeId} {size : Nat} {v : Value} {n : Nat} {xs : List Value} (h : w.ownsRow base e size v n xs) (k : Nat) : (w.drewN k).ownsRow base e size v n xs := h

theorem own_cap {w : World} {base g cap : Nat} {e : TypeId} {size n : Nat} {xs : List Value} (h : w.ownsRow base e size (.slice (some ⟨g, 0, none⟩) n cap) n xs) : n ≤ cap ∧ cap ≤ maxLen ∧ base ≤ g := by
  rcases h.2 with ⟨h', _⟩ | ⟨g', cap', cur, h', hb, hg, hnc, hcm, _⟩
  · simp at h'
  · simp only [Value.slice.injEq, Option.some.injEq, Addr.mk.injEq, and_true, true_and] at h'
    obtain ⟨rfl, rfl⟩ := h'
    exact ⟨hnc, hcm, hb⟩

def boolCells (l : List Bool) : List Value := l.map (.bool ·)

theorem boolCells_len (l : List Bool) : (boolCells l).length = l.length := by simp [boolCells]

theorem boolCells_set (l : List Bool) (i : Nat) (x : Bool) : (boolCells l).set i (.bool x) = boolCells (l.set i x) := by simp [boolCells, List.map_set]

theorem bool_at {w : World} {base g n c : Nat} {l : List Bool} (h : w.ownsRow base 4 1 (.slice (some ⟨g, 0, none⟩) n c) n (boolCells l)) (hl : l.length = n) (k : Nat) (hk : k < n) : w.cell? ⟨g, k, none⟩ = some (.bool (l.getD k false)) := by
  rw [h.cellAt k (by omega)]
  simp [boolCells, List.getD_eq_getElem?_getD, show k < l.length by omega]

theorem getD_set_true {bl : List Bool} {k0 k : Nat} (h : k0 < bl.length) : (bl.set k0 true).getD k false = if k0 = k then true else bl.getD k false := by
  simp only [List.getD_eq_getElem?_getD, List.getElem?_set]
  by_cases e : k0 = k
  · subst e; simp [h]
  · simp [e]

theorem Bk.keep {w w' : World} {g : Nat} {t : TypeId} {cs : Array Value} (h : Bk w g t cs) (hb : Below w.heap.size w w') : Bk w' g t cs := h.below hb h.lt

theorem max_int (ats : Array TypeId) (ty : TypeId) (k : IntKind) (x y : Int) : Builtin.max_ ats ty #[.int k x, .int k y] = pure (.int k (max x y)) := by
  have h : (if y > x then y else x) = max x y := by split <;> omega
  simp [Builtin.max_, Builtin.max2, h]
theorem min_int (ats : Array TypeId) (ty : TypeId) (k : IntKind) (x y : Int) : Builtin.min_ ats ty #[.int k x, .int k y] = pure (.int k (min x y)) := by
  have h : (if y < x then y else x) = min x y := by split <;> omega
  simp [Builtin.min_, Builtin.min2, h]

end Go.Proofs.Ytkikjmkpndmdcaa
