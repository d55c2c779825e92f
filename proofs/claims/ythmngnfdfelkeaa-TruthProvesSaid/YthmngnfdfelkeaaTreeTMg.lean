/-
  What is proved: a tree as data, and how a row's argument that holds one opens.
-/
import Derived.Test.YthmngnfdfelkeaaMg27
namespace Go.Proofs.Ythmngnfdfelkeaa
open Go.ChangeShapes Go.WideShapes Go.ChangeAt Go.RowKit Go.Joins

/-- A tree, and where its kids lie. -/
inductive Tr where
  | mk (kind pocket att : Int) (way : Int × Int) (A : Option Addr) (c : Nat) (kids : List Tr)
def Tr.cells : Tr → List Value
  | .mk k p a w A c kids => [.int .i64 k, .int .i64 p, .int .i64 a, .int .i64 w.1, .int .i64 w.2, .slice A kids.length c]
theorem Tr.cells_len (t : Tr) : t.cells.length = 6 := by cases t; rfl
def kidCells (l : List Tr) : List Value := l.flatMap Tr.cells

mutual
/-- How many nodes a tree has. -/
def sizeT : Tr → Nat
  | .mk _ _ _ _ _ _ kids => 1 + sizeL kids
def sizeL : List Tr → Nat
  | [] => 0
  | t :: l => sizeT t + sizeL l
end
theorem sizeT_pos : ∀ t, 1 ≤ sizeT t
  | .mk _ _ _ _ _ _ _ => by simp only [sizeT]; omega
theorem sizeL_app : ∀ a b, sizeL (a ++ b) = sizeL a + sizeL b
  | [], b => by simp [sizeL]
  | t :: a, b => by simp only [List.cons_append, sizeL, sizeL_app a b]; omega
theorem sizeL_len : ∀ l, l.length ≤ sizeL l
  | [] => by simp
  | t :: l => by
    have := sizeT_pos t
    have := sizeL_len l
    simp only [List.length_cons, sizeL]
    omega
theorem sizeL_mem : ∀ {l : List Tr} {t : Tr}, t ∈ l → sizeT t ≤ sizeL l
  | u :: l, t, h => by
    simp only [sizeL]
    rcases List.mem_cons.1 h with rfl | h
    · omega
    · have := sizeL_mem h
      omega

/-- The cells of a row, which lies in another block than q. -/
def RowNe (w : World) (q : Nat) (A : Option Addr) (xs : List Value) : Prop :=
  0 < xs.length → ∃ b off, A = some ⟨b, off, none⟩ ∧ b < w.heap.size ∧ b ≠ q ∧ ∀ j u, xs[j]? = some u → w.cell? ⟨b, off + j, none⟩ = some u
inductive TrAt (w : World) (q : Nat) : Tr → Prop
  | mk {k p a : Int} {way : Int × Int} {A : Option Addr} {c : Nat} {kids : List Tr} : RowNe w q A (kidCells kids) → kids.length ≤ 9223372036854775807 → (∀ t ∈ kids, TrAt w q t) → (A = none → kids = [] ∧ c = 0) → TrAt w q (.mk k p a way A c kids)

variable {w w' : World} {q q' : Nat}
theorem RowNe.other {A : Option Addr} {xs : List Value} (h : RowNe w q A xs) (hq : w.heap.size ≤ q') : RowNe w q' A xs := fun h0 => by
  obtain ⟨b, off, h1, h2, _, h4⟩ := h h0
  exact ⟨b, off, h1, h2, by omega, h4⟩
theorem RowNe.grown {A : Option Addr} {xs : List Value} (h : RowNe w q A xs) (hg : w.grownBy w' (some q)) : RowNe w' q A xs := fun h0 => by
  obtain ⟨b, off, h1, h2, h3, h4⟩ := h h0
  exact ⟨b, off, h1, Nat.lt_of_lt_of_le h2 hg.size, h3, fun j u hj => (World.cell?_of_block (hg.block b h2 (fun e => h3 (by injection e)))).trans (h4 j u hj)⟩
theorem RowNe.below {A : Option Addr} {xs : List Value} (h : RowNe w q A xs) (hb : Below w.heap.size w w') : RowNe w' q A xs := fun h0 => by
  obtain ⟨b, off, h1, h2, h3, h4⟩ := h h0
  exact ⟨b, off, h1, Nat.lt_of_lt_of_le h2 hb.size, h3, fun j u hj => keepc hb (h4 j u hj)⟩
theorem RowNe.row {A : Option Addr} {xs : List Value} (h : RowNe w q A xs) : RowAt w A xs := fun h0 => by
  obtain ⟨b, off, h1, h2, _, h4⟩ := h h0
  exact ⟨b, off, h1, h2, h4⟩
theorem TrAt.map (hP : ∀ A xs, RowNe w q A xs → RowNe w' q' A xs) {t : Tr} (h : TrAt w q t) : TrAt w' q' t := by
  induction h with
  | mk h1 h2 _ h3 ih => exact .mk (hP _ _ h1) h2 ih h3
theorem TrAt.other {t : Tr} (h : TrAt w q t) (hq : w.heap.size ≤ q') : TrAt w q' t := h.map fun _ _ h => h.other hq
theorem TrAt.grown {t : Tr} (h : TrAt w q t) (hg : w.grownBy w' (some q)) : TrAt w' q t := h.map fun _ _ h => h.grown hg
theorem TrAt.keep {t : Tr} (h : TrAt w q t) (hb : Below w.heap.size w w') : TrAt w' q t := h.map fun _ _ h => h.below hb
theorem TrAt.alloc {t : Tr} (h : TrAt w q t) (o : Obj) : TrAt (w.alloc o) q t := h.keep ((Below.refl _ _).alloc (Nat.le_refl _) o)
theorem TrAt.draw {t : Tr} (h : TrAt w q t) (n : Nat) : TrAt (w.drewN n) q t := h.keep ⟨rfl, rfl, rfl, Nat.le_refl _, fun _ _ => rfl⟩

/-- A kid of a tree, in memory. -/
theorem RowNe.kid {A : Option Addr} {l : List Tr} (h : RowNe w q A (kidCells l)) (h0 : 0 < l.length) :
    ∃ b off, A = some ⟨b, off, none⟩ ∧ b < w.heap.size ∧ b ≠ q ∧ ∀ i (hi : i < l.length) j, j < 6 → w.cell? ⟨b, off + (i * 6 + j), none⟩ = (l[i]).cells[j]? := by
  have hl : (kidCells l).length = l.length * 6 := flat_len _ 6 Tr.cells_len l
  obtain ⟨b, off, h1, h2, h3, h4⟩ := h (by omega)
  refine ⟨b, off, h1, h2, h3, fun i hi j hj => ?_⟩
  have e := flat_get Tr.cells 6 Tr.cells_len (by omega) l i j hi hj
  have hlt : j < (l[i]).cells.length := by rw [Tr.cells_len]; exact hj
  rw [List.getElem?_eq_getElem hlt] at e ⊢
  exact h4 _ _ e

theorem row_flat {α : Type} {k : Nat} (f : α → List Value) (hk : ∀ x, (f x).length = k) (hk0 : 0 < k) (hf0 : ∀ x, ∃ i, (f x)[0]? = some (.int .i64 i)) {a : Addr} {L : List α}
    (hp : ∀ i (hi : i < L.length) j, j < k → w.cell? (a.add (i * k + j)) = (f L[i])[j]?) : RowAt w (some a) (L.flatMap f) := fun h0 => by
  rw [flat_len f k hk] at h0
  have hL0 : 0 < L.length := by
    rcases Nat.eq_zero_or_pos L.length with h | h
    · rw [h] at h0; omega
    · exact h
  have q0 := hp 0 hL0 0 hk0
  obtain ⟨i0, hi0⟩ := hf0 L[0]
  rw [hi0, Nat.zero_mul] at q0
  have hlt := World.block_lt_of_cell? w _ q0
  have hsp : a.spot = none := by
    have q1 : w.cell? a = some (.int .i64 i0) := q0
    cases hs : a.spot with
    | none => rfl
    | some k =>
      unfold World.cell? at q1
      rw [hs] at q1
      split at q1 <;> simp at q1
  obtain ⟨b, off, sp⟩ := a
  simp only at hsp
  subst hsp
  refine ⟨b, off, rfl, hlt, fun j u hu => ?_⟩
  have hj := (List.getElem?_eq_some_iff.1 hu).1
  rw [flat_len f k hk] at hj
  have hi2 : j / k < L.length := Nat.div_lt_of_lt_mul (by rw [Nat.mul_comm]; exact hj)
  have hr : j % k < k := Nat.mod_lt _ hk0
  have e : j / k * k + j % k = j := by rw [Nat.mul_comm]; exact Nat.div_add_mod j k
  have hg := flat_get f k hk hk0 L (j / k) (j % k) hi2 hr
  have h5 := hp (j / k) hi2 (j % k) hr
  rw [e] at hg h5
  rw [add_at] at h5
  rw [h5, ← hg]
  exact hu

section
variable {H : Type} {enc : TypeId × Value → H} {W : World} {b0 : Nat} {v : Value} {d : DataW H} {p : List MemPlace}

set_option maxRecDepth 100000 in
theorem rd_tree (q : Nat) (hq : W.heap.size ≤ q) : ∀ (n : Nat) (cs : List Value) (x : DataW H × List MemPlace), DataW.trod enc Try.prog W 0 (fun _ => true) true n 49 cs = some x → ∃ t : Tr, cs = t.cells ∧ TrAt W q t := by
  intro n
  induction n using Nat.strongRecOn with
  | ind n ih =>
    intro cs x h
    obtain ⟨xs, n', hn, _, hl, hxl, hf⟩ := DataW.trod_struct Try.underlying49 h
    have hl2 : cs.length = 6 := hl.trans (by kernel_rfl)
    have hx2 : xs.length = 5 := hxl
    match cs, hl2, xs, hx2 with
    | [c0, c1, c2, c3, c4, c5], _, [y0, y1, y2, y3, y4], _ =>
      have h0 : DataW.trod enc Try.prog W 0 (fun _ => true) true n' 3 (([c0, c1, c2, c3, c4, c5].drop 0).take (Try.prog.cellsOf 3)) = some y0 := hf 0 _ rfl
      have h1 : DataW.trod enc Try.prog W 0 (fun _ => true) true n' 3 (([c0, c1, c2, c3, c4, c5].drop 1).take (Try.prog.cellsOf 3)) = some y1 := hf 1 _ rfl
      have h2 : DataW.trod enc Try.prog W 0 (fun _ => true) true n' 3 (([c0, c1, c2, c3, c4, c5].drop 2).take (Try.prog.cellsOf 3)) = some y2 := hf 2 _ rfl
      have h3 : DataW.trod enc Try.prog W 0 (fun _ => true) true n' 43 (([c0, c1, c2, c3, c4, c5].drop 3).take (Try.prog.cellsOf 43)) = some y3 := hf 3 _ rfl
      have h4 : DataW.trod enc Try.prog W 0 (fun _ => true) true n' 47 (([c0, c1, c2, c3, c4, c5].drop 5).take (Try.prog.cellsOf 47)) = some y4 := hf 4 _ rfl
      rw [show Try.prog.cellsOf 3 = 1 by kernel_rfl] at h0 h1 h2
      rw [show Try.prog.cellsOf 43 = 2 by kernel_rfl] at h3
      rw [show Try.prog.cellsOf 47 = 1 by kernel_rfl] at h4
      obtain ⟨k, e0, _⟩ := rd_int h0
      obtain ⟨pk, e1, _⟩ := rd_int h1
      obtain ⟨at_, e2, _⟩ := rd_int h2
      obtain ⟨way, e3⟩ := rd_point h3
      simp at e0 e1 e2 e3
      obtain ⟨e3, e3'⟩ := e3
      subst e0 e1 e2 e3 e3'
      rcases DataW.trod_slice Try.underlying47 h4 with hh | ⟨a, len, cap, elems, rest, m, hm, hcs, _, _, hlc, hcm, hle, hel, _, _⟩
      · have e5 := hh.1
        simp at e5
        subst e5
        exact ⟨.mk k pk at_ way none 0 [], rfl, .mk (fun h => by simp [kidCells] at h) (by simp) (by simp) (fun _ => ⟨rfl, rfl⟩)⟩
      · simp at hcs
        subst hcs
        have hC : Try.prog.cellsOf 49 = 6 := by kernel_rfl
        rw [hC] at hel
        obtain ⟨L, hL, hp⟩ := list_build len (fun i t => TrAt W q t ∧ ∀ j, j < 6 → W.cell? (a.add (i * 6 + j)) = (t.cells)[j]?) (fun i hi => by
          have hb := hel i hi
          rw [List.getElem?_eq_getElem (by omega)] at hb
          obtain ⟨cs', h5, h6⟩ := Option.bind_eq_some_iff.1 hb
          obtain ⟨t, rfl, ht⟩ := ih m (by omega) _ _ h6
          obtain ⟨_, _, h7⟩ := World.cells?_some h5
          refine ⟨t, ht, fun j hj => ?_⟩
          have h8 := h7 j hj
          rwa [Go.Deep.add_add] at h8)
        subst hL
        refine ⟨.mk k pk at_ way (some a) cap L, rfl, .mk ?_ (Nat.le_trans hlc hcm) (fun t ht => ?_) (fun h => by cases h)⟩
        · have hr := row_flat (w := W) (a := a) (L := L) Tr.cells Tr.cells_len (by omega) (fun t => by cases t; exact ⟨_, rfl⟩) (fun i hi j hj => (hp i hi).2 j hj)
          intro h0
          obtain ⟨b, off, r1, r2, r3⟩ := hr h0
          exact ⟨b, off, r1, r2, by omega, r3⟩
        · obtain ⟨i, hi, rfl⟩ := List.getElem_of_mem ht
          exact (hp i hi).1

/-- The cells of a question that holds a tree. -/
def askT (cell : Int) (A : Option Addr) (c : Nat) (L : List Int) (way : Int × Int) (sum : Int) (t : Tr) : Array Value :=
  (#[.int .i64 cell, .slice A L.length c, .int .i64 way.1, .int .i64 way.2, .int .i64 sum] : Array Value) ++ t.cells.toArray

set_option maxRecDepth 100000 in
theorem rd_askT (q : Nat) (hq : W.heap.size ≤ q) {n : Nat} {cs : List Value} {x : DataW H × List MemPlace} (h : DataW.trod enc Try.prog W 0 (fun _ => true) true n 51 cs = some x) :
    ∃ (cell : Int) (A : Option Addr) (c : Nat) (L : List Int) (way : Int × Int) (sum : Int) (t : Tr), cs = (askT cell A c L way sum t).toList ∧ RowAt W A (intCells L) ∧ L.length ≤ 9223372036854775807 ∧ TrAt W q t ∧
      (-9223372036854775808 ≤ sum ∧ sum ≤ 9223372036854775807) := by
  obtain ⟨xs, n', _, _, hl, hxl, hf⟩ := DataW.trod_struct Try.underlying51 h
  have hl2 : cs.length = 11 := hl.trans (by kernel_rfl)
  have hx2 : xs.length = 5 := hxl
  match cs, hl2, xs, hx2 with
  | [c0, c1, c2, c3, c4, c5, c6, c7, c8, c9, c10], _, [y0, y1, y2, y3, y4], _ =>
    have h0 : DataW.trod enc Try.prog W 0 (fun _ => true) true n' 3 (([c0, c1, c2, c3, c4, c5, c6, c7, c8, c9, c10].drop 0).take (Try.prog.cellsOf 3)) = some y0 := hf 0 _ rfl
    have h1 : DataW.trod enc Try.prog W 0 (fun _ => true) true n' 22 (([c0, c1, c2, c3, c4, c5, c6, c7, c8, c9, c10].drop 1).take (Try.prog.cellsOf 22)) = some y1 := hf 1 _ rfl
    have h2 : DataW.trod enc Try.prog W 0 (fun _ => true) true n' 43 (([c0, c1, c2, c3, c4, c5, c6, c7, c8, c9, c10].drop 2).take (Try.prog.cellsOf 43)) = some y2 := hf 2 _ rfl
    have h3 : DataW.trod enc Try.prog W 0 (fun _ => true) true n' 3 (([c0, c1, c2, c3, c4, c5, c6, c7, c8, c9, c10].drop 4).take (Try.prog.cellsOf 3)) = some y3 := hf 3 _ rfl
    have h4 : DataW.trod enc Try.prog W 0 (fun _ => true) true n' 49 (([c0, c1, c2, c3, c4, c5, c6, c7, c8, c9, c10].drop 5).take (Try.prog.cellsOf 49)) = some y4 := hf 4 _ rfl
    rw [show Try.prog.cellsOf 3 = 1 by kernel_rfl] at h0 h3
    rw [show Try.prog.cellsOf 22 = 1 by kernel_rfl] at h1
    rw [show Try.prog.cellsOf 43 = 2 by kernel_rfl] at h2
    rw [show Try.prog.cellsOf 49 = 6 by kernel_rfl] at h4
    obtain ⟨a, ea, _⟩ := rd_int h0
    obtain ⟨A, k, L, el, hr, q1, q2⟩ := rd_ints h1
    obtain ⟨way, ew⟩ := rd_point h2
    obtain ⟨b, eb, wb⟩ := rd_int h3
    obtain ⟨t, et, ht⟩ := rd_tree q hq _ _ _ h4
    simp at ea el ew eb et
    obtain ⟨e1, e2⟩ := ew
    subst ea el e1 e2 eb
    exact ⟨a, A, k, L, way, b, t, by simp [askT, ← et], hr, Nat.le_trans q1 q2, ht, wb⟩

set_option maxRecDepth 100000 in
theorem arg_askT (q : Nat) (hq : W.heap.size ≤ q) (h : DataW.Trod enc Try.prog W 0 (fun _ => true) true 51 v d p) (hv : Value.okWide Try.prog W .any b0 51 v) :
    ∃ (cell : Int) (A : Option Addr) (c : Nat) (L : List Int) (way : Int × Int) (sum : Int) (t : Tr), v = .agg (askT cell A c L way sum t) ∧ RowAt W A (intCells L) ∧ L.length ≤ 9223372036854775807 ∧ TrAt W q t ∧
      (-9223372036854775808 ≤ sum ∧ sum ≤ 9223372036854775807) := by
  obtain ⟨cs, rfl, hsz⟩ := okWide_struct Try.underlying51 hv
  obtain ⟨fuel, hf⟩ := h
  obtain ⟨cell, A, c, L, way, sum, t, h1, h2⟩ := rd_askT q hq hf
  refine ⟨cell, A, c, L, way, sum, t, ?_, h2⟩
  have : cs = askT cell A c L way sum t := Array.toList_inj.1 h1
  rw [this]

end
end Go.Proofs.Ythmngnfdfelkeaa
