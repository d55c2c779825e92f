/-
  What is proved: words for the memory of the search for a loop, and what it keeps; plain laws of loops.
  What is proved: the contracts of ContainsFunc over moves (whether one cuts) and of the two indices.
  What is proved: contracts of sum, lightEvents (bounded) and of Few's parts.
-/
import Derived.Test.YteihcodicfoiaaaGreatMw4
import Derived.Test.YteihcodicfoiaaaGreatMw5
import Derived.Test.YteihcodicfoiaaaGreatMw3
namespace Go.Proofs.YteihcodicfoiaaaGreat
open Go.RowKit

/-- i comes to k by one or more steps. -/
inductive Rch (f : Flr) : Nat → Nat → Prop
  | one {i k : Nat} : stepR f i k → Rch f i k
  | cons {i j k : Nat} : stepR f i j → Rch f j k → Rch f i k
theorem Rch.snoc {f : Flr} {i j k : Nat} (h : Rch f i j) (s : stepR f j k) : Rch f i k := by
  induction h with
  | one t => exact .cons t (.one s)
  | cons t _ ih => exact .cons t (ih s)
theorem Rch.trans {f : Flr} {i j k : Nat} (h : Rch f i j) (g : Rch f j k) : Rch f i k := by
  induction h with
  | one t => exact .cons t g
  | cons t _ ih => exact .cons t (ih g)
theorem AccS.irr {f : Flr} {i : Nat} (h : AccS f i) : ¬ Rch f i i := by
  induction h with
  | @mk i _ ih =>
    intro r
    cases r with
    | one s => exact ih i s (.one s)
    | cons s r => exact ih _ s (r.snoc s)
theorem AccS.step {f : Flr} {i k : Nat} (h : AccS f i) (s : stepR f i k) : AccS f k := by
  cases h with
  | mk h => exact h k s

theorem step_lt {f : Flr} (hok : f.Ok) {i k : Nat} (hi : i < f.R * f.S * f.S) (h : stepR f i k) : k < f.R * f.S * f.S := by
  obtain ⟨e1, e2, e3, _⟩ := state_lt hok hi
  have hd := fun m (hm : m ∈ mvsOf f (ringN f.R f.S i) (secN f.S i) (turnN f.R f.S i)) => (hok.dk _ (getD_mem [] (show mvIx f (ringN f.R f.S i) (secN f.S i) (turnN f.R f.S i) < f.drive.length by rw [hok.dl]; exact (kinds_in hok e1 e2).2.2))).2.2 m hm
  obtain ⟨m, hm⟩ := h
  unfold stepsL at hm
  obtain ⟨m', hm', he⟩ := List.mem_map.1 hm
  simp only [Prod.mk.injEq] at he
  have hb := hd m' hm'
  have he2 := he.2
  unfold nextN at he2
  split at he2
  · cases he2
  · rename_i hq
    simp only [Option.some.injEq] at he2
    rw [← he2]
    refine num_lt (by omega) ?_ (Nat.mod_lt _ (by omega))
    have := Int.emod_lt_of_pos ((secN f.S i : Int) + m'.side) (b := f.S) (by omega)
    have := Int.emod_nonneg ((secN f.S i : Int) + m'.side) (b := f.S) (by omega)
    omega

theorem cnt_set : ∀ (l : List Bool) (i : Nat), i < l.length → l.getD i true = false → (l.set i true).count false + 1 = l.count false
  | x :: l, 0, _, h => by
    simp at h
    subst h
    simp
  | x :: l, i + 1, hi, h => by
    have ih := cnt_set l i (by simpa using hi) (by simpa using h)
    simp only [List.set_cons_succ, List.count_cons]
    omega
theorem set_back : ∀ (l : List Bool) (i : Nat), l.getD i true = false → (l.set i true).set i false = l
  | [], _, _ => rfl
  | x :: l, 0, h => by simp at h; subst h; simp
  | x :: l, i + 1, h => by
    have ih := set_back l i (by simpa using h)
    simp [ih]
theorem getD_dflt {l : List Bool} {i : Nat} (hi : i < l.length) (a b : Bool) : l.getD i a = l.getD i b := by
  rw [getD_get _ _ hi, getD_get _ _ hi]
theorem getD_set_ne {l : List Bool} {i k : Nat} (x d : Bool) (h : i ≠ k) : (l.set i x).getD k d = l.getD k d := by
  simp only [List.getD_eq_getElem?_getD, List.getElem?_set, if_neg h]
theorem getD_set_eq {l : List Bool} {i : Nat} (x d : Bool) (h : i < l.length) : (l.set i x).getD i d = x := by
  simp [List.getD_eq_getElem?_getD, h]

structure SkLoc where
  N : Nat
  n : Nat
  b : Nat
  Bf : Nat
  Bd : Nat
  Bo : Nat
  Bp : Nat
  Bs : Nat
  gon : Nat
  gd : Nat
def SkLoc.caps (L : SkLoc) : Array Value := #[.pointer (some ⟨L.Bo, 0, none⟩), .pointer (some ⟨L.Bf, 0, none⟩), .pointer (some ⟨L.Bd, 0, none⟩), .pointer (some ⟨L.Bp, 0, none⟩), .pointer (some ⟨L.Bs, 0, none⟩)]
structure SkLoc.Ok (L : SkLoc) : Prop where
  n1 : L.n ≤ L.gon
  n2 : L.n ≤ L.gd
  n3 : L.n ≤ L.Bp
  ne : L.gon ≠ L.gd
/-- The search's memory: what is on the way, what is done, the way's moves. -/
structure SkAt (L : SkLoc) (on dn : List Bool) (p : Nat) (v : Value) (W : World) : Prop where
  bf : Bk W L.Bf 173 #[.pointer (some ⟨L.b, 0, none⟩)]
  bd : Bk W L.Bd 266 #[.slice (some ⟨L.gd, 0, none⟩) L.N L.N]
  bo : Bk W L.Bo 266 #[.slice (some ⟨L.gon, 0, none⟩) L.N L.N]
  bs : Bk W L.Bs 229 #[.func (.func 195) #[] L.caps]
  ron : Bk W L.gon 4 (boolCells on).toArray
  rdn : Bk W L.gd 4 (boolCells dn).toArray
  bp : Bk W L.Bp 155 #[v]
  own : ∃ xs, W.ownsRow L.n 247 3 v p xs
  lon : on.length = L.N
  ldn : dn.length = L.N

theorem own_type {w : World} {base : Nat} {e : TypeId} {size : Nat} {v : Value} {n : Nat} {xs : List Value} (h : w.ownsRow base e size v n xs) {g : Nat} (hg : v.ownBlock = some g) : ∃ cs, Bk w g e cs := by
  rcases h.2 with ⟨rfl, _⟩ | ⟨g', cap, cur, rfl, _, hgb, _⟩
  · simp [Value.ownBlock] at hg
  · obtain rfl : g' = g := by simpa [Value.ownBlock] using hg
    exact ⟨cur, hgb⟩
theorem SkAt.vn {L : SkLoc} {on dn : List Bool} {p : Nat} {v : Value} {W : World} (h : SkAt L on dn p v W) : ∀ k, v.ownBlock = some k → L.n ≤ k ∧ k < W.heap.size := by
  obtain ⟨xs, hx⟩ := h.own
  exact hx.lt

/-- What the search may write: its rows, the way's box, rows of moves, and what is new. -/
structure SkKeep (L : SkLoc) (W W' : World) : Prop where
  bel : Below L.n W W'
  block : ∀ k o, W.heap[k]? = some o → k ≠ L.gon → k ≠ L.gd → k ≠ L.Bp → (∀ cs r, o ≠ .cells cs 247 r) → W'.heap[k]? = some o
theorem SkKeep.refl (L : SkLoc) (W : World) : SkKeep L W W := ⟨Below.refl _ _, fun _ _ h _ _ _ _ => h⟩
theorem SkKeep.trans {L : SkLoc} {A B C : World} (h : SkKeep L A B) (k : SkKeep L B C) : SkKeep L A C :=
  ⟨h.bel.trans k.bel, fun j o hj h1 h2 h3 h4 => k.block j o (h.block j o hj h1 h2 h3 h4) h1 h2 h3 h4⟩
theorem SkKeep.of_below {L : SkLoc} {W W' : World} (h : Below W.heap.size W W') (hn : L.n ≤ W.heap.size) : SkKeep L W W' :=
  ⟨⟨h.os, h.tape, h.output, h.size, fun k hk => h.block k (by omega)⟩, fun k o hk _ _ _ _ => (h.block k (Array.getElem?_eq_some_iff.1 hk).1).trans hk⟩
theorem SkKeep.set {L : SkLoc} (hL : L.Ok) {W : World} {p : Addr} (u : Value) (h : p.block = L.gon ∨ p.block = L.gd ∨ p.block = L.Bp) : SkKeep L W (W.setCell p u) :=
  ⟨(Below.refl _ _).setCell (by have := hL.n1; have := hL.n2; have := hL.n3; rcases h with h | h | h <;> rw [h] <;> assumption) u, fun k o hk h1 h2 h3 _ => (Below.heap_setCell W p u k (by rcases h with h | h | h <;> rw [h] <;> assumption)).trans hk⟩
theorem SkKeep.grown {L : SkLoc} {A B C : World} {row : Option Nat} (h : SkKeep L A B) (hg : B.grownBy C row) (hn : L.n ≤ A.heap.size) (hr : ∀ r, row = some r → A.heap.size ≤ r) : SkKeep L A C :=
  ⟨h.bel.grown hg (Nat.le_trans hn h.bel.size) (fun r e => by have := hr r e; omega), fun k o hk h1 h2 h3 h4 => by
    have hlt := (Array.getElem?_eq_some_iff.1 hk).1
    exact (hg.block k (Nat.lt_of_lt_of_le hlt h.bel.size) (fun e => by have := hr k e.symm; omega)).trans (h.block k o hk h1 h2 h3 h4)⟩
/-- The way's row is written. -/
theorem SkKeep.row {L : SkLoc} {on dn : List Bool} {p : Nat} {v : Value} {W W' : World} (hs : SkAt L on dn p v W) (hn : L.n ≤ W.heap.size) (hg : W.grownBy W' v.ownBlock) : SkKeep L W W' :=
  ⟨(Below.refl _ _).grown hg hn (fun r e => (hs.vn r e).1), fun k o hk _ _ _ h4 => by
    refine (hg.block k (Array.getElem?_eq_some_iff.1 hk).1 (fun e => ?_)).trans hk
    obtain ⟨xs, hx⟩ := hs.own
    obtain ⟨cs, hc⟩ := own_type hx e.symm
    unfold Bk at hc
    rw [hc] at hk
    exact h4 _ _ (Option.some.inj hk).symm⟩
theorem SkKeep.other {L : SkLoc} {on dn : List Bool} {p : Nat} {v : Value} {W W' : World} (h : SkKeep L W W') (hs : SkAt L on dn p v W) {k : Nat} {o : Obj} (hk : W.heap[k]? = some o)
    (ho : ∀ cs r, o ≠ .cells cs 4 r ∧ o ≠ .cells cs 155 r ∧ o ≠ .cells cs 247 r) : W'.heap[k]? = some o := by
  refine h.block k o hk ?_ ?_ ?_ (fun cs r => (ho cs r).2.2)
  · rintro rfl
    have : W.heap[L.gon]? = some _ := hs.ron
    rw [this] at hk
    exact (ho _ _).1 (Option.some.inj hk).symm
  · rintro rfl
    have : W.heap[L.gd]? = some _ := hs.rdn
    rw [this] at hk
    exact (ho _ _).1 (Option.some.inj hk).symm
  · rintro rfl
    have : W.heap[L.Bp]? = some _ := hs.bp
    rw [this] at hk
    exact (ho _ _).2.1 (Option.some.inj hk).symm
theorem SkKeep.others {L : SkLoc} {on dn : List Bool} {p : Nat} {v : Value} {W W' : World} (h : SkKeep L W W') (hs : SkAt L on dn p v W) : KeepsOthers W W' :=
  ⟨h.bel.size, fun k o hk ho => h.other hs hk (fun cs r => by
    refine ⟨?_, ?_, ?_⟩ <;> (intro e; subst e; cases ho))⟩
theorem SkKeep.kps {L : SkLoc} {on dn : List Bool} {p : Nat} {v : Value} {W W' : World} (h : SkKeep L W W') (hs : SkAt L on dn p v W) : KpS L.n W W' :=
  ⟨h.bel, fun k cs t r ht hk => h.other hs hk (fun cs' r' => by
    refine ⟨?_, ?_, ?_⟩ <;> (intro e; injection e with _ e _; rcases ht with rfl | rfl <;> exact absurd e (by decide)))⟩
/-- A block that is none of the search's lies as it lay. -/
theorem SkKeep.bk {L : SkLoc} {W W' : World} (h : SkKeep L W W') {q : Nat} {t : TypeId} {cs : Array Value} (hq : Bk W q t cs) (h1 : q ≠ L.gon) (h2 : q ≠ L.gd) (h3 : q ≠ L.Bp) (ht : t ≠ 247) : Bk W' q t cs :=
  h.block q _ hq h1 h2 h3 (fun cs' r' e => by injection e with _ e _; exact ht e)

/-- A block of the search's own kind is no other. -/
theorem SkAt.dis {L : SkLoc} {on dn : List Bool} {p : Nat} {v : Value} {W : World} (hs : SkAt L on dn p v W) {q : Nat} {t : TypeId} {cs : Array Value} (hq : Bk W q t cs) :
    (t ≠ 4 → q ≠ L.gon ∧ q ≠ L.gd) ∧ (t ≠ 155 → q ≠ L.Bp) ∧ (t ≠ 247 → v.ownBlock ≠ some q) := by
  refine ⟨fun h => ⟨hq.ne hs.ron h, hq.ne hs.rdn h⟩, fun h => hq.ne hs.bp h, fun h e => ?_⟩
  obtain ⟨xs, hx⟩ := hs.own
  obtain ⟨cs', hc⟩ := own_type hx e
  exact hq.ne hc h rfl
/-- All goes on where nothing of the search's is written. -/
theorem SkAt.grown {L : SkLoc} {on dn : List Bool} {p : Nat} {v : Value} {W W' : World} {row : Option Nat} (h : SkAt L on dn p v W) (hg : W.grownBy W' row) (hr : ∀ r, row = some r → ∃ o : Obj, W.heap[r]? = some o ∧ o.isCells = false) : SkAt L on dn p v W' := by
  have key : ∀ {q : Nat} {t : TypeId} {cs : Array Value}, Bk W q t cs → some q ≠ row := fun hq e => by
    obtain ⟨o, ho, hc⟩ := hr _ e.symm
    unfold Bk at hq
    rw [hq] at ho
    cases ho
    cases hc
  obtain ⟨xs, hx⟩ := h.own
  refine ⟨h.bf.grown hg (key h.bf), h.bd.grown hg (key h.bd), h.bo.grown hg (key h.bo), h.bs.grown hg (key h.bs), h.ron.grown hg (key h.ron), h.rdn.grown hg (key h.rdn), h.bp.grown hg (key h.bp), ⟨xs, hx.kept hg ?_⟩, h.lon, h.ldn⟩
  cases hv : v.ownBlock with
  | none => exact .inl rfl
  | some g =>
    obtain ⟨cs, hc⟩ := own_type hx hv
    exact .inr (key hc)
theorem SkAt.below {L : SkLoc} {on dn : List Bool} {p : Nat} {v : Value} {W W' : World} (h : SkAt L on dn p v W) (hb : Below W.heap.size W W') : SkAt L on dn p v W' :=
  h.grown (row := none) ⟨hb.os, hb.tape, hb.output, hb.size, fun k hk _ => hb.block k hk⟩ (fun r e => by cases e)
theorem SkAt.drew {L : SkLoc} {on dn : List Bool} {p : Nat} {v : Value} {W : World} (h : SkAt L on dn p v W) : SkAt L on dn p v W.drew := h.below ⟨rfl, rfl, rfl, Nat.le_refl _, fun _ _ => rfl⟩
/-- A store elsewhere. -/
theorem SkAt.far {L : SkLoc} {on dn : List Bool} {p : Nat} {v : Value} {W : World} (h : SkAt L on dn p v W) {q : Addr} (u : Value) (hq : q.block ≠ L.Bf ∧ q.block ≠ L.Bd ∧ q.block ≠ L.Bo ∧ q.block ≠ L.Bs ∧ q.block ≠ L.gon ∧ q.block ≠ L.gd ∧ q.block ≠ L.Bp ∧ v.ownBlock ≠ some q.block) : SkAt L on dn p v (W.setCell q u) := by
  obtain ⟨h1, h2, h3, h4, h5, h6, h7, h8⟩ := hq
  obtain ⟨xs, hx⟩ := h.own
  exact ⟨h.bf.far h1.symm u, h.bd.far h2.symm u, h.bo.far h3.symm u, h.bs.far h4.symm u, h.ron.far h5.symm u, h.rdn.far h6.symm u, h.bp.far h7.symm u, ⟨xs, own_far hx h8 u⟩, h.lon, h.ldn⟩
theorem boolRow_set (l : List Bool) (i : Nat) (x : Bool) : (boolCells l).toArray.setIfInBounds i (.bool x) = (boolCells (l.set i x)).toArray := by
  rw [List.setIfInBounds_toArray, boolCells_set]
theorem SkAt.setOn {L : SkLoc} {on dn : List Bool} {p : Nat} {v : Value} {W : World} (h : SkAt L on dn p v W) (hL : L.Ok) (i : Nat) (x : Bool) : SkAt L (on.set i x) dn p v (W.setCell ⟨L.gon, i, none⟩ (.bool x)) := by
  obtain ⟨xs, hx⟩ := h.own
  refine ⟨h.bf.far (h.bf.ne h.ron (by decide)) _, h.bd.far (h.bd.ne h.ron (by decide)) _, h.bo.far (h.bo.ne h.ron (by decide)) _, h.bs.far (h.bs.ne h.ron (by decide)) _, ?_, h.rdn.far (fun e => hL.ne e.symm) _, h.bp.far (h.bp.ne h.ron (by decide)) _, ⟨xs, own_far hx ((h.dis h.ron).2.2 (by decide)) _⟩, by simp [h.lon], h.ldn⟩
  rw [← boolRow_set]
  exact h.ron.put i _
theorem SkAt.setDn {L : SkLoc} {on dn : List Bool} {p : Nat} {v : Value} {W : World} (h : SkAt L on dn p v W) (hL : L.Ok) (i : Nat) (x : Bool) : SkAt L on (dn.set i x) p v (W.setCell ⟨L.gd, i, none⟩ (.bool x)) := by
  obtain ⟨xs, hx⟩ := h.own
  refine ⟨h.bf.far (h.bf.ne h.rdn (by decide)) _, h.bd.far (h.bd.ne h.rdn (by decide)) _, h.bo.far (h.bo.ne h.rdn (by decide)) _, h.bs.far (h.bs.ne h.rdn (by decide)) _, h.ron.far hL.ne _, ?_, h.bp.far (h.bp.ne h.rdn (by decide)) _, ⟨xs, own_far hx ((h.dis h.rdn).2.2 (by decide)) _⟩, h.lon, by simp [h.ldn]⟩
  rw [← boolRow_set]
  exact h.rdn.put i _
/-- Another way in the way's box. -/
theorem SkAt.setP {L : SkLoc} {on dn : List Bool} {p p' : Nat} {v v' : Value} {W : World} (h : SkAt L on dn p v W) (hv : ∃ xs, W.ownsRow L.n 247 3 v' p' xs) : SkAt L on dn p' v' (W.setCell ⟨L.Bp, 0, none⟩ v') := by
  obtain ⟨xs, hx⟩ := hv
  refine ⟨h.bf.far (h.bf.ne h.bp (by decide)) _, h.bd.far (h.bd.ne h.bp (by decide)) _, h.bo.far (h.bo.ne h.bp (by decide)) _, h.bs.far (h.bs.ne h.bp (by decide)) _, h.ron.far (h.ron.ne h.bp (by decide)) _, h.rdn.far (h.rdn.ne h.bp (by decide)) _, ?_, ⟨xs, own_far hx ?_ _⟩, h.lon, h.ldn⟩
  · have := h.bp.put 0 v'
    simpa using this
  · intro e
    obtain ⟨cs, hc⟩ := own_type hx e
    exact hc.ne h.bp (by decide) rfl
/-- The way's row is written alone. -/
theorem SkAt.row {L : SkLoc} {on dn : List Bool} {p p' : Nat} {v v' : Value} {W W' : World} (h : SkAt L on dn p v W) (hg : W.grownBy W' v.ownBlock) (hv : ∃ xs, W'.ownsRow L.n 247 3 v' p' xs) : SkAt L on dn p' v' (W'.setCell ⟨L.Bp, 0, none⟩ v') := by
  have key : ∀ {q : Nat} {t : TypeId} {cs : Array Value}, Bk W q t cs → t ≠ 247 → Bk W' q t cs := fun hq ht => hq.grown hg (fun e => (h.dis hq).2.2 ht e.symm)
  obtain ⟨xs, hx⟩ := hv
  have hbp := key h.bp (by decide)
  refine ⟨(key h.bf (by decide)).far (h.bf.ne h.bp (by decide)) _, (key h.bd (by decide)).far (h.bd.ne h.bp (by decide)) _, (key h.bo (by decide)).far (h.bo.ne h.bp (by decide)) _, (key h.bs (by decide)).far (h.bs.ne h.bp (by decide)) _, (key h.ron (by decide)).far (h.ron.ne h.bp (by decide)) _, (key h.rdn (by decide)).far (h.rdn.ne h.bp (by decide)) _, ?_, ⟨xs, own_far hx ?_ _⟩, h.lon, h.ldn⟩
  · have := hbp.put 0 v'
    simpa using this
  · intro e
    obtain ⟨cs, hc⟩ := own_type hx e
    exact hc.ne hbp (by decide) rfl
/-- The way without its last move. -/
theorem own_init {w : World} {base : Nat} {e : TypeId} {size n cap : Nat} {g : Nat} {xs : List Value} (h : w.ownsRow base e size (.slice (some ⟨g, 0, none⟩) (n + 1) cap) (n + 1) xs) : w.ownsRow base e size (.slice (some ⟨g, 0, none⟩) n cap) n (xs.take (n * size)) := by
  refine ⟨by rw [List.length_take, h.1]; exact Nat.min_eq_left (Nat.mul_le_mul_right _ (by omega)), .inr ?_⟩
  rcases h.2 with ⟨h1, _⟩ | ⟨g', cap', cur, h1, hb, hg, hc, hm, hs, ht⟩
  · cases h1
  · simp only [Value.slice.injEq, Option.some.injEq, Addr.mk.injEq, and_true, true_and] at h1
    obtain ⟨rfl, rfl⟩ := h1
    refine ⟨g, cap, cur, rfl, hb, hg, by omega, hm, hs, ?_⟩
    rw [← ht, List.take_take, Nat.min_eq_left (Nat.mul_le_mul_right _ (by omega))]
end Go.Proofs.YteihcodicfoiaaaGreat
namespace Go.Proofs.YteihcodicfoiaaaGreat
open Go.RowKit
attribute [local go_sem ↓] max_int min_int

set_option maxHeartbeats 1000000 in
theorem isCut_any (mo ms : Int) (mc : Bool) (w : World) : Calls Tryz.prog 126 #[.agg #[.int .i64 mo, .int .i64 ms, .bool mc]] w fun e w' => e = .returned (.bool mc) ∧ Below w.heap.size w w' := by
  have hB : Below w.heap.size w (w.alloc (.cells #[.int .i64 mo, .int .i64 ms, .bool mc] 247)) := (Below.refl _ _).alloc (Nat.le_refl _) _
  go_enter Tryz.func126, Tryz.ntmps126
  go_wp2_with fail
  go_ret
  exact ⟨rfl, hB⟩

/-- The first move that cuts, or -1. -/
def firstCut (l : List Mv) : Int := match l.findIdx? (fun m => m.cut) with | some i => i | none => -1
theorem firstCut_hit (l : List Mv) (k : Nat) (hk : k < l.length) (h : ∀ j, j < k → (l.getD j mv0).cut = false) (hb : (l.getD k mv0).cut = true) : firstCut l = k := by
  have e : l.findIdx? (fun m => m.cut) = some k := by
    rw [List.findIdx?_eq_some_iff_getElem]
    refine ⟨hk, by rw [getD_get _ _ hk] at hb; exact hb, fun j hj => ?_⟩
    have := h j hj
    rw [getD_get _ _ (by omega)] at this
    simp [this]
  simp [firstCut, e]
theorem firstCut_none (l : List Mv) (h : ∀ j, j < l.length → (l.getD j mv0).cut = false) : firstCut l = -1 := by
  have e : l.findIdx? (fun m => m.cut) = none := by
    rw [List.findIdx?_eq_none_iff]
    intro m hm
    obtain ⟨j, hj, rfl⟩ := List.getElem_of_mem hm
    have := h j hj
    rw [getD_get _ _ hj] at this
    simp [this]
  simp [firstCut, e]
theorem firstCut_any (l : List Mv) : decide (firstCut l ≥ 0) = l.any (fun m => m.cut) := by
  unfold firstCut
  cases e : l.findIdx? (fun m => m.cut) with
  | none =>
    rw [List.findIdx?_eq_none_iff] at e
    have h : l.any (fun m => m.cut) = false := by rw [List.any_eq_false]; intro m hm; simpa using e m hm
    simp [h]
  | some i =>
    rw [List.findIdx?_eq_some_iff_getElem] at e
    obtain ⟨hi, h1, _⟩ := e
    have h : l.any (fun m => m.cut) = true := by
      rw [List.any_eq_true]
      exact ⟨l[i], List.getElem_mem hi, h1⟩
    simp [h]

set_option maxRecDepth 100000 in
set_option maxHeartbeats 4000000 in
theorem index65_any (A : Option Addr) (c : Nat) (l : List Mv) (w : World) (hL : RowAt w A (mvCells l)) (hn : l.length ≤ 1000) :
    Calls Tryz.prog 169 #[.slice A l.length c, .func (.func 126) #[] #[]] w fun e w' => e = .returned (.int .i64 (firstCut l)) ∧ Below w.heap.size w w' := by
  have HL := Lib.hid hL
  clear hL
  have hB0 := Below.refl w.heap.size w
  go_enter Tryz.func169, Tryz.ntmps169
  go_wp2_with fail
  go_loopw [8] (fun i wr => ∃ k : Nat, k ≤ l.length ∧ i = .int .i64 k ∧ Below w.heap.size w wr ∧ Hid (∀ j, j < k → (l.getD j mv0).cut = false)) (fun i _ => l.length - (intOf i).toNat)
  case atStart => exact ⟨0, Nat.zero_le _, rfl, hB0, fun j h => absurd h (by omega)⟩
  case round =>
    obtain ⟨k, hk, rfl, hBr, hall⟩ := hrel
    by_cases hlt : k < l.length
    · obtain ⟨b5, o5, hA, hb5, hc5⟩ := mv_cells (HL.out.below hBr) (by omega)
      obtain ⟨c0, c1, c2⟩ := hc5 k hlt
      have HALL := Lib.hid (fun (hg : (l.getD k mv0).cut = false) j (hj : j < k + 1) => show (l.getD j mv0).cut = false by
        rcases Nat.lt_or_ge j k with h | h
        · exact hall.out j h
        · obtain rfl : j = k := by omega
          exact hg)
      have HH := Lib.hid (fun (hg : (l.getD k mv0).cut = true) => firstCut_hit l k hlt hall.out hg)
      clear hc5 hall hB0
      rw [hA]
      clear hA
      generalize l.getD k mv0 = mk at *
      obtain ⟨mo, ms, mc⟩ := mk
      simp only at c0 c1 c2 HALL HH
      cases mc
      · go_wp2_with (go_at_call 126; refine (isCut_any _ _ _ _).mono ?_; rintro e w1 ⟨rfl, hb1⟩)
        have hB1 := hBr.trans (hb1.mono hBr.size)
        go_roundw
        case rel => exact ⟨k + 1, by omega, by go_num, hB1, HALL.out (by first | rfl | trivial)⟩
        case measure => simp [intOf]; omega
      · go_wp2_with (go_at_call 126; refine (isCut_any _ _ _ _).mono ?_; rintro e w1 ⟨rfl, hb1⟩)
        have hB1 := hBr.trans (hb1.mono hBr.size)
        go_ret
        exact ⟨ret_int (HH.out (by first | rfl | trivial)).symm, hB1⟩
    · have : k = l.length := by omega
      subst this
      have HE := Lib.hid (firstCut_none l hall.out)
      clear hall
      go_wp2
      go_ret
      exact ⟨ret_int HE.out.symm, hBr⟩

theorem contains42_any (A : Option Addr) (c : Nat) (l : List Mv) (w : World) (hL : RowAt w A (mvCells l)) (hn : l.length ≤ 1000) :
    Calls Tryz.prog 124 #[.slice A l.length c, .func (.func 126) #[] #[]] w fun e w' => e = .returned (.bool (l.any (fun m => m.cut))) ∧ Below w.heap.size w w' := by
  go_enter Tryz.func124, Tryz.ntmps124
  go_wp2_with (go_at_call 169; refine (index65_any _ _ _ _ hL hn).mono ?_; rintro e w1 ⟨rfl, hb1⟩)
  go_ret
  exact ⟨ret_bool (firstCut_any l), hb1⟩

def bedIx (f : Flr) (ring sec _turn : Nat) : Nat := ring * f.S + sec
def runIx (f : Flr) (ring sec turn : Nat) : Nat := ring * f.S + runS f.S sec turn

set_option maxRecDepth 100000 in
set_option maxHeartbeats 4000000 in
theorem bedIx_any (b q : Nat) (f : Flr) (z : FLoc) (ring sec turn : Nat) (w : World) (hf : FlAt w b f z) (hok : f.Ok) (h1 : ring < f.R) (h2 : sec < f.S) (h3 : turn < f.S) (hq : Bk w q 173 #[.pointer (some ⟨b, 0, none⟩)]) :
    Calls Tryz.prog 82 #[stV ring sec turn, .pointer (some ⟨q, 0, none⟩)] w fun e w' => e = .returned (.int .i64 (bedIx f ring sec turn)) ∧ Below w.heap.size w w' := by
  obtain ⟨r0, r1, s0, s1, _, _, _, _, _, _⟩ := id hok
  have HE : Hid ((bedIx f ring sec turn : Int) = (ring : Int) * f.S + sec) := by simp [Hid, bedIx]
  obtain ⟨W, hW⟩ : ∃ W, w.alloc (.cells #[.int .i64 ring, .int .i64 sec, .int .i64 turn] 178) = W := ⟨_, rfl⟩
  have hbW : Below w.heap.size w W := by rw [← hW]; exact (Below.refl _ _).alloc (Nat.le_refl _) _
  have Y : Bk W w.heap.size 178 #[.int .i64 ring, .int .i64 sec, .int .i64 turn] := by rw [← hW]; exact bk_last rfl
  have x0 := (hf.below hbW).cS
  have xq := (hq.keep hbW).cell 0
  have y0 := Y.cell 0
  have y1 := Y.cell 1
  have y2 := Y.cell 2
  simp at y0 y1 y2 xq
  have HW := Lib.hid hW
  clear hf hW Y hq
  have hm := mul_bound (a := ring) (b := f.S) (m := 4) (n := 8) (by omega) (by omega) (by omega) (by omega)
  generalize f.S = S at *
  have hw1 := IntWalk.i64_in ((ring : Int) * S) (by omega)
  have hw2 := IntWalk.i64_in ((ring : Int) * S + sec) (by omega)
  clear hm
  unfold stV
  go_enter Tryz.func82, Tryz.ntmps82
  go_upto_region 1 with fail
  rw [HW.out]
  clear HW
  go_quiet (fail)
  go_wp2_with fail
  go_ret
  exact ⟨by rw [HE.out]; rfl, below_drewN hbW _⟩

set_option maxRecDepth 100000 in
set_option maxHeartbeats 4000000 in
theorem runIx_any (b q : Nat) (f : Flr) (z : FLoc) (ring sec turn : Nat) (w : World) (hf : FlAt w b f z) (hok : f.Ok) (h1 : ring < f.R) (h2 : sec < f.S) (h3 : turn < f.S) (hq : Bk w q 173 #[.pointer (some ⟨b, 0, none⟩)]) :
    Calls Tryz.prog 80 #[stV ring sec turn, .pointer (some ⟨q, 0, none⟩)] w fun e w' => e = .returned (.int .i64 (runIx f ring sec turn)) ∧ Below w.heap.size w w' := by
  obtain ⟨r0, r1, s0, s1, _, _, _, _, _, _⟩ := id hok
  have HE : Hid ((runIx f ring sec turn : Int) = (ring : Int) * f.S + runS f.S sec turn) := by simp [Hid, runIx]
  have hrs := runS_lt (S := f.S) (sec := sec) (turn := turn) (by omega)
  have hrv := runS_val (S := f.S) (sec := sec) (turn := turn) h3
  obtain ⟨W, hW⟩ : ∃ W, w.alloc (.cells #[.int .i64 ring, .int .i64 sec, .int .i64 turn] 178) = W := ⟨_, rfl⟩
  have hbW : Below w.heap.size w W := by rw [← hW]; exact (Below.refl _ _).alloc (Nat.le_refl _) _
  have Y : Bk W w.heap.size 178 #[.int .i64 ring, .int .i64 sec, .int .i64 turn] := by rw [← hW]; exact bk_last rfl
  have x0 := (hf.below hbW).cS
  have xq := (hq.keep hbW).cell 0
  have y0 := Y.cell 0
  have y1 := Y.cell 1
  have y2 := Y.cell 2
  simp at y0 y1 y2 xq
  have HR : Hid (∀ x : Ext W, Calls Tryz.prog 81 #[.pointer (some ⟨b, 0, none⟩), .int .i64 ((sec : Int) - turn)] x.w fun e w' => e = .returned (.int .i64 (runS f.S sec turn)) ∧ Below x.w.heap.size x.w w') := fun x => by
    rw [← hrv]
    exact round_any b f.S _ x.w (by omega) (by omega) ((hf.below hbW).below x.bel).cS (by omega)
  have HW := Lib.hid hW
  clear hf hW Y hq hrv
  have hm := mul_bound (a := ring) (b := f.S) (m := 4) (n := 8) (by omega) (by omega) (by omega) (by omega)
  generalize runS f.S sec turn = rs at *
  generalize f.S = S at *
  have hw1 := IntWalk.i64_in ((ring : Int) * S) (by omega)
  have hw2 := IntWalk.i64_in ((ring : Int) * S + rs) (by omega)
  have hw4 := IntWalk.i64_in ((sec : Int) - turn) (by omega)
  clear hm
  unfold stV
  go_enter Tryz.func80, Tryz.ntmps80
  go_upto_region 1 with fail
  rw [HW.out]
  clear HW
  replace x0 := fun x : Ext W => keepc x.bel x0
  replace xq := fun x : Ext W => keepc x.bel xq
  replace y0 := fun x : Ext W => keepc x.bel y0
  replace y1 := fun x : Ext W => keepc x.bel y1
  replace y2 := fun x : Ext W => keepc x.bel y2
  refine wp_region_ext (by kernel_rfl) (by kernel_rfl) ?_
  repeat (go_big_quiet_step ((go_at_call 81; exact ext_of (HR.out _))))
  refine wpQuiet_nil ?_
  rintro _ ⟨y, rfl⟩
  clear x0 xq y0 y1 y2 HR
  have hb9 := y.bel
  generalize y.w = w9 at hb9 ⊢
  go_wp2_with fail
  go_ret
  exact ⟨by rw [HE.out]; rfl, hbW.trans (hb9.mono hbW.size)⟩

end Go.Proofs.YteihcodicfoiaaaGreat
namespace Go.Proofs.YteihcodicfoiaaaGreat
open Go.RowKit

def sumZ : List Int → Int
  | [] => 0
  | a :: l => a + sumZ l
theorem sumZ_append (a b : List Int) : sumZ (a ++ b) = sumZ a + sumZ b := by
  induction a with
  | nil => simp [sumZ]
  | cons x a ih => simp only [List.cons_append, sumZ, ih]; omega
theorem sumZ_take (l : List Int) (k : Nat) (hk : k < l.length) : sumZ (l.take (k + 1)) = sumZ (l.take k) + l.getD k 0 := by
  rw [List.take_succ_eq_append_getElem hk, sumZ_append, List.getD_eq_getElem?_getD, List.getElem?_eq_getElem hk]
  simp [sumZ]
theorem sumZ_bd (l : List Int) (M : Int) (hM : 0 ≤ M) (h : ∀ x ∈ l, 0 ≤ x ∧ x ≤ M) : 0 ≤ sumZ l ∧ sumZ l ≤ l.length * M := by
  induction l with
  | nil => simp [sumZ]
  | cons a l ih =>
    have h1 := ih (fun x hx => h x (by simp [hx]))
    have h2 := h a (by simp)
    have e : ((a :: l).length : Int) * M = l.length * M + M := by rw [List.length_cons, Int.natCast_add, Int.add_mul]; simp
    rw [e]
    simp only [sumZ]
    omega

theorem int_row {w : World} {A : Option Addr} {l : List Int} (h : RowAt w A (intCells l)) (h0 : 0 < l.length) : ∃ b off, A = some ⟨b, off, none⟩ ∧ b < w.heap.size ∧ ∀ k, k < l.length → w.cell? ⟨b, off + k, none⟩ = some (.int .i64 (l.getD k 0)) := by
  obtain ⟨b, off, h1, h2, h3⟩ := h.some_ (by simpa [intCells] using h0)
  refine ⟨b, off, h1, h2, fun k hk => h3 k _ ?_⟩
  unfold intCells
  rw [List.getElem?_map, List.getElem?_eq_getElem hk, List.getD_eq_getElem?_getD, List.getElem?_eq_getElem hk]
  rfl

set_option maxRecDepth 100000 in
set_option maxHeartbeats 2000000 in
theorem sum_any (A : Option Addr) (c : Nat) (l : List Int) (w : World) (hL : RowAt w A (intCells l)) (hn : l.length ≤ 100) (hx : ∀ x ∈ l, 0 ≤ x ∧ x ≤ 1000000000000) :
    Calls Tryz.prog 8 #[.slice A l.length c] w fun e w' => e = .returned (.int .i64 (sumZ l)) ∧ w' = w := by
  have HL := Lib.hid hL
  have HX := Lib.hid hx
  clear hL hx
  go_enter Tryz.func8, Tryz.ntmps8
  go_wp2_with fail
  go_loopw [3, 4] (fun v i wr => w = wr ∧ ∃ k : Nat, k ≤ l.length ∧ i = .int .i64 k ∧ v = .int .i64 (sumZ (l.take k))) (fun _ i _ => l.length - (intOf i).toNat)
  case atStart => exact ⟨rfl, 0, Nat.zero_le _, rfl, by simp [sumZ]⟩
  case round =>
    obtain ⟨rfl, k, hk, rfl, rfl⟩ := hrel
    by_cases hlt : k < l.length
    · have hkI : (k : Int) < l.length := by omega
      obtain ⟨b, off, hA, hb, hc⟩ := int_row HL.out (by omega)
      have c0 := hc k hlt
      have hs := sumZ_take l k hlt
      have hb1 := sumZ_bd (l.take k) 1000000000000 (by omega) (fun x h => HX.out x (List.mem_of_mem_take h))
      have hb2 := HX.out _ (getD_mem 0 hlt)
      rw [List.length_take, Nat.min_eq_left hk] at hb1
      have hs' := Lib.hid hs
      rw [hA]
      clear hA hc hs
      generalize sumZ (l.take k) = s0 at *
      generalize l.getD k 0 = x at *
      have hw1 := IntWalk.i64_in (s0 + x) (by omega)
      go_wp2_with fail
      go_roundw
      case rel => exact ⟨trivial, k + 1, by omega, by go_num, by rw [hs'.out]⟩
      case measure => simp [intOf]; omega
    · obtain rfl : k = l.length := by omega
      go_wp2_with fail
      go_ret
      exact ⟨by rw [show sumZ (l.take l.length) = sumZ l by rw [List.take_of_length_le (Nat.le_refl _)]]; rfl, rfl⟩
end Go.Proofs.YteihcodicfoiaaaGreat
