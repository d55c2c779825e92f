/-
  What is proved: how the arguments of the row read.
-/
import Derived.Test.YtkikjmkpndmdcaaLong
import Derived.Lib.SmallJoins
import Derived.Deep.Slices
import Derived.Deep.Fields
import Derived.ChangeSame
namespace Go.Proofs.Ytkikjmkpndmdcaa
open Go.ChangeShapes Go.WideShapes Go.RowKit Go.Joins Go.Deep

theorem list_build {α : Type} (n : Nat) (p : Nat → α → Prop) (h : ∀ i, i < n → ∃ m, p i m) : ∃ L : List α, L.length = n ∧ ∀ i (hi : i < L.length), p i L[i] := by
  induction n with
  | zero => exact ⟨[], rfl, fun i hi => by simp at hi⟩
  | succ n ih =>
    obtain ⟨L, hl, hp⟩ := ih fun i hi => h i (by omega)
    obtain ⟨m, hm⟩ := h n (by omega)
    refine ⟨L ++ [m], by simp [hl], fun i hi => ?_⟩
    rcases Nat.lt_or_ge i n with h1 | h1
    · rw [List.getElem_append_left (by omega)]
      exact hp i (by omega)
    · simp at hi
      have : i = n := by omega
      subst this
      rw [List.getElem_append_right (by omega)]
      simpa [hl] using hm

section
variable {H : Type} {enc : TypeId × Value → H} {W : World}

/-- A slice whose elements are k cells each, and of each of which something is known. -/
theorem open_flat {α : Type} {t e : TypeId} {k : Nat} (R : α → Prop) (f : α → List Value) (hk : ∀ x, (f x).length = k) (hk0 : 0 < k) (ht : Try.prog.underlying t = some (.slice e)) (hC : Try.prog.cellsOf e = k)
    (hdec : ∀ n cs x, DataW.trod enc Try.prog W 0 (fun _ => true) true n e cs = some x → ∃ a, cs = f a ∧ R a) {n : Nat} {cs : List Value} {x : DataW H × List MemPlace} (h : DataW.trod enc Try.prog W 0 (fun _ => true) true n t cs = some x) :
    ∃ (A : Option Addr) (c : Nat) (L : List α), cs = [.slice A L.length c] ∧ RowAt W A (L.flatMap f) ∧ (∀ i (hi : i < L.length), R L[i]) ∧ L.length ≤ c ∧ c ≤ 9223372036854775807 := by
  rcases open_slice ht h with h1 | ⟨a, len, cap, m, n, D, Pl, h1, _, hl, hm, hmm, _, hi⟩
  · exact ⟨none, 0, [], h1.1, fun h => by simp at h, fun i hi => by simp at hi, by simp, by omega⟩
  · simp only [if_true] at hmm
    subst hmm
    rw [hC] at hi
    obtain ⟨L, hL, hp⟩ := list_build len (fun i q => R q ∧ ∀ j, j < k → W.cell? (a.add (i * k + j)) = (f q)[j]?) (fun i hi' => by
      obtain ⟨cs', h2, h3⟩ := hi i (by omega)
      obtain ⟨q, rfl, hq⟩ := hdec _ _ _ h3
      obtain ⟨_, _, h4⟩ := World.cells?_some h2
      refine ⟨q, hq, fun j hj => ?_⟩
      have h5 := h4 j hj
      rwa [Go.Deep.add_add] at h5)
    subst hL
    refine ⟨some a, m, L, h1, fun h0 => ?_, fun i hi => (hp i hi).1, hl, hm⟩
    rw [flat_len f k hk] at h0
    have hL0 : 0 < L.length := by
      rcases Nat.eq_zero_or_pos L.length with h | h
      · rw [h] at h0; omega
      · exact h
    have q0 := (hp 0 hL0).2 0 hk0
    obtain ⟨v0, hv0⟩ : ∃ v0, (f (L[0]'hL0))[0]? = some v0 := ⟨_, List.getElem?_eq_getElem (by rw [hk]; exact hk0)⟩
    rw [hv0, Nat.zero_mul] at q0
    have hlt := World.block_lt_of_cell? W _ q0
    have hsp : a.spot = none := by
      have q1 : W.cell? a = some v0 := q0
      cases hs : a.spot with
      | none => rfl
      | some k =>
        unfold World.cell? at q1
        rw [hs] at q1
        split at q1 <;> simp at q1
    obtain ⟨b, off, sp⟩ := a
    simp only at hsp
    subst hsp
    refine ⟨b, off, rfl, hlt, fun j u hu => ?_⟩
    have hj := (List.getElem?_eq_some_iff.1 hu).1
    rw [flat_len f k hk] at hj
    have hi2 : j / k < L.length := Nat.div_lt_of_lt_mul (by rw [Nat.mul_comm]; exact hj)
    have hr : j % k < k := Nat.mod_lt _ hk0
    have e : j / k * k + j % k = j := by rw [Nat.mul_comm]; exact Nat.div_add_mod j k
    have hg := flat_get f k hk hk0 L (j / k) (j % k) hi2 hr
    have h5 := (hp (j / k) hi2).2 (j % k) hr
    rw [e] at hg h5
    rw [add_at] at h5
    rw [h5, ← hg]
    exact hu

theorem rd_int {n : Nat} {cs : List Value} {x : DataW H × List MemPlace} (h : DataW.trod enc Try.prog W 0 (fun _ => true) true n 3 cs = some x) : ∃ a : Int, cs = [.int .i64 a] := by
  obtain ⟨a, e, _, _⟩ := DataW.trod_int Try.underlying3 h
  exact ⟨a, e⟩

theorem rd_bool {n : Nat} {cs : List Value} {x : DataW H × List MemPlace} (h : DataW.trod enc Try.prog W 0 (fun _ => true) true n 4 cs = some x) : ∃ a : Bool, cs = [.bool a] := by
  obtain ⟨a, e, _⟩ := DataW.trod_bool Try.underlying4 h
  exact ⟨a, e⟩

set_option maxRecDepth 100000 in
theorem rd_fur {n : Nat} {cs : List Value} {x : DataW H × List MemPlace} (h : DataW.trod enc Try.prog W 0 (fun _ => true) true n 63 cs = some x) :
    ∃ p : Fur, cs = p.cells := by
  obtain ⟨xs, n', _, _, hl, hxl, hf⟩ := DataW.trod_struct Try.underlying63 h
  have hl2 : cs.length = 6 := hl.trans (by kernel_rfl)
  have hx2 : xs.length = 6 := hxl
  match cs, hl2, xs, hx2 with
  | [c0, c1, c2, c3, c4, c5], _, [y0, y1, y2, y3, y4, y5], _ =>
    have h0 : DataW.trod enc Try.prog W 0 (fun _ => true) true n' 3 (([c0, c1, c2, c3, c4, c5].drop 0).take (Try.prog.cellsOf 3)) = some y0 := hf 0 _ rfl
    have h1 : DataW.trod enc Try.prog W 0 (fun _ => true) true n' 3 (([c0, c1, c2, c3, c4, c5].drop 1).take (Try.prog.cellsOf 3)) = some y1 := hf 1 _ rfl
    have h2 : DataW.trod enc Try.prog W 0 (fun _ => true) true n' 3 (([c0, c1, c2, c3, c4, c5].drop 2).take (Try.prog.cellsOf 3)) = some y2 := hf 2 _ rfl
    have h3 : DataW.trod enc Try.prog W 0 (fun _ => true) true n' 3 (([c0, c1, c2, c3, c4, c5].drop 3).take (Try.prog.cellsOf 3)) = some y3 := hf 3 _ rfl
    have h4 : DataW.trod enc Try.prog W 0 (fun _ => true) true n' 3 (([c0, c1, c2, c3, c4, c5].drop 4).take (Try.prog.cellsOf 3)) = some y4 := hf 4 _ rfl
    have h5 : DataW.trod enc Try.prog W 0 (fun _ => true) true n' 3 (([c0, c1, c2, c3, c4, c5].drop 5).take (Try.prog.cellsOf 3)) = some y5 := hf 5 _ rfl
    rw [show Try.prog.cellsOf 3 = 1 by kernel_rfl] at h0
    rw [show Try.prog.cellsOf 3 = 1 by kernel_rfl] at h1
    rw [show Try.prog.cellsOf 3 = 1 by kernel_rfl] at h2
    rw [show Try.prog.cellsOf 3 = 1 by kernel_rfl] at h3
    rw [show Try.prog.cellsOf 3 = 1 by kernel_rfl] at h4
    rw [show Try.prog.cellsOf 3 = 1 by kernel_rfl] at h5
    obtain ⟨a0, e0⟩ := rd_int h0
    obtain ⟨a1, e1⟩ := rd_int h1
    obtain ⟨a2, e2⟩ := rd_int h2
    obtain ⟨a3, e3⟩ := rd_int h3
    obtain ⟨a4, e4⟩ := rd_int h4
    obtain ⟨a5, e5⟩ := rd_int h5
    simp at e0 e1 e2 e3 e4 e5
    subst e0 e1 e2 e3 e4 e5
    exact ⟨⟨a0, a1, a2, a3, a4, a5⟩, rfl⟩

theorem rd_furs {n : Nat} {cs : List Value} {x : DataW H × List MemPlace} (h : DataW.trod enc Try.prog W 0 (fun _ => true) true n 22 cs = some x) :
    ∃ (A : Option Addr) (c : Nat) (L : List Fur), cs = [.slice A L.length c] ∧ RowAt W A (furCells L) ∧ L.length ≤ c ∧ c ≤ 9223372036854775807 := by
  obtain ⟨A, c, L, h1, h2, _, h3, h4⟩ := open_flat (k := 6) (fun _ => True) Fur.cells (fun _ => rfl) (by decide) Try.underlying22 (by kernel_rfl) (fun n cs x h => by obtain ⟨p, e⟩ := rd_fur h; exact ⟨p, e, trivial⟩) h
  exact ⟨A, c, L, h1, h2, h3, h4⟩

set_option maxRecDepth 100000 in
theorem rd_pat {n : Nat} {cs : List Value} {x : DataW H × List MemPlace} (h : DataW.trod enc Try.prog W 0 (fun _ => true) true n 24 cs = some x) :
    ∃ (p : Pat) (A : Option Addr) (c : Nat), cs = (p.arr A c).toList ∧ RowAt W A (furCells p.furs) := by
  obtain ⟨xs, n', _, _, hl, hxl, hf⟩ := DataW.trod_struct Try.underlying24 h
  have hl2 : cs.length = 5 := hl.trans (by kernel_rfl)
  have hx2 : xs.length = 5 := hxl
  match cs, hl2, xs, hx2 with
  | [c0, c1, c2, c3, c4], _, [y0, y1, y2, y3, y4], _ =>
    have h0 : DataW.trod enc Try.prog W 0 (fun _ => true) true n' 3 (([c0, c1, c2, c3, c4].drop 0).take (Try.prog.cellsOf 3)) = some y0 := hf 0 _ rfl
    have h1 : DataW.trod enc Try.prog W 0 (fun _ => true) true n' 3 (([c0, c1, c2, c3, c4].drop 1).take (Try.prog.cellsOf 3)) = some y1 := hf 1 _ rfl
    have h2 : DataW.trod enc Try.prog W 0 (fun _ => true) true n' 3 (([c0, c1, c2, c3, c4].drop 2).take (Try.prog.cellsOf 3)) = some y2 := hf 2 _ rfl
    have h3 : DataW.trod enc Try.prog W 0 (fun _ => true) true n' 3 (([c0, c1, c2, c3, c4].drop 3).take (Try.prog.cellsOf 3)) = some y3 := hf 3 _ rfl
    have h4 : DataW.trod enc Try.prog W 0 (fun _ => true) true n' 22 (([c0, c1, c2, c3, c4].drop 4).take (Try.prog.cellsOf 22)) = some y4 := hf 4 _ rfl
    rw [show Try.prog.cellsOf 3 = 1 by kernel_rfl] at h0
    rw [show Try.prog.cellsOf 3 = 1 by kernel_rfl] at h1
    rw [show Try.prog.cellsOf 3 = 1 by kernel_rfl] at h2
    rw [show Try.prog.cellsOf 3 = 1 by kernel_rfl] at h3
    rw [show Try.prog.cellsOf 22 = 1 by kernel_rfl] at h4
    obtain ⟨a0, e0⟩ := rd_int h0
    obtain ⟨a1, e1⟩ := rd_int h1
    obtain ⟨a2, e2⟩ := rd_int h2
    obtain ⟨a3, e3⟩ := rd_int h3
    obtain ⟨A, k, L, e4, hr, q1, q2⟩ := rd_furs h4
    simp at e0 e1 e2 e3 e4
    subst e0 e1 e2 e3 e4
    exact ⟨⟨a0, a1, a2, a3, L⟩, A, k, rfl, hr⟩

set_option maxRecDepth 100000 in
theorem rd_mv {n : Nat} {cs : List Value} {x : DataW H × List MemPlace} (h : DataW.trod enc Try.prog W 0 (fun _ => true) true n 94 cs = some x) :
    ∃ p : Mv, cs = p.cells := by
  obtain ⟨xs, n', _, _, hl, hxl, hf⟩ := DataW.trod_struct Try.underlying94 h
  have hl2 : cs.length = 3 := hl.trans (by kernel_rfl)
  have hx2 : xs.length = 3 := hxl
  match cs, hl2, xs, hx2 with
  | [c0, c1, c2], _, [y0, y1, y2], _ =>
    have h0 : DataW.trod enc Try.prog W 0 (fun _ => true) true n' 3 (([c0, c1, c2].drop 0).take (Try.prog.cellsOf 3)) = some y0 := hf 0 _ rfl
    have h1 : DataW.trod enc Try.prog W 0 (fun _ => true) true n' 3 (([c0, c1, c2].drop 1).take (Try.prog.cellsOf 3)) = some y1 := hf 1 _ rfl
    have h2 : DataW.trod enc Try.prog W 0 (fun _ => true) true n' 4 (([c0, c1, c2].drop 2).take (Try.prog.cellsOf 4)) = some y2 := hf 2 _ rfl
    rw [show Try.prog.cellsOf 3 = 1 by kernel_rfl] at h0
    rw [show Try.prog.cellsOf 3 = 1 by kernel_rfl] at h1
    rw [show Try.prog.cellsOf 4 = 1 by kernel_rfl] at h2
    obtain ⟨a0, e0⟩ := rd_int h0
    obtain ⟨a1, e1⟩ := rd_int h1
    obtain ⟨a2, e2⟩ := rd_bool h2
    simp at e0 e1 e2
    subst e0 e1 e2
    exact ⟨⟨a0, a1, a2⟩, rfl⟩

theorem rd_mvs {n : Nat} {cs : List Value} {x : DataW H × List MemPlace} (h : DataW.trod enc Try.prog W 0 (fun _ => true) true n 60 cs = some x) :
    ∃ (A : Option Addr) (c : Nat) (L : List Mv), cs = [.slice A L.length c] ∧ RowAt W A (mvCells L) := by
  obtain ⟨A, c, L, h1, h2, _, _, _⟩ := open_flat (k := 3) (fun _ => True) Mv.cells (fun _ => rfl) (by decide) Try.underlying60 (by kernel_rfl) (fun n cs x h => by obtain ⟨p, e⟩ := rd_mv h; exact ⟨p, e, trivial⟩) h
  exact ⟨A, c, L, h1, h2⟩
end

section
variable {H : Type} {enc : TypeId × Value → H} {W : World} {b0 : Nat} {v : Value} {d : DataW H} {p : List MemPlace}

set_option maxRecDepth 100000 in
theorem arg_pat (h : DataW.Trod enc Try.prog W 0 (fun _ => true) true 24 v d p) (hv : Value.okWide Try.prog W .any b0 24 v) : ∃ (f : Pat) (A : Option Addr) (c : Nat), v = .agg (f.arr A c) ∧ RowAt W A (furCells f.furs) := by
  obtain ⟨cs, rfl, hsz⟩ := okWide_struct Try.underlying24 hv
  obtain ⟨fuel, hf⟩ := h
  obtain ⟨f, A, c, h1, h2⟩ := rd_pat hf
  have : cs = f.arr A c := Array.toList_inj.1 h1
  exact ⟨f, A, c, by rw [this], h2⟩

theorem one_flat {α : Type} (g : α → Value) : ∀ L : List α, L.flatMap (fun q => [g q]) = L.map g
  | [] => rfl
  | x :: l => by rw [List.flatMap_cons, one_flat g l]; rfl
def roomV (q : (Option Addr × Nat) × List Mv) : Value := .slice q.1.1 q.2.length q.1.2
set_option maxRecDepth 100000 in
theorem arg_drive (h : DataW.Trod enc Try.prog W 0 (fun _ => true) true 25 v d p) (hv : Value.okWide Try.prog W .any b0 25 v) :
    ∃ (f : Flr) (z : FLoc), v = .slice z.A3 f.drive.length z.c3 ∧ RowAt W z.A3 ((List.range f.drive.length).map (drCell f z)) ∧ ∀ i, i < f.drive.length → RowAt W (z.dr.getD i (none, 0)).1 (mvCells (f.drive.getD i [])) := by
  obtain ⟨a, len, cap, rfl⟩ := okWide_slice Try.underlying25 hv
  obtain ⟨fuel, hf⟩ := h
  obtain ⟨A, c, L, h1, h2, h3, h4, h5⟩ := open_flat (k := 1) (cs := [.slice a len cap]) (fun q : (Option Addr × Nat) × List Mv => RowAt W q.1.1 (mvCells q.2)) (fun q => [roomV q]) (fun _ => rfl) (by decide) Try.underlying25 (by kernel_rfl)
    (fun n cs x h => by obtain ⟨A, c, L, e, hr⟩ := rd_mvs h; exact ⟨((A, c), L), e, hr⟩) hf
  injection h1 with h1 _
  injection h1 with e1 e2 e3
  subst e1 e2 e3
  have hd : ∀ i (hi : i < L.length), (L.map (fun q => q.2)).getD i [] = L[i].2 := fun i hi => by
    rw [getD_get _ _ (by simpa using hi)]; simp
  have hz : ∀ i (hi : i < L.length), (L.map (fun q => q.1)).getD i (none, 0) = L[i].1 := fun i hi => by
    rw [getD_get _ _ (by simpa using hi)]; simp
  refine ⟨⟨0, 0, 0, [], [], L.map (fun q => q.2)⟩, ⟨none, none, a, 0, 0, cap, L.map (fun q => q.1)⟩, by simp, ?_, fun i hi => ?_⟩
  · have e : (List.range (L.map (fun q => q.2)).length).map (drCell ⟨0, 0, 0, [], [], L.map (fun q => q.2)⟩ ⟨none, none, a, 0, 0, cap, L.map (fun q => q.1)⟩) = L.flatMap (fun q => [roomV q]) := by
      refine List.ext_getElem? fun i => ?_
      rw [one_flat]
      by_cases hi : i < L.length
      · rw [List.getElem?_eq_getElem (by simpa using hi), List.getElem?_eq_getElem (by simpa using hi)]
        simp only [List.getElem_map, List.getElem_range, drCell, hd i hi, hz i hi, roomV]
      · rw [List.getElem?_eq_none (by simp; omega), List.getElem?_eq_none (by simp; omega)]
    show RowAt W a _
    rw [e]
    exact h2
  · have hi' : i < L.length := by simpa using hi
    show RowAt W ((L.map (fun q => q.1)).getD i (none, 0)).1 (mvCells ((L.map (fun q => q.2)).getD i []))
    rw [hd i hi', hz i hi']
    exact h3 i hi'
end

end Go.Proofs.Ytkikjmkpndmdcaa
