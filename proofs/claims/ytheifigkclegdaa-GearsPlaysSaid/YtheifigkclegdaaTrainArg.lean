/-
  What is proved: how an argument of type Train, Mesh, Feed or Bell reads.
-/
import Derived.Test.YtheifigkclegdaaMesh
import Derived.Lib.SmallJoins
import Derived.Deep.Slices
import Derived.Deep.Fields
import Derived.ChangeSame
namespace Go.Proofs.Ytheifigkclegdaa
open Go.ChangeShapes Go.WideShapes Go.RowKit Go.Joins Go.Deep

section
variable {H : Type} {enc : TypeId × Value → H} {P : Program} {w : World} {base : Nat} {spare : Nat → Bool} {held : Bool}

theorem open_fields {t e : TypeId} {fs : Array Field} {fuel : Nat} {cs : List Value} {x : DataW H × List MemPlace} (ht : P.underlying t = some (.slice e)) (he : P.underlying e = some (.struct fs))
    (hone : oneCellFields P fs = true) (hC : P.cellsOf e = fs.size) (h : DataW.trod enc P w base spare held fuel t cs = some x) :
    (cs = [.slice none 0 0]) ∨
    ∃ (a : Addr) (len cap m : Nat), cs = [.slice (some a) len cap] ∧ len ≤ cap ∧ cap ≤ maxLen ∧ m = (if spare a.block then cap else len) ∧
      ∀ i, i < m → ∃ (n : Nat), ∀ (j : Nat) (f : Field), fs[j]? = some f → ∃ (v : Value) (y : DataW H × List MemPlace), w.cell? (a.add (i * fs.size + j)) = some v ∧ DataW.trod enc P w base spare held n f.type [v] = some y := by
  rcases open_slice ht h with h0 | ⟨a, len, cap, m, n, D, Pl, hcs, hb, hl, hm, hmm, hx, hi⟩
  · exact .inl h0.1
  · refine .inr ⟨a, len, cap, m, hcs, hl, hm, hmm, fun i him => ?_⟩
    obtain ⟨cs', hc, ht'⟩ := hi i him
    rw [hC] at hc
    obtain ⟨ys, n', hn', hy, hlen, hyl, hf⟩ := DataW.trod_struct he ht'
    obtain ⟨_, hcl, hat⟩ := World.cells?_some hc
    refine ⟨n', fun j f hj => ?_⟩
    obtain ⟨ho, hk⟩ := hone_of hone j f hj
    have hjl : j < fs.size := (Array.getElem?_eq_some_iff.1 hj).1
    have hcell := hat j hjl
    have hv : cs'[j]? = some (cs'[j]'(by omega)) := List.getElem?_eq_getElem (by omega)
    have h1 := hf j f hj
    rw [ho, hk] at h1
    have hone' : (cs'.drop j).take 1 = [cs'[j]'(by omega)] := by
      rw [List.drop_eq_getElem_cons (by omega)]
      rfl
    rw [hone'] at h1
    have hys : ys[j]? = some (ys[j]'(by omega)) := List.getElem?_eq_getElem (by omega)
    refine ⟨_, _, ?_, h1.trans hys⟩
    rw [← Go.Deep.add_add, hcell, hv]

theorem open_agg1 {r : Reach} {b0 : Nat} {t : TypeId} {f0 : Field} {v : Value} {d : DataW H} {p : List MemPlace} (hs : P.underlying t = some (.struct #[f0])) (hone : oneCellFields P #[f0] = true) (hC : P.cellsOf t = 1)
    (hv : Value.okWide P w r b0 t v) (h : DataW.Trod enc P w base spare held t v d p) :
    ∃ (v0 : Value) (y0 : DataW H × List MemPlace) (n : Nat), v = .agg #[v0] ∧ DataW.trod enc P w base spare held n f0.type [v0] = some y0 := by
  obtain ⟨cs, rfl, hsz⟩ := okWide_struct hs hv
  obtain ⟨l⟩ := cs
  match l, hsz.trans hC with
  | [c0], _ =>
    obtain ⟨fuel, hf⟩ := h
    obtain ⟨xs, n, _, hx, _, hlen, hg⟩ := DataW.trod_struct hs hf
    obtain ⟨o0, k0⟩ := hone_of hone 0 f0 rfl
    match xs, hlen with
    | [y0], _ => exact ⟨c0, y0, n, rfl, by simpa [Value.cells, o0, k0] using hg 0 f0 rfl⟩
end

theorem list_build (n : Nat) (p : Nat → Mesh → Prop) (h : ∀ i, i < n → ∃ m, p i m) : ∃ L : List Mesh, L.length = n ∧ ∀ i (hi : i < L.length), p i L[i] := by
  induction n with
  | zero => exact ⟨[], rfl, fun i hi => by simp at hi⟩
  | succ n ih =>
    obtain ⟨L, hl, hp⟩ := ih fun i hi => h i (by omega)
    obtain ⟨m, hm⟩ := h n (by omega)
    refine ⟨L ++ [m], by simp [hl], fun i hi => ?_⟩
    rcases Nat.lt_or_ge i n with h1 | h1
    · rw [List.getElem_append_left (by omega)]
      exact hp i (by omega)
    · simp at hi
      have : i = n := by omega
      subst this
      rw [List.getElem_append_right (by omega)]
      simpa [hl] using hm

theorem meshCells_get (L : List Mesh) (j : Nat) (u : Value) (h : (meshCells L)[j]? = some u) : ∃ (i : Nat) (hi : i < L.length), (j = i * 3 ∧ u = .int .i64 L[i].dr) ∨ (j = i * 3 + 1 ∧ u = .int .i64 L[i].dn) ∨ (j = i * 3 + 2 ∧ u = .int .i64 L[i].pl) := by
  have hj := (List.getElem?_eq_some_iff.1 h).1
  rw [meshCells_len] at hj
  have hi : j / 3 < L.length := by omega
  have hr : j % 3 < 3 := Nat.mod_lt _ (by omega)
  refine ⟨j / 3, hi, ?_⟩
  have e : j = j / 3 * 3 + j % 3 := by omega
  have hg := flat_get (fun m : Mesh => [Value.int .i64 m.dr, .int .i64 m.dn, .int .i64 m.pl]) 3 (fun _ => rfl) (by omega) L (j / 3) (j % 3) hi hr
  rw [← e] at hg
  have hg' := hg.symm.trans h
  have h3 : j % 3 = 0 ∨ j % 3 = 1 ∨ j % 3 = 2 := by omega
  rcases h3 with h3 | h3 | h3
  · rw [h3] at hg'; simp at hg'; exact .inl ⟨by omega, hg'.symm⟩
  · rw [h3] at hg'; simp at hg'; exact .inr (.inl ⟨by omega, hg'.symm⟩)
  · rw [h3] at hg'; simp at hg'; exact .inr (.inr ⟨by omega, hg'.symm⟩)

variable {H : Type} {enc : TypeId × Value → H}

set_option maxRecDepth 100000 in
theorem open_train {W : World} {b0 : Nat} {v : Value} {d : DataW H} {p : List MemPlace} (hv : Value.okWide Try.prog W .any b0 24 v) (h : DataW.Trod enc Try.prog W 0 (fun _ => true) true 24 v d p) :
    ∃ (A : Option Addr) (c : Nat) (L : List Mesh), v = .agg #[.slice A L.length c] ∧ RowAt W A (meshCells L) ∧ L.length ≤ c ∧ c ≤ 9223372036854775807 := by
  obtain ⟨v0, y0, n, rfl, h0⟩ := open_agg1 Try.underlying24 (by kernel_rfl) (by kernel_rfl) hv h
  rcases open_fields Try.underlying22 Try.underlying36 (by kernel_rfl) (by kernel_rfl) h0 with h1 | ⟨a, len, cap, m, h1, hl, hm, hmm, hi⟩
  · injection h1 with h1 _
    subst h1
    exact ⟨none, 0, [], rfl, fun h => by simp [meshCells] at h, by simp, by omega⟩
  · injection h1 with h1 _
    subst h1
    simp only [if_true] at hmm
    subst hmm
    obtain ⟨L, hL, hp⟩ := list_build len (fun i q => W.cell? (a.add (i * 3)) = some (.int .i64 q.dr) ∧ W.cell? (a.add (i * 3 + 1)) = some (.int .i64 q.dn) ∧ W.cell? (a.add (i * 3 + 2)) = some (.int .i64 q.pl)) (fun i hi' => by
      obtain ⟨n', hf⟩ := hi i (by omega)
      obtain ⟨u0, z0, c0, t0⟩ := hf 0 _ rfl
      obtain ⟨u1, z1, c1, t1⟩ := hf 1 _ rfl
      obtain ⟨u2, z2, c2, t2⟩ := hf 2 _ rfl
      obtain ⟨x0, e0, _, _⟩ := DataW.trod_int Try.underlying3 t0
      obtain ⟨x1, e1, _, _⟩ := DataW.trod_int Try.underlying3 t1
      obtain ⟨x2, e2, _, _⟩ := DataW.trod_int Try.underlying3 t2
      simp at e0 e1 e2
      subst e0 e1 e2
      exact ⟨⟨x0, x1, x2⟩, c0, c1, c2⟩)
    subst hL
    refine ⟨some a, m, L, rfl, fun h0 => ?_, hl, hm⟩
    rw [meshCells_len] at h0
    obtain ⟨q0, _, _⟩ := hp 0 (by omega)
    rw [Nat.zero_mul] at q0
    have hlt := World.block_lt_of_cell? W _ q0
    have hsp : a.spot = none := by
      have q1 : W.cell? a = some (.int .i64 L[0].dr) := q0
      cases hs : a.spot with
      | none => rfl
      | some k =>
        unfold World.cell? at q1
        rw [hs] at q1
        split at q1 <;> simp at q1
    obtain ⟨b, off, sp⟩ := a
    simp only at hsp
    subst hsp
    refine ⟨b, off, rfl, hlt, fun j u hu => ?_⟩
    obtain ⟨i, hi', hcase⟩ := meshCells_get L j u hu
    obtain ⟨r0, r1, r2⟩ := hp i hi'
    have hadd : ∀ k, (⟨b, off, none⟩ : Addr).add k = ⟨b, off + k, none⟩ := fun k => by
      unfold Addr.add
      split
      · rename_i hk; subst hk; rfl
      · rfl
    rw [hadd] at r0 r1 r2
    rcases hcase with ⟨rfl, rfl⟩ | ⟨rfl, rfl⟩ | ⟨rfl, rfl⟩
    · exact r0
    · exact r1
    · exact r2

set_option maxRecDepth 100000 in
theorem open_mesh {W : World} {b0 : Nat} {v : Value} {d : DataW H} {p : List MemPlace} (hv : Value.okWide Try.prog W .any b0 36 v) (h : DataW.Trod enc Try.prog W 0 (fun _ => true) true 36 v d p) :
    ∃ x y z : Int, v = .agg #[.int .i64 x, .int .i64 y, .int .i64 z] := by
  obtain ⟨c0, c1, c2, y0, y1, y2, m, rfl, _, _, hy0, hy1, hy2⟩ := open_agg3 Try.underlying36 (by kernel_rfl) (by kernel_rfl) hv h
  obtain ⟨a, ea, _, _⟩ := DataW.trod_int Try.underlying3 hy0
  obtain ⟨b, eb, _, _⟩ := DataW.trod_int Try.underlying3 hy1
  obtain ⟨c, ec, _, _⟩ := DataW.trod_int Try.underlying3 hy2
  simp at ea eb ec
  subst ea eb ec
  exact ⟨a, b, c, rfl⟩

end Go.Proofs.Ytheifigkclegdaa
