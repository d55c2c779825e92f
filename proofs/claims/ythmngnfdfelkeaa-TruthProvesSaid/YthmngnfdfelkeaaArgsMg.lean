/-
  What is proved: how the arguments of the rows read.
-/
import Derived.Test.YthmngnfdfelkeaaGapMg
import Derived.Lib.SmallJoins
import Derived.Deep.Slices
import Derived.Deep.Fields
import Derived.ChangeSame
namespace Go.Proofs.Ythmngnfdfelkeaa
open Go.ChangeShapes Go.WideShapes Go.RowKit Go.Joins Go.Deep

theorem list_build {α : Type} (n : Nat) (p : Nat → α → Prop) (h : ∀ i, i < n → ∃ m, p i m) : ∃ L : List α, L.length = n ∧ ∀ i (hi : i < L.length), p i L[i] := by
  induction n with
  | zero => exact ⟨[], rfl, fun i hi => by simp at hi⟩
  | succ n ih =>
    obtain ⟨L, hl, hp⟩ := ih fun i hi => h i (by omega)
    obtain ⟨m, hm⟩ := h n (by omega)
    refine ⟨L ++ [m], by simp [hl], fun i hi => ?_⟩
    rcases Nat.lt_or_ge i n with h1 | h1
    · rw [List.getElem_append_left (by omega)]
      exact hp i (by omega)
    · simp at hi
      have : i = n := by omega
      subst this
      rw [List.getElem_append_right (by omega)]
      simpa [hl] using hm

section
variable {H : Type} {enc : TypeId × Value → H} {W : World}

/-- A slice whose elements are k cells each. -/
theorem open_flat {α : Type} {t e : TypeId} {k : Nat} (f : α → List Value) (hk : ∀ x, (f x).length = k) (hk0 : 0 < k) (hf0 : ∀ x, ∃ i, (f x)[0]? = some (.int .i64 i)) (ht : Try.prog.underlying t = some (.slice e)) (hC : Try.prog.cellsOf e = k)
    (hdec : ∀ n cs x, DataW.trod enc Try.prog W 0 (fun _ => true) true n e cs = some x → ∃ a, cs = f a) {n : Nat} {cs : List Value} {x : DataW H × List MemPlace} (h : DataW.trod enc Try.prog W 0 (fun _ => true) true n t cs = some x) :
    ∃ (A : Option Addr) (c : Nat) (L : List α), cs = [.slice A L.length c] ∧ RowAt W A (L.flatMap f) ∧ L.length ≤ c ∧ c ≤ 9223372036854775807 := by
  rcases open_slice ht h with h1 | ⟨a, len, cap, m, n, D, Pl, h1, _, hl, hm, hmm, _, hi⟩
  · exact ⟨none, 0, [], h1.1, fun h => by simp at h, by simp, by omega⟩
  · simp only [if_true] at hmm
    subst hmm
    rw [hC] at hi
    obtain ⟨L, hL, hp⟩ := list_build len (fun i q => ∀ j, j < k → W.cell? (a.add (i * k + j)) = (f q)[j]?) (fun i hi' => by
      obtain ⟨cs', h2, h3⟩ := hi i (by omega)
      obtain ⟨q, rfl⟩ := hdec _ _ _ h3
      obtain ⟨_, _, h4⟩ := World.cells?_some h2
      refine ⟨q, fun j hj => ?_⟩
      have h5 := h4 j hj
      rwa [Go.Deep.add_add] at h5)
    subst hL
    refine ⟨some a, m, L, h1, fun h0 => ?_, hl, hm⟩
    rw [flat_len f k hk] at h0
    have hL0 : 0 < L.length := by
      rcases Nat.eq_zero_or_pos L.length with h | h
      · rw [h] at h0; omega
      · exact h
    have q0 := hp 0 hL0 0 hk0
    obtain ⟨i0, hi0⟩ := hf0 L[0]
    rw [hi0, Nat.zero_mul] at q0
    have hlt := World.block_lt_of_cell? W _ q0
    have hsp : a.spot = none := by
      have q1 : W.cell? a = some (.int .i64 i0) := q0
      cases hs : a.spot with
      | none => rfl
      | some k =>
        unfold World.cell? at q1
        rw [hs] at q1
        split at q1 <;> simp at q1
    obtain ⟨b, off, sp⟩ := a
    simp only at hsp
    subst hsp
    refine ⟨b, off, rfl, hlt, fun j u hu => ?_⟩
    have hj := (List.getElem?_eq_some_iff.1 hu).1
    rw [flat_len f k hk] at hj
    have hi2 : j / k < L.length := Nat.div_lt_of_lt_mul (by rw [Nat.mul_comm]; exact hj)
    have hr : j % k < k := Nat.mod_lt _ hk0
    have e : j / k * k + j % k = j := by rw [Nat.mul_comm]; exact Nat.div_add_mod j k
    have hg := flat_get f k hk hk0 L (j / k) (j % k) hi2 hr
    have h5 := hp (j / k) hi2 (j % k) hr
    rw [e] at hg h5
    rw [add_at] at h5
    rw [h5, ← hg]
    exact hu

theorem rd_int {n : Nat} {cs : List Value} {x : DataW H × List MemPlace} (h : DataW.trod enc Try.prog W 0 (fun _ => true) true n 3 cs = some x) : ∃ a : Int, cs = [.int .i64 a] ∧ (-9223372036854775808 ≤ a ∧ a ≤ 9223372036854775807) := by
  obtain ⟨a, e, _, hw⟩ := DataW.trod_int Try.underlying3 h
  refine ⟨a, e, ?_⟩
  simp only [Lit.wf, Bool.and_eq_true, decide_eq_true_eq] at hw
  exact hw

theorem intCells_flat (L : List Int) : L.flatMap (fun a : Int => [Value.int .i64 a]) = intCells L := by
  unfold intCells
  induction L with
  | nil => rfl
  | cons a L ih => rw [List.flatMap_cons, ih]; rfl

theorem rd_ints {n : Nat} {cs : List Value} {x : DataW H × List MemPlace} (h : DataW.trod enc Try.prog W 0 (fun _ => true) true n 22 cs = some x) :
    ∃ (A : Option Addr) (c : Nat) (L : List Int), cs = [.slice A L.length c] ∧ RowAt W A (intCells L) ∧ L.length ≤ c ∧ c ≤ 9223372036854775807 := by
  obtain ⟨A, c, L, h1, h2, h3, h4⟩ := open_flat (k := 1) (fun a : Int => [Value.int .i64 a]) (fun _ => rfl) Nat.one_pos (fun a => ⟨a, rfl⟩) Try.underlying22 (by kernel_rfl) (fun n cs x h => by obtain ⟨a, e, _⟩ := rd_int h; exact ⟨a, e⟩) h
  rw [intCells_flat] at h2
  exact ⟨A, c, L, h1, h2, h3, h4⟩

theorem take_one {α : Type} {l : List α} {i : Nat} {a : α} (h : l[i]? = some a) : (l.drop i).take 1 = [a] := by
  have hi := (List.getElem?_eq_some_iff.1 h).1
  rw [List.drop_eq_getElem_cons hi]
  simp only [List.take_succ_cons, List.take_zero]
  rw [List.getElem?_eq_getElem hi] at h
  injection h with h
  rw [h]

set_option maxRecDepth 100000 in
theorem rd_point {n : Nat} {cs : List Value} {x : DataW H × List MemPlace} (h : DataW.trod enc Try.prog W 0 (fun _ => true) true n 43 cs = some x) : ∃ p : Int × Int, cs = [.int .i64 p.1, .int .i64 p.2] := by
  obtain ⟨xs, n', _, _, hl, hxl, hf⟩ := DataW.trod_struct Try.underlying43 h
  have hl2 : cs.length = 2 := hl.trans (by kernel_rfl)
  have hx2 : xs.length = 2 := hxl
  match cs, hl2, xs, hx2 with
  | [c0, c1], _, [y0, y1], _ =>
    have h0 : DataW.trod enc Try.prog W 0 (fun _ => true) true n' 3 (([c0, c1].drop 0).take (Try.prog.cellsOf 3)) = some y0 := hf 0 _ rfl
    have h1 : DataW.trod enc Try.prog W 0 (fun _ => true) true n' 3 (([c0, c1].drop 1).take (Try.prog.cellsOf 3)) = some y1 := hf 1 _ rfl
    rw [show Try.prog.cellsOf 3 = 1 by kernel_rfl] at h0 h1
    obtain ⟨a, ea, _⟩ := rd_int h0
    obtain ⟨b, eb, _⟩ := rd_int h1
    simp at ea eb
    subst ea eb
    exact ⟨(a, b), rfl⟩

set_option maxRecDepth 100000 in
theorem rd_pocket {n : Nat} {cs : List Value} {x : DataW H × List MemPlace} (h : DataW.trod enc Try.prog W 0 (fun _ => true) true n 71 cs = some x) : ∃ p : (Int × Int) × Int, cs = [.int .i64 p.1.1, .int .i64 p.1.2, .int .i64 p.2] := by
  obtain ⟨xs, n', _, _, hl, hxl, hf⟩ := DataW.trod_struct Try.underlying71 h
  have hl2 : cs.length = 3 := hl.trans (by kernel_rfl)
  have hx2 : xs.length = 2 := hxl
  match cs, hl2, xs, hx2 with
  | [c0, c1, c2], _, [y0, y1], _ =>
    have h0 : DataW.trod enc Try.prog W 0 (fun _ => true) true n' 43 (([c0, c1, c2].drop 0).take (Try.prog.cellsOf 43)) = some y0 := hf 0 _ rfl
    have h1 : DataW.trod enc Try.prog W 0 (fun _ => true) true n' 3 (([c0, c1, c2].drop 2).take (Try.prog.cellsOf 3)) = some y1 := hf 1 _ rfl
    rw [show Try.prog.cellsOf 43 = 2 by kernel_rfl] at h0
    rw [show Try.prog.cellsOf 3 = 1 by kernel_rfl] at h1
    obtain ⟨a, ea⟩ := rd_point h0
    obtain ⟨b, eb, _⟩ := rd_int h1
    simp at ea eb
    obtain ⟨e1, e2⟩ := ea
    subst e1 e2 eb
    exact ⟨(a, b), rfl⟩

theorem rd_points {n : Nat} {cs : List Value} {x : DataW H × List MemPlace} (h : DataW.trod enc Try.prog W 0 (fun _ => true) true n 25 cs = some x) :
    ∃ (A : Option Addr) (c : Nat) (L : List (Int × Int)), cs = [.slice A L.length c] ∧ RowAt W A (ptCells L) ∧ L.length ≤ c ∧ c ≤ 9223372036854775807 :=
  open_flat (k := 2) (fun p : Int × Int => [Value.int .i64 p.1, .int .i64 p.2]) (fun _ => rfl) (by decide) (fun p => ⟨p.1, rfl⟩) Try.underlying25 (by kernel_rfl) (fun n cs x h => rd_point h) h

theorem rd_pockets {n : Nat} {cs : List Value} {x : DataW H × List MemPlace} (h : DataW.trod enc Try.prog W 0 (fun _ => true) true n 26 cs = some x) :
    ∃ (A : Option Addr) (c : Nat) (L : List ((Int × Int) × Int)), cs = [.slice A L.length c] ∧ RowAt W A (pkCells L) ∧ L.length ≤ c ∧ c ≤ 9223372036854775807 :=
  open_flat (k := 3) (fun p : (Int × Int) × Int => [Value.int .i64 p.1.1, .int .i64 p.1.2, .int .i64 p.2]) (fun _ => rfl) (by decide) (fun p => ⟨p.1.1, rfl⟩) Try.underlying26 (by kernel_rfl) (fun n cs x h => rd_pocket h) h

set_option maxRecDepth 100000 in
theorem rd_face {n : Nat} {cs : List Value} {x : DataW H × List MemPlace} (h : DataW.trod enc Try.prog W 0 (fun _ => true) true n 24 cs = some x) :
    ∃ (f : Fac) (A : Option Addr) (c : Nat), cs = [.int .i64 f.eye, .int .i64 f.rings, .int .i64 f.sec, .slice A f.kinds.length c] ∧ RowAt W A (intCells f.kinds) ∧ f.kinds.length ≤ 9223372036854775807 := by
  obtain ⟨xs, n', _, _, hl, hxl, hf⟩ := DataW.trod_struct Try.underlying24 h
  have hl2 : cs.length = 4 := hl.trans (by kernel_rfl)
  have hx2 : xs.length = 4 := hxl
  match cs, hl2, xs, hx2 with
  | [c0, c1, c2, c3], _, [y0, y1, y2, y3], _ =>
    have h0 : DataW.trod enc Try.prog W 0 (fun _ => true) true n' 3 (([c0, c1, c2, c3].drop 0).take (Try.prog.cellsOf 3)) = some y0 := hf 0 _ rfl
    have h1 : DataW.trod enc Try.prog W 0 (fun _ => true) true n' 3 (([c0, c1, c2, c3].drop 1).take (Try.prog.cellsOf 3)) = some y1 := hf 1 _ rfl
    have h2 : DataW.trod enc Try.prog W 0 (fun _ => true) true n' 3 (([c0, c1, c2, c3].drop 2).take (Try.prog.cellsOf 3)) = some y2 := hf 2 _ rfl
    have h3 : DataW.trod enc Try.prog W 0 (fun _ => true) true n' 22 (([c0, c1, c2, c3].drop 3).take (Try.prog.cellsOf 22)) = some y3 := hf 3 _ rfl
    rw [show Try.prog.cellsOf 3 = 1 by kernel_rfl] at h0 h1 h2
    rw [show Try.prog.cellsOf 22 = 1 by kernel_rfl] at h3
    obtain ⟨a, ea, _⟩ := rd_int h0
    obtain ⟨b, eb, _⟩ := rd_int h1
    obtain ⟨c, ec, _⟩ := rd_int h2
    obtain ⟨A, k, L, ed, hr, q1, q2⟩ := rd_ints h3
    simp at ea eb ec ed
    subst ea eb ec ed
    exact ⟨⟨a, b, c, L⟩, A, k, rfl, hr, Nat.le_trans q1 q2⟩

set_option maxRecDepth 100000 in
theorem rd_stone {n : Nat} {cs : List Value} {x : DataW H × List MemPlace} (h : DataW.trod enc Try.prog W 0 (fun _ => true) true n 28 cs = some x) :
    ∃ (s : Stn) (z : Loc), cs = (s.cells z).toList ∧ StAt W s z := by
  obtain ⟨xs, n', _, _, hl, hxl, hf⟩ := DataW.trod_struct Try.underlying28 h
  have hl2 : cs.length = 8 := hl.trans (by kernel_rfl)
  have hx2 : xs.length = 5 := hxl
  match cs, hl2, xs, hx2 with
  | [c0, c1, c2, c3, c4, c5, c6, c7], _, [y0, y1, y2, y3, y4], _ =>
    have h0 : DataW.trod enc Try.prog W 0 (fun _ => true) true n' 24 (([c0, c1, c2, c3, c4, c5, c6, c7].drop 0).take (Try.prog.cellsOf 24)) = some y0 := hf 0 _ rfl
    have h1 : DataW.trod enc Try.prog W 0 (fun _ => true) true n' 22 (([c0, c1, c2, c3, c4, c5, c6, c7].drop 4).take (Try.prog.cellsOf 22)) = some y1 := hf 1 _ rfl
    have h2 : DataW.trod enc Try.prog W 0 (fun _ => true) true n' 25 (([c0, c1, c2, c3, c4, c5, c6, c7].drop 5).take (Try.prog.cellsOf 25)) = some y2 := hf 2 _ rfl
    have h3 : DataW.trod enc Try.prog W 0 (fun _ => true) true n' 26 (([c0, c1, c2, c3, c4, c5, c6, c7].drop 6).take (Try.prog.cellsOf 26)) = some y3 := hf 3 _ rfl
    have h4 : DataW.trod enc Try.prog W 0 (fun _ => true) true n' 3 (([c0, c1, c2, c3, c4, c5, c6, c7].drop 7).take (Try.prog.cellsOf 3)) = some y4 := hf 4 _ rfl
    rw [show Try.prog.cellsOf 24 = 4 by kernel_rfl] at h0
    rw [show Try.prog.cellsOf 22 = 1 by kernel_rfl] at h1
    rw [show Try.prog.cellsOf 25 = 1 by kernel_rfl] at h2
    rw [show Try.prog.cellsOf 26 = 1 by kernel_rfl] at h3
    rw [show Try.prog.cellsOf 3 = 1 by kernel_rfl] at h4
    obtain ⟨f, A1, k1, e1, r1, n1⟩ := rd_face h0
    obtain ⟨A2, k2, L2, e2, r2, n2, m2⟩ := rd_ints h1
    obtain ⟨A3, k3, L3, e3, r3, n3, m3⟩ := rd_points h2
    obtain ⟨A4, k4, L4, e4, r4, n4, m4⟩ := rd_pockets h3
    obtain ⟨a, ea, _⟩ := rd_int h4
    simp at e1 e2 e3 e4 ea
    obtain ⟨f0, f1, f2, f3⟩ := e1
    subst f0 f1 f2 f3 e2 e3 e4 ea
    exact ⟨⟨f, L2, L3, L4, a⟩, ⟨A1, A2, A3, A4, k1, k2, k3, k4⟩, rfl, ⟨r1, r2, r3, r4, n1, Nat.le_trans n2 m2, Nat.le_trans n3 m3, Nat.le_trans n4 m4⟩⟩

set_option maxRecDepth 100000 in
theorem rd_stand {n : Nat} {cs : List Value} {x : DataW H × List MemPlace} (h : DataW.trod enc Try.prog W 0 (fun _ => true) true n 62 cs = some x) :
    ∃ (A B : Option Addr) (c d : Nat) (bed run : List Int) (lift turn least : Int), cs = [.slice A bed.length c, .slice B run.length d, .int .i64 lift, .int .i64 turn, .int .i64 least] ∧ RowAt W A (intCells bed) ∧ RowAt W B (intCells run) ∧ bed.length ≤ 9223372036854775807 ∧ run.length ≤ 9223372036854775807 ∧
      (-9223372036854775808 ≤ lift ∧ lift ≤ 9223372036854775807) ∧ (-9223372036854775808 ≤ turn ∧ turn ≤ 9223372036854775807) ∧ -9223372036854775808 ≤ least ∧ least ≤ 9223372036854775807 := by
  obtain ⟨xs, n', _, _, hl, hxl, hf⟩ := DataW.trod_struct Try.underlying62 h
  have hl2 : cs.length = 5 := hl.trans (by kernel_rfl)
  have hx2 : xs.length = 5 := hxl
  match cs, hl2, xs, hx2 with
  | [c0, c1, c2, c3, c4], _, [y0, y1, y2, y3, y4], _ =>
    have h0 : DataW.trod enc Try.prog W 0 (fun _ => true) true n' 22 (([c0, c1, c2, c3, c4].drop 0).take (Try.prog.cellsOf 22)) = some y0 := hf 0 _ rfl
    have h1 : DataW.trod enc Try.prog W 0 (fun _ => true) true n' 22 (([c0, c1, c2, c3, c4].drop 1).take (Try.prog.cellsOf 22)) = some y1 := hf 1 _ rfl
    have h2 : DataW.trod enc Try.prog W 0 (fun _ => true) true n' 3 (([c0, c1, c2, c3, c4].drop 2).take (Try.prog.cellsOf 3)) = some y2 := hf 2 _ rfl
    have h3 : DataW.trod enc Try.prog W 0 (fun _ => true) true n' 3 (([c0, c1, c2, c3, c4].drop 3).take (Try.prog.cellsOf 3)) = some y3 := hf 3 _ rfl
    have h4 : DataW.trod enc Try.prog W 0 (fun _ => true) true n' 3 (([c0, c1, c2, c3, c4].drop 4).take (Try.prog.cellsOf 3)) = some y4 := hf 4 _ rfl
    rw [show Try.prog.cellsOf 22 = 1 by kernel_rfl] at h0 h1
    rw [show Try.prog.cellsOf 3 = 1 by kernel_rfl] at h2 h3 h4
    obtain ⟨A, k, L, e0, r0, m0, q0⟩ := rd_ints h0
    obtain ⟨B, l, M, e1, r1, m1, q1⟩ := rd_ints h1
    obtain ⟨a, e2, w2⟩ := rd_int h2
    obtain ⟨b, e3, w3⟩ := rd_int h3
    obtain ⟨c, e4, w4⟩ := rd_int h4
    simp at e0 e1 e2 e3 e4
    subst e0 e1 e2 e3 e4
    exact ⟨A, B, k, l, L, M, a, b, c, rfl, r0, r1, Nat.le_trans m0 q0, Nat.le_trans m1 q1, w2, w3, w4.1, w4.2⟩

end

/-! ### The arguments of a row -/
section
variable {H : Type} {enc : TypeId × Value → H} {W : World} {b0 : Nat} {v : Value} {d : DataW H} {p : List MemPlace}

set_option maxRecDepth 100000 in
theorem arg_ints (h : DataW.Trod enc Try.prog W 0 (fun _ => true) true 22 v d p) (hv : Value.okWide Try.prog W .any b0 22 v) :
    ∃ (A : Option Addr) (c : Nat) (L : List Int), v = .slice A L.length c ∧ RowAt W A (intCells L) ∧ L.length ≤ 9223372036854775807 := by
  obtain ⟨a, len, cap, rfl⟩ := okWide_slice Try.underlying22 hv
  obtain ⟨fuel, hf⟩ := h
  obtain ⟨A, c, L, h1, h2, h3, h4⟩ := rd_ints (cs := [.slice a len cap]) hf
  injection h1 with h1 _
  injection h1 with e1 e2 e3
  subst e1 e2 e3
  exact ⟨a, cap, L, rfl, h2, Nat.le_trans h3 h4⟩

set_option maxRecDepth 100000 in
theorem arg_stone (h : DataW.Trod enc Try.prog W 0 (fun _ => true) true 28 v d p) (hv : Value.okWide Try.prog W .any b0 28 v) : ∃ (s : Stn) (z : Loc), v = s.val z ∧ StAt W s z := by
  obtain ⟨cs, rfl, hsz⟩ := okWide_struct Try.underlying28 hv
  obtain ⟨fuel, hf⟩ := h
  obtain ⟨s, z, h1, h2⟩ := rd_stone hf
  refine ⟨s, z, ?_, h2⟩
  have : cs = s.cells z := Array.toList_inj.1 h1
  rw [this]; rfl

set_option maxRecDepth 100000 in
theorem arg_face (h : DataW.Trod enc Try.prog W 0 (fun _ => true) true 24 v d p) (hv : Value.okWide Try.prog W .any b0 24 v) : ∃ (f : Fac) (A : Option Addr) (c : Nat), v = f.val A c ∧ RowAt W A (intCells f.kinds) ∧ f.kinds.length ≤ 9223372036854775807 := by
  obtain ⟨cs, rfl, hsz⟩ := okWide_struct Try.underlying24 hv
  obtain ⟨fuel, hf⟩ := h
  obtain ⟨f, A, c, h1, h2, h3⟩ := rd_face hf
  refine ⟨f, A, c, ?_, h2, h3⟩
  have : cs = #[.int .i64 f.eye, .int .i64 f.rings, .int .i64 f.sec, .slice A f.kinds.length c] := Array.toList_inj.1 h1
  rw [this]; rfl

set_option maxRecDepth 100000 in
theorem arg_stand (h : DataW.Trod enc Try.prog W 0 (fun _ => true) true 62 v d p) (hv : Value.okWide Try.prog W .any b0 62 v) :
    ∃ (A B : Option Addr) (c d : Nat) (bed run : List Int) (lift turn least : Int), v = .agg #[.slice A bed.length c, .slice B run.length d, .int .i64 lift, .int .i64 turn, .int .i64 least] ∧ RowAt W A (intCells bed) ∧ RowAt W B (intCells run) ∧ bed.length ≤ 9223372036854775807 ∧ run.length ≤ 9223372036854775807 ∧
      (-9223372036854775808 ≤ lift ∧ lift ≤ 9223372036854775807) ∧ (-9223372036854775808 ≤ turn ∧ turn ≤ 9223372036854775807) ∧ -9223372036854775808 ≤ least ∧ least ≤ 9223372036854775807 := by
  obtain ⟨cs, rfl, hsz⟩ := okWide_struct Try.underlying62 hv
  obtain ⟨fuel, hf⟩ := h
  obtain ⟨A, B, c, d, bed, run, l1, l2, l3, h1, h2⟩ := rd_stand hf
  refine ⟨A, B, c, d, bed, run, l1, l2, l3, ?_, h2⟩
  have : cs = #[.slice A bed.length c, .slice B run.length d, .int .i64 l1, .int .i64 l2, .int .i64 l3] := Array.toList_inj.1 h1
  rw [this]

end
end Go.Proofs.Ythmngnfdfelkeaa
