/-
  What is proved: how a row's argument of type Ask opens.
-/
import Derived.Test.YthmngnfdfelkeaaArgs
namespace Go.Proofs.Ythmngnfdfelkeaa
open Go.ChangeShapes Go.WideShapes Go.ChangeAt Go.RowKit Go.Joins

/-- The cells of a question: its cell, lead, way, sum and tree. -/
def askA (cell : Int) (A : Option Addr) (c : Nat) (L : List Int) (way : Int × Int) (sum : Int) (t0 t1 t2 t3 t4 t5 : Value) : Array Value :=
  #[.int .i64 cell, .slice A L.length c, .int .i64 way.1, .int .i64 way.2, .int .i64 sum, t0, t1, t2, t3, t4, t5]

section
variable {H : Type} {enc : TypeId × Value → H} {W : World} {b0 : Nat} {v : Value} {d : DataW H} {p : List MemPlace}

set_option maxRecDepth 100000 in
theorem rd_ask {n : Nat} {cs : List Value} {x : DataW H × List MemPlace} (h : DataW.trod enc Try.prog W 0 (fun _ => true) true n 51 cs = some x) :
    ∃ (cell : Int) (A : Option Addr) (c : Nat) (L : List Int) (way : Int × Int) (sum : Int) (t0 t1 t2 t3 t4 t5 : Value), cs = (askA cell A c L way sum t0 t1 t2 t3 t4 t5).toList ∧ RowAt W A (intCells L) ∧ L.length ≤ 9223372036854775807 ∧
      (-9223372036854775808 ≤ cell ∧ cell ≤ 9223372036854775807) ∧ (-9223372036854775808 ≤ sum ∧ sum ≤ 9223372036854775807) := by
  obtain ⟨xs, n', _, _, hl, hxl, hf⟩ := DataW.trod_struct Try.underlying51 h
  have hl2 : cs.length = 11 := hl.trans (by kernel_rfl)
  have hx2 : xs.length = 5 := hxl
  match cs, hl2, xs, hx2 with
  | [c0, c1, c2, c3, c4, c5, c6, c7, c8, c9, c10], _, [y0, y1, y2, y3, y4], _ =>
    have h0 : DataW.trod enc Try.prog W 0 (fun _ => true) true n' 3 (([c0, c1, c2, c3, c4, c5, c6, c7, c8, c9, c10].drop 0).take (Try.prog.cellsOf 3)) = some y0 := hf 0 _ rfl
    have h1 : DataW.trod enc Try.prog W 0 (fun _ => true) true n' 22 (([c0, c1, c2, c3, c4, c5, c6, c7, c8, c9, c10].drop 1).take (Try.prog.cellsOf 22)) = some y1 := hf 1 _ rfl
    have h2 : DataW.trod enc Try.prog W 0 (fun _ => true) true n' 43 (([c0, c1, c2, c3, c4, c5, c6, c7, c8, c9, c10].drop 2).take (Try.prog.cellsOf 43)) = some y2 := hf 2 _ rfl
    have h3 : DataW.trod enc Try.prog W 0 (fun _ => true) true n' 3 (([c0, c1, c2, c3, c4, c5, c6, c7, c8, c9, c10].drop 4).take (Try.prog.cellsOf 3)) = some y3 := hf 3 _ rfl
    rw [show Try.prog.cellsOf 3 = 1 by kernel_rfl] at h0 h3
    rw [show Try.prog.cellsOf 22 = 1 by kernel_rfl] at h1
    rw [show Try.prog.cellsOf 43 = 2 by kernel_rfl] at h2
    obtain ⟨a, ea, wa⟩ := rd_int h0
    obtain ⟨A, k, L, el, hr, q1, q2⟩ := rd_ints h1
    obtain ⟨way, ew⟩ := rd_point h2
    obtain ⟨b, eb, wb⟩ := rd_int h3
    simp at ea el ew eb
    obtain ⟨e1, e2⟩ := ew
    subst ea el e1 e2 eb
    exact ⟨a, A, k, L, way, b, c5, c6, c7, c8, c9, c10, rfl, hr, Nat.le_trans q1 q2, wa, wb⟩

set_option maxRecDepth 100000 in
theorem arg_ask (h : DataW.Trod enc Try.prog W 0 (fun _ => true) true 51 v d p) (hv : Value.okWide Try.prog W .any b0 51 v) :
    ∃ (cell : Int) (A : Option Addr) (c : Nat) (L : List Int) (way : Int × Int) (sum : Int) (t0 t1 t2 t3 t4 t5 : Value), v = .agg (askA cell A c L way sum t0 t1 t2 t3 t4 t5) ∧ RowAt W A (intCells L) ∧ L.length ≤ 9223372036854775807 ∧
      (-9223372036854775808 ≤ cell ∧ cell ≤ 9223372036854775807) ∧ (-9223372036854775808 ≤ sum ∧ sum ≤ 9223372036854775807) := by
  obtain ⟨cs, rfl, hsz⟩ := okWide_struct Try.underlying51 hv
  obtain ⟨fuel, hf⟩ := h
  obtain ⟨cell, A, c, L, way, sum, t0, t1, t2, t3, t4, t5, h1, h2⟩ := rd_ask hf
  refine ⟨cell, A, c, L, way, sum, t0, t1, t2, t3, t4, t5, ?_, h2⟩
  have : cs = askA cell A c L way sum t0 t1 t2 t3 t4 t5 := Array.toList_inj.1 h1
  rw [this]

end
end Go.Proofs.Ythmngnfdfelkeaa
