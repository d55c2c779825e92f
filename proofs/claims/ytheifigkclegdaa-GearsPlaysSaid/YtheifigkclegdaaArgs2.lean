/-
  What is proved: how an argument of type Ratio, Feed or Bell reads.
-/
import Derived.Test.YtheifigkclegdaaTrainArg
namespace Go.Proofs.Ytheifigkclegdaa
open Go.ChangeShapes Go.WideShapes Go.RowKit Go.Joins Go.Deep

variable {H : Type} {enc : TypeId × Value → H}

set_option maxRecDepth 100000 in
theorem open_ratio {W : World} {b0 : Nat} {v : Value} {d : DataW H} {p : List MemPlace} (hv : Value.okWide Try.prog W .any b0 42 v) (h : DataW.Trod enc Try.prog W 0 (fun _ => true) true 42 v d p) :
    ∃ x y : Int, v = .agg #[.int .i64 x, .int .i64 y] := by
  obtain ⟨c0, c1, y0, y1, m, rfl, _, _, hy0, hy1⟩ := open_agg2 Try.underlying42 (by kernel_rfl) (by kernel_rfl) hv h
  obtain ⟨a, ea, _, _⟩ := DataW.trod_int Try.underlying3 hy0
  obtain ⟨b, eb, _, _⟩ := DataW.trod_int Try.underlying3 hy1
  simp at ea eb
  subst ea eb
  exact ⟨a, b, rfl⟩

set_option maxRecDepth 100000 in
theorem open_feed {W : World} {b0 : Nat} {v : Value} {d : DataW H} {p : List MemPlace} (hv : Value.okWide Try.prog W .any b0 57 v) (h : DataW.Trod enc Try.prog W 0 (fun _ => true) true 57 v d p) :
    ∃ x y z : Int, v = .agg #[.int .i64 x, .int .i64 y, .int .i64 z] := by
  obtain ⟨c0, c1, c2, y0, y1, y2, m, rfl, _, _, hy0, hy1, hy2⟩ := open_agg3 Try.underlying57 (by kernel_rfl) (by kernel_rfl) hv h
  obtain ⟨a, ea, _, _⟩ := DataW.trod_int Try.underlying3 hy0
  obtain ⟨b, eb, _, _⟩ := DataW.trod_int Try.underlying3 hy1
  obtain ⟨c, ec, _, _⟩ := DataW.trod_int Try.underlying3 hy2
  simp at ea eb ec
  subst ea eb ec
  exact ⟨a, b, c, rfl⟩

set_option maxRecDepth 100000 in
theorem open_bell {W : World} {b0 : Nat} {v : Value} {d : DataW H} {p : List MemPlace} (hv : Value.okWide Try.prog W .any b0 59 v) (h : DataW.Trod enc Try.prog W 0 (fun _ => true) true 59 v d p) :
    ∃ x : Int, v = .agg #[.int .i64 x] := by
  obtain ⟨c0, y0, m, rfl, hy0⟩ := open_agg1 Try.underlying59 (by kernel_rfl) (by kernel_rfl) hv h
  obtain ⟨a, ea, _, _⟩ := DataW.trod_int Try.underlying3 hy0
  simp at ea
  subst ea
  exact ⟨a, rfl⟩

end Go.Proofs.Ytheifigkclegdaa
