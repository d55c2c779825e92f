/-
  What is proved: for every input the law GearsOrder returns true, and each argument reads afterwards as it read before: comparisons of ratios are an order that sums and positive products keep.
  Conditions: those that the given statement Rows.GearsOrderSaid makes itself, and no other.
-/
import Derived.Test.YtheifigkclegdaaLawC
import Derived.Test.YtheifigkclegdaaArgs2
import Derived.Test.YtheifigkclegdaaRowKit
namespace Go.Proofs.Ytheifigkclegdaa
open Go.ChangeShapes Go.WideShapes Go.ChangeAt Go.RowKit Go.Joins

set_option maxRecDepth 100000 in
theorem order_lifted (os : Os) (started : os.Started) (H : Type) (enc : TypeId × Value → H) :
    ReturnsInHanded {} Try.checked os 14 .any (Rows.gearsOrderSpec.pre6 enc Try.prog Try.f14 Rows.gearsOrderRow.domain false) (Rows.gearsOrderSpec.post enc Try.prog Try.f14 false true false false) := by
  refine returnsInHanded_of_change (C := Try.checked) Try.own started (by kernel_rfl) Try.func14
    (ChangeSpec.witness6 (enc := enc) (C := Try.checked) false ⟨#[], #[.agg #[.int .i64 0, .int .i64 0], .agg #[.int .i64 0, .int .i64 0], .agg #[.int .i64 0, .int .i64 0]], []⟩ 8 (by kernel_rfl) (by kernel_rfl) (by kernel_rfl) (by kernel_rfl)) ?_
  intro W base args ds gs before hval0 hW _ _
  have hval : ∀ (j : Nat) t v, Try.f14.params[j]? = some t → args[j]? = some v → Value.okWide Try.prog W .any base t v := hval0
  have hW' := hW
  obtain ⟨p, q, hA0, hV, rfl, _, _⟩ := hW
  have hA : DataW.TrodAll enc Try.prog W 0 (fun _ => true) true Try.f14.params.toList args.toList ds p := hA0
  rw [Try.params14] at hA hval
  obtain ⟨v0, vs0, d0, ds0, p0, q0, e0, rfl, rfl, h0, r0⟩ := trodAll_cons hA
  obtain ⟨v1, vs1, d1, ds1, p1, q1, rfl, rfl, rfl, h1, r1⟩ := trodAll_cons r0
  obtain ⟨v2, vs2, d2, ds2, p2, q2, rfl, rfl, rfl, h2, r2⟩ := trodAll_cons r1
  obtain ⟨rfl, rfl, rfl⟩ := trodAll_nil r2
  obtain ⟨rfl, rfl⟩ := trodVars_none hV
  have ea : args = #[v0, v1, v2] := by rw [← Array.toList_inj, e0]
  subst ea
  obtain ⟨x0, y0, rfl⟩ := open_ratio (hval 0 42 _ rfl rfl) h0
  obtain ⟨x1, y1, rfl⟩ := open_ratio (hval 1 42 _ rfl rfl) h1
  obtain ⟨x2, y2, rfl⟩ := open_ratio (hval 2 42 _ rfl rfl) h2
  refine (order_law x0 y0 x1 y1 x2 y2 W ).mono fun e' W' ⟨he, hb⟩ => ?_
  subst he
  exact ⟨_, rfl, law_post Try.laidOut (by decide) rfl Try.underlying4 rfl rfl rfl rfl hW' hb⟩

theorem order_holds : Rows.GearsOrderSaid :=
  OpenClaim.holds_of_wide 14 Try.f14 rfl rfl rfl rfl rfl rfl rfl ⟨rfl, rfl, rfl, rfl, rfl⟩ rfl rfl rfl rfl rfl (by kernel_rfl) Try.func14 (by kernel_rfl)
    (of_decide_eq_true (by kernel_rfl)) (by unfold Func.isWrapper; first | (rw [if_pos (by decide +kernel)]; kernel_rfl) | (rw [if_neg (by decide +kernel)]; exact ⟨rfl, rfl⟩))
    (fun os started H enc _ => order_lifted os started H enc)

end Go.Proofs.Ytheifigkclegdaa
