/-
  What is proved: for every input the law GearsField returns true, and each argument reads afterwards as it read before: products and sums of ratios commute, associate and distribute.
  Conditions: those that the given statement Rows.GearsFieldSaid makes itself, and no other.
-/
import Derived.Test.YtheifigkclegdaaLawF
import Derived.Test.YtheifigkclegdaaRatiosEnd
namespace Go.Proofs.Ytheifigkclegdaa
open Go.ChangeShapes Go.WideShapes Go.ChangeAt Go.RowKit Go.Joins

set_option maxRecDepth 100000 in
theorem field_lifted (os : Os) (started : os.Started) (H : Type) (enc : TypeId × Value → H) :
    ReturnsInHanded {} Try.checked os 8 .any (Rows.gearsFieldSpec.pre6 enc Try.prog Try.f8 Rows.gearsFieldRow.domain false) (Rows.gearsFieldSpec.post enc Try.prog Try.f8 false true false false) := by
  refine returnsInHanded_of_change (C := Try.checked) Try.own started (by kernel_rfl) Try.func8
    (ChangeSpec.witness6 (enc := enc) (C := Try.checked) false ⟨#[], #[.agg #[.int .i64 0, .int .i64 0], .agg #[.int .i64 0, .int .i64 0], .agg #[.int .i64 0, .int .i64 0]], []⟩ 8 (by kernel_rfl) (by kernel_rfl) (by kernel_rfl) (by kernel_rfl)) ?_
  intro W base args ds gs before hval0 hW _ _
  have hval : ∀ (j : Nat) t v, Try.f8.params[j]? = some t → args[j]? = some v → Value.okWide Try.prog W .any base t v := hval0
  have hW' := hW
  obtain ⟨p, q, hA0, hV, rfl, _, _⟩ := hW
  have hA : DataW.TrodAll enc Try.prog W 0 (fun _ => true) true Try.f8.params.toList args.toList ds p := hA0
  rw [Try.params8] at hA hval
  obtain ⟨v0, vs0, d0, ds0, p0, q0, e0, rfl, rfl, h0, r0⟩ := trodAll_cons hA
  obtain ⟨v1, vs1, d1, ds1, p1, q1, rfl, rfl, rfl, h1, r1⟩ := trodAll_cons r0
  obtain ⟨v2, vs2, d2, ds2, p2, q2, rfl, rfl, rfl, h2, r2⟩ := trodAll_cons r1
  obtain ⟨rfl, rfl, rfl⟩ := trodAll_nil r2
  obtain ⟨rfl, rfl⟩ := trodVars_none hV
  have ea : args = #[v0, v1, v2] := by rw [← Array.toList_inj, e0]
  subst ea
  obtain ⟨c0, c1, y0, y1, m, rfl, rfl, rfl, hy0, hy1⟩ := open_agg2 Try.underlying42 (by kernel_rfl) Try.cells42 (hval 0 42 v0 rfl rfl) h0
  obtain ⟨a, ea, rfl, wa⟩ := DataW.trod_int Try.underlying3 hy0
  obtain ⟨b, eb, rfl, wb⟩ := DataW.trod_int Try.underlying3 hy1
  obtain ⟨c2, c3, y2, y3, m2, rfl, rfl, rfl, hy2, hy3⟩ := open_agg2 Try.underlying42 (by kernel_rfl) Try.cells42 (hval 1 42 v1 rfl rfl) h1
  obtain ⟨c, ec, rfl, wc⟩ := DataW.trod_int Try.underlying3 hy2
  obtain ⟨d, ed, rfl, wd⟩ := DataW.trod_int Try.underlying3 hy3
  obtain ⟨c4, c5, y4, y5, m4, rfl, rfl, rfl, hy4, hy5⟩ := open_agg2 Try.underlying42 (by kernel_rfl) Try.cells42 (hval 2 42 v2 rfl rfl) h2
  obtain ⟨e, ee, rfl, we⟩ := DataW.trod_int Try.underlying3 hy4
  obtain ⟨f, ef, rfl, wf⟩ := DataW.trod_int Try.underlying3 hy5
  simp at ea eb ec ed ee ef
  subst ea eb ec ed ee ef
  refine (field_law a b c d e f W).mono fun e' W' ⟨he, hb⟩ => ?_
  subst he
  exact ⟨_, rfl, law_post Try.laidOut (by decide) rfl Try.underlying4 rfl rfl rfl rfl hW' hb⟩

theorem field_holds : Rows.GearsFieldSaid :=
  OpenClaim.holds_of_wide 8 Try.f8 rfl rfl rfl rfl rfl rfl rfl ⟨rfl, rfl, rfl, rfl, rfl⟩ rfl rfl rfl rfl rfl (by kernel_rfl) Try.func8 (by kernel_rfl)
    (of_decide_eq_true (by kernel_rfl)) (by unfold Func.isWrapper; first | (rw [if_pos (by decide +kernel)]; kernel_rfl) | (rw [if_neg (by decide +kernel)]; exact ⟨rfl, rfl⟩))
    (fun os started H enc _ => field_lifted os started H enc)

end Go.Proofs.Ytheifigkclegdaa
