/-
  What is proved: for every input the law TopHarps returns true, and each argument reads afterwards as it read before: what is alike in each harp wears alike.
  Conditions: those that the given statement Rows.TopHarpsSaid makes itself, and no other.
-/
import Derived.Test.YtkikjmkpndmdcaaLawH
import Derived.Test.YtkikjmkpndmdcaaArgs
import Derived.Test.YtkikjmkpndmdcaaPost
import Derived.Test.YtkikjmkpndmdcaaRowKit
namespace Go.Proofs.Ytkikjmkpndmdcaa
open Go.ChangeShapes Go.WideShapes Go.ChangeAt Go.RowKit Go.Joins

set_option maxRecDepth 100000 in
theorem harps_lifted (os : Os) (started : os.Started) (H : Type) (enc : TypeId × Value → H) :
    ReturnsInHanded {} Try.checked os 3 .any (Rows.topHarpsSpec.pre6 enc Try.prog Try.f3 Rows.topHarpsRow.domain false) (Rows.topHarpsSpec.post enc Try.prog Try.f3 false true false false) := by
  refine returnsInHanded_of_change (C := Try.checked) Try.own started (by kernel_rfl) Try.func3
    (ChangeSpec.witness6 (enc := enc) (C := Try.checked) false ⟨#[], #[.agg #[.int .i64 0, .int .i64 0, .int .i64 0, .int .i64 0, .slice none 0 0], .agg #[.int .i64 0, .int .i64 0, .int .i64 0, .int .i64 0, .slice none 0 0], .slice none 0 0], []⟩ 8 (by kernel_rfl) (by kernel_rfl) (by kernel_rfl) (by kernel_rfl)) ?_
  intro W base args ds gs before hval0 hW _ _
  have hval : ∀ (j : Nat) t v, Try.f3.params[j]? = some t → args[j]? = some v → Value.okWide Try.prog W .any base t v := hval0
  have hW' := hW
  obtain ⟨p, q, hA0, hV, rfl, _, _⟩ := hW
  have hA : DataW.TrodAll enc Try.prog W 0 (fun _ => true) true Try.f3.params.toList args.toList ds p := hA0
  rw [Try.params3] at hA hval
  obtain ⟨v0, vs0, d0, ds0, p0, q0, e0, rfl, rfl, h0, r0⟩ := trodAll_cons hA
  obtain ⟨v1, vs1, d1, ds1, p1, q1, rfl, rfl, rfl, h1, r1⟩ := trodAll_cons r0
  obtain ⟨v2, vs2, d2, ds2, p2, q2, rfl, rfl, rfl, h2, r2⟩ := trodAll_cons r1
  obtain ⟨rfl, rfl, rfl⟩ := trodAll_nil r2
  obtain ⟨rfl, rfl⟩ := trodVars_none hV
  have ea : args = #[v0, v1, v2] := by rw [← Array.toList_inj, e0]
  subst ea
  obtain ⟨bed, A0, c0, rfl, hL0⟩ := arg_pat h0 (hval 0 24 _ rfl rfl)
  obtain ⟨run, A1, c1, rfl, hL1⟩ := arg_pat h1 (hval 1 24 _ rfl rfl)
  obtain ⟨f2, z2, rfl, hL2, hr2⟩ := arg_drive h2 (hval 2 25 _ rfl rfl)
  refine (law_any bed run A0 A1 c0 c1 f2 z2 W hL0 hL1 hL2 hr2).mono fun e' W' ⟨he, hb⟩ => ?_
  subst he
  exact ⟨_, rfl, law_post Try.laidOut (by decide) rfl Try.underlying4 rfl rfl rfl rfl hW' hb⟩

theorem harps_holds : Rows.TopHarpsSaid :=
  OpenClaim.holds_of_wide 3 Try.f3 rfl rfl rfl rfl rfl rfl rfl ⟨rfl, rfl, rfl, rfl, rfl⟩ rfl rfl rfl rfl rfl (by kernel_rfl) Try.func3 (by kernel_rfl)
    (of_decide_eq_true (by kernel_rfl)) (by unfold Func.isWrapper; first | (rw [if_pos (by decide +kernel)]; kernel_rfl) | (rw [if_neg (by decide +kernel)]; exact ⟨rfl, rfl⟩))
    (fun os started H enc _ => harps_lifted os started H enc)

end Go.Proofs.Ytkikjmkpndmdcaa
