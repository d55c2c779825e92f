/-
  What is proved: for every input the law GearsMeets returns true, and each argument reads afterwards as it read before: two teeth meet just where their numbers leave one remainder by the greatest common divisor, in the number of steps and the number of pairs that are told.
  Conditions: those that the given statement Rows.GearsMeetsSaid makes itself, and no other.
-/
import Derived.Test.YtheifigkclegdaaLawE
import Derived.Test.YtheifigkclegdaaArgs2
import Derived.Test.YtheifigkclegdaaRowKit
namespace Go.Proofs.Ytheifigkclegdaa
open Go.ChangeShapes Go.WideShapes Go.ChangeAt Go.RowKit Go.Joins

set_option maxRecDepth 100000 in
theorem meets_lifted (os : Os) (started : os.Started) (H : Type) (enc : TypeId × Value → H) :
    ReturnsInHanded {} Try.checked os 7 .any (Rows.gearsMeetsSpec.pre6 enc Try.prog Try.f7 Rows.gearsMeetsRow.domain false) (Rows.gearsMeetsSpec.post enc Try.prog Try.f7 false true false false) := by
  refine returnsInHanded_of_change (C := Try.checked) Try.own started (by kernel_rfl) Try.func7
    (ChangeSpec.witness6 (enc := enc) (C := Try.checked) false ⟨#[], #[.agg #[.int .i64 0, .int .i64 0, .int .i64 0]], []⟩ 8 (by kernel_rfl) (by kernel_rfl) (by kernel_rfl) (by kernel_rfl)) ?_
  intro W base args ds gs before hval0 hW _ _
  have hval : ∀ (j : Nat) t v, Try.f7.params[j]? = some t → args[j]? = some v → Value.okWide Try.prog W .any base t v := hval0
  have hW' := hW
  obtain ⟨p, q, hA0, hV, rfl, _, _⟩ := hW
  have hA : DataW.TrodAll enc Try.prog W 0 (fun _ => true) true Try.f7.params.toList args.toList ds p := hA0
  rw [Try.params7] at hA hval
  obtain ⟨v0, vs0, d0, ds0, p0, q0, e0, rfl, rfl, h0, r0⟩ := trodAll_cons hA
  obtain ⟨rfl, rfl, rfl⟩ := trodAll_nil r0
  obtain ⟨rfl, rfl⟩ := trodVars_none hV
  have ea : args = #[v0] := by rw [← Array.toList_inj, e0]
  subst ea
  obtain ⟨x0, y0, z0, rfl⟩ := open_mesh (hval 0 36 _ rfl rfl) h0
  refine (meets_law x0 y0 z0 W ).mono fun e' W' ⟨he, hb⟩ => ?_
  subst he
  exact ⟨_, rfl, law_post Try.laidOut (by decide) rfl Try.underlying4 rfl rfl rfl rfl hW' hb⟩

theorem meets_holds : Rows.GearsMeetsSaid :=
  OpenClaim.holds_of_wide 7 Try.f7 rfl rfl rfl rfl rfl rfl rfl ⟨rfl, rfl, rfl, rfl, rfl⟩ rfl rfl rfl rfl rfl (by kernel_rfl) Try.func7 (by kernel_rfl)
    (of_decide_eq_true (by kernel_rfl)) (by unfold Func.isWrapper; first | (rw [if_pos (by decide +kernel)]; kernel_rfl) | (rw [if_neg (by decide +kernel)]; exact ⟨rfl, rfl⟩))
    (fun os started H enc _ => meets_lifted os started H enc)

end Go.Proofs.Ytheifigkclegdaa
