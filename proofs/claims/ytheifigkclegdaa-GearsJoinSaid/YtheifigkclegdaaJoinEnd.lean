/-
  What is proved: for every input the law GearsJoin returns true, and each argument reads afterwards as it read before: two trains in a row have the product of the ratios, and a train turned round the inverse one.
  Conditions: those that the given statement Rows.GearsJoinSaid makes itself, and no other.
-/
import Derived.Test.YtheifigkclegdaaLawJ
import Derived.Test.YtheifigkclegdaaArgs2
import Derived.Test.YtheifigkclegdaaRowKit
namespace Go.Proofs.Ytheifigkclegdaa
open Go.ChangeShapes Go.WideShapes Go.ChangeAt Go.RowKit Go.Joins

set_option maxRecDepth 100000 in
theorem join_lifted (os : Os) (started : os.Started) (H : Type) (enc : TypeId × Value → H) :
    ReturnsInHanded {} Try.checked os 9 .any (Rows.gearsJoinSpec.pre6 enc Try.prog Try.f9 Rows.gearsJoinRow.domain false) (Rows.gearsJoinSpec.post enc Try.prog Try.f9 false true false false) := by
  refine returnsInHanded_of_change (C := Try.checked) Try.own started (by kernel_rfl) Try.func9
    (ChangeSpec.witness6 (enc := enc) (C := Try.checked) false ⟨#[], #[.agg #[.slice none 0 0], .agg #[.slice none 0 0]], []⟩ 8 (by kernel_rfl) (by kernel_rfl) (by kernel_rfl) (by kernel_rfl)) ?_
  intro W base args ds gs before hval0 hW _ _
  have hval : ∀ (j : Nat) t v, Try.f9.params[j]? = some t → args[j]? = some v → Value.okWide Try.prog W .any base t v := hval0
  have hW' := hW
  obtain ⟨p, q, hA0, hV, rfl, _, _⟩ := hW
  have hA : DataW.TrodAll enc Try.prog W 0 (fun _ => true) true Try.f9.params.toList args.toList ds p := hA0
  rw [Try.params9] at hA hval
  obtain ⟨v0, vs0, d0, ds0, p0, q0, e0, rfl, rfl, h0, r0⟩ := trodAll_cons hA
  obtain ⟨v1, vs1, d1, ds1, p1, q1, rfl, rfl, rfl, h1, r1⟩ := trodAll_cons r0
  obtain ⟨rfl, rfl, rfl⟩ := trodAll_nil r1
  obtain ⟨rfl, rfl⟩ := trodVars_none hV
  have ea : args = #[v0, v1] := by rw [← Array.toList_inj, e0]
  subst ea
  obtain ⟨A0, c0, L0, rfl, hL0, hc0, hm0⟩ := open_train (hval 0 24 _ rfl rfl) h0
  obtain ⟨A1, c1, L1, rfl, hL1, hc1, hm1⟩ := open_train (hval 1 24 _ rfl rfl) h1
  refine (join_law A0 c0 L0 A1 c1 L1 W hL0 hc0 hm0 hL1 hc1 hm1).mono fun e' W' ⟨he, hb⟩ => ?_
  subst he
  exact ⟨_, rfl, law_post Try.laidOut (by decide) rfl Try.underlying4 rfl rfl rfl rfl hW' hb⟩

theorem join_holds : Rows.GearsJoinSaid :=
  OpenClaim.holds_of_wide 9 Try.f9 rfl rfl rfl rfl rfl rfl rfl ⟨rfl, rfl, rfl, rfl, rfl⟩ rfl rfl rfl rfl rfl (by kernel_rfl) Try.func9 (by kernel_rfl)
    (of_decide_eq_true (by kernel_rfl)) (by unfold Func.isWrapper; first | (rw [if_pos (by decide +kernel)]; kernel_rfl) | (rw [if_neg (by decide +kernel)]; exact ⟨rfl, rfl⟩))
    (fun os started H enc _ => join_lifted os started H enc)

end Go.Proofs.Ytheifigkclegdaa
