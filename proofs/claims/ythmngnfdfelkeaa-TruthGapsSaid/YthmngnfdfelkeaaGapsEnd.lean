/-
  What is proved: for every input the law TruthGaps returns true, and each argument reads afterwards as it read before: gaps, the closest of them, cells that rub and the least lift are those of the reference.
  Conditions: those that the given statement Rows.TruthGapsSaid makes itself, and no other.
-/
import Derived.Test.YthmngnfdfelkeaaLawG
import Derived.Test.YthmngnfdfelkeaaArgs
import Derived.Test.YthmngnfdfelkeaaPost
import Derived.Test.YthmngnfdfelkeaaRowKit
namespace Go.Proofs.Ythmngnfdfelkeaa
open Go.ChangeShapes Go.WideShapes Go.ChangeAt Go.RowKit Go.Joins

set_option maxRecDepth 100000 in
theorem gaps_lifted (os : Os) (started : os.Started) (H : Type) (enc : TypeId × Value → H) :
    ReturnsInHanded {} Try.checked os 9 .any (Rows.truthGapsSpec.pre6 enc Try.prog Try.f9 Rows.truthGapsRow.domain false) (Rows.truthGapsSpec.post enc Try.prog Try.f9 false true false false) := by
  refine returnsInHanded_of_change (C := Try.checked) Try.own started (by kernel_rfl) Try.func9
    (ChangeSpec.witness6 (enc := enc) (C := Try.checked) false ⟨#[], #[.agg #[.int .i64 0, .int .i64 0, .int .i64 0, .slice none 0 0], .agg #[.slice none 0 0, .slice none 0 0, .int .i64 0, .int .i64 0, .int .i64 0]], []⟩ 8 (by kernel_rfl) (by kernel_rfl) (by kernel_rfl) (by kernel_rfl)) ?_
  intro W base args ds gs before hval0 hW _ _
  have hval : ∀ (j : Nat) t v, Try.f9.params[j]? = some t → args[j]? = some v → Value.okWide Try.prog W .any base t v := hval0
  have hW' := hW
  obtain ⟨p, q, hA0, hV, rfl, _, _⟩ := hW
  have hA : DataW.TrodAll enc Try.prog W 0 (fun _ => true) true Try.f9.params.toList args.toList ds p := hA0
  rw [Try.params9] at hA hval
  obtain ⟨v0, vs0, d0, ds0, p0, q0, e0, rfl, rfl, h0, r0⟩ := trodAll_cons hA
  obtain ⟨v1, vs1, d1, ds1, p1, q1, rfl, rfl, rfl, h1, r1⟩ := trodAll_cons r0
  obtain ⟨rfl, rfl, rfl⟩ := trodAll_nil r1
  obtain ⟨rfl, rfl⟩ := trodVars_none hV
  have ea : args = #[v0, v1] := by rw [← Array.toList_inj, e0]
  subst ea
  obtain ⟨f0, A0, c0, rfl, hf0, hn0⟩ := arg_face h0 (hval 0 24 _ rfl rfl)
  obtain ⟨A1, B1, c1, d1, bed1, run1, lift1, turn1, least1, rfl, hst1⟩ := arg_stand h1 (hval 1 62 _ rfl rfl)
  refine (gaps_law ⟨f0, bed1, run1⟩ ⟨A0, c0, A1, c1, B1, d1⟩ lift1 turn1 least1 W ⟨hf0, hst1.1, hst1.2.1, hn0, hst1.2.2.1, hst1.2.2.2.1⟩).mono fun e' W' ⟨he, hb⟩ => ?_
  subst he
  exact ⟨_, rfl, law_post Try.laidOut (by decide) rfl Try.underlying4 rfl rfl rfl rfl hW' hb⟩

theorem gaps_holds : Rows.TruthGapsSaid :=
  OpenClaim.holds_of_wide 9 Try.f9 rfl rfl rfl rfl rfl rfl rfl ⟨rfl, rfl, rfl, rfl, rfl⟩ rfl rfl rfl rfl rfl (by kernel_rfl) Try.func9 (by kernel_rfl)
    (of_decide_eq_true (by kernel_rfl)) (by unfold Func.isWrapper; first | (rw [if_pos (by decide +kernel)]; kernel_rfl) | (rw [if_neg (by decide +kernel)]; exact ⟨rfl, rfl⟩))
    (fun os started H enc _ => gaps_lifted os started H enc)

end Go.Proofs.Ythmngnfdfelkeaa
