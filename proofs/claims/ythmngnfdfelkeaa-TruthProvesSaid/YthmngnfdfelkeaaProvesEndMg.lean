/-
  What is proved: for every input the law TruthProves returns true, and each argument reads afterwards as it read before: the tree that is returned is accepted for its number, and no lead of a lesser sum balances where any tree is accepted for a number.
  Conditions: those that the given statement Rows.TruthProvesSaid makes itself, and no other.
-/
import Derived.Test.YthmngnfdfelkeaaLawPMg
import Derived.Test.YthmngnfdfelkeaaArgsMg
import Derived.Test.YthmngnfdfelkeaaMg3
import Derived.Test.YthmngnfdfelkeaaMg20
namespace Go.Proofs.Ythmngnfdfelkeaa
open Go.ChangeShapes Go.WideShapes Go.ChangeAt Go.RowKit Go.Joins

set_option maxRecDepth 100000 in
theorem proves_lifted (os : Os) (started : os.Started) (H : Type) (enc : TypeId × Value → H) :
    ReturnsInHanded {} Try.checked os 14 .any (Rows.truthProvesSpec.pre6 enc Try.prog Try.f14 Rows.truthProvesRow.domain false) (Rows.truthProvesSpec.post enc Try.prog Try.f14 false true false false) := by
  refine returnsInHanded_of_change (C := Try.checked) Try.own started (by kernel_rfl) Try.func14
    (ChangeSpec.witness6 (enc := enc) (C := Try.checked) false ⟨#[], #[.agg #[.int .i64 0, .int .i64 0, .int .i64 0, .slice none 0 0, .slice none 0 0, .slice none 0 0, .slice none 0 0, .int .i64 0], .agg #[.int .i64 0, .slice none 0 0, .int .i64 0, .int .i64 0, .int .i64 0, .int .i64 0, .int .i64 0, .int .i64 0, .int .i64 0, .int .i64 0, .slice none 0 0]], []⟩ 8 (by kernel_rfl) (by kernel_rfl) (by kernel_rfl) (by kernel_rfl)) ?_
  intro W base args ds gs before hval0 hW _ _
  have hval : ∀ (j : Nat) t v, Try.f14.params[j]? = some t → args[j]? = some v → Value.okWide Try.prog W .any base t v := hval0
  have hW' := hW
  obtain ⟨p, q, hA0, hV, rfl, _, _⟩ := hW
  have hA : DataW.TrodAll enc Try.prog W 0 (fun _ => true) true Try.f14.params.toList args.toList ds p := hA0
  rw [Try.params14] at hA hval
  obtain ⟨v0, vs0, d0, ds0, p0, q0, e0, rfl, rfl, h0, r0⟩ := trodAll_cons hA
  obtain ⟨v1, vs1, d1, ds1, p1, q1, rfl, rfl, rfl, h1, r1⟩ := trodAll_cons r0
  obtain ⟨rfl, rfl, rfl⟩ := trodAll_nil r1
  obtain ⟨rfl, rfl⟩ := trodVars_none hV
  have ea : args = #[v0, v1] := by rw [← Array.toList_inj, e0]
  subst ea
  obtain ⟨s0, z0, rfl, hs0⟩ := arg_stone h0 (hval 0 28 _ rfl rfl)
  obtain ⟨a1, A1, c1, L1, way1, sum1, t1, rfl, hL1, hn1, ht1, hu1⟩ := arg_askT W.heap.size (Nat.le_refl _) h1 (hval 1 51 _ rfl rfl)
  refine (proves_law s0 z0 a1 A1 c1 L1 way1 sum1 t1 W.heap.size W hs0 hL1 hn1 ht1).mono fun e' W' ⟨he, hb⟩ => ?_
  subst he
  exact ⟨_, rfl, law_post Try.laidOut (by decide) rfl Try.underlying4 rfl rfl rfl rfl hW' hb⟩

theorem proves_holds : Rows.TruthProvesSaid :=
  OpenClaim.holds_of_wide 14 Try.f14 rfl rfl rfl rfl rfl rfl rfl ⟨rfl, rfl, rfl, rfl, rfl⟩ rfl rfl rfl rfl rfl (by kernel_rfl) Try.func14 (by kernel_rfl)
    (of_decide_eq_true (by kernel_rfl)) (by unfold Func.isWrapper; first | (rw [if_pos (by decide +kernel)]; kernel_rfl) | (rw [if_neg (by decide +kernel)]; exact ⟨rfl, rfl⟩))
    (fun os started H enc _ => proves_lifted os started H enc)

end Go.Proofs.Ythmngnfdfelkeaa
